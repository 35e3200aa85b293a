/- The reference's Decode: a leaf's way, and the ways that refuse. -/
import Derived.Test.YteiepenanffhcaaDoorRDec
import Derived.Test.YteiepenanffhcaaDoorVal1
import Derived.Test.YteiepenanffhcaaDoorHeld1
namespace Go.Proofs.YteiepenanffhcaaDoor
open Go Go.RowKit
set_option linter.unusedVariables false

/-- A leaf as Decode tells it. -/
def lfN (k : D32) (ao : Option Addr) (m c : Nat) : NodeV := ⟨1, 0, 0, 0, 0, zero32, zero32, k, ao, m, c⟩

set_option maxRecDepth 100000 in
set_option maxHeartbeats 8000000 in
theorem rdec_leaf (b o n c : Nat) (l : List UInt8) (w : World) (h0 : Row w (some ⟨b, o, none⟩) n l) (h1 : 32 ≤ n) (h2 : n ≤ 160) :
    Calls Tryd.prog 21 #[.int .i64 1, .slice (some ⟨b, o, none⟩) n c] w fun e w' =>
      (∃ ao' c', e = .returned (.tuple #[.agg (nodeC (lfN (keyOf l) ao' (n - 32) c')).toArray, .int .i64 0]) ∧ Own w' w.heap.size 5 (.slice ao' (n - 32) c') (l.drop 32)) ∧ Below w.heap.size w w' := by
  have hi30 : ∀ x : NodeV, Box ((Tryd.prog.info? 30).map (·.size) = some (nodeC x).toArray.size) := nodeSize
  have hss : ∀ x y : NodeV, Box ((nodeC x).toArray.size = (nodeC y).toArray.size) := nodeSize2
  have hal : ∀ x : NodeV, Box ((nodeC x).toArray.all (·.oneCell') = true) := fun x => ⟨nodeC_all x⟩
  obtain ⟨zn, hzn⟩ : ∃ zn, (nodeC noNode).toArray = zn := ⟨_, rfl⟩
  have hz30 : ∀ W : World, (zeroValue 30).run Tryd.prog W = .ok (.agg zn) W := fun W => by rw [← hzn]; kernel_rfl
  have hb1 : Box (Tryd.prog.built 30 [(0, .int .i64 1)] = some (nodeC (lfN zero32 none 0 0)).toArray) := ⟨by kernel_rfl⟩
  have hzs : ∀ x : NodeV, Box (zn.size = (nodeC x).toArray.size) := fun x => ⟨by rw [← hzn]; exact (hss _ _).out⟩
  have hi28 : Box ((Tryd.prog.info? 28).map (·.size) = some 1) := ⟨by kernel_rfl⟩
  have hi5 : Box ((Tryd.prog.info? 5).map (·.size) = some 1) := ⟨by kernel_rfl⟩
  have hR := Box.mk h0
  have hl := Box.mk h0.1
  have hbl := Box.mk (h0.lt (by omega))
  clear h0 hzn
  go_enter Tryd.func21, Tryd.ntmps21
  go_upto_region 1 with fail
  refine wp_anyWorld (fun W => Box (W.heap[w.heap.size]? = some (.cells zn 30 (0, 0))) ∧ Box (Below w.heap.size w W) ∧ Box (W.heap.size = w.heap.size + 1)) ⟨⟨heap_new rfl⟩, ⟨Below.refl_alloc w _⟩, ⟨by simp⟩⟩ ?_
  rintro W ⟨A0, B0, s0⟩
  obtain ⟨M, hM⟩ : ∃ M, W.heap.size = M := ⟨_, rfl⟩
  have HM := Box.mk (show M = w.heap.size + 1 by rw [← hM]; exact s0.out)
  have HM2 := Box.mk hM
  clear hM
  go_wp2_with (first
    | ((with_reducible refine arm_built 30 [(0, .tmp 11)] ?_ rfl [(0, .int .i64 1)] ?_ (nodeC (lfN zero32 none 0 0)).toArray hb1.out ?_); rfl; rfl)
    | ((with_reducible refine arm_store_row 30 (.tmp 6) (.tmp 12) ?_ rfl W.heap.size zn (nodeC (lfN zero32 none 0 0)).toArray 30 ?_ ?_ ?_ (hzs _).out (hi30 _).out (hal _).out ?_); rfl; rfl; rfl; exact heap_new rfl))
  intro w2 g2 G2
  have B2 := Box.mk ((B0.out.alloc B0.out.size (.cells zn 30)).grown G2 (B0.out.alloc B0.out.size _).size (fun k hk => by cases hk; have := s0.out; omega))
  have x2 := Box.mk (show w2.heap[M]? = some (.cells (nodeC (lfN (keyN l 0) none 0 0)).toArray 30 (0, 0)) by rw [keyN_zero, ← HM2.out]; exact g2.out)
  have q2 := Box.mk ((G2.block w.heap.size (by have := s0.out; simp; omega) (by have := s0.out; simp; omega)).trans (heap_old (o := .cells zn 30) A0.out))
  rw [HM2.out]
  clear g2 G2 A0 B0 s0 HM2
  have hnl : ¬ ((n : Int) < 32) := by omega
  have hng : ¬ ((160 : Int) < (n : Int)) := by omega
  go_wp2
  clear hnl hng
  go_loopw [7] (fun i wr => ∃ k : Nat, k ≤ 32 ∧ i = .int .i64 k ∧ Box (wr.heap[M]? = some (.cells (nodeC (lfN (keyN l k) none 0 0)).toArray 30 (0, 0))) ∧ Box (wr.heap[w.heap.size]? = some (.cells zn 30 (0, 0))) ∧ Box (Below w.heap.size w wr)) (fun i _ => 32 - (intOf i).toNat)
  case atStart => exact ⟨0, Nat.zero_le _, rfl, x2, q2, B2⟩
  clear x2 q2 B2
  case round =>
    obtain ⟨k, hk, rfl, xr, qr, br⟩ := hrel
    by_cases hlt : k < 32
    · have hkl : k < l.length := by rw [hl.out]; omega
      have e0 : wr.cell? ⟨b, o + k, none⟩ = some (.int .u8 (l[k]'hkl).toNat) := (hR.out.old br.out).cell k hkl
      have hsu := Box.mk (keyN_succ l k hlt hkl)
      obtain ⟨u, hu⟩ : ∃ u, l[k]'hkl = u := ⟨_, rfl⟩
      rw [hu] at e0 hsu
      have hset := Box.mk (show (nodeC (lfN (keyN l k) none 0 0)).set (69 + k) (bv u) = nodeC (lfN (keyN l (k + 1)) none 0 0) by rw [nodeC_setkey _ k hlt u, ← hsu.out]; rfl)
      have hlen := Box.mk (show 69 + k < (nodeC (lfN (keyN l k) none 0 0)).length by rw [length_nodeC]; omega)
      have k0 : (0 : Int) ≤ (k : Int) := by omega
      have k1 : (k : Int) < 32 := by omega
      have k2 : (k : Int) < (n : Int) := by omega
      clear hu hkl
      go_wp2_with ((with_reducible refine arm_store_cell 5 (.tmp 34) (.tmp 32) ?_ ?_ M (69 + k) ?_ u ?_ hi5.out (nodeC (lfN (keyN l k) none 0 0)) 30 xr.out hlen.out ?_); rfl; rfl; rfl; rfl)
      intro w3 g3 G3
      have x3 := Box.mk (show w3.heap[M]? = some (.cells (nodeC (lfN (keyN l (k + 1)) none 0 0)).toArray 30 (0, 0)) by rw [← hset.out]; exact g3.out)
      have q3 := Box.mk ((G3.block _ (heap_lt qr.out) (by have := HM.out; simp; omega)).trans qr.out)
      have b3 := Box.mk (br.out.grown G3 br.out.size (fun k hk => by cases hk; have := HM.out; omega))
      clear g3 G3 xr qr br e0
      go_wp2
      go_roundw
      case rel => exact ⟨k + 1, by omega, by go_num, x3, q3, b3⟩
      case measure => simp [intOf]; omega
    · obtain rfl : k = 32 := by omega
      rw [show ((32 : Nat) : Int) = 32 from rfl]
      have hkf := keyN_full l (by rw [hl.out]; exact h1)
      rw [hkf] at xr
      have hMl := Box.mk (heap_lt xr.out)
      clear hkf
      obtain ⟨kf, hkf2⟩ : ∃ kf, keyOf l = kf := ⟨_, rfl⟩
      rw [hkf2] at xr
      have HKF := Box.mk hkf2
      clear hkf2
      go_wp2
      obtain ⟨wz, hwz⟩ : ∃ y, y = wr := ⟨_, rfl⟩
      subst hwz
      go_loopw [8] (fun i wr => ∃ (k : Nat) (ao : Option Addr) (c' : Nat), 32 ≤ k ∧ k ≤ n ∧ i = .int .i64 k ∧ Box (wr.heap[M]? = some (.cells (nodeC (lfN kf ao (k - 32) c')).toArray 30 (0, 0))) ∧ Box (wr.heap[w.heap.size]? = some (.cells zn 30 (0, 0))) ∧ Box (Below w.heap.size w wr) ∧
        Box (Own wr (M + 1) 5 (.slice ao (k - 32) c') ((l.drop 32).take (k - 32))) ∧ Box (M < wr.heap.size)) (fun i _ => n - (intOf i).toNat)
      case atStart => exact ⟨32, none, 0, Nat.le_refl _, h1, rfl, xr, qr, br, ⟨rfl, .inl ⟨rfl, rfl⟩⟩, hMl⟩
      clear xr qr br hMl
      case round =>
        obtain ⟨k, ao, c', hk1, hk, rfl, xr, qr, br, ow, sr⟩ := hrel
        by_cases hlt : k < n
        · have hkl : k < l.length := by rw [hl.out]; omega
          have E0 := Box.mk (show w.cell? ⟨b, o + k, none⟩ = some (.int .u8 (l[k]'hkl).toNat) from hR.out.cell k hkl)
          have hsu := Box.mk (show (l.drop 32).take (k + 1 - 32) = (l.drop 32).take (k - 32) ++ [l[k]'hkl] by
            rw [show k + 1 - 32 = (k - 32) + 1 by omega, List.take_succ_eq_append_getElem (by rw [List.length_drop]; omega)]
            congr 2
            rw [List.getElem_drop]
            congr 1; omega)
          obtain ⟨u, hu⟩ : ∃ u, l[k]'hkl = u := ⟨_, rfl⟩
          rw [hu] at E0 hsu
          have hle := Box.mk (show ((l.drop 32).take (k - 32)).length = k - 32 by rw [List.length_take, List.length_drop]; have := hl.out; omega)
          have hna := Box.mk (fun (a2 : Option Addr) (m2 c2 : Nat) => show (nodeC (lfN kf ao (k - 32) c')).set 101 (.slice a2 m2 c2) = nodeC (lfN kf a2 m2 c2) from nodeC_setval _ _ _ _)
          have hl101 := Box.mk (show 101 < (nodeC (lfN kf ao (k - 32) c')).length by rw [length_nodeC]; omega)
          have hv101 := Box.mk (show (nodeC (lfN kf ao (k - 32) c')).toArray[101]? = some (.slice ao (k - 32) c') from nodeC_val _)
          generalize (l.drop 32).take (k - 32) = lk at *
          generalize nodeC (lfN kf ao (k - 32) c') = cx at *
          have k0 : (0 : Int) ≤ (k : Int) := by omega
          have k2 : (k : Int) < (n : Int) := by omega
          clear hu hkl
          go_wp2_with fail
          have H0 := br.out.drew
          refine held_begin (fun W => Below w.heap.size w W) (by kernel_rfl) H0 (fun hH0 => ?_)
          have XR := Box.mk (show wr.drew.heap[M]? = some (.cells cx.toArray 30 (0, 0)) from xr.out)
          have QR := Box.mk (show wr.drew.heap[w.heap.size]? = some (.cells zn 30 (0, 0)) from qr.out)
          have OW := Box.mk (show Own wr.drew (M + 1) 5 (.slice ao (k - 32) c') lk from own_later ow.out (Below.refl _ wr).drew)
          have SR := Box.mk (show M < wr.drew.heap.size from sr.out)
          clear xr qr ow sr br H0
          generalize wr.drew = wd at *
          refine held_take 0 (.pointer (some ⟨M, 101, none⟩)) rfl (by kernel_rfl) (by kernel_rfl) (by kernel_rfl) (held_pure (by rfl) (fun W => by go_simp)) (by assumption) ?_
          try simp only [Act.put, List.setIfInBounds_toArray, List.set_cons_zero, List.set_cons_succ]
          refine held_take 2 (.slice (some ⟨b, o, none⟩) n c) rfl (by kernel_rfl) (by kernel_rfl) (by kernel_rfl) (held_move (by rfl) (.tmp 1) rfl rfl) (by assumption) ?_
          try simp only [Act.put, List.setIfInBounds_toArray, List.set_cons_zero, List.set_cons_succ]
          refine held_take 3 (.int .i64 k) rfl (by kernel_rfl) (by kernel_rfl) (by kernel_rfl) (held_move (by rfl) (.tmp 8) rfl rfl) (by assumption) ?_
          try simp only [Act.put, List.setIfInBounds_toArray, List.set_cons_zero, List.set_cons_succ]
          refine held_take 4 (.pointer (some ⟨b, o + k, none⟩)) rfl (by kernel_rfl) (by kernel_rfl) (by kernel_rfl) (held_pure (by rfl) (fun W => by go_simp)) (by assumption) ?_
          try simp only [Act.put, List.setIfInBounds_toArray, List.set_cons_zero, List.set_cons_succ]
          refine held_take 5 (.int .u8 (u.toNat : Int)) rfl (by kernel_rfl) (by kernel_rfl) (by kernel_rfl) (held_load1 (by rfl) 5 (.tmp 45) rfl b (o + k) rfl .u8 (.int .u8 (u.toNat : Int)) (fun W hS => (hS.cell (p := ⟨b, o + k, none⟩) hbl.out).trans E0.out) Tryd.underlying5) (by assumption) ?_
          try simp only [Act.put, List.setIfInBounds_toArray, List.set_cons_zero, List.set_cons_succ]
          refine held_step2 1 6 (by kernel_rfl) rfl rfl (by rfl) (by rfl) (fun K hK => ?_) (fun K hK => ?_)
          · have c101 : wd.cell? ⟨M, 101, none⟩ = some (.slice ao (k - 32) c') := by rw [cell_of_row _ _ 101 _ _ _ XR.out]; exact hv101.out
            go_simp
            refine hK.out _ _ (hH0) (fun hH1 => ?_)
            clear hK K c101
            try simp only [Act.put, List.setIfInBounds_toArray, List.set_cons_zero, List.set_cons_succ]
            refine held_step 6 (by kernel_rfl) rfl (by rfl) (fun K hK => ?_)
            go_simp
            refine hK.out _ _ (hH0.alloc hH0.size _) (fun hH6 => ?_)
            clear hK K
            try simp only [Act.put, List.setIfInBounds_toArray, List.set_cons_zero, List.set_cons_succ]
            have XA := Box.mk (heap_old (o := .cells #[.int .u8 (u.toNat : Int)] 5) XR.out)
            have OA := Box.mk (OW.out.alloc (.cells #[.int .u8 (u.toNat : Int)] 5))
            have QA := Box.mk (heap_old (o := .cells #[.int .u8 (u.toNat : Int)] 5) QR.out)
            have R1 := Box.mk (Row.lit1 wd 5 u)
            have SA := Box.mk (show M + 1 ≤ (wd.alloc (.cells #[.int .u8 (u.toNat : Int)] 5)).heap.size by have := SR.out; simp; omega)
            refine held_step 7 (by kernel_rfl) rfl (by rfl) (fun K hK => ?_)
            refine oper_of_list rfl ?_
            refine arm_append byteTyC (.tmp 42) (.tmp 47) rfl rfl (M + 1) _ lk rfl OA.out (some ⟨wd.heap.size, 0, none⟩) 1 1 [u] rfl (by intro h; cases h) R1.out (by rw [hle.out]; omega) SA.out ?_
            intro v7 W7 own7 G7
            refine ⟨rfl, ?_⟩
            have hH7' : Below w.heap.size w W7 := hH6.grown G7 hH6.size (fun g hg => by have := (OA.out.lt g hg).1; have := HM.out; omega)
            refine hK.out _ _ hH7' (fun hH7 => ?_)
            clear hK K
            try simp only [Act.put, List.setIfInBounds_toArray, List.set_cons_zero, List.set_cons_succ]
            have X7 := Box.mk ((G7.block M (heap_lt XA.out) (fun hx => by have := (OA.out.lt M hx.symm).1; omega)).trans XA.out)
            have Q7 := Box.mk ((G7.block w.heap.size (heap_lt QA.out) (fun hx => by have := (OA.out.lt _ hx.symm).1; have := HM.out; omega)).trans QA.out)
            have S7 := Box.mk (show M < W7.heap.size by have := G7.size; have := SA.out; omega)
            obtain ⟨ao7, c7, rfl, hrow7⟩ := own_read2 own7
            have hl7 := Box.mk (show (lk ++ [u]).length = k + 1 - 32 by rw [List.length_append, hle.out]; simp; omega)
            rw [hl7.out] at own7
            rw [hl7.out]
            have O7 := Box.mk own7
            clear own7 G7 XA OA QA hrow7 hH7'
            refine held_take 8 (.pointer (some ⟨M, 101, none⟩)) rfl (by kernel_rfl) (by kernel_rfl) (by kernel_rfl) (held_pure (by rfl) (fun W => by go_simp)) (by assumption) ?_
            try simp only [Act.put, List.setIfInBounds_toArray, List.set_cons_zero, List.set_cons_succ]
            refine held_step 9 (by kernel_rfl) rfl (by rfl) (fun K hK => ?_)
            refine oper_of_list rfl ?_
            refine arm_store_slice 28 (.tmp 49) (.tmp 48) rfl rfl M 101 rfl ao7 (k + 1 - 32) c7 rfl hi28.out cx 30 X7.out hl101.out ?_
            intro W9 g9 G9
            refine ⟨rfl, ?_⟩
            have hH9' : Below w.heap.size w W9 := hH7.grown G9 hH7.size (fun g hg => by cases hg; have := HM.out; omega)
            refine hK.out _ _ hH9' (fun hH9 => ?_)
            clear hK K
            try simp only [Act.put]
            have X9 := Box.mk (show W9.heap[M]? = some (.cells (nodeC (lfN kf ao7 (k + 1 - 32) c7)).toArray 30 (0, 0)) by rw [← hna.out]; exact g9.out)
            have Q9 := Box.mk ((G9.block w.heap.size (heap_lt Q7.out) (by have := HM.out; simp; omega)).trans Q7.out)
            have O9 := Box.mk (show Own W9 (M + 1) 5 (.slice ao7 (k + 1 - 32) c7) (lk ++ [u]) from O7.out.kept G9 (by
              rcases hob : (Value.slice ao7 (k + 1 - 32) c7).ownBlock with _ | g
              · exact .inl rfl
              · refine .inr fun hx => ?_
                rw [Option.some.injEq] at hx
                have := (O7.out.lt g hob).1
                omega))
            have S9 := Box.mk (Nat.lt_of_lt_of_le S7.out G9.size)
            have B9 := Box.mk hH9
            refine held_done (by kernel_rfl) ?_ _
            clear g9 G9 hH9 hH9' X7 Q7 O7 S7 hH7 hH6 hH1 hH0
            go_wp2
            go_roundw
            case rel => exact ⟨k + 1, ao7, c7, by omega, by omega, by go_num, X9, Q9, B9, ⟨by rw [hsu.out]; exact O9.out⟩, S9⟩
            case measure => simp [intOf]; omega
          · go_simp
            refine hK.out _ _ (hH0.alloc hH0.size _) (fun hH6 => ?_)
            clear hK K
            try simp only [Act.put, List.setIfInBounds_toArray, List.set_cons_zero, List.set_cons_succ]
            have XA := Box.mk (heap_old (o := .cells #[.int .u8 (u.toNat : Int)] 5) XR.out)
            have OA := Box.mk (OW.out.alloc (.cells #[.int .u8 (u.toNat : Int)] 5))
            have QA := Box.mk (heap_old (o := .cells #[.int .u8 (u.toNat : Int)] 5) QR.out)
            have R1 := Box.mk (Row.lit1 wd 5 u)
            have SA := Box.mk (show M + 1 ≤ (wd.alloc (.cells #[.int .u8 (u.toNat : Int)] 5)).heap.size by have := SR.out; simp; omega)
            refine held_step 1 (by kernel_rfl) rfl (by rfl) (fun K hK => ?_)
            have c101 : (wd.alloc (.cells #[.int .u8 (u.toNat : Int)] 5)).cell? ⟨M, 101, none⟩ = some (.slice ao (k - 32) c') := by rw [cell_of_row _ _ 101 _ _ _ XA.out]; exact hv101.out
            go_simp
            refine hK.out _ _ (hH6) (fun hH1 => ?_)
            clear hK K c101
            try simp only [Act.put, List.setIfInBounds_toArray, List.set_cons_zero, List.set_cons_succ]
            refine held_step 7 (by kernel_rfl) rfl (by rfl) (fun K hK => ?_)
            refine oper_of_list rfl ?_
            refine arm_append byteTyC (.tmp 42) (.tmp 47) rfl rfl (M + 1) _ lk rfl OA.out (some ⟨wd.heap.size, 0, none⟩) 1 1 [u] rfl (by intro h; cases h) R1.out (by rw [hle.out]; omega) SA.out ?_
            intro v7 W7 own7 G7
            refine ⟨rfl, ?_⟩
            have hH7' : Below w.heap.size w W7 := hH6.grown G7 hH6.size (fun g hg => by have := (OA.out.lt g hg).1; have := HM.out; omega)
            refine hK.out _ _ hH7' (fun hH7 => ?_)
            clear hK K
            try simp only [Act.put, List.setIfInBounds_toArray, List.set_cons_zero, List.set_cons_succ]
            have X7 := Box.mk ((G7.block M (heap_lt XA.out) (fun hx => by have := (OA.out.lt M hx.symm).1; omega)).trans XA.out)
            have Q7 := Box.mk ((G7.block w.heap.size (heap_lt QA.out) (fun hx => by have := (OA.out.lt _ hx.symm).1; have := HM.out; omega)).trans QA.out)
            have S7 := Box.mk (show M < W7.heap.size by have := G7.size; have := SA.out; omega)
            obtain ⟨ao7, c7, rfl, hrow7⟩ := own_read2 own7
            have hl7 := Box.mk (show (lk ++ [u]).length = k + 1 - 32 by rw [List.length_append, hle.out]; simp; omega)
            rw [hl7.out] at own7
            rw [hl7.out]
            have O7 := Box.mk own7
            clear own7 G7 XA OA QA hrow7 hH7'
            refine held_take 8 (.pointer (some ⟨M, 101, none⟩)) rfl (by kernel_rfl) (by kernel_rfl) (by kernel_rfl) (held_pure (by rfl) (fun W => by go_simp)) (by assumption) ?_
            try simp only [Act.put, List.setIfInBounds_toArray, List.set_cons_zero, List.set_cons_succ]
            refine held_step 9 (by kernel_rfl) rfl (by rfl) (fun K hK => ?_)
            refine oper_of_list rfl ?_
            refine arm_store_slice 28 (.tmp 49) (.tmp 48) rfl rfl M 101 rfl ao7 (k + 1 - 32) c7 rfl hi28.out cx 30 X7.out hl101.out ?_
            intro W9 g9 G9
            refine ⟨rfl, ?_⟩
            have hH9' : Below w.heap.size w W9 := hH7.grown G9 hH7.size (fun g hg => by cases hg; have := HM.out; omega)
            refine hK.out _ _ hH9' (fun hH9 => ?_)
            clear hK K
            try simp only [Act.put]
            have X9 := Box.mk (show W9.heap[M]? = some (.cells (nodeC (lfN kf ao7 (k + 1 - 32) c7)).toArray 30 (0, 0)) by rw [← hna.out]; exact g9.out)
            have Q9 := Box.mk ((G9.block w.heap.size (heap_lt Q7.out) (by have := HM.out; simp; omega)).trans Q7.out)
            have O9 := Box.mk (show Own W9 (M + 1) 5 (.slice ao7 (k + 1 - 32) c7) (lk ++ [u]) from O7.out.kept G9 (by
              rcases hob : (Value.slice ao7 (k + 1 - 32) c7).ownBlock with _ | g
              · exact .inl rfl
              · refine .inr fun hx => ?_
                rw [Option.some.injEq] at hx
                have := (O7.out.lt g hob).1
                omega))
            have S9 := Box.mk (Nat.lt_of_lt_of_le S7.out G9.size)
            have B9 := Box.mk hH9
            refine held_done (by kernel_rfl) ?_ _
            clear g9 G9 hH9 hH9' X7 Q7 O7 S7 hH7 hH6 hH1 hH0
            go_wp2
            go_roundw
            case rel => exact ⟨k + 1, ao7, c7, by omega, by omega, by go_num, X9, Q9, B9, ⟨by rw [hsu.out]; exact O9.out⟩, S9⟩
            case measure => simp [intOf]; omega
        · obtain rfl : k = n := by omega
          have hfu := Box.mk (show (l.drop 32).take (k - 32) = l.drop 32 by rw [List.take_of_length_le (by rw [List.length_drop]; have := hl.out; omega)])
          rw [hfu.out] at ow
          have O5 := Box.mk ow.out
          have I5 := hi30 (lfN kf ao (k - 32) c')
          have A5 := hal (lfN kf ao (k - 32) c')
          have Z5 := hzs (lfN kf ao (k - 32) c')
          have hkk := Box.mk (show (nodeC (lfN (keyOf l) ao (k - 32) c')).toArray = (nodeC (lfN kf ao (k - 32) c')).toArray by rw [HKF.out])
          generalize (nodeC (lfN kf ao (k - 32) c')).toArray = cz at *
          clear ow hfu
          go_wp2_with (first
            | ((with_reducible refine arm_row 30 (.tmp 6) ?_ rfl M ?_ 30 cz (0, 0) _ xr.out Tryd.underlying30 rfl I5.out ?_); rfl; rfl)
            | ((with_reducible refine arm_store_row 30 (.tmp 4) (.tmp 50) ?_ rfl w.heap.size zn cz 30 ?_ ?_ qr.out Z5.out I5.out A5.out ?_); rfl; rfl; rfl))
          intro w8 g8 G8
          have b8 := Box.mk (br.out.grown G8 br.out.size (fun k hk => by cases hk; omega))
          have O8 := Box.mk (own_base4 (O5.out.kept G8 (by
            rcases hob : (Value.slice ao (k - 32) c').ownBlock with _ | g
            · exact .inl rfl
            · refine .inr fun hx => ?_
              rw [Option.some.injEq] at hx
              have := (O5.out.lt g hob).1
              have := HM.out
              omega)) (a := w.heap.size) (by have := HM.out; omega))
          go_wp2
          exact bodyPost_ret (v := .tuple #[.agg cz, .int .i64 0]) (results_row_tmp (p := 4) (u := 5) (ty := 30) rfl _ _ w.heap.size 30 _ (0, 0) _ rfl g8.out Tryd.underlying30 rfl I5.out _ rfl) rfl ⟨⟨ao, c', by rw [hkk.out], O8.out⟩, b8.out⟩
end Go.Proofs.YteiepenanffhcaaDoor
