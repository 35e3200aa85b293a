/- NodeFresh: the walk of the law. -/
import Derived.Test.YtocfiabbhcgegaaFreshP
namespace Go.Proofs.Ytocfiabbhcgegaa
open Go Go.RowKit
set_option linter.unusedVariables false

set_option maxRecDepth 100000 in
set_option maxHeartbeats 4000000 in
theorem fresh_walk (ao : Option Addr) (n c : Nat) (xs : List NodeV) (d : D32) (w : World) (h : Nodes w ao n xs) (hn : n ≤ 4611686018427387904) (hin : ∀ o ∈ xs, NodeIn w o) :
    Calls Try.prog 4 #[.slice ao n c, .agg (dc d)] w fun e w' => e = .returned (.bool true) ∧ Below w.heap.size w w' := by
  have hz35 : ∀ W : World, (zeroValue 46).run Try.prog W = .ok (.agg (nodeC noNode).toArray) W := fun W => by kernel_rfl
  have hiN : ∀ x : NodeV, Box ((Try.prog.info? 46).map (·.size) = some (nodeC x).toArray.size) := fun x => ⟨by
    have h : (Try.prog.info? 46).map (·.size) = some 102 := by kernel_rfl
    rw [h, List.size_toArray, length_nodeC]⟩
  have hi26 : Box ((Try.prog.info? 26).map (·.size) = some 1) := ⟨by kernel_rfl⟩
  have hiD : Hid ((Try.prog.info? 23).map (·.size) = some 32) := by unfold Hid; kernel_rfl
  have hiK : Hid ((Try.prog.info? 44).map (·.size) = some 32) := by unfold Hid; kernel_rfl
  have hb43 : Box (Try.prog.built KT [] = some #[.slice none 0 0, .slice none 0 0]) := ⟨by kernel_rfl⟩
  have hss : ∀ x y : NodeV, Box ((nodeC x).toArray.size = (nodeC y).toArray.size) := fun x y => ⟨by rw [List.size_toArray, List.size_toArray, length_nodeC, length_nodeC]⟩
  have hal : ∀ x : NodeV, Box ((nodeC x).toArray.all (·.oneCell') = true) := fun x => ⟨nodeC_all x⟩
  have HH := Box.mk h
  have HIN := Box.mk hin
  have HL := Box.mk h.1
  clear h hin
  go_enter Try.func4, Try.ntmps4
  go_upto_region 2 with ((with_reducible refine arm_built KT [] ?_ ?_ [] ?_ #[.slice none 0 0, .slice none 0 0] hb43.out ?_); rfl; rfl; rfl)
  have B1 := Box.mk (Below.refl_alloc w (.cells (dc d) 23))
  have D1 := Box.mk (show (w.alloc (.cells (dc d) 23)).heap[w.heap.size]? = some (.cells (dc d) 23 (0, 0)) from heap_new rfl)
  have hp1 := Box.mk (show (w.alloc (.cells (dc d) 23)).heap.size = w.heap.size + 1 by simp)
  obtain ⟨p, hp⟩ : ∃ p, w.heap.size + 1 = p := ⟨_, rfl⟩
  rw [hp]
  rw [hp] at hp1
  have HP := Box.mk hp
  clear hp
  generalize w.alloc (.cells (dc d) 23) = w1 at *
  have b12 := Box.mk (Below.refl_alloc w1 (.cells #[.slice none 0 0, .slice none 0 0] KT))
  have B2 := Box.mk (B1.out.trans (b12.out.mono B1.out.size))
  have D2 := Box.mk ((b12.out.block _ (heap_lt D1.out)).trans D1.out)
  have K2 := Box.mk (show KInv w (w1.alloc (.cells #[.slice none 0 0, .slice none 0 0] KT)) w.heap.size p 0 [w.heap.size] from
    KInv.new (heap_new hp1.out.symm) (by have := HP.out; omega) B2.out (by simp) (fun g hg => by (obtain rfl : g = w.heap.size := by simpa using hg); exact heap_lt D2.out) (by have := HP.out; simp; omega))
  generalize w1.alloc (.cells #[.slice none 0 0, .slice none 0 0] KT) = w2 at *
  clear B1 D1 hp1 b12 B2 hb43
  go_wp2
  go_loopw [4, 6, 7, 8, 9, 10, 11, 12, 13, 14, 15] (fun v4 i v7 v8 v9 v10 v11 v12 v13 v14 v15 wr => ∃ k : Nat, k ≤ n ∧ k ≤ 12 ∧ i = .int .i64 k ∧ Box (KInv w wr w.heap.size p (9 * k) [w.heap.size]) ∧ Box (wr.heap[w.heap.size]? = some (.cells (dc d) 23 (0, 0)))) (fun v4 i v7 v8 v9 v10 v11 v12 v13 v14 v15 _ => 12 - (intOf i).toNat)
  case atStart => exact ⟨0, Nat.zero_le _, Nat.zero_le _, rfl, K2, D2⟩
  clear K2 D2
  case round =>
    obtain ⟨k, hkn, hk12, rfl, HK, HD⟩ := hrel
    by_cases hlt : k < n
    · by_cases hlt2 : k < 12
      · obtain ⟨b, o, rfl⟩ := HH.out.at0 (by omega)
        have hkl : k < xs.length := by rw [HL.out]; exact hlt
        have hr := HH.out.range k hkl
        have hx := HIN.out _ (List.getElem_mem hkl)
        obtain ⟨x, hxe⟩ : ∃ x, xs[k]'hkl = x := ⟨_, rfl⟩
        rw [hxe] at hr hx
        have hbw : b < w.heap.size := rangeAt_lt2 hr (by rw [length_nodeC]; omega)
        obtain ⟨⟨lx, hrow⟩, hnil, hxl, q0, q1, q2, q3, q4⟩ := hx
        have R0 := Box.mk (fun W (hW : Below w.heap.size w W) => rangeAt_below hr hW hbw)
        have RX := Box.mk (fun W (hW : Below w.heap.size w W) => hrow.old hW)
        have HX := Box.mk (show lx.length = x.n ∧ (x.ao = none → x.n = 0 ∧ x.c = 0) ∧ x.n ≤ 140737488351232 from ⟨hrow.1, hnil, hxl⟩)
        have HQ := Box.mk (show inI64 x.left ∧ inI64 x.right ∧ inI64 x.lc ∧ inI64 x.rc from ⟨q1, q2, q3, q4⟩)
        have Br := Box.mk (HK.out.bel)
        have r1 := Box.mk (R0.out _ Br.out)
        clear hr hrow hnil hxl q0 q1 q2 q3 q4 hxe hkl HH HIN HL hbw
        go_upto_region 6 with (first
          | ((with_reducible refine arm_mid 46 (.tmp 30) ?_ rfl b (o + k * 102) ?_ (nodeC x) _ r1.out Try.underlying46 rfl ?_ ?_); rfl; rfl; (rw [length_nodeC]; kernel_rfl))
          | ((with_reducible refine arm_store_row 46 (.tmp 7) (.tmp 31) ?_ rfl wr.heap.size (nodeC noNode).toArray (nodeC x).toArray 46 ?_ ?_ ?_ (hss _ _).out (hiN _).out (hal _).out ?_); rfl; rfl; rfl; exact heap_new rfl))
        intro w3 g3 G3
        obtain ⟨nb, hnb⟩ : ∃ z, wr.heap.size = z := ⟨_, rfl⟩
        have B13 := Box.mk ((Below.refl_alloc wr (.cells (nodeC noNode).toArray 46)).grown G3 (by simp) (fun k hk => by cases hk; omega))
        have N3 := Box.mk (show w3.heap[wr.heap.size]? = some (.cells (nodeC x).toArray 46 (0, 0)) from g3.out)
        have K3 := Box.mk (HK.out.blk B13.out N3.out (Nat.le_refl _))
        have D3 := Box.mk ((B13.out.block _ (heap_lt HD.out)).trans HD.out)
        rw [hnb]
        rw [hnb] at N3 K3
        have b3 := Box.mk (Br.out.trans (B13.out.mono Br.out.size))
        have hnbw := Box.mk (show w.heap.size ≤ nb by have := Br.out.size; omega)
        have hnd := Box.mk (show w.heap.size < nb by have := heap_lt HD.out; omega)
        clear g3 G3 HK HD r1 hnb B13
        have c3 : w3.cell? ⟨b, o + k * 102 + 101, none⟩ = some (.slice x.ao x.n x.c) := (R0.out _ b3.out) 101 _ (by rw [← List.getElem?_toArray]; exact nodeC_val x)
        have hRm := Box.mk (roomy_any x.ao x.n x.c lx w3 (RX.out w3 b3.out) HX.out.2.2)
        go_upto_region 7 with (go_at_call 12; refine (calls_box hRm.out).mono ?_)
        rintro e w4 ⟨⟨⟨vb, rfl, hV, hvb⟩, hB4⟩⟩
        have V4 := Box.mk hV
        have N4 := Box.mk ((hB4.block _ (heap_lt N3.out)).trans N3.out)
        have D4 := Box.mk ((hB4.block _ (heap_lt D3.out)).trans D3.out)
        have K4 := Box.mk (show KInv w w4 w.heap.size p (9 * k) [vb, nb, w.heap.size] from K3.out.blk hB4 hV hvb)
        have b4 := Box.mk (b3.out.trans (hB4.mono b3.out.size))
        have HVW := Box.mk (show w.heap.size ≤ vb by have := b3.out.size; omega)
        have hnv := Box.mk (show vb ≠ nb by have := heap_lt N3.out; omega)
        clear c3 hRm hB4 hV hvb N3 D3 K3 b3
        have c4 : w4.cell? ⟨b, o + k * 102 + 101, none⟩ = some (.slice x.ao x.n x.c) := (R0.out _ b4.out) 101 _ (by rw [← List.getElem?_toArray]; exact nodeC_val x)
        have hcut : (x.n : Int) ≤ (x.n : Int) + 100 := by omega
        have hl101 := Box.mk (show 101 < (nodeC x).length by rw [length_nodeC]; omega)
        go_upto_region 8 with ((with_reducible refine arm_store_slice 26 (.tmp 46) (.tmp 45) ?_ rfl nb 101 ?_ (some ⟨vb, 0, none⟩) x.n (x.n + 100) ?_ hi26.out (nodeC x) 46 N4.out hl101.out ?_); rfl; rfl; rfl)
        intro w5 g5 G5
        have N5a := Box.mk (show w5.heap[nb]? = some (.cells (nodeC { x with ao := some ⟨vb, 0, none⟩, n := x.n, c := x.n + 100 }).toArray 46 (0, 0)) by rw [← nodeC_setval]; exact g5.out)
        have V5 := Box.mk ((G5.block vb (heap_lt V4.out) (by intro e; exact hnv.out (Option.some.inj e))).trans V4.out)
        have D5 := Box.mk ((G5.block w.heap.size (heap_lt D4.out) (by intro e; have := K4.out.lt; have := Option.some.inj e; have := hnd.out; omega)).trans D4.out)
        have K5 := Box.mk (K4.out.wrote (Grew.of G5 (F := [nb]) fun g hg => by cases hg; simp) fun g hg => by
          obtain rfl : g = nb := by simpa using hg
          exact ⟨by simp, hnbw.out⟩)
        clear g5 G5 c4 hl101 N4 V4 D4 K4 b4 hcut hnv
        have hEy := Box.mk (fun W hW => enc_out { x with ao := some ⟨vb, 0, none⟩, n := x.n, c := x.n + 100 } HQ.out.1 HQ.out.2.1 HQ.out.2.2.1 HQ.out.2.2.2 lx W hW (fun h => by cases h) HX.out.2.2)
        have hry : rightB { x with ao := some ⟨vb, 0, none⟩, n := x.n, c := x.n + 100 } = rightB x := rfl
        have hty : encTT { x with ao := some ⟨vb, 0, none⟩, n := x.n, c := x.n + 100 } lx = encTT x lx := rfl
        rw [hry, hty] at hEy
        obtain ⟨er, her⟩ : ∃ z, (if rightB x = true then (0 : Int) else 90) = z := ⟨_, rfl⟩
        rw [her] at hEy
        have HER1 := Box.mk her
        clear her
        clear hry hty
        have hiY := hiN { x with ao := some ⟨vb, 0, none⟩, n := x.n, c := x.n + 100 }
        have k0 := Box.mk (fun (W : World) (hW : W.heap[nb]? = some (.cells (nodeC { x with ao := some ⟨vb, 0, none⟩, n := x.n, c := x.n + 100 }).toArray 46 (0, 0))) => show W.cell? ⟨nb, 0, none⟩ = some (.int .i64 x.kind) by rw [cell_of_row _ _ 0 _ _ _ hW]; rfl)
        have k101 := Box.mk (fun (W : World) (hW : W.heap[nb]? = some (.cells (nodeC { x with ao := some ⟨vb, 0, none⟩, n := x.n, c := x.n + 100 }).toArray 46 (0, 0))) => show W.cell? ⟨nb, 101, none⟩ = some (.slice (some ⟨vb, 0, none⟩) x.n (x.n + 100)) by rw [cell_of_row _ _ 101 _ _ _ hW]; exact nodeC_val _)
        have r5 := Box.mk (fun (W : World) (hW : W.heap[nb]? = some (.cells (nodeC { x with ao := some ⟨vb, 0, none⟩, n := x.n, c := x.n + 100 }).toArray 46 (0, 0))) => rangeAt_cells (o := 5) hW (cs := bvs x.ls.1) fun j hj => nodeC_ls _ j (by rwa [length_bvs, x.ls.2] at hj))
        have r69 := Box.mk (fun (W : World) (hW : W.heap[nb]? = some (.cells (nodeC { x with ao := some ⟨vb, 0, none⟩, n := x.n, c := x.n + 100 }).toArray 46 (0, 0))) => rangeAt_cells (o := 69) hW (cs := bvs x.key.1) fun j hj => nodeC_key _ j (by rwa [length_bvs, x.key.2] at hj))
        generalize (nodeC { x with ao := some ⟨vb, 0, none⟩, n := x.n, c := x.n + 100 }).toArray = cy at *
        have hT := Box.mk (length_encTT x lx HX.out.1)
        have hTD := Box.mk (enc_dec x lx HX.out.1)
        have hRY := Box.mk (fun (W : World) (hW : W.heap[vb]? = some (.cells (bvs (roomyL lx)).toArray 5 (0, 0))) => row_whole hW HX.out.1)
        -- GEN FRESH
        go_wp2
        generalize encTT x lx = t at *
        obtain ⟨wz, hwz⟩ : ∃ z, z = wr := ⟨_, rfl⟩
        subst hwz
        clear Br
        go_loopw [4, 9, 10, 11, 12, 13, 14, 15] (fun v4 j v10 v11 v12 v13 v14 v15 wr => ∃ q : Nat, q ≤ 2 ∧ j = .int .i64 q ∧ Box (KInv w wr w.heap.size p (9 * k + 4 * q) [vb, nb, w.heap.size]) ∧ Box (wr.heap[w.heap.size]? = some (.cells (dc d) 23 (0, 0))) ∧ Box (wr.heap[nb]? = some (.cells cy 46 (0, 0))) ∧ Box (wr.heap[vb]? = some (.cells (bvs (roomyL lx)).toArray 5 (0, 0)))) (fun v4 j v10 v11 v12 v13 v14 v15 _ => 2 - (intOf j).toNat)
        case atStart => exact ⟨0, Nat.zero_le _, rfl, K5, D5, N5a, V5⟩
        clear K5 D5 N5a V5
        case round =>
          obtain ⟨q, hq2, rfl, HK, HD, HN, HV⟩ := hrel
          by_cases hj : q < 2
          · have hE := Box.mk (hEy.out wr (row_front HV.out HX.out.1))
            go_upto_region 12 with (first
              | ((with_reducible refine arm_row 46 (.tmp 7) ?_ ?_ nb ?_ 46 cy (0, 0) _ HN.out Try.underlying46 rfl hiY.out ?_); rfl; rfl; rfl)
              | (go_at_call 13; refine (calls_box hE.out).mono ?_))
            rintro e w6 ⟨⟨⟨ta, tn, tc, rfl, ownT⟩, hB6⟩⟩
            have K6 := Box.mk (HK.out.own hB6 ownT)
            have br := Box.mk (HK.out.bel)
            have bw := Box.mk (br.out.size)
            have O6 := Box.mk (show Own w6 w.heap.size 5 (.slice ta tn tc) t from own_lower ownT bw.out)
            have N6 := Box.mk ((hB6.block _ (heap_lt HN.out)).trans HN.out)
            have V6 := Box.mk ((hB6.block _ (heap_lt HV.out)).trans HV.out)
            have D6 := Box.mk ((hB6.block _ (heap_lt HD.out)).trans HD.out)
            have b6 := Box.mk (K6.out.bel)
            have FT := Box.mk (own_facts ownT)
            clear hB6 ownT HK HN HV HD br hE
            have hC := Box.mk (copyBytes_any ta tn tc t w6 FT.out.1 (by have := FT.out.2.1; have := hT.out; omega))
            go_upto_region 13 with (go_at_call 14; refine (calls_box hC.out).mono ?_)
            rintro e w7 ⟨⟨⟨v7, rfl, ownC⟩, hB7⟩⟩
            obtain ⟨ca, cc, rfl⟩ := own_sh ownC
            obtain ⟨cn, hcn⟩ : ∃ z, t.length = z := ⟨_, rfl⟩
            have O7 := Box.mk (own_low O6.out hB7 (Nat.le_refl _))
            have C7 := Box.mk ((own_facts ownC).1)
            have K7 := Box.mk (K6.out.low hB7)
            have N7 := Box.mk ((hB7.block _ (heap_lt N6.out)).trans N6.out)
            have V7 := Box.mk ((hB7.block _ (heap_lt V6.out)).trans V6.out)
            have D7 := Box.mk ((hB7.block _ (heap_lt D6.out)).trans D6.out)
            have b7 := Box.mk (K7.out.bel)
            rw [hcn] at C7 ⊢
            have HCN := Box.mk hcn
            clear hcn hB7 ownC K6 N6 V6 D6 b6 hC O6
            have c0 : w7.cell? ⟨nb, 0, none⟩ = some (.int .i64 x.kind) := k0.out w7 N7.out
            have FT7 := Box.mk (own_facts O7.out)
            have hDc := Box.mk (decode_any x.kind ta tn tc t w7 FT7.out.1 FT7.out.2.2.2.2 FT7.out.2.2.1 (by have := FT7.out.2.1; have := hT.out; omega) (by have := FT7.out.2.2.2.1; unfold maxLen at this; omega))
            obtain ⟨er2, her⟩ : ∃ z, (if decOk x.kind t = true then (0 : Int) else 90) = z := ⟨_, rfl⟩
            rw [her] at hDc
            have HER := Box.mk her
            clear her FT FT7
            go_wp2_with (go_at_call 15; refine (calls_box hDc.out).mono ?_)
            rintro e w8 ⟨⟨⟨ma, mc, rfl, ownM⟩, hB8⟩⟩
            have HS := Box.mk (fun (h : rightB x = true) => (hTD.out h).2 ma mc)
            obtain ⟨y, hy⟩ : ∃ z, decY x.kind t ma mc = z := ⟨_, rfl⟩
            obtain ⟨lm, hlm⟩ : ∃ z, decL x.kind t = z := ⟨_, rfl⟩
            rw [hy, hlm] at ownM HS
            rw [hy]
            have HLM := Box.mk (show lm.length ≤ 246 by have h1 := decL_le x.kind t; rw [hlm] at h1; have := hT.out; omega)
            have O8 := Box.mk (own_low O7.out hB8 (Nat.le_refl _))
            have C8 := Box.mk (C7.out.old hB8)
            have K8 := Box.mk (K7.out.own hB8 ownM)
            have M8 := Box.mk (show Own w8 w.heap.size 5 (.slice y.ao y.n y.c) lm from own_lower ownM b7.out.size)
            have N8 := Box.mk ((hB8.block _ (heap_lt N7.out)).trans N7.out)
            have V8 := Box.mk ((hB8.block _ (heap_lt V7.out)).trans V7.out)
            have D8 := Box.mk ((hB8.block _ (heap_lt D7.out)).trans D7.out)
            clear hy hlm hB8 ownM K7 N7 V7 D7 b7 hDc O7 C7 c0
            go_upto_region 14 with ((with_reducible refine arm_store_row 46 (.tmp 13) (.tmp 63) ?_ rfl w8.heap.size (nodeC noNode).toArray (nodeC y).toArray 46 ?_ ?_ ?_ (hss _ _).out (hiN _).out (hal _).out ?_); rfl; rfl; rfl; exact heap_new rfl)
            intro w9 g9 G9
            have hB9 := Box.mk ((Below.refl_alloc w8 (.cells (nodeC noNode).toArray 46)).grown G9 (by simp) (fun k hk => by cases hk; omega))
            have m9 := Box.mk (show w9.heap[w8.heap.size]? = some (.cells (nodeC y).toArray 46 (0, 0)) from g9.out)
            have K9 := Box.mk (K8.out.blk hB9.out m9.out (Nat.le_refl _))
            have O9 := Box.mk (own_low O8.out hB9.out (Nat.le_refl _))
            have M9 := Box.mk (own_low M8.out hB9.out (Nat.le_refl _))
            have C9 := Box.mk (C8.out.old hB9.out)
            have N9 := Box.mk ((hB9.out.block _ (heap_lt N8.out)).trans N8.out)
            have V9 := Box.mk ((hB9.out.block _ (heap_lt V8.out)).trans V8.out)
            have D9 := Box.mk ((hB9.out.block _ (heap_lt D8.out)).trans D8.out)
            have b9 := Box.mk (K9.out.bel)
            clear g9 G9 K8 O8 M8 C8 N8 V8 D8 hB9
            have hix := Box.mk (show (Try.prog.info? 46).map (·.size) = some (nodeC x).length by have := (hiN x).out; rwa [List.size_toArray] at this)
            have hiy := Box.mk (show (Try.prog.info? 46).map (·.size) = some (nodeC y).length by have := (hiN y).out; rwa [List.size_toArray] at this)
            have r9y := Box.mk (rangeAt_cells (o := 0) m9.out (cs := nodeC y) fun j hj => by rw [Nat.zero_add, List.getElem?_toArray])
            have hmb := Box.mk (heap_lt m9.out)
            have hR := Box.mk (fun W => right_any x W)
            go_upto_region 14 with fail
            go_cut [86] (fun s W => s = .bool false ∧ Below w9.heap.size w9 W)
            case first =>
              have hSm := Box.mk (fun (W : World) (hW : Below w9.heap.size w9 W) => sameNode_any y x lm lx W ((own_facts M9.out).1.old hW) (RX.out W (b9.out.trans (hW.mono b9.out.size))) (by have := (own_facts M9.out).2.1; have := HLM.out; unfold maxLen; omega) (by have := HX.out.2.2; unfold maxLen; omega))
              clear K9 O9 C9 N9 V9 D9 hEy k0 k101 r5 r69 hRY hss hal hiN m9
              cases hr : rightB x
              · rw [hr] at hR
                clear hr hTD HS HER hSm HER1
                refine held_begin (fun W => Below w9.heap.size w9 W) (by kernel_rfl) ((Below.refl w9.heap.size w9).drew) (fun hH0 => ?_)
                refine held_take 0 (.slice (some ⟨b, o, none⟩) n c) rfl (by kernel_rfl) (by kernel_rfl) (by kernel_rfl) (held_move (by rfl) (.tmp 0) rfl rfl) (by assumption) ?_
                try simp only [Act.put, List.setIfInBounds_toArray, List.set_cons_zero, List.set_cons_succ]
                refine held_take 1 (.int .i64 k) rfl (by kernel_rfl) (by kernel_rfl) (by kernel_rfl) (held_move (by rfl) (.tmp 6) rfl rfl) (by assumption) ?_
                try simp only [Act.put, List.setIfInBounds_toArray, List.set_cons_zero, List.set_cons_succ]
                refine held_take 2 (.pointer (some ⟨b, o + k * 102, none⟩)) rfl (by kernel_rfl) (by kernel_rfl) (by kernel_rfl) (held_pure (by rfl) (fun W => by go_simp)) (by assumption) ?_
                try simp only [Act.put, List.setIfInBounds_toArray, List.set_cons_zero, List.set_cons_succ]
                refine held_take 3 (.agg (nodeC x).toArray) rfl (by kernel_rfl) (by kernel_rfl) (by kernel_rfl) (yieldsIf_load_mid (by rfl) 46 (.tmp 67) rfl b (o + k * 102) rfl (nodeC x) _ (fun W hS => R0.out W (b9.out.trans (hS.mono b9.out.size))) Try.underlying46 rfl hix.out) (by assumption) ?_
                try simp only [Act.put, List.setIfInBounds_toArray, List.set_cons_zero, List.set_cons_succ]
                refine held_step 4 (by kernel_rfl) rfl (by rfl) (fun K hK => ?_)
                go_simp
                refine (calls_box (hR.out _)).mono ?_
                rintro e wA ⟨⟨rfl, hBc⟩⟩
                dsimp only
                have hH1 : Below w9.heap.size w9 wA := hH0.trans (hBc.mono hH0.size)
                refine hK.out _ _ hH1 (fun _ => ?_)
                clear hK K hBc
                try simp only [Act.put, List.setIfInBounds_toArray, List.set_cons_zero, List.set_cons_succ]
                refine held_take 5 (.bool false) rfl (by kernel_rfl) (by kernel_rfl) (by kernel_rfl) (held_move (by rfl) (.tmp 69) rfl rfl) (by assumption) ?_
                try simp only [Act.put, List.setIfInBounds_toArray, List.set_cons_zero, List.set_cons_succ]
                refine held_take 6 (undef) rfl (by kernel_rfl) (by kernel_rfl) (by kernel_rfl) (.inr ⟨by rfl, rfl⟩) (by assumption) ?_
                try simp only [Act.put, List.setIfInBounds_toArray, List.set_cons_zero, List.set_cons_succ]
                refine held_take 7 (undef) rfl (by kernel_rfl) (by kernel_rfl) (by kernel_rfl) (.inr ⟨by rfl, rfl⟩) (by assumption) ?_
                try simp only [Act.put, List.setIfInBounds_toArray, List.set_cons_zero, List.set_cons_succ]
                refine held_take 8 (undef) rfl (by kernel_rfl) (by kernel_rfl) (by kernel_rfl) (.inr ⟨by rfl, rfl⟩) (by assumption) ?_
                try simp only [Act.put, List.setIfInBounds_toArray, List.set_cons_zero, List.set_cons_succ]
                refine held_take 9 (undef) rfl (by kernel_rfl) (by kernel_rfl) (by kernel_rfl) (.inr ⟨by rfl, rfl⟩) (by assumption) ?_
                try simp only [Act.put, List.setIfInBounds_toArray, List.set_cons_zero, List.set_cons_succ]
                refine held_take 10 (undef) rfl (by kernel_rfl) (by kernel_rfl) (by kernel_rfl) (.inr ⟨by rfl, rfl⟩) (by assumption) ?_
                try simp only [Act.put, List.setIfInBounds_toArray, List.set_cons_zero, List.set_cons_succ]
                refine held_take 11 (undef) rfl (by kernel_rfl) (by kernel_rfl) (by kernel_rfl) (.inr ⟨by rfl, rfl⟩) (by assumption) ?_
                try simp only [Act.put, List.setIfInBounds_toArray, List.set_cons_zero, List.set_cons_succ]
                refine held_take 12 (undef) rfl (by kernel_rfl) (by kernel_rfl) (by kernel_rfl) (.inr ⟨by rfl, rfl⟩) (by assumption) ?_
                try simp only [Act.put, List.setIfInBounds_toArray, List.set_cons_zero, List.set_cons_succ]
                refine held_take 13 (undef) rfl (by kernel_rfl) (by kernel_rfl) (by kernel_rfl) (.inr ⟨by rfl, rfl⟩) (by assumption) ?_
                try simp only [Act.put, List.setIfInBounds_toArray, List.set_cons_zero, List.set_cons_succ]
                refine held_take 14 (undef) rfl (by kernel_rfl) (by kernel_rfl) (by kernel_rfl) (.inr ⟨by rfl, rfl⟩) (by assumption) ?_
                try simp only [Act.put, List.setIfInBounds_toArray, List.set_cons_zero, List.set_cons_succ]
                refine held_take 15 (undef) rfl (by kernel_rfl) (by kernel_rfl) (by kernel_rfl) (.inr ⟨by rfl, rfl⟩) (by assumption) ?_
                try simp only [Act.put, List.setIfInBounds_toArray, List.set_cons_zero, List.set_cons_succ]
                refine held_take 16 (undef) rfl (by kernel_rfl) (by kernel_rfl) (by kernel_rfl) (.inr ⟨by rfl, rfl⟩) (by assumption) ?_
                try simp only [Act.put, List.setIfInBounds_toArray, List.set_cons_zero, List.set_cons_succ]
                refine held_take 17 (undef) rfl (by kernel_rfl) (by kernel_rfl) (by kernel_rfl) (.inr ⟨by rfl, rfl⟩) (by assumption) ?_
                try simp only [Act.put, List.setIfInBounds_toArray, List.set_cons_zero, List.set_cons_succ]
                refine held_take 18 (undef) rfl (by kernel_rfl) (by kernel_rfl) (by kernel_rfl) (.inr ⟨by rfl, rfl⟩) (by assumption) ?_
                try simp only [Act.put, List.setIfInBounds_toArray, List.set_cons_zero, List.set_cons_succ]
                refine held_take 19 (undef) rfl (by kernel_rfl) (by kernel_rfl) (by kernel_rfl) (.inr ⟨by rfl, rfl⟩) (by assumption) ?_
                try simp only [Act.put, List.setIfInBounds_toArray, List.set_cons_zero, List.set_cons_succ]
                refine held_take 20 (undef) rfl (by kernel_rfl) (by kernel_rfl) (by kernel_rfl) (.inr ⟨by rfl, rfl⟩) (by assumption) ?_
                try simp only [Act.put, List.setIfInBounds_toArray, List.set_cons_zero, List.set_cons_succ]
                refine held_take 21 (.bool false) rfl (by kernel_rfl) (by kernel_rfl) (by kernel_rfl) (held_pure (by rfl) (fun W => by go_simp)) (by assumption) ?_
                try simp only [Act.put, List.setIfInBounds_toArray, List.set_cons_zero, List.set_cons_succ]
                try simp only [Act.put]
                refine held_done (by kernel_rfl) ?_ _
                go_wp2
                go_meet
                exact ⟨rfl, by assumption⟩
              · rw [hr] at hR
                have hS1 := HS.out hr
                have hO1 := (hTD.out hr).1
                rw [hS1] at hSm
                obtain rfl : er2 = 0 := by rw [← HER.out, hO1]; rfl
                obtain rfl : er = 0 := by rw [← HER1.out, hr]; rfl
                clear hr hTD HS HER hS1 hO1 HER1
                refine held_begin (fun W => Below w9.heap.size w9 W) (by kernel_rfl) ((Below.refl w9.heap.size w9).drew) (fun hH0 => ?_)
                refine held_take 0 (.slice (some ⟨b, o, none⟩) n c) rfl (by kernel_rfl) (by kernel_rfl) (by kernel_rfl) (held_move (by rfl) (.tmp 0) rfl rfl) (by assumption) ?_
                try simp only [Act.put, List.setIfInBounds_toArray, List.set_cons_zero, List.set_cons_succ]
                refine held_take 1 (.int .i64 k) rfl (by kernel_rfl) (by kernel_rfl) (by kernel_rfl) (held_move (by rfl) (.tmp 6) rfl rfl) (by assumption) ?_
                try simp only [Act.put, List.setIfInBounds_toArray, List.set_cons_zero, List.set_cons_succ]
                refine held_take 2 (.pointer (some ⟨b, o + k * 102, none⟩)) rfl (by kernel_rfl) (by kernel_rfl) (by kernel_rfl) (held_pure (by rfl) (fun W => by go_simp)) (by assumption) ?_
                try simp only [Act.put, List.setIfInBounds_toArray, List.set_cons_zero, List.set_cons_succ]
                refine held_take 3 (.agg (nodeC x).toArray) rfl (by kernel_rfl) (by kernel_rfl) (by kernel_rfl) (yieldsIf_load_mid (by rfl) 46 (.tmp 67) rfl b (o + k * 102) rfl (nodeC x) _ (fun W hS => R0.out W (b9.out.trans (hS.mono b9.out.size))) Try.underlying46 rfl hix.out) (by assumption) ?_
                try simp only [Act.put, List.setIfInBounds_toArray, List.set_cons_zero, List.set_cons_succ]
                refine held_step 4 (by kernel_rfl) rfl (by rfl) (fun K hK => ?_)
                go_simp
                refine (calls_box (hR.out _)).mono ?_
                rintro e wA ⟨⟨rfl, hBc⟩⟩
                dsimp only
                have hH1 : Below w9.heap.size w9 wA := hH0.trans (hBc.mono hH0.size)
                refine hK.out _ _ hH1 (fun _ => ?_)
                clear hK K hBc
                try simp only [Act.put, List.setIfInBounds_toArray, List.set_cons_zero, List.set_cons_succ]
                refine held_take 5 (.bool true) rfl (by kernel_rfl) (by kernel_rfl) (by kernel_rfl) (held_move (by rfl) (.tmp 69) rfl rfl) (by assumption) ?_
                try simp only [Act.put, List.setIfInBounds_toArray, List.set_cons_zero, List.set_cons_succ]
                refine held_take 6 (.int .i64 0) rfl (by kernel_rfl) (by kernel_rfl) (by kernel_rfl) (held_move (by rfl) (.tmp 11) rfl rfl) (by assumption) ?_
                try simp only [Act.put, List.setIfInBounds_toArray, List.set_cons_zero, List.set_cons_succ]
                refine held_take 7 (.bool false) rfl (by kernel_rfl) (by kernel_rfl) (by kernel_rfl) (held_pure (by rfl) (fun W => by go_simp)) (by assumption) ?_
                try simp only [Act.put, List.setIfInBounds_toArray, List.set_cons_zero, List.set_cons_succ]
                refine held_take 8 (.bool false) rfl (by kernel_rfl) (by kernel_rfl) (by kernel_rfl) (held_move (by rfl) (.tmp 72) rfl rfl) (by assumption) ?_
                try simp only [Act.put, List.setIfInBounds_toArray, List.set_cons_zero, List.set_cons_succ]
                refine held_take 9 (.int .i64 0) rfl (by kernel_rfl) (by kernel_rfl) (by kernel_rfl) (held_move (by rfl) (.tmp 14) rfl rfl) (by assumption) ?_
                try simp only [Act.put, List.setIfInBounds_toArray, List.set_cons_zero, List.set_cons_succ]
                refine held_take 10 (.bool false) rfl (by kernel_rfl) (by kernel_rfl) (by kernel_rfl) (held_pure (by rfl) (fun W => by go_simp)) (by assumption) ?_
                try simp only [Act.put, List.setIfInBounds_toArray, List.set_cons_zero, List.set_cons_succ]
                refine held_take 11 (.bool false) rfl (by kernel_rfl) (by kernel_rfl) (by kernel_rfl) (held_pure (by rfl) (fun W => by go_simp)) (by assumption) ?_
                try simp only [Act.put, List.setIfInBounds_toArray, List.set_cons_zero, List.set_cons_succ]
                refine held_take 12 (.bool false) rfl (by kernel_rfl) (by kernel_rfl) (by kernel_rfl) (held_move (by rfl) (.tmp 76) rfl rfl) (by assumption) ?_
                try simp only [Act.put, List.setIfInBounds_toArray, List.set_cons_zero, List.set_cons_succ]
                refine held_take 13 (.agg (nodeC y).toArray) rfl (by kernel_rfl) (by kernel_rfl) (by kernel_rfl) (yieldsIf_load_mid (by rfl) 46 (.tmp 13) rfl w8.heap.size 0 rfl (nodeC y) _ (fun W hS => rangeAt_below r9y.out hS hmb.out) Try.underlying46 rfl hiy.out) (by assumption) ?_
                try simp only [Act.put, List.setIfInBounds_toArray, List.set_cons_zero, List.set_cons_succ]
                refine held_take 14 (.slice (some ⟨b, o, none⟩) n c) rfl (by kernel_rfl) (by kernel_rfl) (by kernel_rfl) (held_move (by rfl) (.tmp 0) rfl rfl) (by assumption) ?_
                try simp only [Act.put, List.setIfInBounds_toArray, List.set_cons_zero, List.set_cons_succ]
                refine held_take 15 (.int .i64 k) rfl (by kernel_rfl) (by kernel_rfl) (by kernel_rfl) (held_move (by rfl) (.tmp 6) rfl rfl) (by assumption) ?_
                try simp only [Act.put, List.setIfInBounds_toArray, List.set_cons_zero, List.set_cons_succ]
                refine held_take 16 (.pointer (some ⟨b, o + k * 102, none⟩)) rfl (by kernel_rfl) (by kernel_rfl) (by kernel_rfl) (held_pure (by rfl) (fun W => by go_simp)) (by assumption) ?_
                try simp only [Act.put, List.setIfInBounds_toArray, List.set_cons_zero, List.set_cons_succ]
                refine held_take 17 (.agg (nodeC x).toArray) rfl (by kernel_rfl) (by kernel_rfl) (by kernel_rfl) (yieldsIf_load_mid (by rfl) 46 (.tmp 81) rfl b (o + k * 102) rfl (nodeC x) _ (fun W hS => R0.out W (b9.out.trans (hS.mono b9.out.size))) Try.underlying46 rfl hix.out) (by assumption) ?_
                try simp only [Act.put, List.setIfInBounds_toArray, List.set_cons_zero, List.set_cons_succ]
                refine held_step 18 (by kernel_rfl) rfl (by rfl) (fun K hK => ?_)
                go_simp
                refine (calls_box (hSm.out _ hH1)).mono ?_
                rintro e wB ⟨⟨rfl, hBc⟩⟩
                dsimp only
                have hH2 : Below w9.heap.size w9 wB := hH1.trans (hBc.mono hH1.size)
                refine hK.out _ _ hH2 (fun _ => ?_)
                clear hK K hBc
                try simp only [Act.put, List.setIfInBounds_toArray, List.set_cons_zero, List.set_cons_succ]
                refine held_take 19 (.bool false) rfl (by kernel_rfl) (by kernel_rfl) (by kernel_rfl) (held_pure (by rfl) (fun W => by go_simp)) (by assumption) ?_
                try simp only [Act.put, List.setIfInBounds_toArray, List.set_cons_zero, List.set_cons_succ]
                refine held_take 20 (.bool false) rfl (by kernel_rfl) (by kernel_rfl) (by kernel_rfl) (held_pure (by rfl) (fun W => by go_simp)) (by assumption) ?_
                try simp only [Act.put, List.setIfInBounds_toArray, List.set_cons_zero, List.set_cons_succ]
                refine held_take 21 (.bool false) rfl (by kernel_rfl) (by kernel_rfl) (by kernel_rfl) (held_pure (by rfl) (fun W => by go_simp)) (by assumption) ?_
                try simp only [Act.put, List.setIfInBounds_toArray, List.set_cons_zero, List.set_cons_succ]
                try simp only [Act.put]
                refine held_done (by kernel_rfl) ?_ _
                go_wp2
                go_meet
                exact ⟨rfl, by assumption⟩
            obtain ⟨rfl, hB9⟩ := hcut
            have KC := Box.mk (K9.out.low hB9)
            have OC := Box.mk (own_low O9.out hB9 (Nat.le_refl _))
            have MC := Box.mk (own_low M9.out hB9 (Nat.le_refl _))
            have CC := Box.mk (C9.out.old hB9)
            have mC := Box.mk ((hB9.block _ hmb.out).trans m9.out)
            have NC := Box.mk ((hB9.block _ (heap_lt N9.out)).trans N9.out)
            have VC := Box.mk ((hB9.block _ (heap_lt V9.out)).trans V9.out)
            have DC := Box.mk ((hB9.block _ (heap_lt D9.out)).trans D9.out)
            have bC := Box.mk (KC.out.bel)
            obtain ⟨mb, hmbe⟩ : ∃ z, w8.heap.size = z := ⟨_, rfl⟩
            rw [hmbe] at KC mC ⊢
            clear hmbe hB9 K9 O9 M9 C9 m9 N9 V9 D9 b9 r9y hmb hix hiy hR HS HER hTD
            have c101 := k101.out wc NC.out
            have hLf := Box.mk (leafText_any x.key (some ⟨vb, 0, none⟩) x.n (x.n + 100) lx wc (row_front VC.out HX.out.1) (fun h => by cases h) HX.out.2.2)
            go_upto_region 17 with (first
              | ((with_reducible refine arm_load32 44 (.tmp 87) ?_ ?_ nb 69 ?_ x.key _ (r69.out wc NC.out) Try.underlying44 hiK ?_); rfl; rfl; rfl)
              | (go_at_call 18; refine (calls_box hLf.out).mono ?_))
            rintro e wL ⟨⟨gx, cx, rfl, ownX, hBL⟩⟩
            have KL := Box.mk (KC.out.own hBL ownX)
            have XL := Box.mk (show Own wL w.heap.size 5 (.slice (some ⟨gx, 0, none⟩) (33 + x.n) cx) (0 :: (x.key.1 ++ lx)) from own_lower ownX bC.out.size)
            have OL := Box.mk (own_low OC.out hBL (Nat.le_refl _))
            have ML := Box.mk (own_low MC.out hBL (Nat.le_refl _))
            have CL := Box.mk (CC.out.old hBL)
            have mL := Box.mk ((hBL.block _ (heap_lt mC.out)).trans mC.out)
            have NL := Box.mk ((hBL.block _ (heap_lt NC.out)).trans NC.out)
            have VL := Box.mk ((hBL.block _ (heap_lt VC.out)).trans VC.out)
            have DL := Box.mk ((hBL.block _ (heap_lt DC.out)).trans DC.out)
            have bL := Box.mk (KL.out.bel)
            clear hBL ownX KC OC MC CC mC NC VC DC bC hLf c101
            have HXL := Box.mk (show (0 :: (x.key.1 ++ lx) : List UInt8).length ≤ 140737488351400 by have := HX.out.1; have := HX.out.2.2; have := x.key.2; simp only [List.length_cons, List.length_append]; omega)
            generalize (0 :: (x.key.1 ++ lx) : List UInt8) = lX at *
            have cV : wL.cell? ⟨b, o + k * 102 + 101, none⟩ = some (.slice x.ao x.n x.c) := (R0.out _ bL.out) 101 _ (by rw [← List.getElem?_toArray]; exact nodeC_val x)
            have hSB := Box.mk (sameBytes_any ta ca tn tc cn cc t t wL (own_facts OL.out).1 CL.out (by have := (own_facts OL.out).2.1; have := hT.out; unfold maxLen; omega) (by have := HCN.out; have := hT.out; unfold maxLen; omega))
            rw [eqB_true rfl] at hSB
            have hx33 : x.n ≤ 140737488351232 := HX.out.2.2
            go_upto_region 19 with (go_at_call 19; refine (calls_box hSB.out).mono ?_)
            rintro e wq ⟨⟨rfl, qs, rfl⟩⟩
            have hBq : Below wL.heap.size wL (wL.drewN qs) := below_drewN2 (Below.refl _ _) qs
            have KA := Box.mk ((KL.out.low hBq).perm (perm_turn (obs (.slice ta tn tc)) (obs (.slice y.ao y.n y.c)) (obs (.slice (some ⟨gx, 0, none⟩) (33 + x.n) cx)) [vb, nb, w.heap.size] mb))
            have OA := Box.mk (own_low OL.out hBq (Nat.le_refl _))
            have MA := Box.mk (own_low ML.out hBq (Nat.le_refl _))
            have XA := Box.mk (own_low XL.out hBq (Nat.le_refl _))
            have mA := Box.mk ((hBq.block _ (heap_lt mL.out)).trans mL.out)
            have NA := Box.mk ((hBq.block _ (heap_lt NL.out)).trans NL.out)
            have VA := Box.mk ((hBq.block _ (heap_lt VL.out)).trans VL.out)
            have DA := Box.mk ((hBq.block _ (heap_lt DL.out)).trans DL.out)
            clear hBq KL OL ML XL CL mL NL VL DL bL cV hSB hx33 HCN
            generalize wL.drewN qs = wA at *
            have hKp := Box.mk (keep_inv KA.out OA.out (by have := hT.out; omega) (by omega))
            go_upto_region 20 with (first
              | (go_at_call 20; refine (calls_box hKp.out).mono ?_))
            rintro e w10 ⟨⟨rfl, hK1, hF, hsz⟩⟩
            have K10 := Box.mk hK1
            have M10 := Box.mk (own_stay MA.out fun g hg => hF g (by simp only [List.mem_append]; simp [hg]))
            have X10 := Box.mk (own_stay XA.out fun g hg => hF g (by simp only [List.mem_append]; simp [hg]))
            have m10 := Box.mk ((hF _ (by simp)).trans mA.out)
            have N10 := Box.mk ((hF _ (by simp)).trans NA.out)
            have V10 := Box.mk ((hF _ (by simp)).trans VA.out)
            have D10 := Box.mk ((hF _ (by simp)).trans DA.out)
            clear hKp hK1 hF hsz KA OA MA XA mA NA VA DA
            have c10 : w10.cell? ⟨mb, 101, none⟩ = some (.slice y.ao y.n y.c) := by rw [cell_of_row _ _ 101 _ _ _ m10.out]; exact nodeC_val y
            have hKp := Box.mk (keep_inv K10.out M10.out (by have := HLM.out; omega) (by omega))
            go_upto_region 21 with (first
              | (go_at_call 20; refine (calls_box hKp.out).mono ?_))
            rintro e w11 ⟨⟨rfl, hK1, hF, hsz⟩⟩
            have K11 := Box.mk hK1
            have X11 := Box.mk (own_stay X10.out fun g hg => hF g (by simp only [List.mem_append]; simp [hg]))
            have m11 := Box.mk ((hF _ (by simp)).trans m10.out)
            have N11 := Box.mk ((hF _ (by simp)).trans N10.out)
            have V11 := Box.mk ((hF _ (by simp)).trans V10.out)
            have D11 := Box.mk ((hF _ (by simp)).trans D10.out)
            clear hKp hK1 hF hsz K10 M10 X10 m10 N10 V10 D10
            clear c10
            have hKp := Box.mk (keep_inv K11.out X11.out (by exact HXL.out) (by omega))
            go_upto_region 22 with (first
              | (go_at_call 20; refine (calls_box hKp.out).mono ?_))
            rintro e w12 ⟨⟨rfl, hK1, hF, hsz⟩⟩
            have K12 := Box.mk hK1
            have m12 := Box.mk ((hF _ (by simp)).trans m11.out)
            have N12 := Box.mk ((hF _ (by simp)).trans N11.out)
            have V12 := Box.mk ((hF _ (by simp)).trans V11.out)
            have D12 := Box.mk ((hF _ (by simp)).trans D11.out)
            clear hKp hK1 hF hsz K11 X11 m11 N11 V11 D11
            have hbt := Box.mk (branchText_any 8 d x.ls w12)
            have K12b := Box.mk (KInv.drop (S := [mb]) K12.out)
            have b12 := Box.mk (K12b.out.bel)
            have hd12 := Box.mk (rangeAt_cells (o := 0) D12.out (cs := bvs d.1) fun j hj => by rw [Nat.zero_add]; simp [dc])
            go_wp2_with (first
              | ((with_reducible refine arm_load32 23 (.tmp 3) ?_ ?_ w.heap.size 0 ?_ d _ hd12.out Try.underlying23 hiD ?_); rfl; rfl; rfl)
              | ((with_reducible refine arm_load32 23 (.tmp 120) ?_ ?_ nb 5 ?_ x.ls _ (r5.out w12 N12.out) Try.underlying23 hiD ?_); rfl; rfl; rfl)
              | (go_at_call 21; refine (calls_box hbt.out).mono ?_))
            rintro e wb ⟨⟨gb, cb, rfl, ownB, hBb⟩⟩
            have Kb := Box.mk (K12b.out.own hBb ownB)
            have Ob := Box.mk (show Own wb w.heap.size 5 _ _ from own_lower ownB b12.out.size)
            have Nb := Box.mk ((hBb.block _ (heap_lt N12.out)).trans N12.out)
            have Vb := Box.mk ((hBb.block _ (heap_lt V12.out)).trans V12.out)
            have Db := Box.mk ((hBb.block _ (heap_lt D12.out)).trans D12.out)
            have hLB := Box.mk (length_branchText d x.ls (wid 8) (wid_le 8))
            clear hBb ownB hbt hd12 K12 K12b N12 V12 D12 m12 b12
            obtain ⟨wn, hwn⟩ : ∃ z, 1 + 2 * wid 8 = z := ⟨_, rfl⟩
            rw [hwn] at Kb Ob ⊢
            clear hwn
            have hKp := Box.mk (keep_inv Kb.out Ob.out (by have := hLB.out; omega) (by omega))
            go_upto_region 10 with (first
              | (go_at_call 20; refine (calls_box hKp.out).mono ?_))
            rintro e w13 ⟨⟨rfl, hK1, hF, hsz⟩⟩
            have K13 := Box.mk hK1
            have N13 := Box.mk ((hF _ (by simp)).trans Nb.out)
            have V13 := Box.mk ((hF _ (by simp)).trans Vb.out)
            have D13 := Box.mk ((hF _ (by simp)).trans Db.out)
            clear hKp hK1 hF hsz Kb Ob Nb Vb Db
            clear hT hEy k0 k101 r5 r69 hRY
            go_wp2
            go_roundw
            case rel => exact ⟨q + 1, by omega, by go_num, K13, D13, N13, V13⟩
            case measure => simp [intOf]; omega
          · obtain rfl : q = 2 := by omega
            have bR := Box.mk (HK.out.bel)
            have cR : wr.cell? ⟨b, o + k * 102 + 101, none⟩ = some (.slice x.ao x.n x.c) := (R0.out _ bR.out) 101 _ (by rw [← List.getElem?_toArray]; exact nodeC_val x)
            have hRI := Box.mk (roomyIs_any (some ⟨vb, 0, none⟩) x.ao (x.n + 100) (x.n + 100) x.n x.c (roomyL lx) lx wr (hRY.out wr HV.out) (RX.out wr bR.out) (by have := HX.out.2.2; unfold maxLen; omega) HX.out.2.2)
            rw [eqB_true rfl] at hRI
            go_upto_region 25 with (go_at_call 22; refine (calls_box hRI.out).mono ?_)
            rintro e wB ⟨⟨rfl, hBB⟩⟩
            have KB := Box.mk (HK.out.low hBB)
            have VB := Box.mk ((hBB.block _ (heap_lt HV.out)).trans HV.out)
            have DB := Box.mk ((hBB.block _ (heap_lt HD.out)).trans HD.out)
            have hvw := Box.mk (show w.heap.size ≤ vb from HVW.out)
            have OB := Box.mk (own_whole VB.out HX.out.1 hvw.out HX.out.2.2)
            have hLv := Box.mk (show (roomyL lx).length ≤ 140737488351400 by rw [length_roomyL]; have := HX.out.1; have := HX.out.2.2; omega)
            have hKp := Box.mk (keep_inv (F := [nb, w.heap.size]) KB.out OB.out hLv.out (by omega))
            clear hBB HK HV HD HN hRI cR
            go_wp2_with (go_at_call 20; refine (calls_box hKp.out).mono ?_)
            rintro e wC ⟨⟨rfl, hK1, hF, hsz⟩⟩
            have KC := Box.mk (KInv.drop (S := [nb]) hK1)
            have DC := Box.mk ((hF _ (by simp)).trans DB.out)
            clear hT hEy k0 k101 r5 r69 hRY hK1 hF hsz KB VB DB OB hLv hKp
            go_wp2
            go_roundw
            case rel => exact ⟨k + 1, by omega, by omega, by go_num, ⟨KC.out.mono (by omega)⟩, DC⟩
            case measure => simp [intOf]; omega
        -- END FRESH
      · obtain rfl : k = 12 := by omega
        go_upto_region 26 with fail
        have hU := Box.mk (untouched_inv HK.out (by omega))
        go_wp2_with (go_at_call 23; refine (calls_box hU.out).mono ?_)
        rintro e wu ⟨⟨rfl, hKu⟩⟩
        have hA := Box.mk (apart_inv hKu (by omega))
        clear hKu hU
        go_wp2_with (go_at_call 24; refine (calls_box hA.out).mono ?_)
        rintro e wa ⟨⟨rfl, hB9⟩⟩
        have B9 := Box.mk hB9
        clear hB9
        go_wp2
        go_ret
        exact ⟨rfl, B9.out⟩
    · obtain rfl : k = n := by omega
      go_upto_region 26 with fail
      have hU := Box.mk (untouched_inv HK.out (by omega))
      go_wp2_with (go_at_call 23; refine (calls_box hU.out).mono ?_)
      rintro e wu ⟨⟨rfl, hKu⟩⟩
      have hA := Box.mk (apart_inv hKu (by omega))
      clear hKu hU
      go_wp2_with (go_at_call 24; refine (calls_box hA.out).mono ?_)
      rintro e wa ⟨⟨rfl, hB9⟩⟩
      have B9 := Box.mk hB9
      clear hB9
      go_wp2
      go_ret
      exact ⟨rfl, B9.out⟩
end Go.Proofs.Ytocfiabbhcgegaa
