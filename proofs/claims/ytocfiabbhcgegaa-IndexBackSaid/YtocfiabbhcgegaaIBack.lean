/- IndexBack: the walk of the law. -/
import Derived.Test.YtocfiabbhcgegaaIBackQ
namespace Go.Proofs.Ytocfiabbhcgegaa
open Go Go.RowKit
set_option linter.unusedVariables false

set_option maxRecDepth 100000 in
set_option maxHeartbeats 4000000 in
theorem iback_walk (x : RecV) (ao : Option Addr) (n c : Nat) (l : List UInt8) (w : World) (h : Row w ao n l) (hn : ao = none → n = 0 ∧ c = 0) (hle : n ≤ c) (hmx : c ≤ 140737488351232) :
    Calls Try.prog 3 #[.agg (recC x).toArray, .slice ao n c] w fun e w' => e = .returned (.bool true) ∧ Below w.heap.size w w' := by
  have hz25 : ∀ W : World, (zeroValue 25).run Try.prog W = .ok (.agg (recC noRec).toArray) W := fun W => by kernel_rfl
  have hb25 : Box (Try.prog.built 25 [] = some (recC noRec).toArray) := ⟨by kernel_rfl⟩
  have hbK : Box (Try.prog.built J.KT [] = some #[.slice none 0 0, .slice none 0 0]) := ⟨by kernel_rfl⟩
  have hmE : Box (Try.prog.eqGuardType Try.prog.depth 25 = false) := ⟨by kernel_rfl⟩
  have hi8 : Box ((Try.prog.info? 5).map (·.size) = some 1) := ⟨by kernel_rfl⟩
  have hiN : ∀ y : RecV, Box ((Try.prog.info? 25).map (·.size) = some (recC y).toArray.size) := fun y => ⟨by
    have h : (Try.prog.info? 25).map (·.size) = some 38 := by kernel_rfl
    rw [h, List.size_toArray, length_recC]⟩
  have hss : ∀ y z : RecV, Box ((recC y).toArray.size = (recC z).toArray.size) := fun y z => ⟨by rw [List.size_toArray, List.size_toArray, length_recC, length_recC]⟩
  have hal : ∀ y : RecV, Box ((recC y).toArray.all (·.oneCell') = true) := fun y => ⟨recC_all y⟩
  have HLB : Box (∀ W, Below w.heap.size w W → Row W ao n l) := ⟨fun W hW => h.old hW⟩
  have HNC := Box.mk (show n ≤ c ∧ c ≤ maxLen ∧ n ≤ maxLen from ⟨hle, by unfold maxLen; omega, by unfold maxLen; omega⟩)
  have HNIL := Box.mk hn
  have HLN := Box.mk h.1
  have hE := Box.mk (fun W => ienc_any x W)
  have hR := Box.mk (fun W => lright_any x W)
  have hB0 := Box.mk (Below.refl_alloc w (.cells (recC x).toArray 25))
  have F0 := Box.mk (show (w.alloc (.cells (recC x).toArray 25)).heap[w.heap.size]? = some (.cells (recC x).toArray 25 (0, 0)) from heap_new rfl)
  have hix := hiN x
  have hin := hiN noRec
  have han := hal noRec
  have hsx := hss noRec x
  have hax := hal x
  have heqn := Box.mk (fun W => rec_same noRec W)
  have heqx := Box.mk (fun W => show (Op.equalIn 10000 25 (.agg (recC x).toArray) (.agg (recC x).toArray)).run Try.prog W = .ok (!false) W from rec_same x W)
  have hcl := Box.mk (turn_cell x)
  have hct := Box.mk (turn_cells x)
  have hDX := Box.mk (fun (g cap : Nat) (W : World) (hW : Row W (some ⟨g, 0, none⟩) 56 (encR x)) (h1 : 56 ≤ cap) (h2 : cap ≤ maxLen) => idec_any (some ⟨g, 0, none⟩) 56 cap (encR x) W hW (fun h => by cases h) h1 h2)
  have hEY := Box.mk (fun (hr : rightR x = true) W => ienc_yes x hr W)
  have hEO := Box.mk (fun (hr : rightR x = true) W => ienc_yes (turnR x) ((turn_right x).trans hr) W)
  have hEB := Box.mk (fun (hr : rightR x = true) => show (decRok (encR x) = true ∧ decR (encR x) = x) from ⟨by unfold decRok; rw [decR_encR x hr, hr, length_encR]; rfl, decR_encR x hr⟩)
  clear h hn hle hmx
  obtain ⟨cx, hcx⟩ : ∃ z, (recC x).toArray = z := ⟨_, rfl⟩
  have HCX := Box.mk hcx
  rw [hcx] at hE hR hB0 F0 hix hsx hax heqx hcl hEY ⊢
  clear hcx
  obtain ⟨rx, hrx⟩ : ∃ z, rightR x = z := ⟨_, rfl⟩
  have HRX := Box.mk hrx
  rw [hrx] at hE hR
  clear hrx
  go_enter Try.func3, Try.ntmps3
  go_upto_region 1 with fail
  generalize w.alloc (.cells cx 25) = w0 at *
  go_upto_region 2 with (first
    | ((with_reducible refine arm_row 25 (.tmp 2) ?_ ?_ w.heap.size ?_ 25 cx (0, 0) _ F0.out Try.underlying25 rfl hix.out ?_); rfl; rfl; rfl)
    | (go_at_call 5; refine (calls_box (hE.out _)).mono ?_))
  rintro e w1 ⟨⟨he, hB⟩⟩
  have b1 := Box.mk (hB0.out.trans (hB.mono hB0.out.size))
  have F1 := Box.mk ((hB.block _ (heap_lt F0.out)).trans F0.out)
  have hw0 := Box.mk (heap_lt F0.out)
  obtain ⟨tv, er, rfl, ht⟩ : ∃ tv er, e = .returned (.tuple #[tv, .int .i64 er]) ∧ Box ((rx = true ∧ er = 0 ∧ ∃ g cap, tv = .slice (some ⟨g, 0, none⟩) 56 cap ∧ Own w1 w0.heap.size 5 (.slice (some ⟨g, 0, none⟩) 56 cap) (encR x)) ∨ (rx = false ∧ er = 150 ∧ tv = .slice none 0 0)) := by
    rcases he with ⟨hr, g, cap, rfl, own⟩ | ⟨hr, rfl⟩
    · exact ⟨_, _, rfl, ⟨.inl ⟨hr, rfl, g, cap, rfl, own⟩⟩⟩
    · exact ⟨_, _, rfl, ⟨.inr ⟨hr, rfl, rfl⟩⟩⟩
  clear he hB hB0 F0 hE
  go_upto_if 26 with (first
    | ((with_reducible refine arm_row 25 (.tmp 2) ?_ ?_ w.heap.size ?_ 25 cx (0, 0) _ F1.out Try.underlying25 rfl hix.out ?_); rfl; rfl; rfl)
    | (go_at_call 6; refine (calls_box (hR.out _)).mono ?_))
  rintro e w2 ⟨⟨rfl, hB⟩⟩
  have b2 := Box.mk (b1.out.trans (hB.mono b1.out.size))
  have F2 := Box.mk ((hB.block _ (heap_lt F1.out)).trans F1.out)
  have b12 := Box.mk hB
  clear hB hR
  go_upto_if 26 with fail
  go_cut [4] (fun s W => s = .bool false ∧ Below w.heap.size w W)
  case first =>
    rcases ht.out with ⟨rfl, rfl, g, cap, rfl, own⟩ | ⟨rfl, rfl, rfl⟩
    · clear heqn HLB HNIL HLN HNC hb25
      have hrx := HRX.out
      have hB2 := b12.out
      have O2 := Box.mk (show Own w2 w.heap.size 5 (.slice (some ⟨g, 0, none⟩) 56 cap) (encR x) from own_low' (own_stay' own fun g hg => hB2.block g (ownsRow_lt own g (mem_obs.1 hg)).2) (Below.refl _ _) (by have := hw0.out; omega))
      have hgw := Box.mk (show w.heap.size < g by have := (ownsRow_lt own g rfl).1; have := hw0.out; omega)
      have hFT := Box.mk (own_facts' own)
      have hD := Box.mk (fun W hW => hDX.out g cap W hW hFT.out.2.2.1 hFT.out.2.2.2.1)
      rw [(hEB.out hrx).1, if_pos rfl, if_pos rfl, (hEB.out hrx).2, HCX.out] at hD
      have hE := Box.mk (hEY.out hrx)
      have hF := Box.mk (hEO.out hrx)
      have hne := Box.mk (turn_enc x)
      have hl2 := Box.mk (length_encR (turnR x))
      have hlx := Box.mk (length_encR x)
      clear ht own hDX hEY hEO hEB HRX hrx hB2 b12 b1 F1 hw0
      generalize encR (turnR x) = t2 at *
      generalize encR x = t at *
      go_wp2_with (go_at_call 7; refine (calls_box (hD.out _ (own_facts' O2.out).1)).mono ?_)
      rintro e w3 ⟨⟨rfl, hB⟩⟩
      have b3 := Box.mk (b2.out.trans (hB.mono b2.out.size))
      have F3 := Box.mk ((hB.block _ (heap_lt F2.out)).trans F2.out)
      have O3 := Box.mk (own_low' O2.out hB (Nat.le_refl _))
      clear hB hD b2 F2 O2
      go_wp2_with ((with_reducible refine arm_store_row' 25 (.tmp 7) (.tmp 30) ?_ rfl w3.heap.size (recC noRec).toArray cx 25 ?_ ?_ ?_ hsx.out hix.out hax.out ?_); rfl; rfl; rfl; exact heap_new rfl)
      intro w4 g4 G4
      have hB := (Below.refl_alloc w3 (.cells (recC noRec).toArray 25)).grown G4 (by simp) (fun k hk => by cases hk; omega)
      have b4 := Box.mk (b3.out.trans (hB.mono b3.out.size))
      have F4 := Box.mk ((hB.block _ (heap_lt F3.out)).trans F3.out)
      have O4 := Box.mk (own_low' O3.out hB (Nat.le_refl _))
      clear hB G4 b3 F3 O3
      go_upto_region 6 with (first
        | ((with_reducible refine arm_row 25 (.tmp 7) ?_ ?_ w3.heap.size ?_ 25 cx (0, 0) _ g4.out Try.underlying25 rfl hix.out ?_); rfl; rfl; rfl)
        | ((with_reducible refine arm_row 25 (.tmp 2) ?_ ?_ w.heap.size ?_ 25 cx (0, 0) _ F4.out Try.underlying25 rfl hix.out ?_); rfl; rfl; rfl)
        | ((with_reducible refine arm_neq 25 25 (.tmp 39) (.tmp 40) ?_ ?_ cx cx false ?_ ?_ hmE.out heqx.out ?_); rfl; rfl; rfl; rfl))
      go_upto_region 7 with ((with_reducible refine arm_built J.KT [] ?_ ?_ [] ?_ #[.slice none 0 0, .slice none 0 0] hbK.out ?_); rfl; rfl; rfl)
      have b45 := Below.refl_alloc w4 (.cells #[.slice none 0 0, .slice none 0 0] J.KT)
      have b5 := Box.mk (b4.out.trans (b45.mono b4.out.size))
      have F5 := Box.mk ((b45.block _ (heap_lt F4.out)).trans F4.out)
      have O5 := Box.mk (own_low' O4.out b45 (Nat.le_refl _))
      have hp4 := Box.mk (show g < w4.heap.size ∧ w.heap.size < w4.heap.size from ⟨(ownsRow_lt O4.out g rfl).2, heap_lt F4.out⟩)
      have K5 := Box.mk (show J.KInv w (w4.alloc (.cells #[.slice none 0 0, .slice none 0 0] J.KT)) w.heap.size w4.heap.size 0 (obs (.slice (some ⟨g, 0, none⟩) 56 cap) ++ [w.heap.size]) from
        J.KInv.new (heap_new rfl) (by have := hp4.out; omega) b5.out (by show [g, w.heap.size].Nodup; have := hgw.out; simp; omega)
          (fun q hq => by
            have h1 := hp4.out
            have h2 := b45.size
            rcases (show q = g ∨ q = w.heap.size by simpa [obs, Value.ownBlock] using hq) with rfl | rfl <;> omega)
          (by show w4.heap.size ∉ [g, w.heap.size]; have := hp4.out; simp; omega))
      obtain ⟨p, hp⟩ : ∃ z, w4.heap.size = z := ⟨_, rfl⟩
      rw [hp] at K5 ⊢
      generalize w4.alloc (.cells #[.slice none 0 0, .slice none 0 0] J.KT) = w5 at *
      clear b45 b4 F4 O4 hp4 hp g4 hbK heqx hmE hsx hgw
      have hk := Box.mk (keep_first K5.out O5.out (by have := hlx.out; omega) (by omega))
      go_upto_region 8 with (go_at_call 8; refine (calls_box hk.out).mono ?_)
      rintro e w6 ⟨⟨rfl, hK, hF, hsz⟩⟩
      have K6 := Box.mk hK
      have F6 := Box.mk ((hF _ (by simp)).trans F5.out)
      have b6 := Box.mk (K6.out.bel)
      clear hk hK hF hsz K5 O5 F5 b5
      have hsx := hss noRec x
      rw [HCX.out] at hsx
      go_upto_region 9 with (first
        | ((with_reducible refine arm_row 25 (.tmp 2) ?_ ?_ w.heap.size ?_ 25 cx (0, 0) _ F6.out Try.underlying25 rfl hix.out ?_); rfl; rfl; rfl)
        | ((with_reducible refine arm_store_row' 25 (.tmp 10) (.tmp 53) ?_ rfl w6.heap.size (recC noRec).toArray cx 25 ?_ ?_ ?_ hsx.out hix.out hax.out ?_); rfl; rfl; rfl; exact heap_new rfl))
      intro w7 g7 G7
      obtain ⟨ob, hob⟩ : ∃ z, w6.heap.size = z := ⟨_, rfl⟩
      have hB := (Below.refl_alloc w6 (.cells (recC noRec).toArray 25)).grown G7 (by simp) (fun k hk => by cases hk; omega)
      have F7 := Box.mk ((hB.block _ (heap_lt F6.out)).trans F6.out)
      have O7 := Box.mk (show w7.heap[w6.heap.size]? = some (.cells cx 25 (0, 0)) from g7.out)
      have K7 := Box.mk (K6.out.blk hB O7.out (Nat.le_refl _))
      have hobw := Box.mk (show w.heap.size < ob by rw [← hob]; exact heap_lt F6.out)
      rw [hob] at O7 K7 ⊢
      clear hB g7 G7 K6 F6 b6 hob hsx
      have c7 : w7.cell? ⟨ob, 37, none⟩ = some (.int .u8 ((lastB x).toNat : Int)) := by rw [cell_of_row _ _ 37 _ _ _ O7.out]; exact hcl.out
      have hf7 := Box.mk (show w7.frozen? ⟨ob, 37, none⟩ = false from rec_frozen O7.out)
      go_upto_region 10 with ((with_reducible refine wpList_store_int rfl 5 (.tmp 59) (.tmp 57) ?_ ⟨ob, 37, none⟩ (.int .u8 (bits .xor .u8 ((lastB x).toNat : Int) 1)) ?_ ?_ ⟨_, _, rfl⟩ hi8.out ⟨_, c7⟩ hf7.out ?_); rfl; rfl; rfl)
      have G8 := grownBy_setC w7 ⟨ob, 37, none⟩ (.int .u8 (bits .xor .u8 ((lastB x).toNat : Int) 1))
      have O8 := Box.mk (show (w7.setCell ⟨ob, 37, none⟩ (.int .u8 (bits .xor .u8 ((lastB x).toNat : Int) 1))).heap[ob]? = some (.cells (recC (turnR x)).toArray 25 (0, 0)) from
        set_rec (U := w7) (k := 37) (x := x) (by rw [HCX.out]; exact O7.out) (by rw [xor1']; exact hct.out))
      have F8 := Box.mk ((G8.block w.heap.size (heap_lt F7.out) (by intro e; have h1 : w.heap.size = ob := (Option.some.inj e); have := hobw.out; omega)).trans F7.out)
      have K8 := Box.mk (K7.out.wrote (Grew.of G8 (F := [ob]) fun g hg => by cases hg; simp) fun g hg => by
        obtain rfl : g = ob := by simpa using hg
        exact ⟨by simp, by have := hobw.out; omega⟩)
      generalize w7.setCell ⟨ob, 37, none⟩ (.int .u8 (bits .xor .u8 ((lastB x).toNat : Int) 1)) = w8 at *
      have hiy := hiN (turnR x)
      generalize (recC (turnR x)).toArray = cy at *
      clear G8 O7 F7 K7 c7 hf7 hcl hct hi8 hobw hax
      go_wp2
      go_loopw [4, 11, 12, 13, 14, 15] (fun v4 i v12 v13 v14 v15 wr => ∃ k : Nat, k ≤ 4 ∧ v4 = .bool false ∧ i = .int .i64 k ∧ Box (KHold w wr w.heap.size p (2 * k + 1) [ob, w.heap.size] (.slice (some ⟨g, 0, none⟩) 56 cap) t) ∧ Box (wr.heap[w.heap.size]? = some (.cells cx 25 (0, 0))) ∧ Box (wr.heap[ob]? = some (.cells cy 25 (0, 0)))) (fun v4 i v12 v13 v14 v15 _ => 4 - (intOf i).toNat)
      case atStart => exact ⟨0, Nat.zero_le _, rfl, rfl, K8, F8, O8⟩
      clear K8 F8 O8
      case round =>
        obtain ⟨k, hk4, rfl, rfl, HK, HX, HO⟩ := hrel
        by_cases hj : k < 4
        · go_upto_region 14 with (first
            | ((with_reducible refine arm_row 25 (.tmp 2) ?_ ?_ w.heap.size ?_ 25 cx (0, 0) _ HX.out Try.underlying25 rfl hix.out ?_); rfl; rfl; rfl)
            | (go_at_call 5; refine (calls_box (hE.out _)).mono ?_))
          rintro e wA ⟨⟨⟨gA, cA, rfl, ownA⟩, hB⟩⟩
          have KA := Box.mk (HK.out.own hB ownA)
          have XA := Box.mk ((hB.block _ (heap_lt HX.out)).trans HX.out)
          have OA := Box.mk ((hB.block _ (heap_lt HO.out)).trans HO.out)
          have TA := Box.mk (show Own wA w.heap.size 5 (.slice (some ⟨gA, 0, none⟩) 56 cA) t from own_low' (b2 := wr.heap.size) (own_stay' ownA fun _ _ => rfl) (Below.refl _ _) (by have := HK.out.bel.size; exact this))
          clear hB ownA HK HX HO
          go_upto_region 15 with (first
            | ((with_reducible refine arm_row 25 (.tmp 10) ?_ ?_ ob ?_ 25 cy (0, 0) _ OA.out Try.underlying25 rfl hiy.out ?_); rfl; rfl; rfl)
            | (go_at_call 5; refine (calls_box (hF.out _)).mono ?_))
          rintro e wB ⟨⟨⟨gB, cB, rfl, ownB⟩, hB⟩⟩
          have KB := Box.mk ((KA.out.own hB ownB).perm (List.perm_append_comm_assoc _ _ _))
          have XB := Box.mk ((hB.block _ (heap_lt XA.out)).trans XA.out)
          have OB := Box.mk ((hB.block _ (heap_lt OA.out)).trans OA.out)
          have TB := Box.mk (own_low' TA.out hB (Nat.le_refl _))
          have UB := Box.mk (show Own wB w.heap.size 5 (.slice (some ⟨gB, 0, none⟩) 56 cB) t2 from J.own_lower ownB (by have := KA.out.bel.size; exact this))
          clear hB ownB KA XA OA TA
          have hS1 := Box.mk (J.sameBytes_any (some ⟨gA, 0, none⟩) (some ⟨g, 0, none⟩) 56 cA 56 cap t t wB (own_facts' TB.out).1 (own_facts' KB.out.held).1 (by unfold maxLen; omega) (by unfold maxLen; omega))
          rw [eqB_true rfl] at hS1
          have hS2 := Box.mk (fun q => J.sameBytes_any (some ⟨gB, 0, none⟩) (some ⟨g, 0, none⟩) 56 cB 56 cap t2 t (wB.drewN q) ((own_facts' UB.out).1.drewN q) ((own_facts' KB.out.held).1.drewN q) (by unfold maxLen; omega) (by unfold maxLen; omega))
          rw [hne.out] at hS2
          go_upto_region 17 with (go_at_call 9; refine (calls_box hS1.out).mono ?_)
          rintro e wq ⟨⟨rfl, q1, rfl⟩⟩
          go_upto_region 17 with (go_at_call 9; refine (calls_box (hS2.out _)).mono ?_)
          rintro e wq ⟨⟨rfl, q2, rfl⟩⟩
          go_upto_region 17 with fail
          have hBq : Below wB.heap.size wB (wB.drewN (q1 + q2)) := J.below_drewN2 (Below.refl _ _) _
          have KQ := Box.mk (KB.out.low hBq)
          have XQ := Box.mk ((hBq.block _ (heap_lt XB.out)).trans XB.out)
          have OQ := Box.mk ((hBq.block _ (heap_lt OB.out)).trans OB.out)
          have TQ := Box.mk (own_low' TB.out hBq (Nat.le_refl _))
          have UQ := Box.mk (own_low' UB.out hBq (Nat.le_refl _))
          clear hBq KB XB OB TB UB hS1 hS2
          generalize wB.drewN (q1 + q2) = wq at *
          have hk := Box.mk (keep_next KQ.out TQ.out (by have := hlx.out; omega) (by omega))
          go_upto_region 18 with (go_at_call 8; refine (calls_box hk.out).mono ?_)
          rintro e wC ⟨⟨rfl, hK, hF', hsz⟩⟩
          have KC := Box.mk hK
          have XC := Box.mk ((hF' _ (by simp)).trans XQ.out)
          have OC := Box.mk ((hF' _ (by simp)).trans OQ.out)
          have UC := Box.mk (own_stay' UQ.out fun g hg => hF' g (by simp only [List.mem_append]; simp [hg]))
          clear hk hK hF' hsz KQ XQ OQ TQ UQ
          have hk := Box.mk (keep_next KC.out UC.out (by have := hl2.out; omega) (by omega))
          go_wp2_with (go_at_call 8; refine (calls_box hk.out).mono ?_)
          rintro e wD ⟨⟨rfl, hK, hF', hsz⟩⟩
          have KD := Box.mk (hK.mono (m' := 2 * (k + 1) + 1) (by omega))
          have XD := Box.mk ((hF' _ (by simp)).trans XC.out)
          have OD := Box.mk ((hF' _ (by simp)).trans OC.out)
          clear hk hK hF' hsz KC XC OC UC
          go_wp2
          go_roundw
          case rel => exact ⟨k + 1, by omega, rfl, by go_num, KD, XD, OD⟩
          case measure => simp [intOf]; omega
        · obtain rfl : k = 4 := by omega
          have hU := Box.mk (J.untouched_inv HK.out.inv (by omega))
          go_wp2_with (go_at_call 10; refine (calls_box hU.out).mono ?_)
          rintro e wA ⟨⟨rfl, hK⟩⟩
          have hA := Box.mk (J.apart_inv hK (by omega))
          clear hK hU
          go_wp2_with (go_at_call 11; refine (calls_box hA.out).mono ?_)
          rintro e wB ⟨⟨rfl, hB⟩⟩
          go_wp2
          go_meet
          exact ⟨rfl, hB⟩
    · clear heqn heqx hb25 HLB HNIL HLN HNC hDX hEY hEO hEB hcl hct HCX ht
      go_wp2
      go_meet
      exact ⟨rfl, b2.out⟩
  obtain ⟨rfl, hbc⟩ := hcut
  have bc := Box.mk hbc
  have hD := Box.mk (idec_any ao n c l wc (HLB.out wc hbc) HNIL.out HNC.out.1 HNC.out.2.1)
  clear hbc ht b1 F1 hw0 b2 F2 b12 hcl hct hDX hEY hEO hEB heqx HCX HRX hsx hax hix hbK HNIL
  cases hok : decRok l
  · rw [hok, if_neg (by decide), if_neg (by decide)] at hD
    clear hok HLB
    generalize (recC noRec).toArray = zn at *
    go_wp2_with (go_at_call 7; refine (calls_box hD.out).mono ?_)
    rintro e w3 ⟨⟨rfl, hB⟩⟩
    have b3 := Box.mk (bc.out.trans (hB.mono bc.out.size))
    clear hB hD bc
    go_wp2_with ((with_reducible refine arm_store_row' 25 (.tmp 16) (.tmp 115) ?_ rfl w3.heap.size zn zn 25 ?_ ?_ ?_ rfl hin.out han.out ?_); rfl; rfl; rfl; exact heap_new rfl)
    intro w4 g4 G4
    have hB := (Below.refl_alloc w3 (.cells zn 25)).grown G4 (by simp) (fun k hk => by cases hk; omega)
    have b4 := Box.mk (b3.out.trans (hB.mono b3.out.size))
    clear hB G4 b3
    go_wp2_with (first
      | ((with_reducible refine arm_row 25 (.tmp 16) ?_ ?_ w3.heap.size ?_ 25 zn (0, 0) _ g4.out Try.underlying25 rfl hin.out ?_); rfl; rfl; rfl)
      | ((with_reducible refine arm_built 25 [] ?_ ?_ [] ?_ zn hb25.out ?_); rfl; rfl; rfl)
      | ((with_reducible refine arm_eql 25 25 (.tmp 119) (.tmp 120) ?_ ?_ zn zn true ?_ ?_ hmE.out heqn.out ?_); rfl; rfl; rfl; rfl))
    go_ret
    exact ⟨rfl, b4.out⟩
  · have hok2 : l.length = 56 ∧ rightR (decR l) = true := by
      unfold decRok at hok
      simpa using hok
    obtain rfl : n = 56 := HLN.out.symm.trans hok2.1
    have hE := Box.mk (fun W => ienc_yes (decR l) hok2.2 W)
    rw [encR_decR l hok2.1] at hE
    have hR := Box.mk (fun W => lright_any (decR l) W)
    rw [hok2.2] at hR
    rw [hok, if_pos rfl, if_pos rfl] at hD
    have hsy := hss noRec (decR l)
    have hiy := hiN (decR l)
    have hay := hal (decR l)
    generalize (recC (decR l)).toArray = cy at *
    clear hok hok2 hss hiN hal
    go_wp2_with (go_at_call 7; refine (calls_box hD.out).mono ?_)
    rintro e w3 ⟨⟨rfl, hB⟩⟩
    have b3 := Box.mk (bc.out.trans (hB.mono bc.out.size))
    clear hB hD bc
    go_wp2_with ((with_reducible refine arm_store_row' 25 (.tmp 16) (.tmp 115) ?_ rfl w3.heap.size (recC noRec).toArray cy 25 ?_ ?_ ?_ hsy.out hiy.out hay.out ?_); rfl; rfl; rfl; exact heap_new rfl)
    intro w4 g4 G4
    have hB := (Below.refl_alloc w3 (.cells (recC noRec).toArray 25)).grown G4 (by simp) (fun k hk => by cases hk; omega)
    have b4 := Box.mk (b3.out.trans (hB.mono b3.out.size))
    have F4 := Box.mk (show w4.heap[w3.heap.size]? = some (.cells cy 25 (0, 0)) from g4.out)
    clear hB G4 b3 g4
    go_upto_region 27 with (first
      | ((with_reducible refine arm_row 25 (.tmp 16) ?_ ?_ w3.heap.size ?_ 25 cy (0, 0) _ F4.out Try.underlying25 rfl hiy.out ?_); rfl; rfl; rfl)
      | (go_at_call 5; refine (calls_box (hE.out _)).mono ?_))
    rintro e w5 ⟨⟨⟨g, cap, rfl, own⟩, hB⟩⟩
    have b5 := Box.mk (b4.out.trans (hB.mono b4.out.size))
    have F5 := Box.mk ((hB.block _ (heap_lt F4.out)).trans F4.out)
    have O5 := Box.mk ((own_facts' own).1)
    clear hB own hE b4 F4
    go_wp2_with (first
      | ((with_reducible refine arm_row 25 (.tmp 16) ?_ ?_ w3.heap.size ?_ 25 cy (0, 0) _ F5.out Try.underlying25 rfl hiy.out ?_); rfl; rfl; rfl)
      | (go_at_call 6; refine (calls_box (hR.out _)).mono ?_))
    rintro e w6 ⟨⟨rfl, hB⟩⟩
    have b6 := Box.mk (b5.out.trans (hB.mono b5.out.size))
    have hS := Box.mk (J.sameBytes_any (some ⟨g, 0, none⟩) ao 56 cap 56 c l l w6 (O5.out.old hB) (HLB.out w6 b6.out) (by unfold maxLen; omega) (by unfold maxLen; omega))
    rw [eqB_true rfl] at hS
    clear hB hR F5 b5 O5 HLB
    go_wp2_with (go_at_call 9; refine (calls_box hS.out).mono ?_)
    rintro e w7 ⟨⟨rfl, q, rfl⟩⟩
    go_wp2
    go_ret
    exact ⟨rfl, J.below_drewN2 b6.out q⟩
end Go.Proofs.Ytocfiabbhcgegaa
