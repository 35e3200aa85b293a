/- Texts joined: KeepF. -/
import Derived.Test.YtehnnnohoaapdaaFF20
import Derived.Test.YtehnnnohoaapdaaFF10
import Derived.Test.YtehnnnohoaapdaaFF01
/- A keeper of lists: the walk of apart. -/
namespace Go.Proofs.Ytehnnnohoaapdaa
set_option linter.unusedSectionVars false
set_option linter.unusedSimpArgs false
open Go Go.RowKit
set_option linter.unusedVariables false
def markSt (D : Nat → List UInt8) (i k : Nat) (j : Nat) : List UInt8 := if j < i then marksL j (D j).length else if j = i then marksL i k ++ (D i).drop k else D j
theorem markSt_0 (D : Nat → List UInt8) (j : Nat) : markSt D 0 0 j = D j := by
  unfold markSt
  by_cases h : j = 0
  · subst h; simp [marksL]
  · simp [h]
theorem markSt_next (D : Nat → List UInt8) (i j : Nat) : markSt D i (D i).length j = markSt D (i + 1) 0 j := by
  unfold markSt
  rcases Nat.lt_trichotomy j i with h | h | h
  · rw [if_pos h, if_pos (by omega)]
  · subst h; rw [if_neg (by omega), if_pos rfl, if_pos (by omega)]; simp
  · rw [if_neg (by omega), if_neg (by omega), if_neg (by omega)]
    by_cases h2 : j = i + 1
    · subst h2; rw [if_pos rfl]; simp [marksL]
    · rw [if_neg h2]
theorem markSt_at (D : Nat → List UInt8) (i k : Nat) : markSt D i k i = marksL i k ++ (D i).drop k := by unfold markSt; rw [if_neg (by omega), if_pos rfl]
theorem markSt_else (D : Nat → List UInt8) (i k k' j : Nat) (h : j ≠ i) : markSt D i k j = markSt D i k' j := by unfold markSt; rw [if_neg h, if_neg h]
theorem markSt_len (D : Nat → List UInt8) (i k j : Nat) (hk : k ≤ (D i).length) : (markSt D i k j).length = (D j).length := by
  unfold markSt
  split
  · exact length_marksL _ _
  · split
    · rename_i h; subst h; rw [List.length_append, length_marksL, List.length_drop]; omega
    · rfl
set_option maxRecDepth 100000 in
set_option maxHeartbeats 8000000 in
theorem apart_any (base p : Nat) (aL : Option Addr) (n cL : Nat) (V : Nat → Value) (D : Nat → List UInt8) (w : World) (F : List Nat) (hF : ∀ i, i < n → ∀ g, (V i).ownBlock = some g → g ∈ F) (hb : base ≤ p) (hk : Lists 22 5 w base p aL n cL V D) (hD : ∀ i, i < n → (D i).length ≤ 140737488351400) (hn : n ≤ 1099511627776) :
    Calls Try.prog 34 #[.pointer (some ⟨p, 0, none⟩)] w fun e w' => e = .returned (.bool true) ∧ Grew w w' F := by
  have HF := Box.mk hF
  clear hF
  have HK := Box.mk (hk.congr (C' := markSt D 0 0) fun i _ => (markSt_0 D i).symm)
  have HD := Box.mk hD
  have hlow := Box.mk (fun i (hi : i < n) g hg => (ownsRow_lt (hk.own i hi) g hg).1)
  have hi5 : Box ((Try.prog.info? 5).map (·.size) = some 1) := ⟨by kernel_rfl⟩
  have hps := Box.mk (show p < w.heap.size from block_lt_of_cell hk.cp)
  have hbw := Box.mk (show base ≤ w.heap.size by have := hps.out; omega)
  clear hk hD
  go_enter Try.func34, Try.ntmps34
  go_wp2
  go_loopw [3, 4] (fun i t4 wr => ∃ k : Nat, k ≤ n ∧ i = .int .i64 k ∧ Box (Lists 22 5 wr base p aL n cL V (markSt D k 0)) ∧ Box (Grew w wr F)) (fun i _ _ => n - (intOf i).toNat)
  case atStart => exact ⟨0, Nat.zero_le _, rfl, HK, ⟨Grew.refl w F⟩⟩
  clear HK
  case round =>
    obtain ⟨i, hi, rfl, HK, HB⟩ := hrel
    have c0 := HK.out.cp
    by_cases hlt : i < n
    · obtain ⟨gL, rfl, e1⟩ := HK.out.rd i hlt
      have hib := Box.mk (show i ≤ 140737488355328 by omega)
      have i0 : (0 : Int) ≤ (i : Int) := by omega
      have i1 : (i : Int) < (n : Int) := by omega
      obtain ⟨a1, m1, b1, l1, hx, _, hm1, _⟩ := ent_shape (x := (V i, markSt D i 0 i)) (HK.out.own i hlt)
      have hVi : V i = .slice a1 m1 b1 := congrArg Prod.fst hx
      have hml : (D i).length = m1 := by
        have := congrArg (fun x : Ent => x.2.length) hx
        simp only [markSt_len D i 0 i (Nat.zero_le _), hm1] at this
        exact this
      have HV := Box.mk hVi
      have HM := Box.mk hml
      have hmb := Box.mk (show m1 ≤ 140737488351400 by rw [← hml]; exact HD.out i hlt)
      rw [hVi] at e1
      clear hx hVi hml hm1
      go_wp2
      clear e1 c0
      obtain ⟨wz, hwz⟩ : ∃ y, y = wr := ⟨_, rfl⟩
      subst hwz
      go_loopw [4] (fun i2 wr => ∃ k : Nat, k ≤ m1 ∧ i2 = .int .i64 k ∧ Box (Lists 22 5 wr base p (some ⟨gL, 0, none⟩) n cL V (markSt D i k)) ∧ Box (Grew w wr F)) (fun i2 _ => m1 - (intOf i2).toNat)
      case atStart => exact ⟨0, Nat.zero_le _, rfl, HK, HB⟩
      clear HK HB
      case round =>
        obtain ⟨k, hk, rfl, HK, HB⟩ := hrel
        have c0 := HK.out.cp
        obtain ⟨gL', hgL', e1⟩ := HK.out.rd i hlt
        cases hgL'
        rw [HV.out] at e1
        by_cases hkt : k < m1
        · have O1 := Box.mk (show Own wr base 5 (.slice a1 m1 b1) (marksL i k ++ (D i).drop k) by have := HK.out.own i hlt; rwa [HV.out, markSt_at] at this)
          have ha1 : ∃ g1, a1 = some ⟨g1, 0, none⟩ := by
            obtain ⟨hl, ⟨hv, _⟩ | ⟨g, c2, cur, hv, _⟩⟩ := O1.out
            · have := Value.slice.inj hv; omega
            · have := Value.slice.inj hv; exact ⟨g, this.1⟩
          obtain ⟨g1, rfl⟩ := ha1
          have hs := Box.mk (marks_set i k (D i) (by rw [HM.out]; exact hkt))
          have hll := Box.mk (show k < (marksL i k ++ (D i).drop k).length by rw [List.length_append, length_marksL, List.length_drop]; have := HM.out; omega)
          have hmk := Box.mk (fun x => mark_any i k hib.out (by have := hmb.out; omega) x)
          have dpi := Box.mk (HK.out.dp i hlt g1 (by rw [HV.out]; rfl))
          generalize markB i k = u at *
          have k0 : (0 : Int) ≤ (k : Int) := by omega
          have k1 : (k : Int) < (m1 : Int) := by omega
          have C0 := Box.mk c0
          have E1 := Box.mk e1
          have KD := Box.mk (HK.out.drewN 1)
          have OD := Box.mk (show Own (wr.drewN 1) base 5 (.slice (some ⟨g1, 0, none⟩) m1 b1) (marksL i k ++ (D i).drop k) from ownsRow_same O1.out fun _ _ => rfl)
          have BD := Box.mk (show Grew w (wr.drewN 1) F from ⟨HB.out.os, HB.out.tape, HB.out.output, HB.out.size, HB.out.block⟩)
          clear HK O1
          go_wp2_with fail
          refine held_begin (fun W => W.cell? ⟨p, 0, none⟩ = some (.slice (some ⟨gL, 0, none⟩) n cL) ∧ W.cell? ⟨gL, i, none⟩ = some (.slice (some ⟨g1, 0, none⟩) m1 b1)) (by kernel_rfl) ⟨C0.out, E1.out⟩ (fun hH0 => ?_)
          refine held_take 0 (.pointer (some ⟨p, 0, none⟩)) rfl (by kernel_rfl) (by kernel_rfl) (by kernel_rfl) (held_move (by rfl) (.tmp 0) rfl rfl) (by assumption) ?_
          try simp only [Act.put, z1, z2, z3]
          refine held_take 1 (.pointer (some ⟨p, 0, none⟩)) rfl (by kernel_rfl) (by kernel_rfl) (by kernel_rfl) (held_pure (by rfl) (fun W => by go_simp)) (by assumption) ?_
          try simp only [Act.put, z1, z2, z3]
          refine held_take 2 (.pointer (some ⟨p, 0, none⟩)) rfl (by kernel_rfl) (by kernel_rfl) (by kernel_rfl) (held_pure (by rfl) (fun W => by go_simp)) (by assumption) ?_
          try simp only [Act.put, z1, z2, z3]
          refine held_take 3 (.slice (some ⟨gL, 0, none⟩) n cL) rfl (by kernel_rfl) (by kernel_rfl) (by kernel_rfl) (Or.inl ⟨by rfl, fun W hS => by have hc' := hS.1; go_simp⟩) (by assumption) ?_
          try simp only [Act.put, z1, z2, z3]
          refine held_take 4 (.int .i64 i) rfl (by kernel_rfl) (by kernel_rfl) (by kernel_rfl) (held_move (by rfl) (.tmp 3) rfl rfl) (by assumption) ?_
          try simp only [Act.put, z1, z2, z3]
          refine held_take 5 (.pointer (some ⟨gL, i, none⟩)) rfl (by kernel_rfl) (by kernel_rfl) (by kernel_rfl) (held_pure (by rfl) (fun W => by go_simp)) (by assumption) ?_
          try simp only [Act.put, z1, z2, z3]
          refine held_take 6 (.slice (some ⟨g1, 0, none⟩) m1 b1) rfl (by kernel_rfl) (by kernel_rfl) (by kernel_rfl) (Or.inl ⟨by rfl, fun W hS => by have hc' := hS.2; go_simp⟩) (by assumption) ?_
          try simp only [Act.put, z1, z2, z3]
          refine held_take 7 (.int .i64 k) rfl (by kernel_rfl) (by kernel_rfl) (by kernel_rfl) (held_move (by rfl) (.tmp 4) rfl rfl) (by assumption) ?_
          try simp only [Act.put, z1, z2, z3]
          refine held_take 8 (.int .i64 i) rfl (by kernel_rfl) (by kernel_rfl) (by kernel_rfl) (held_move (by rfl) (.tmp 3) rfl rfl) (by assumption) ?_
          try simp only [Act.put, z1, z2, z3]
          refine held_take 9 (.int .i64 k) rfl (by kernel_rfl) (by kernel_rfl) (by kernel_rfl) (held_move (by rfl) (.tmp 4) rfl rfl) (by assumption) ?_
          try simp only [Act.put, z1, z2, z3]
          refine held_step 10 (by kernel_rfl) rfl (by rfl) (fun K hK => ?_)
          go_simp
          refine (calls_box (hmk.out _)).mono ?_
          rintro e w4 ⟨⟨rfl, rfl⟩⟩
          dsimp only
          refine hK.out _ _ hH0 (fun hH1 => ?_)
          clear hK K
          try simp only [Act.put, z1, z2, z3]
          refine held_take 11 (.pointer (some ⟨g1, k, none⟩)) rfl (by kernel_rfl) (by kernel_rfl) (by kernel_rfl) (held_pure (by rfl) (fun W => by go_simp)) (by assumption) ?_
          try simp only [Act.put, z1, z2, z3]
          refine held_step 12 (by kernel_rfl) rfl (by rfl) (fun K hK => ?_)
          refine oper_of_list rfl ?_
          refine arm_store_own 5 (.tmp 41) (.tmp 40) rfl rfl g1 m1 b1 k base rfl u rfl hi5.out (marksL i k ++ (D i).drop k) OD.out hll.out ?_
          intro w5 own5 G5
          refine ⟨rfl, ?_⟩
          refine hK.out _ _ ⟨cell_kept hH0.1 (G5.block p (block_lt_of_cell hH0.1) fun e => dpi.out.1 (Option.some.inj e).symm), cell_kept hH0.2 (G5.block gL (block_lt_of_cell hH0.2) fun e => dpi.out.2 gL rfl (Option.some.inj e))⟩ (fun hH2 => ?_)
          clear hK K
          try simp only [Act.put]
          refine held_done (by kernel_rfl) ?_ _
          have K5 := Box.mk (KD.out.upd (w' := w5) (C' := markSt D i (k + 1)) i hlt (marksL i (k + 1) ++ (D i).drop (k + 1)) (by rw [HV.out]; exact G5) (by rw [HV.out, ← hs.out]; exact own5) (fun j hj hne => markSt_else D i (k + 1) k j hne) (markSt_at D i (k + 1)))
          have B5 := Box.mk (Grew.trans (F' := [g1]) BD.out (Grew.of G5 (fun g hg => by cases hg; exact List.mem_singleton_self _)) (fun g hg => by rw [List.mem_singleton] at hg; subst hg; exact .inl (HF.out i hlt g (by rw [HV.out]; rfl))))
          have hk1 := IntWalk.i64_in ((k : Int) + 1) (by have := hmb.out; omega)
          clear own5 G5 hH0 hH1 hH2 KD OD BD C0 E1 c0 e1
          go_wp2
          go_roundw
          case rel => exact ⟨k + 1, by omega, by go_num, K5, B5⟩
          case measure => simp [intOf]; omega
        · have K6 := Box.mk (HK.out.congr (C' := markSt D (i + 1) 0) fun j _ => by
            rw [← markSt_next]
            rw [show k = (D i).length by have := HM.out; omega])
          clear HK
          go_wp2
          go_roundw
          case rel => exact ⟨i + 1, by omega, by go_num, K6, HB⟩
          case measure => simp [intOf]; omega
    · obtain rfl : n = i := by omega
      have K0 := HK.out.congr (C' := fun j => marksL j (D j).length) fun j hj => by unfold markSt; rw [if_pos hj]
      have sh := Box.mk (fun j (hj : j < n) => ent_shape (x := (V j, marksL j (D j).length)) (K0.own j hj))
      have mk0 := Box.mk (show MarkedAt wr aL n from fun j hj => by
        obtain ⟨g, hg, hc⟩ := K0.rd j hj
        obtain ⟨a, m, c, l, hx, hr, hm, _⟩ := sh.out j hj
        have h1 : V j = .slice a m c := congrArg Prod.fst hx
        have h2 : marksL j (D j).length = l := congrArg Prod.snd hx
        have h3 : (D j).length = m := by rw [← hm, ← h2, length_marksL]
        refine ⟨g, hg, a, m, c, by rw [hc, h1], ?_, ?_⟩
        · rw [← h2, h3] at hr; exact hr
        · have := HD.out j hj; omega)
      have hmd := Box.mk (marked_any aL n cL wr mk0.out hn)
      have KK := Box.mk K0
      clear HK K0 mk0
      go_wp2_with (go_at_call 54; refine (calls_box hmd.out).mono ?_)
      rintro e w6 ⟨⟨rfl, q6, rfl⟩⟩
      have K6 := Box.mk (KK.out.drewN q6)
      have B6 := Box.mk (show Grew w (wr.drewN q6) F from ⟨HB.out.os, HB.out.tape, HB.out.output, HB.out.size, HB.out.block⟩)
      clear KK HB hmd c0
      generalize wr.drewN q6 = w7 at *
      have FX := Box.mk (show Fixed w7.heap.size p aL n V (fun j => (D j).length) from ⟨fun j hj => by
          obtain ⟨a, m, c, l, hx, hr, hm, _⟩ := sh.out j hj
          have h1 : V j = .slice a m c := congrArg Prod.fst hx
          have h2 : marksL j (D j).length = l := congrArg Prod.snd hx
          have h3 : (D j).length = m := by rw [← hm, ← h2, length_marksL]
          rw [h1, h3]; rfl,
        fun j hj g hg => ⟨(ownsRow_lt (K6.out.own j hj) g hg).2, (K6.out.dp j hj g hg).1, (K6.out.dp j hj g hg).2⟩, K6.out.dd, block_lt_of_cell K6.out.cp,
        fun gL hgL hn0 => by
          obtain ⟨g, hg, hc⟩ := K6.out.rd 0 hn0
          rw [hg] at hgL
          cases hgL
          exact block_lt_of_cell hc⟩)
      have G0 := Box.mk (show Grown 22 5 w w7 base F w7.heap.size p aL n cL V (fun j => (D j).length) 0 (.slice none 0 0) (fun _ => none) (fun _ => 0) from
        ⟨B6.out, Nat.le_refl _, K6.out.cp, K6.out.rd, fun j _ hj => K6.out.own j hj, fun j hj => absurd hj (by omega), fun j hj => absurd hj (by omega), fun j hj => absurd hj (by omega), ⟨rfl, .inl ⟨rfl, rfl⟩⟩⟩)
      have HM := Box.mk (show ∀ j, j < n → (fun j => (D j).length) j ≤ 140737488351400 from fun j hj => HD.out j hj)
      obtain ⟨S0, hS0⟩ : ∃ S0, w7.heap.size = S0 := ⟨_, rfl⟩
      rw [hS0] at FX G0
      have hbS := Box.mk (show w.heap.size ≤ S0 by rw [← hS0]; exact B6.out.size)
      clear K6 B6 sh HD hS0
      generalize (fun j => (D j).length) = M at *
      go_wp2
      go_loopw [5, 6, 7, 8] (fun vG i t7 t8 wr => ∃ (k : Nat) (ga : Nat → Option Addr) (gc : Nat → Nat), k ≤ n ∧ i = .int .i64 k ∧ Box (Grown 22 5 w wr base F S0 p aL n cL V M k vG ga gc)) (fun _ i _ _ _ => n - (intOf i).toNat)
      case atStart => exact ⟨0, _, _, Nat.zero_le _, rfl, G0⟩
      clear G0
      case round =>
        obtain ⟨k, ga, gc, hk, rfl, HG⟩ := hrel
        obtain ⟨aG, nG, cG, rfl, hnG⟩ := HG.out.ownG.sl
        have c0 := HG.out.cp
        by_cases hlt : k < n
        · obtain ⟨gL, rfl, e1⟩ := HG.out.rd k hlt
          have hsh := FX.out.sh k hlt
          obtain ⟨aK, haK⟩ : ∃ x, adr (V k) = x := ⟨_, rfl⟩
          obtain ⟨mK, hmK⟩ : ∃ x, M k = x := ⟨_, rfl⟩
          obtain ⟨cK, hcK⟩ : ∃ x, room (V k) = x := ⟨_, rfl⟩
          rw [haK, hmK, hcK] at hsh
          have HV := Box.mk hsh
          have HAK := Box.mk haK
          have HMK := Box.mk hmK
          have hmb := Box.mk (show mK ≤ 140737488351400 by rw [← hmK]; exact HM.out k hlt)
          have hkb := Box.mk (show k ≤ 140737488355328 by omega)
          rw [hsh] at e1
          have k0 : (0 : Int) ≤ (k : Int) := by omega
          have k1 : (k : Int) < (n : Int) := by omega
          have OK0 := Box.mk (show Own wr base 5 (.slice aK mK cK) (marksL k mK) by have := HG.out.own k (Nat.le_refl _) hlt; rwa [hsh, hmK] at this)
          clear hsh haK hmK hcK
          go_wp2
          clear e1 c0
          obtain ⟨w9, hw9⟩ : ∃ y, y = wr := ⟨_, rfl⟩
          subst hw9
          have hrw := Box.mk (own_rd OK0.out).1
          go_loopw [7, 8] (fun v i2 wr2 => ∃ (t mt : Nat) (a' : Option Addr) (c' : Nat), t ≤ 300 ∧ i2 = .int .i64 t ∧ v = .slice a' mt c' ∧ Box (mt = mK + t) ∧ Box (Own wr2 base 5 (.slice a' mt c') (marksL k mt)) ∧ Box (Row wr2 aK mK (marksL k mK)) ∧ Box (w9.grownBy wr2 (V k).ownBlock) ∧
            Box ((a' = aK ∧ c' = cK) ∨ ∀ g, (Value.slice a' mt c').ownBlock = some g → w9.heap.size ≤ g)) (fun _ i2 _ => 300 - (intOf i2).toNat)
          case atStart => exact ⟨0, mK, aK, cK, Nat.zero_le _, rfl, rfl, ⟨rfl⟩, OK0, hrw, ⟨World.grownBy.refl _ _⟩, ⟨.inl ⟨rfl, rfl⟩⟩⟩
          clear OK0 hrw
          case round =>
            obtain ⟨t, mt, a', c', ht, rfl, rfl, hmt, HO, HR, HW, HA⟩ := hrel
            by_cases htt : t < 300
            · have hmk := Box.mk (fun x => mark_any k mt hkb.out (by have := hmt.out; have := hmb.out; omega) x)
              have hsu := Box.mk (marksL_succ k mt)
              have hle := Box.mk (show mt ≤ 140737488355000 by have := hmt.out; have := hmb.out; omega)
              generalize markB k mt = u at *
              obtain ⟨lk, hlk⟩ : ∃ lk, marksL k mt = lk := ⟨_, rfl⟩
              rw [hlk] at HO hsu
              have OA := Box.mk (show Own (wr.alloc (.cells #[.int .u8 (u.toNat : Int)] 5)) base 5 (.slice a' mt c') lk from World.ownsRow.alloc HO.out _)
              have hcx := Box.mk (show (wr.alloc (.cells #[.int .u8 (u.toNat : Int)] 5)).cell? ⟨wr.heap.size, 0, none⟩ = some (bv u) by rw [cell_of_row _ _ 0 _ _ _ (heap_new rfl)]; rfl)
              have hbr := Box.mk (show base ≤ (wr.alloc (.cells #[.int .u8 (u.toNat : Int)] 5)).heap.size by have := hbS.out; have := hbw.out; have := HG.out.sz; have := HW.out.size; simp; omega)
              have hGA := Box.mk (show w9.grownBy (wr.alloc (.cells #[.int .u8 (u.toNat : Int)] 5)) (V k).ownBlock from grown_step2 (v := .slice none 0 0) HW.out (by intro g h; cases h) ⟨rfl, rfl, rfl, by simp, fun k hk _ => heap_alloc_old wr _ hk⟩)
              clear hlk
              go_wp2_with (go_at_call 53; refine (calls_box (hmk.out _)).mono ?_)
              rintro e wq ⟨⟨rfl, hq⟩⟩
              have hq2 := hq.symm
              clear hq
              subst hq2
              go_wp2_with ((with_reducible refine arm_append_1 byteTyC (.tmp 68) (.tmp 73) ?_ rfl base a' mt c' lk ?_ OA.out wr.heap.size u ?_ hcx.out ?_ hbr.out ?_); rfl; rfl; rfl; exact hle.out)
              intro ao' cap' w5 own5 hcase
              have HO5 := Box.mk (show Own w5 base 5 (.slice ao' (mt + 1) cap') (marksL k (mt + 1)) by rw [hsu.out]; exact own5)
              have hbk : ∀ b o, aK = some ⟨b, o, none⟩ → (V k).ownBlock = some b ∧ b < w9.heap.size := fun b o hx => by
                have h1 := adr_block FX.out hlt (HAK.out.trans hx)
                have := (FX.out.ltV k hlt b h1).1
                have := HG.out.sz
                exact ⟨h1, by omega⟩
              have hold : ∀ b, b < w9.heap.size → (wr.alloc (.cells #[.int .u8 (u.toNat : Int)] 5)).heap[b]? = wr.heap[b]? := fun b hb2 => heap_alloc_old wr _ (by have := HW.out.size; omega)
              have hres : Box (Row w5 aK mK (marksL k mK) ∧ w9.grownBy w5 (V k).ownBlock ∧ ((ao' = aK ∧ cap' = cK) ∨ ∀ g, (Value.slice ao' (mt + 1) cap').ownBlock = some g → w9.heap.size ≤ g)) := ⟨by
                rcases hcase with ⟨g, h1, h2, h3, G⟩ | ⟨G, hfr⟩
                · subst h1 h2 h3
                  rcases HA.out with ⟨h4, h5⟩ | h4
                  · have hvk := (hbk g 0 h4.symm).1
                    refine ⟨?_, grown_step2 (v := .slice (some ⟨g, 0, none⟩) mt cap') hGA.out (fun g2 h => .inl (by cases h; exact hvk)) G, .inl ⟨h4, h5⟩⟩
                    have h6 := (own_rd HO5.out).1.take mK (by have := hmt.out; omega)
                    rw [show mt + 1 = mK + (t + 1) by have := hmt.out; omega, marks_take] at h6
                    rw [← h4]; exact h6
                  · have hg2 := h4 g rfl
                    refine ⟨HR.out.kept fun b o hx => ?_, grown_step2 (v := .slice (some ⟨g, 0, none⟩) mt cap') hGA.out (fun g2 h => .inr (by cases h; exact hg2)) G, .inr fun g2 h => by cases h; exact hg2⟩
                    have h7 := (hbk b o hx).2
                    exact (G.block b (by have := hGA.out.size; omega) (fun e => by cases e; omega)).trans (hold b h7)
                · refine ⟨HR.out.kept fun b o hx => ?_, grown_step2 (v := .slice none 0 0) hGA.out (by intro g h; cases h) G, .inr fun g2 h => by have := hfr g2 h; have := HW.out.size; omega⟩
                  have h7 := (hbk b o hx).2
                  exact (G.block b (by have := hGA.out.size; omega) (fun e => by cases e)).trans (hold b h7)⟩
              have HR5 := Box.mk hres.out.1
              have HW5 := Box.mk hres.out.2.1
              have HA5 := Box.mk hres.out.2.2
              have hmt5 := Box.mk (show mt + 1 = mK + (t + 1) by have := hmt.out; omega)
              clear own5 hcase hres hbk hold HO HR HW HA OA hcx hbr hGA hmk hmt
              go_wp2
              go_roundw
              case rel => exact ⟨t + 1, mt + 1, ao', cap', by omega, by go_num, rfl, hmt5, HO5, HR5, HW5, HA5⟩
              case measure => simp [intOf]; omega
            · obtain rfl : t = 300 := by omega
              have hm3 := Box.mk (show mt = M k + 300 by have := hmt.out; have := HMK.out; omega)
              have hvG := Box.mk (fun g (hg : (Value.slice aG nG cG).ownBlock = some g) => ownsRow_lt HG.out.ownG g hg)
              have OG := Box.mk (show OwnS (wr.alloc (.cells #[.slice a' mt c'] 22)) S0 22 (.slice aG nG cG) ((List.range k).map fun j => .slice (ga j) (M j + 300) (gc j)) from World.ownsRow.alloc (ownsRow_same HG.out.ownG fun g hg => HW.out.block g (hvG.out g hg).2 fun e => by
                have := (hvG.out g hg).1; have := (FX.out.ltV k hlt g e.symm).1; omega) _)
              have hcx := Box.mk (show (wr.alloc (.cells #[.slice a' mt c'] 22)).cell? ⟨wr.heap.size, 0, none⟩ = some (.slice a' mt c') by rw [cell_of_row _ _ 0 _ _ _ (heap_new rfl)]; rfl)
              have hlb := Box.mk (show ((List.range k).map fun j => Value.slice (ga j) (M j + 300) (gc j)).length ≤ 1099511627776 by simp; omega)
              have hSb := Box.mk (show S0 ≤ (wr.alloc (.cells #[.slice a' mt c'] 22)).heap.size by have := HG.out.sz; have := HW.out.size; simp; omega)
              go_wp2_with ((with_reducible refine arm_append_s uLL iL (.tmp 75) (.tmp 77) ?_ rfl S0 _ ((List.range k).map fun j => Value.slice (ga j) (M j + 300) (gc j)) ?_ OG.out wr.heap.size a' mt c' ?_ hcx.out ?_ hSb.out ?_); rfl; rfl; rfl; exact hlb.out)
              intro vG' w6 ownG' G2 at2
              have hkk : ∀ b, b < w9.heap.size → (V k).ownBlock ≠ some b → (Value.slice aG nG cG).ownBlock ≠ some b → w6.heap[b]? = w9.heap[b]? := fun b hb2 h1 h2 =>
                (G2.block b (by have := HW.out.size; simp; omega) h2.symm).trans ((heap_alloc_old wr _ (by have := HW.out.size; omega)).trans (HW.out.block b hb2 h1.symm))
              have hk2 : ∀ b, b < wr.heap.size → (Value.slice aG nG cG).ownBlock ≠ some b → w6.heap[b]? = wr.heap[b]? := fun b hb2 h2 =>
                (G2.block b (by simp; omega) h2.symm).trans (heap_alloc_old wr _ hb2)
              have hsz6 : w9.heap.size ≤ w6.heap.size := by have h1 := HW.out.size; have h2 := G2.size; simp at h2; omega
              have rdv := own_rd HO.out
              have hvb : ∀ g o, a' = some ⟨g, o, none⟩ → (((V k).ownBlock = some g ∧ g < S0) ∨ w9.heap.size ≤ g) ∧ g < wr.heap.size := fun g o hx => by
                have hlt2 := (ownsRow_lt HO.out g (by rw [hx]; rfl)).2
                rcases HA.out with ⟨h4, _⟩ | h4
                · have h5 := adr_block FX.out hlt (HAK.out.trans (h4.symm.trans hx))
                  exact ⟨.inl ⟨h5, (FX.out.ltV k hlt g h5).1⟩, hlt2⟩
                · exact ⟨.inr (h4 g (by rw [hx]; rfl)), hlt2⟩
              have hV6 : Row w6 (adr (V k)) (M k) (marksL k (M k)) := by
                rw [HAK.out, HMK.out]
                refine HR.out.kept fun b o hx => ?_
                have h1 := adr_block FX.out hlt (HAK.out.trans hx)
                have h2 := (FX.out.ltV k hlt b h1).1
                exact hk2 b (by have := HG.out.sz; have := HW.out.size; omega) fun e => by have := (hvG.out b e).1; omega
              have hG6 : Row w6 a' (M k + 300) (marksL k (M k + 300)) := by
                rw [← hm3.out]
                refine rdv.1.kept fun b o hx => ?_
                obtain ⟨h1, h2⟩ := hvb b o hx
                refine hk2 b h2 fun e => ?_
                have h3 := hvG.out b e
                rcases h1 with h1 | h1 <;> omega
              have hb6 : ∀ g o, a' = some ⟨g, o, none⟩ → ((V k).ownBlock = some g ∨ w9.heap.size ≤ g) ∧ g < w6.heap.size ∧ vG'.ownBlock ≠ some g := fun g o hx => by
                obtain ⟨h1, h2⟩ := hvb g o hx
                refine ⟨h1.imp (·.1) id, by have h3 := G2.size; simp at h3; omega, fun e => ?_⟩
                rcases at2 with h4 | h4
                · rw [h4] at e
                  have h3 := hvG.out g e
                  rcases h1 with h1 | h1 <;> omega
                · rw [h4] at e
                  have h5 := Option.some.inj e
                  have h6 : (wr.alloc (.cells #[.slice a' mt c'] 22)).heap.size = wr.heap.size + 1 := by simp
                  omega
              have N6 := Box.mk (Grown.next FX.out HG.out hlt a' c'
                (Grew.trans (F' := obs (V k) ++ obs (Value.slice aG nG cG)) HG.out.bel ⟨G2.os.trans HW.out.os, G2.tape.trans HW.out.tape, G2.output.trans HW.out.output, hsz6, fun b hb2 hb3 => hkk b hb2 (fun e => hb3 (List.mem_append_left _ (mem_obs.2 e))) (fun e => hb3 (List.mem_append_right _ (mem_obs.2 e)))⟩ (fun g hg => (List.mem_append.1 hg).elim (fun e => .inl (HF.out k hlt g (mem_obs.1 e))) (fun e => .inr (by have h1 := (hvG.out g (mem_obs.1 e)).1; have h2 := hbS.out; omega))))
                hsz6 hkk hV6 hG6 hb6 (by rw [← hm3.out]; exact ownG') (at2.imp id fun h => ⟨_, h, by have := HW.out.size; simp; omega⟩))
              clear ownG' G2 at2 hkk hk2 hsz6 rdv hvb OG hcx hlb hSb HO HR HW HA HG hV6 hG6 hb6
              go_wp2
              go_roundw
              case rel => exact ⟨k + 1, _, _, by omega, by go_num, N6⟩
              case measure => simp [intOf]; omega
        · obtain rfl : n = k := by omega
          have mk1 := Box.mk (marked_any aL n cL wr (fun j hj => by
            obtain ⟨g, hg, hc⟩ := HG.out.rd j hj
            refine ⟨g, hg, adr (V j), M j, room (V j), by rw [← FX.out.sh j hj]; exact hc, HG.out.rowV j hj, by have := HM.out j hj; omega⟩) hn)
          have mk2 := Box.mk (fun x => marked_any aG nG cG (wr.drewN x) (fun j hj => by
            have hnn : nG = n := by have := hnG.out.1; simpa using this
            obtain ⟨g, hg, hv, hc⟩ := HG.out.ownG.get j hj
            simp only [List.getElem_map, List.getElem_range] at hc
            exact ⟨g, hg, ga j, M j + 300, gc j, hc, (HG.out.rowG j (by omega)).drewN x, by have := HM.out j (by omega); omega⟩) (by have := hnG.out.1; simp at this; omega))
          have B9 := Box.mk HG.out.bel
          clear HG
          go_wp2_with (go_at_call 54; refine (calls_box mk1.out).mono ?_)
          rintro e w8 ⟨⟨rfl, q8, rfl⟩⟩
          clear c0
          go_wp2_with (go_at_call 54; refine (calls_box (mk2.out _)).mono ?_)
          rintro e w8 ⟨⟨rfl, q9, rfl⟩⟩
          go_wp2
          go_ret
          exact ⟨rfl, by first | exact (B9.out.drewN _).drewN _ | exact B9.out.drewN _⟩
end Go.Proofs.Ytehnnnohoaapdaa
