/- Texts joined: Val3, PlayV, Held1. -/
import Derived.Test.YteiepenanffhcaaDoorP05
import Derived.Test.YteiepenanffhcaaDoorP06
import Derived.Test.YteiepenanffhcaaDoorP00
/- One play of a call that is handed a list: LeafText. -/
namespace Go.Proofs.YteiepenanffhcaaDoor
open Go Go.RowKit
set_option linter.unusedVariables false

/-- A play of a call that is handed a list answers true, whatever the list of that length. -/
def VPok (o : OpV) (n : Nat) : Prop := ∀ (L : List UInt8), L.length = n → ∀ (g : Nat) (a1 : Option Addr) (c1 : Nat) (W : World), W.heap[g]? = some (.cells (bvs (roomyL L)).toArray 5 (0, 0)) → Row W a1 n L → (a1 = none → n = 0 ∧ c1 = 0) → n ≤ c1 → c1 ≤ maxLen →
  Calls Tryd.prog 14 #[.agg (opC o).toArray, .slice (some ⟨g, 0, none⟩) (n + 100) (n + 100), .slice a1 n c1] W fun e W' => e = .returned (.bool true) ∧ Below W.heap.size W W'

theorem row_front {w : World} {g n : Nat} {e : TypeId} {L : List UInt8} (h : w.heap[g]? = some (.cells (bvs (roomyL L)).toArray e (0, 0))) (hl : L.length = n) : Row w (some ⟨g, 0, none⟩) n L := by
  have := (Row.of_row h).take n (by rw [length_roomyL]; omega)
  have e1 : (roomyL L).take n = L := by
    unfold roomyL
    rw [List.take_append_of_le_length (by omega), List.take_of_length_le (by omega)]
  rwa [e1] at this
theorem row_whole {w : World} {g n : Nat} {e : TypeId} {L : List UInt8} (h : w.heap[g]? = some (.cells (bvs (roomyL L)).toArray e (0, 0))) (hl : L.length = n) : Row w (some ⟨g, 0, none⟩) (n + 100) (roomyL L) := by
  have := Row.of_row h
  rwa [length_roomyL, hl] at this
theorem own_read2 {w : World} {base : Nat} {e : TypeId} {v : Value} {l : List UInt8} (h : Own w base e v l) : ∃ ao c, v = .slice ao l.length c ∧ Row w ao l.length l := by
  obtain ⟨ao2, cap2, hv, hr2, hm2, hc2, _⟩ := h.open
  exact ⟨ao2, cap2, hv, hr2⟩

set_option maxRecDepth 100000 in
set_option maxHeartbeats 4000000 in
theorem valuePlay_texts (o : OpV) (hk : o.kind = 3) (n : Nat) (hn : n ≤ 140737488351232) : VPok o n := by
  intro L hL g a1 c1 w hg0 hrow hnone hle hmax
  have UK : Tryd.prog.underlying 26 = some (.array 32 5) := Tryd.underlying26
  have hiK : Hid ((Tryd.prog.info? 26).map (·.size) = some 32) := by unfold Hid; kernel_rfl
  have bel0 := Below.refl_alloc w (.cells (opC o).toArray 32)
  have F0 : Box ((w.alloc (.cells (opC o).toArray 32)).heap[w.heap.size]? = some (.cells (opC o).toArray 32 (0, 0))) := ⟨heap_new rfl⟩
  have hk4 : Box (∀ W : World, W.heap[w.heap.size]? = some (.cells (opC o).toArray 32 (0, 0)) → W.rangeAt w.heap.size 4 (bvs o.k.1)) := ⟨fun W hW => rangeAt_cells hW fun j hj => opC_k o j (by rwa [length_bvs, o.k.2] at hj)⟩
  have c0 : (w.alloc (.cells (opC o).toArray 32)).cell? ⟨w.heap.size, 0, none⟩ = some (.int .i64 3) := by rw [cell_of_row _ _ 0 _ _ _ F0.out, ← hk]; rfl
  have HG := Box.mk ((bel0.block g (heap_lt hg0)).trans hg0)
  have HR := Box.mk (hrow.old bel0)
  have B0 := Box.mk bel0
  have HL := Box.mk hL
  have Hnone := Box.mk hnone
  have Hmax := Box.mk hmax
  have r4 := Box.mk (hk4.out _ F0.out)
  have hlt := Box.mk (heap_lt F0.out)
  have hgl := Box.mk (heap_lt HG.out)
  have hcut : (n : Int) ≤ (n : Int) + 100 := by omega
  clear hrow hnone hmax hle hg0 hL bel0 F0 hk4 hk
  generalize (opC o).toArray = cs at *
  go_enter Tryd.func14, Tryd.ntmps14
  go_upto_region 1 with fail
  generalize w.alloc (.cells cs 32) = w1 at *
  go_upto_region 17 with fail
  have UB : Box (Tryd.prog.underlying 28 = some (.slice 5)) := ⟨Tryd.underlying28⟩
  have hA : Box (∀ W, Below w1.heap.size w1 W → _) := ⟨fun W HH => leafText_any o.k (some ⟨g, 0, none⟩) n (n + 100) L W (row_front ((HH.block g hgl.out).trans HG.out) HL.out) (by intro h; cases h) hn⟩
  have hB : Box (∀ W, Below w1.heap.size w1 W → _) := ⟨fun W HH => rleafText_any o.k a1 n c1 L W (HR.out.old HH) hn⟩
  have hT : Box ((0 :: (o.k.1 ++ L)).length = 33 + n) := ⟨by have := o.k.2; have := HL.out; simp; omega⟩
  generalize 0 :: (o.k.1 ++ L) = T at *
  refine held_begin (fun W => Below w1.heap.size w1 W) (by kernel_rfl) (Below.refl _ w1).drew (fun hH0 => ?_)
  refine held_take 0 (.pointer (some ⟨w.heap.size, 4, none⟩)) rfl (by kernel_rfl) (by kernel_rfl) (by kernel_rfl) (held_pure (by rfl) (fun W => by go_simp)) (by assumption) ?_
  try simp only [Act.put, List.setIfInBounds_toArray, List.set_cons_zero, List.set_cons_succ]
  refine held_take 1 (.agg (dc o.k)) rfl (by kernel_rfl) (by kernel_rfl) (by kernel_rfl) (held_load (by rfl) 26 (.tmp 79) rfl (w.heap.size) 4 rfl o.k 5 (fun W hS => rangeAt_below r4.out hS hlt.out) UK hiK) (by assumption) ?_
  try simp only [Act.put, List.setIfInBounds_toArray, List.set_cons_zero, List.set_cons_succ]
  refine held_take 2 (.slice (some ⟨g, 0, none⟩) n (n + 100)) rfl (by kernel_rfl) (by kernel_rfl) (by kernel_rfl) (held_move (by rfl) (.tmp 7) rfl rfl) (by assumption) ?_
  try simp only [Act.put, List.setIfInBounds_toArray, List.set_cons_zero, List.set_cons_succ]
  refine held_take 4 (.pointer (some ⟨w.heap.size, 4, none⟩)) rfl (by kernel_rfl) (by kernel_rfl) (by kernel_rfl) (held_pure (by rfl) (fun W => by go_simp)) (by assumption) ?_
  try simp only [Act.put, List.setIfInBounds_toArray, List.set_cons_zero, List.set_cons_succ]
  refine held_take 5 (.agg (dc o.k)) rfl (by kernel_rfl) (by kernel_rfl) (by kernel_rfl) (held_load (by rfl) 26 (.tmp 83) rfl (w.heap.size) 4 rfl o.k 5 (fun W hS => rangeAt_below r4.out hS hlt.out) UK hiK) (by assumption) ?_
  try simp only [Act.put, List.setIfInBounds_toArray, List.set_cons_zero, List.set_cons_succ]
  refine held_take 6 (.slice a1 n c1) rfl (by kernel_rfl) (by kernel_rfl) (by kernel_rfl) (held_move (by rfl) (.tmp 2) rfl rfl) (by assumption) ?_
  try simp only [Act.put, List.setIfInBounds_toArray, List.set_cons_zero, List.set_cons_succ]
  refine held_step 3 (by kernel_rfl) rfl (by rfl) (fun K hK => ?_)
  go_simp
  refine (calls_box (hA.out _ hH0)).mono ?_
  rintro e W3 ⟨⟨gA, capA, rfl, ownA, hBA⟩⟩
  dsimp only
  refine hK.out _ _ (hH0.trans (hBA.mono hH0.size)) (fun hH3 => ?_)
  clear hK K
  try simp only [Act.put, List.setIfInBounds_toArray, List.set_cons_zero, List.set_cons_succ]
  refine held_step 7 (by kernel_rfl) rfl (by rfl) (fun K hK => ?_)
  go_simp
  refine (calls_box (hB.out _ hH3)).mono ?_
  rintro e W7 ⟨⟨⟨vB, rfl, ownB⟩, hBB⟩⟩
  dsimp only
  refine hK.out _ _ (hH3.trans (hBB.mono hH3.size)) (fun hH7 => ?_)
  clear hK K
  try simp only [Act.put, List.setIfInBounds_toArray, List.set_cons_zero, List.set_cons_succ]
  have rA := ownA.row.1.old hBB
  obtain ⟨aB, cB, rfl, rB⟩ := own_read2 ownB
  try simp only [Act.put, List.setIfInBounds_toArray, List.set_cons_zero, List.set_cons_succ]
  have hSB := Box.mk (sameBytes_any (some ⟨gA, 0, none⟩) aB (33 + n) capA T.length cB T T _ rA rB (by unfold maxLen; omega) (by rw [hT.out]; unfold maxLen; omega))
  rw [eqB_true rfl] at hSB
  refine held_step 8 (by kernel_rfl) rfl (by rfl) (fun K hK => ?_)
  go_simp
  refine (calls_box (hSB.out)).mono ?_
  rintro e W8 ⟨⟨rfl, qS, rfl⟩⟩
  dsimp only
  refine hK.out _ _ (below_drewN2 hH7 qS) (fun hH8 => ?_)
  clear hK K
  try simp only [Act.put, List.setIfInBounds_toArray, List.set_cons_zero, List.set_cons_succ]
  refine held_take 9 (.bool true) rfl (by kernel_rfl) (by kernel_rfl) (by kernel_rfl) (held_pure (by rfl) (fun W => by go_simp)) (by assumption) ?_
  try simp only [Act.put, List.setIfInBounds_toArray, List.set_cons_zero, List.set_cons_succ]
  refine held_done (by kernel_rfl) ?_ _
  have Bf := Box.mk hH8
  clear ownA ownB rA rB hBA hBB hSB hH0 hH3 hH7 hH8
  have hRI := Box.mk (roomyIs_any (some ⟨g, 0, none⟩) a1 (n + 100) (n + 100) n c1 (roomyL L) L _ (row_whole ((Bf.out.block g hgl.out).trans HG.out) HL.out) (HR.out.old Bf.out) (by unfold maxLen; omega) hn)
  rw [eqB_true rfl] at hRI
  go_wp2_with (go_at_call 27; refine (calls_box hRI.out).mono ?_)
  rintro e W9 ⟨⟨rfl, hB9⟩⟩
  have B9 := Box.mk (B0.out.trans ((Bf.out.trans (hB9.mono Bf.out.size)).mono B0.out.size))
  clear hB9
  go_wp2
  go_ret
  exact ⟨rfl, B9.out⟩
end Go.Proofs.YteiepenanffhcaaDoor

/- A call that is handed a list, played in turns: plays. -/
namespace Go.Proofs.YteiepenanffhcaaDoor
open Go Go.RowKit
set_option linter.unusedVariables false

section
variable {P : Program} {e : TypeId} {Q : Exit → Act → World → Prop} {ops : Array Oper} {rest : List Oper} {o : Oper} {a : Act} {w : World}
/-- A byte stored into a list of bytes of the call's own. -/
theorem arm_store_own (ty : TypeId) (x y : Operand) (ho : o.op = .store ty x y) (hgd : o.guard = none) (g n cap off base : Nat) (hx : a.eval x = .pointer (some ⟨g, off, none⟩)) (u : UInt8) (hy : a.eval y = .int .u8 (u.toNat : Int))
    (hs : (P.info? ty).map (·.size) = some 1) (L : List UInt8) (hown : Own w base e (.slice (some ⟨g, 0, none⟩) n cap) L) (hlt : off < L.length)
    (h : ∀ w', Own w' base e (.slice (some ⟨g, 0, none⟩) n cap) (L.set off u) → w.grownBy w' (some g) → wpList P ops Q rest (a.put o.dst undef) w') : wpList P ops Q (o :: rest) a w := by
  obtain ⟨hl, ⟨h1, _⟩ | ⟨g', cap', cur, h1, h2, h3, h4, h5, h6, h7⟩⟩ := hown
  · cases h1
  · cases h1
    have hcur : cur.toList.toArray = cur := by simp
    have hsz : off < cur.toList.length := by
      have e1 := congrArg List.length h7
      rw [List.length_take, length_bvs] at e1
      omega
    refine arm_store_cell ty x y ho hgd g off hx u hy hs cur.toList e (by rw [hcur]; exact h3) hsz fun w' hg G => h w' ?_ G
    refine ⟨by rw [length_bvs, List.length_set, ← length_bvs]; exact hl ▸ (by simp), .inr ⟨g, cap, (cur.toList.set off (bv u)).toArray, by rw [List.length_set], h2, hg.out, by rw [List.length_set]; exact h4, h5, by simpa using h6, ?_⟩⟩
    have := congrArg (fun l => l.set off (bv u)) h7
    simp only [bvs_put] at this
    rw [← this, ← List.take_set]
    simp
end
theorem own_ptr {w : World} {base n c : Nat} {e : TypeId} {ao : Option Addr} {L : List UInt8} (h : Own w base e (.slice ao n c) L) (hn : 0 < n) : ∃ g, ao = some ⟨g, 0, none⟩ := by
  obtain ⟨hl, ⟨h1, _⟩ | ⟨g', cap', cur, h1, h2⟩⟩ := h
  · rw [Value.slice.injEq] at h1; omega
  · rw [Value.slice.injEq] at h1; exact ⟨g', h1.1⟩
theorem own_facts {w : World} {base n c : Nat} {e : TypeId} {ao : Option Addr} {L : List UInt8} (h : Own w base e (.slice ao n c) L) : Row w ao n L ∧ (ao = none → n = 0 ∧ c = 0) ∧ n ≤ c ∧ c ≤ maxLen := by
  obtain ⟨ao2, cap2, hv, hr2, hm2, hc2, _⟩ := h.open
  have hv' := hv
  rw [Value.slice.injEq] at hv
  obtain ⟨e1, e2, e3⟩ := hv
  refine ⟨by rw [e1, e2]; exact hr2, ?_, by omega, by omega⟩
  rintro rfl
  obtain ⟨hl, ⟨h1, h2⟩ | ⟨g, cap, cur, h1, h2⟩⟩ := h
  · rw [Value.slice.injEq] at h1; exact ⟨h1.2.1, h1.2.2⟩
  · rw [Value.slice.injEq] at h1; cases h1.1
theorem roomyL_set (X : List UInt8) (k : Nat) (h : k < X.length) (u : UInt8) : (roomyL X).set k u = roomyL (X.set k u) := by
  unfold roomyL
  rw [List.set_append_left _ _ h]
theorem roomyL_at (X : List UInt8) (k : Nat) (h : k < X.length) : (roomyL X)[k]? = some (X[k]'h) := by
  unfold roomyL
  rw [List.getElem?_append_left h, List.getElem?_eq_getElem h]
theorem own_read3v {w : World} {base : Nat} {e : TypeId} {v : Value} {l : List UInt8} (h : Own w base e v l) : ∃ ao c, v = .slice ao l.length c ∧ Row w ao l.length l := by
  obtain ⟨ao2, cap2, hv, hr2, hm2, hc2, _⟩ := h.open
  exact ⟨ao2, cap2, hv, hr2⟩

set_option maxRecDepth 100000 in
set_option maxHeartbeats 8000000 in
theorem plays_val1 (o : OpV) (hk : o.kind = 1) (w : World) (lv ln : List UInt8) (hv0 : Row w o.vao o.vn lv) (hvn : o.vn ≤ 140737488351232) (hn0 : Row w o.nd.ao o.nd.n ln) (hnn : o.nd.n ≤ 140737488351232)
    (hV0 : ∀ (L : List UInt8), L.length = o.nd.n → ∀ (g : Nat) (a1 : Option Addr) (c1 : Nat) (W : World), Below w.heap.size w W → W.heap[g]? = some (.cells (bvs (roomyL L)).toArray 5 (0, 0)) → Row W a1 o.nd.n L → (a1 = none → o.nd.n = 0 ∧ c1 = 0) → o.nd.n ≤ c1 → c1 ≤ maxLen →
      Calls Tryd.prog 14 #[.agg (opC o).toArray, .slice (some ⟨g, 0, none⟩) (o.nd.n + 100) (o.nd.n + 100), .slice a1 o.nd.n c1] W fun e W' => e = .returned (.bool true) ∧ Below W.heap.size W W') :
    Calls Tryd.prog 11 #[.agg (opC o).toArray] w fun e w' => e = .returned (.bool true) ∧ Below w.heap.size w w' := by
  obtain ⟨fs, UO⟩ := opUnder
  have hi1 := opSize o
  have hi5 : Box ((Tryd.prog.info? 5).map (·.size) = some 1) := ⟨by kernel_rfl⟩
  have hV := Box.mk hV0
  have F0 : Box ((w.alloc (.cells (opC o).toArray 32)).heap[w.heap.size]? = some (.cells (opC o).toArray 32 (0, 0))) := ⟨heap_new rfl⟩
  have c0 : (w.alloc (.cells (opC o).toArray 32)).cell? ⟨w.heap.size, 0, none⟩ = some (.int .i64 1) := by rw [cell_of_row _ _ 0 _ _ _ F0.out, ← hk]; rfl
  have c100 : (w.alloc (.cells (opC o).toArray 32)).cell? ⟨w.heap.size, 100, none⟩ = some (.slice o.vao o.vn o.vc) := by rw [cell_of_row _ _ 100 _ _ _ F0.out]; exact opC_val o
  have ck : Box (∀ W : World, W.heap[w.heap.size]? = some (.cells (opC o).toArray 32 (0, 0)) → W.cell? ⟨w.heap.size, 0, none⟩ = some (.int .i64 1)) := ⟨fun W hW => by rw [cell_of_row _ _ 0 _ _ _ hW, ← hk]; rfl⟩
  have cn : Box (∀ W : World, W.heap[w.heap.size]? = some (.cells (opC o).toArray 32 (0, 0)) → W.cell? ⟨w.heap.size, 202, none⟩ = some (.slice o.nd.ao o.nd.n o.nd.c)) := ⟨fun W hW => by rw [cell_of_row _ _ 202 _ _ _ hW]; exact opC_nval o⟩
  have B0 := Box.mk (Below.refl_alloc w (.cells (opC o).toArray 32))
  have HV := Box.mk (hv0.old B0.out)
  have HN := Box.mk (hn0.old B0.out)
  clear hV0 hk hv0 hn0
  generalize (opC o).toArray = cs at *
  go_enter Tryd.func11, Tryd.ntmps11
  go_upto_region 1 with fail
  generalize w.alloc (.cells cs 32) = w1 at *
  have hl0 := Box.mk (heap_lt F0.out)
  go_wp2_with (go_at_call 12; refine (calls_box (copyBytes_any o.vao o.vn o.vc lv _ HV.out hvn)).mono ?_)
  rintro e w2 ⟨⟨⟨v, rfl, own⟩, hB⟩⟩
  have HB2 := Box.mk hB
  have F2 := Box.mk ((hB.block _ hl0.out).trans F0.out)
  have k2 := ck.out _ F2.out
  have HN2 := Box.mk (HN.out.old hB)
  have n2 := cn.out _ F2.out
  clear own hB c0 c100
  go_wp2_with (go_at_call 12; refine (calls_box (copyBytes_any o.nd.ao o.nd.n o.nd.c ln _ HN2.out hnn)).mono ?_)
  rintro e w2b ⟨⟨⟨v', rfl, own⟩, hB⟩⟩
  obtain ⟨aI, cI, rfl, rI⟩ := own_read3v own
  have hlI := Box.mk HN2.out.1
  have HOWN := Box.mk (own_base2 own HB2.out.size)
  have HB2b := Box.mk (HB2.out.trans (hB.mono HB2.out.size))
  have RI := Box.mk rI
  clear own hB k2 n2 rI HB2 HN2
  rw [hlI.out] at RI HOWN ⊢
  go_wp2_with (go_at_call 13; refine (calls_box (roomy_any aI o.nd.n cI ln _ RI.out hnn)).mono ?_)
  rintro e w3 ⟨⟨⟨g, rfl, hg, hge⟩, hB⟩⟩
  have HF3 := Box.mk hg
  have HB3 := Box.mk (HB2b.out.trans (hB.mono HB2b.out.size))
  have HO3 := Box.mk (HOWN.out.below hB (fun g' hg' => (HOWN.out.lt g' hg').2))
  have HNB : Box (∀ b, aI = some ⟨b, 0, none⟩ → b < g) := ⟨fun b hb => by subst hb; exact Nat.lt_of_lt_of_le (HOWN.out.lt b rfl).2 hge⟩
  have HNL : Box (∀ b, aI = some ⟨b, 0, none⟩ → w1.heap.size ≤ b) := ⟨fun b hb => by subst hb; exact (HOWN.out.lt b rfl).1⟩
  have HGL := Box.mk (Nat.le_trans HB2b.out.size hge)
  have hvb := hnn
  clear hg hge hB HV HN RI HOWN cn ck
  try clear k2
  try clear F2
  generalize o.nd.n = n at *
  go_wp2
  go_loopw [5, 6] (fun i k wr => ∃ j : Nat, ∃ X : List UInt8, j ≤ 3 ∧ i = .int .i64 j ∧ X.length = n ∧ Below w1.heap.size w1 wr ∧ Own wr w1.heap.size 5 (.slice aI n cI) X ∧ Box (wr.heap[g]? = some (.cells (bvs (roomyL X)).toArray 5 (0, 0)))) (fun i k _ => 3 - (intOf i).toNat)
  case atStart => exact ⟨0, ln, Nat.zero_le _, rfl, hlI.out, HB3.out, HO3.out, HF3⟩
  case round =>
    obtain ⟨j, X0, hj, rfl, hXL0, hB0, hO0, HF0⟩ := hrel
    have HXL0 := Box.mk hXL0
    have HB0 := Box.mk hB0
    have HO0 := Box.mk hO0
    clear hXL0 hB0 hO0 HO3 HF3 HB3 hlI
    by_cases hlt : j < 3
    · obtain rfl | rfl | rfl : j = 0 ∨ j = 1 ∨ j = 2 := by omega
      · skip
        try rw [show ((0 : Nat) : Int) = 0 from rfl]
        go_wp2
        obtain ⟨wz, hwz⟩ : ∃ x, x = wr := ⟨_, rfl⟩
        subst hwz
        go_loopw [6] (fun k wr => ∃ q : Nat, ∃ X : List UInt8, q ≤ n ∧ k = .int .i64 q ∧ X.length = n ∧ Below w1.heap.size w1 wr ∧ Own wr w1.heap.size 5 (.slice aI n cI) X ∧ Box (wr.heap[g]? = some (.cells (bvs (roomyL X)).toArray 5 (0, 0)))) (fun k _ => n - (intOf k).toNat)
        case atStart => exact ⟨0, X0, Nat.zero_le _, rfl, HXL0.out, HB0.out, HO0.out, HF0⟩
        case round =>
          obtain ⟨q, X, hqn, rfl, hXL, hB, hO, HF⟩ := hrel
          have HXL := Box.mk hXL
          have HB := Box.mk hB
          have HO := Box.mk hO
          clear hXL hB hO HO0 HB0 HF0 HXL0
          by_cases hlq : q < n
          · skip
            go_wp2
            go_roundw
            case rel => exact ⟨q + 1, X, by omega, by go_num, HXL.out, HB.out, HO.out, HF⟩
            case measure => simp [intOf]; omega
          · obtain rfl : n = q := by omega
            have FR := Box.mk ((HB.out.block _ hl0.out).trans F0.out)
            have OF := own_facts HO.out
            have BR := Box.mk (B0.out.trans (HB.out.mono B0.out.size))
            have hC := Box.mk (hV.out X HXL.out g aI cI wr BR.out HF.out OF.1 OF.2.1 OF.2.2.1 OF.2.2.2)
            clear OF
            go_wp2_with (first
              | ((with_reducible refine arm_row 32 (.tmp 1) ?_ ?_ w.heap.size ?_ 32 cs (0, 0) _ FR.out UO rfl hi1.out ?_); rfl; rfl; rfl)
              | (go_at_call 14; refine (calls_box hC.out).mono ?_))
            rintro e w6 ⟨⟨rfl, hB6⟩⟩
            have HB6 := Box.mk (HB.out.trans (hB6.mono HB.out.size))
            have HO6 := Box.mk (HO.out.below hB6 (fun g' hg' => (HO.out.lt g' hg').2))
            have HF6 := Box.mk ((hB6.block _ (heap_lt HF.out)).trans HF.out)
            clear hB6 hC
            go_wp2
            go_roundw
            case rel => exact ⟨1, X, by omega, rfl, HXL.out, HB6.out, HO6.out, HF6⟩
            case measure => simp [intOf]
      · skip
        try rw [show ((1 : Nat) : Int) = 1 from rfl]
        go_wp2
        obtain ⟨wz, hwz⟩ : ∃ x, x = wr := ⟨_, rfl⟩
        subst hwz
        go_loopw [6] (fun k wr => ∃ q : Nat, ∃ X : List UInt8, q ≤ n ∧ k = .int .i64 q ∧ X.length = n ∧ Below w1.heap.size w1 wr ∧ Own wr w1.heap.size 5 (.slice aI n cI) X ∧ Box (wr.heap[g]? = some (.cells (bvs (roomyL X)).toArray 5 (0, 0)))) (fun k _ => n - (intOf k).toNat)
        case atStart => exact ⟨0, X0, Nat.zero_le _, rfl, HXL0.out, HB0.out, HO0.out, HF0⟩
        case round =>
          obtain ⟨q, X, hqn, rfl, hXL, hB, hO, HF⟩ := hrel
          have HXL := Box.mk hXL
          have HB := Box.mk hB
          have HO := Box.mk hO
          clear hXL hB hO HO0 HB0 HF0 HXL0
          by_cases hlq : q < n
          · skip
            have hquo : Int.tdiv (n : Int) 2 = ((n / 2 : Nat) : Int) := by rw [Int.tdiv_eq_ediv_of_nonneg (by omega)]; omega
            cases hqq : ((q : Int) == ((n / 2 : Nat) : Int))
            · skip
              go_wp2
              go_roundw
              case rel => exact ⟨q + 1, X, by omega, by go_num, HXL.out, HB.out, HO.out, HF⟩
              case measure => simp [intOf]; omega
            · skip
              obtain ⟨gi, hgi⟩ := own_ptr HO.out (by omega)
              subst hgi
              have hq' : q < X.length := by rw [HXL.out]; exact hlq
              have e0 : wr.cell? ⟨gi, q, none⟩ = some (.int .u8 ((X[q]'hq').toNat : Int)) := by have := HO.out.row.1.cell q hq'; rwa [Nat.zero_add] at this
              have hxor := xor1 (X[q]'hq')
              have hgl : Box ((roomyL X)[q]? = some (X[q]'hq')) := ⟨roomyL_at X q hq'⟩
              have hnew : Box (∀ u, (roomyL X).set q u = roomyL (X.set q u)) := ⟨fun u => roomyL_set X q hq' u⟩
              have hq2 : Box (q < (roomyL X).length) := ⟨by rw [length_roomyL]; omega⟩
              have hq3 := Box.mk hq'
              generalize (X[q]'hq') = x at *
              generalize x ^^^ 1 = u at *
              clear hq'
              go_wp2_with ((with_reducible refine arm_store_own 5 (.tmp 58) (.tmp 57) ?_ rfl gi n cI q w1.heap.size ?_ u ?_ hi5.out X HO.out hq3.out ?_); rfl; rfl; rfl)
              intro w4 O4 G4
              have HO4 := Box.mk O4
              have hne := Box.mk (HNB.out gi rfl)
              have HF4 := Box.mk ((G4.block g (heap_lt HF.out) (by intro h; injection h with h; have := hne.out; omega)).trans HF.out)
              have HB4 := Box.mk (HB.out.grown G4 HB.out.size (fun k hk => by cases hk; exact HNL.out _ rfl))
              have e1 : w4.cell? ⟨g, q, none⟩ = some (.int .u8 (x.toNat : Int)) := by
                rw [cell_of_row _ _ q _ _ _ HF4.out, ← Array.getElem?_toList]
                show (bvs (roomyL X))[q]? = _
                rw [bvs_getElem?, hgl.out]; rfl
              clear O4 G4 e0
              go_wp2_with ((with_reducible refine arm_store_byte 5 (.tmp 66) (.tmp 65) ?_ rfl g q ?_ (u.toNat : Int) ?_ hi5.out (roomyL X) HF4.out hq2.out u rfl ?_); rfl; rfl; rfl)
              intro w5 g5 G5
              have HF5 := Box.mk g5.out
              rw [hnew.out u] at HF5
              have HO5 := Box.mk (HO4.out.kept G5 (.inr (by intro h; have h' : gi = g := Option.some.inj h; have := hne.out; omega)))
              have HB5 := Box.mk (HB4.out.grown G5 HB4.out.size (fun k hk => by cases hk; exact HGL.out))
              have HX5 : Box ((X.set q u).length = n) := ⟨by rw [List.length_set]; exact HXL.out⟩
              clear g5 G5 HO4 HF4 e1
              go_wp2
              go_roundw
              case rel => exact ⟨q + 1, X.set q u, by omega, by go_num, HX5.out, HB5.out, HO5.out, HF5⟩
              case measure => simp [intOf]; omega
          · obtain rfl : n = q := by omega
            have FR := Box.mk ((HB.out.block _ hl0.out).trans F0.out)
            have OF := own_facts HO.out
            have BR := Box.mk (B0.out.trans (HB.out.mono B0.out.size))
            have hC := Box.mk (hV.out X HXL.out g aI cI wr BR.out HF.out OF.1 OF.2.1 OF.2.2.1 OF.2.2.2)
            clear OF
            go_wp2_with (first
              | ((with_reducible refine arm_row 32 (.tmp 1) ?_ ?_ w.heap.size ?_ 32 cs (0, 0) _ FR.out UO rfl hi1.out ?_); rfl; rfl; rfl)
              | (go_at_call 14; refine (calls_box hC.out).mono ?_))
            rintro e w6 ⟨⟨rfl, hB6⟩⟩
            have HB6 := Box.mk (HB.out.trans (hB6.mono HB.out.size))
            have HO6 := Box.mk (HO.out.below hB6 (fun g' hg' => (HO.out.lt g' hg').2))
            have HF6 := Box.mk ((hB6.block _ (heap_lt HF.out)).trans HF.out)
            clear hB6 hC
            go_wp2
            go_roundw
            case rel => exact ⟨2, X, by omega, rfl, HXL.out, HB6.out, HO6.out, HF6⟩
            case measure => simp [intOf]
      · skip
        try rw [show ((2 : Nat) : Int) = 2 from rfl]
        go_wp2
        obtain ⟨wz, hwz⟩ : ∃ x, x = wr := ⟨_, rfl⟩
        subst hwz
        go_loopw [6] (fun k wr => ∃ q : Nat, ∃ X : List UInt8, q ≤ n ∧ k = .int .i64 q ∧ X.length = n ∧ Below w1.heap.size w1 wr ∧ Own wr w1.heap.size 5 (.slice aI n cI) X ∧ Box (wr.heap[g]? = some (.cells (bvs (roomyL X)).toArray 5 (0, 0)))) (fun k _ => n - (intOf k).toNat)
        case atStart => exact ⟨0, X0, Nat.zero_le _, rfl, HXL0.out, HB0.out, HO0.out, HF0⟩
        case round =>
          obtain ⟨q, X, hqn, rfl, hXL, hB, hO, HF⟩ := hrel
          have HXL := Box.mk hXL
          have HB := Box.mk hB
          have HO := Box.mk hO
          clear hXL hB hO HO0 HB0 HF0 HXL0
          by_cases hlq : q < n
          · skip
            obtain ⟨gi, hgi⟩ := own_ptr HO.out (by omega)
            subst hgi
            have hq' : q < X.length := by rw [HXL.out]; exact hlq
            have e0 : wr.cell? ⟨gi, q, none⟩ = some (.int .u8 ((X[q]'hq').toNat : Int)) := by have := HO.out.row.1.cell q hq'; rwa [Nat.zero_add] at this
            have hxor := xor1 (X[q]'hq')
            have hgl : Box ((roomyL X)[q]? = some (X[q]'hq')) := ⟨roomyL_at X q hq'⟩
            have hnew : Box (∀ u, (roomyL X).set q u = roomyL (X.set q u)) := ⟨fun u => roomyL_set X q hq' u⟩
            have hq2 : Box (q < (roomyL X).length) := ⟨by rw [length_roomyL]; omega⟩
            have hq3 := Box.mk hq'
            generalize (X[q]'hq') = x at *
            generalize x ^^^ 1 = u at *
            clear hq'
            go_wp2_with ((with_reducible refine arm_store_own 5 (.tmp 58) (.tmp 57) ?_ rfl gi n cI q w1.heap.size ?_ u ?_ hi5.out X HO.out hq3.out ?_); rfl; rfl; rfl)
            intro w4 O4 G4
            have HO4 := Box.mk O4
            have hne := Box.mk (HNB.out gi rfl)
            have HF4 := Box.mk ((G4.block g (heap_lt HF.out) (by intro h; injection h with h; have := hne.out; omega)).trans HF.out)
            have HB4 := Box.mk (HB.out.grown G4 HB.out.size (fun k hk => by cases hk; exact HNL.out _ rfl))
            have e1 : w4.cell? ⟨g, q, none⟩ = some (.int .u8 (x.toNat : Int)) := by
              rw [cell_of_row _ _ q _ _ _ HF4.out, ← Array.getElem?_toList]
              show (bvs (roomyL X))[q]? = _
              rw [bvs_getElem?, hgl.out]; rfl
            clear O4 G4 e0
            go_wp2_with ((with_reducible refine arm_store_byte 5 (.tmp 66) (.tmp 65) ?_ rfl g q ?_ (u.toNat : Int) ?_ hi5.out (roomyL X) HF4.out hq2.out u rfl ?_); rfl; rfl; rfl)
            intro w5 g5 G5
            have HF5 := Box.mk g5.out
            rw [hnew.out u] at HF5
            have HO5 := Box.mk (HO4.out.kept G5 (.inr (by intro h; have h' : gi = g := Option.some.inj h; have := hne.out; omega)))
            have HB5 := Box.mk (HB4.out.grown G5 HB4.out.size (fun k hk => by cases hk; exact HGL.out))
            have HX5 : Box ((X.set q u).length = n) := ⟨by rw [List.length_set]; exact HXL.out⟩
            clear g5 G5 HO4 HF4 e1
            go_wp2
            go_roundw
            case rel => exact ⟨q + 1, X.set q u, by omega, by go_num, HX5.out, HB5.out, HO5.out, HF5⟩
            case measure => simp [intOf]; omega
          · obtain rfl : n = q := by omega
            have FR := Box.mk ((HB.out.block _ hl0.out).trans F0.out)
            have OF := own_facts HO.out
            have BR := Box.mk (B0.out.trans (HB.out.mono B0.out.size))
            have hC := Box.mk (hV.out X HXL.out g aI cI wr BR.out HF.out OF.1 OF.2.1 OF.2.2.1 OF.2.2.2)
            clear OF
            go_wp2_with (first
              | ((with_reducible refine arm_row 32 (.tmp 1) ?_ ?_ w.heap.size ?_ 32 cs (0, 0) _ FR.out UO rfl hi1.out ?_); rfl; rfl; rfl)
              | (go_at_call 14; refine (calls_box hC.out).mono ?_))
            rintro e w6 ⟨⟨rfl, hB6⟩⟩
            have HB6 := Box.mk (HB.out.trans (hB6.mono HB.out.size))
            have HO6 := Box.mk (HO.out.below hB6 (fun g' hg' => (HO.out.lt g' hg').2))
            have HF6 := Box.mk ((hB6.block _ (heap_lt HF.out)).trans HF.out)
            clear hB6 hC
            go_wp2
            go_roundw
            case rel => exact ⟨3, X, by omega, rfl, HXL.out, HB6.out, HO6.out, HF6⟩
            case measure => simp [intOf]
    · obtain rfl : j = 3 := by omega
      have BR := Box.mk (B0.out.trans (HB0.out.mono B0.out.size))
      go_wp2
      go_ret
      exact ⟨rfl, BR.out⟩

set_option maxRecDepth 100000 in
set_option maxHeartbeats 8000000 in
theorem plays_val2 (o : OpV) (hk : o.kind = 2) (w : World) (lv ln : List UInt8) (hv0 : Row w o.vao o.vn lv) (hvn : o.vn ≤ 140737488351232) (hn0 : Row w o.nd.ao o.nd.n ln) (hnn : o.nd.n ≤ 140737488351232)
    (hV0 : ∀ (L : List UInt8), L.length = o.vn → ∀ (g : Nat) (a1 : Option Addr) (c1 : Nat) (W : World), Below w.heap.size w W → W.heap[g]? = some (.cells (bvs (roomyL L)).toArray 5 (0, 0)) → Row W a1 o.vn L → (a1 = none → o.vn = 0 ∧ c1 = 0) → o.vn ≤ c1 → c1 ≤ maxLen →
      Calls Tryd.prog 14 #[.agg (opC o).toArray, .slice (some ⟨g, 0, none⟩) (o.vn + 100) (o.vn + 100), .slice a1 o.vn c1] W fun e W' => e = .returned (.bool true) ∧ Below W.heap.size W W') :
    Calls Tryd.prog 11 #[.agg (opC o).toArray] w fun e w' => e = .returned (.bool true) ∧ Below w.heap.size w w' := by
  obtain ⟨fs, UO⟩ := opUnder
  have hi1 := opSize o
  have hi5 : Box ((Tryd.prog.info? 5).map (·.size) = some 1) := ⟨by kernel_rfl⟩
  have hV := Box.mk hV0
  have F0 : Box ((w.alloc (.cells (opC o).toArray 32)).heap[w.heap.size]? = some (.cells (opC o).toArray 32 (0, 0))) := ⟨heap_new rfl⟩
  have c0 : (w.alloc (.cells (opC o).toArray 32)).cell? ⟨w.heap.size, 0, none⟩ = some (.int .i64 2) := by rw [cell_of_row _ _ 0 _ _ _ F0.out, ← hk]; rfl
  have c100 : (w.alloc (.cells (opC o).toArray 32)).cell? ⟨w.heap.size, 100, none⟩ = some (.slice o.vao o.vn o.vc) := by rw [cell_of_row _ _ 100 _ _ _ F0.out]; exact opC_val o
  have ck : Box (∀ W : World, W.heap[w.heap.size]? = some (.cells (opC o).toArray 32 (0, 0)) → W.cell? ⟨w.heap.size, 0, none⟩ = some (.int .i64 2)) := ⟨fun W hW => by rw [cell_of_row _ _ 0 _ _ _ hW, ← hk]; rfl⟩
  have cn : Box (∀ W : World, W.heap[w.heap.size]? = some (.cells (opC o).toArray 32 (0, 0)) → W.cell? ⟨w.heap.size, 202, none⟩ = some (.slice o.nd.ao o.nd.n o.nd.c)) := ⟨fun W hW => by rw [cell_of_row _ _ 202 _ _ _ hW]; exact opC_nval o⟩
  have B0 := Box.mk (Below.refl_alloc w (.cells (opC o).toArray 32))
  have HV := Box.mk (hv0.old B0.out)
  have HN := Box.mk (hn0.old B0.out)
  clear hV0 hk hv0 hn0
  generalize (opC o).toArray = cs at *
  go_enter Tryd.func11, Tryd.ntmps11
  go_upto_region 1 with fail
  generalize w.alloc (.cells cs 32) = w1 at *
  have hl0 := Box.mk (heap_lt F0.out)
  go_wp2_with (go_at_call 12; refine (calls_box (copyBytes_any o.vao o.vn o.vc lv _ HV.out hvn)).mono ?_)
  rintro e w2 ⟨⟨⟨v, rfl, own⟩, hB⟩⟩
  have HB2 := Box.mk hB
  have F2 := Box.mk ((hB.block _ hl0.out).trans F0.out)
  have k2 := ck.out _ F2.out
  obtain ⟨aI, cI, rfl, rI⟩ := own_read3v own
  have hlI := Box.mk HV.out.1
  have HOWN := Box.mk own
  have RI := Box.mk rI
  clear own hB c0 c100 rI
  rw [hlI.out] at RI HOWN ⊢
  go_wp2_with (go_at_call 13; refine (calls_box (roomy_any aI o.vn cI lv _ RI.out hvn)).mono ?_)
  rintro e w3 ⟨⟨⟨g, rfl, hg, hge⟩, hB⟩⟩
  have HF3 := Box.mk hg
  have HB3 := Box.mk (HB2.out.trans (hB.mono HB2.out.size))
  have HO3 := Box.mk (HOWN.out.below hB (fun g' hg' => (HOWN.out.lt g' hg').2))
  have HNB : Box (∀ b, aI = some ⟨b, 0, none⟩ → b < g) := ⟨fun b hb => by subst hb; exact Nat.lt_of_lt_of_le (HOWN.out.lt b rfl).2 hge⟩
  have HNL : Box (∀ b, aI = some ⟨b, 0, none⟩ → w1.heap.size ≤ b) := ⟨fun b hb => by subst hb; exact (HOWN.out.lt b rfl).1⟩
  have HGL := Box.mk (Nat.le_trans HB2.out.size hge)
  have hvb := hvn
  clear hg hge hB HV HN RI HOWN cn ck
  try clear k2
  try clear F2
  generalize o.vn = n at *
  go_wp2
  go_loopw [5, 6] (fun i k wr => ∃ j : Nat, ∃ X : List UInt8, j ≤ 3 ∧ i = .int .i64 j ∧ X.length = n ∧ Below w1.heap.size w1 wr ∧ Own wr w1.heap.size 5 (.slice aI n cI) X ∧ Box (wr.heap[g]? = some (.cells (bvs (roomyL X)).toArray 5 (0, 0)))) (fun i k _ => 3 - (intOf i).toNat)
  case atStart => exact ⟨0, lv, Nat.zero_le _, rfl, hlI.out, HB3.out, HO3.out, HF3⟩
  case round =>
    obtain ⟨j, X0, hj, rfl, hXL0, hB0, hO0, HF0⟩ := hrel
    have HXL0 := Box.mk hXL0
    have HB0 := Box.mk hB0
    have HO0 := Box.mk hO0
    clear hXL0 hB0 hO0 HO3 HF3 HB3 hlI
    by_cases hlt : j < 3
    · obtain rfl | rfl | rfl : j = 0 ∨ j = 1 ∨ j = 2 := by omega
      · skip
        try rw [show ((0 : Nat) : Int) = 0 from rfl]
        go_wp2
        obtain ⟨wz, hwz⟩ : ∃ x, x = wr := ⟨_, rfl⟩
        subst hwz
        go_loopw [6] (fun k wr => ∃ q : Nat, ∃ X : List UInt8, q ≤ n ∧ k = .int .i64 q ∧ X.length = n ∧ Below w1.heap.size w1 wr ∧ Own wr w1.heap.size 5 (.slice aI n cI) X ∧ Box (wr.heap[g]? = some (.cells (bvs (roomyL X)).toArray 5 (0, 0)))) (fun k _ => n - (intOf k).toNat)
        case atStart => exact ⟨0, X0, Nat.zero_le _, rfl, HXL0.out, HB0.out, HO0.out, HF0⟩
        case round =>
          obtain ⟨q, X, hqn, rfl, hXL, hB, hO, HF⟩ := hrel
          have HXL := Box.mk hXL
          have HB := Box.mk hB
          have HO := Box.mk hO
          clear hXL hB hO HO0 HB0 HF0 HXL0
          by_cases hlq : q < n
          · skip
            go_wp2
            go_roundw
            case rel => exact ⟨q + 1, X, by omega, by go_num, HXL.out, HB.out, HO.out, HF⟩
            case measure => simp [intOf]; omega
          · obtain rfl : n = q := by omega
            have FR := Box.mk ((HB.out.block _ hl0.out).trans F0.out)
            have OF := own_facts HO.out
            have BR := Box.mk (B0.out.trans (HB.out.mono B0.out.size))
            have hC := Box.mk (hV.out X HXL.out g aI cI wr BR.out HF.out OF.1 OF.2.1 OF.2.2.1 OF.2.2.2)
            clear OF
            go_wp2_with (first
              | ((with_reducible refine arm_row 32 (.tmp 1) ?_ ?_ w.heap.size ?_ 32 cs (0, 0) _ FR.out UO rfl hi1.out ?_); rfl; rfl; rfl)
              | (go_at_call 14; refine (calls_box hC.out).mono ?_))
            rintro e w6 ⟨⟨rfl, hB6⟩⟩
            have HB6 := Box.mk (HB.out.trans (hB6.mono HB.out.size))
            have HO6 := Box.mk (HO.out.below hB6 (fun g' hg' => (HO.out.lt g' hg').2))
            have HF6 := Box.mk ((hB6.block _ (heap_lt HF.out)).trans HF.out)
            clear hB6 hC
            go_wp2
            go_roundw
            case rel => exact ⟨1, X, by omega, rfl, HXL.out, HB6.out, HO6.out, HF6⟩
            case measure => simp [intOf]
      · skip
        try rw [show ((1 : Nat) : Int) = 1 from rfl]
        go_wp2
        obtain ⟨wz, hwz⟩ : ∃ x, x = wr := ⟨_, rfl⟩
        subst hwz
        go_loopw [6] (fun k wr => ∃ q : Nat, ∃ X : List UInt8, q ≤ n ∧ k = .int .i64 q ∧ X.length = n ∧ Below w1.heap.size w1 wr ∧ Own wr w1.heap.size 5 (.slice aI n cI) X ∧ Box (wr.heap[g]? = some (.cells (bvs (roomyL X)).toArray 5 (0, 0)))) (fun k _ => n - (intOf k).toNat)
        case atStart => exact ⟨0, X0, Nat.zero_le _, rfl, HXL0.out, HB0.out, HO0.out, HF0⟩
        case round =>
          obtain ⟨q, X, hqn, rfl, hXL, hB, hO, HF⟩ := hrel
          have HXL := Box.mk hXL
          have HB := Box.mk hB
          have HO := Box.mk hO
          clear hXL hB hO HO0 HB0 HF0 HXL0
          by_cases hlq : q < n
          · skip
            have hquo : Int.tdiv (n : Int) 2 = ((n / 2 : Nat) : Int) := by rw [Int.tdiv_eq_ediv_of_nonneg (by omega)]; omega
            cases hqq : ((q : Int) == ((n / 2 : Nat) : Int))
            · skip
              go_wp2
              go_roundw
              case rel => exact ⟨q + 1, X, by omega, by go_num, HXL.out, HB.out, HO.out, HF⟩
              case measure => simp [intOf]; omega
            · skip
              obtain ⟨gi, hgi⟩ := own_ptr HO.out (by omega)
              subst hgi
              have hq' : q < X.length := by rw [HXL.out]; exact hlq
              have e0 : wr.cell? ⟨gi, q, none⟩ = some (.int .u8 ((X[q]'hq').toNat : Int)) := by have := HO.out.row.1.cell q hq'; rwa [Nat.zero_add] at this
              have hxor := xor1 (X[q]'hq')
              have hgl : Box ((roomyL X)[q]? = some (X[q]'hq')) := ⟨roomyL_at X q hq'⟩
              have hnew : Box (∀ u, (roomyL X).set q u = roomyL (X.set q u)) := ⟨fun u => roomyL_set X q hq' u⟩
              have hq2 : Box (q < (roomyL X).length) := ⟨by rw [length_roomyL]; omega⟩
              have hq3 := Box.mk hq'
              generalize (X[q]'hq') = x at *
              generalize x ^^^ 1 = u at *
              clear hq'
              go_wp2_with ((with_reducible refine arm_store_own 5 (.tmp 58) (.tmp 57) ?_ rfl gi n cI q w1.heap.size ?_ u ?_ hi5.out X HO.out hq3.out ?_); rfl; rfl; rfl)
              intro w4 O4 G4
              have HO4 := Box.mk O4
              have hne := Box.mk (HNB.out gi rfl)
              have HF4 := Box.mk ((G4.block g (heap_lt HF.out) (by intro h; injection h with h; have := hne.out; omega)).trans HF.out)
              have HB4 := Box.mk (HB.out.grown G4 HB.out.size (fun k hk => by cases hk; exact HNL.out _ rfl))
              have e1 : w4.cell? ⟨g, q, none⟩ = some (.int .u8 (x.toNat : Int)) := by
                rw [cell_of_row _ _ q _ _ _ HF4.out, ← Array.getElem?_toList]
                show (bvs (roomyL X))[q]? = _
                rw [bvs_getElem?, hgl.out]; rfl
              clear O4 G4 e0
              go_wp2_with ((with_reducible refine arm_store_byte 5 (.tmp 66) (.tmp 65) ?_ rfl g q ?_ (u.toNat : Int) ?_ hi5.out (roomyL X) HF4.out hq2.out u rfl ?_); rfl; rfl; rfl)
              intro w5 g5 G5
              have HF5 := Box.mk g5.out
              rw [hnew.out u] at HF5
              have HO5 := Box.mk (HO4.out.kept G5 (.inr (by intro h; have h' : gi = g := Option.some.inj h; have := hne.out; omega)))
              have HB5 := Box.mk (HB4.out.grown G5 HB4.out.size (fun k hk => by cases hk; exact HGL.out))
              have HX5 : Box ((X.set q u).length = n) := ⟨by rw [List.length_set]; exact HXL.out⟩
              clear g5 G5 HO4 HF4 e1
              go_wp2
              go_roundw
              case rel => exact ⟨q + 1, X.set q u, by omega, by go_num, HX5.out, HB5.out, HO5.out, HF5⟩
              case measure => simp [intOf]; omega
          · obtain rfl : n = q := by omega
            have FR := Box.mk ((HB.out.block _ hl0.out).trans F0.out)
            have OF := own_facts HO.out
            have BR := Box.mk (B0.out.trans (HB.out.mono B0.out.size))
            have hC := Box.mk (hV.out X HXL.out g aI cI wr BR.out HF.out OF.1 OF.2.1 OF.2.2.1 OF.2.2.2)
            clear OF
            go_wp2_with (first
              | ((with_reducible refine arm_row 32 (.tmp 1) ?_ ?_ w.heap.size ?_ 32 cs (0, 0) _ FR.out UO rfl hi1.out ?_); rfl; rfl; rfl)
              | (go_at_call 14; refine (calls_box hC.out).mono ?_))
            rintro e w6 ⟨⟨rfl, hB6⟩⟩
            have HB6 := Box.mk (HB.out.trans (hB6.mono HB.out.size))
            have HO6 := Box.mk (HO.out.below hB6 (fun g' hg' => (HO.out.lt g' hg').2))
            have HF6 := Box.mk ((hB6.block _ (heap_lt HF.out)).trans HF.out)
            clear hB6 hC
            go_wp2
            go_roundw
            case rel => exact ⟨2, X, by omega, rfl, HXL.out, HB6.out, HO6.out, HF6⟩
            case measure => simp [intOf]
      · skip
        try rw [show ((2 : Nat) : Int) = 2 from rfl]
        go_wp2
        obtain ⟨wz, hwz⟩ : ∃ x, x = wr := ⟨_, rfl⟩
        subst hwz
        go_loopw [6] (fun k wr => ∃ q : Nat, ∃ X : List UInt8, q ≤ n ∧ k = .int .i64 q ∧ X.length = n ∧ Below w1.heap.size w1 wr ∧ Own wr w1.heap.size 5 (.slice aI n cI) X ∧ Box (wr.heap[g]? = some (.cells (bvs (roomyL X)).toArray 5 (0, 0)))) (fun k _ => n - (intOf k).toNat)
        case atStart => exact ⟨0, X0, Nat.zero_le _, rfl, HXL0.out, HB0.out, HO0.out, HF0⟩
        case round =>
          obtain ⟨q, X, hqn, rfl, hXL, hB, hO, HF⟩ := hrel
          have HXL := Box.mk hXL
          have HB := Box.mk hB
          have HO := Box.mk hO
          clear hXL hB hO HO0 HB0 HF0 HXL0
          by_cases hlq : q < n
          · skip
            obtain ⟨gi, hgi⟩ := own_ptr HO.out (by omega)
            subst hgi
            have hq' : q < X.length := by rw [HXL.out]; exact hlq
            have e0 : wr.cell? ⟨gi, q, none⟩ = some (.int .u8 ((X[q]'hq').toNat : Int)) := by have := HO.out.row.1.cell q hq'; rwa [Nat.zero_add] at this
            have hxor := xor1 (X[q]'hq')
            have hgl : Box ((roomyL X)[q]? = some (X[q]'hq')) := ⟨roomyL_at X q hq'⟩
            have hnew : Box (∀ u, (roomyL X).set q u = roomyL (X.set q u)) := ⟨fun u => roomyL_set X q hq' u⟩
            have hq2 : Box (q < (roomyL X).length) := ⟨by rw [length_roomyL]; omega⟩
            have hq3 := Box.mk hq'
            generalize (X[q]'hq') = x at *
            generalize x ^^^ 1 = u at *
            clear hq'
            go_wp2_with ((with_reducible refine arm_store_own 5 (.tmp 58) (.tmp 57) ?_ rfl gi n cI q w1.heap.size ?_ u ?_ hi5.out X HO.out hq3.out ?_); rfl; rfl; rfl)
            intro w4 O4 G4
            have HO4 := Box.mk O4
            have hne := Box.mk (HNB.out gi rfl)
            have HF4 := Box.mk ((G4.block g (heap_lt HF.out) (by intro h; injection h with h; have := hne.out; omega)).trans HF.out)
            have HB4 := Box.mk (HB.out.grown G4 HB.out.size (fun k hk => by cases hk; exact HNL.out _ rfl))
            have e1 : w4.cell? ⟨g, q, none⟩ = some (.int .u8 (x.toNat : Int)) := by
              rw [cell_of_row _ _ q _ _ _ HF4.out, ← Array.getElem?_toList]
              show (bvs (roomyL X))[q]? = _
              rw [bvs_getElem?, hgl.out]; rfl
            clear O4 G4 e0
            go_wp2_with ((with_reducible refine arm_store_byte 5 (.tmp 66) (.tmp 65) ?_ rfl g q ?_ (u.toNat : Int) ?_ hi5.out (roomyL X) HF4.out hq2.out u rfl ?_); rfl; rfl; rfl)
            intro w5 g5 G5
            have HF5 := Box.mk g5.out
            rw [hnew.out u] at HF5
            have HO5 := Box.mk (HO4.out.kept G5 (.inr (by intro h; have h' : gi = g := Option.some.inj h; have := hne.out; omega)))
            have HB5 := Box.mk (HB4.out.grown G5 HB4.out.size (fun k hk => by cases hk; exact HGL.out))
            have HX5 : Box ((X.set q u).length = n) := ⟨by rw [List.length_set]; exact HXL.out⟩
            clear g5 G5 HO4 HF4 e1
            go_wp2
            go_roundw
            case rel => exact ⟨q + 1, X.set q u, by omega, by go_num, HX5.out, HB5.out, HO5.out, HF5⟩
            case measure => simp [intOf]; omega
          · obtain rfl : n = q := by omega
            have FR := Box.mk ((HB.out.block _ hl0.out).trans F0.out)
            have OF := own_facts HO.out
            have BR := Box.mk (B0.out.trans (HB.out.mono B0.out.size))
            have hC := Box.mk (hV.out X HXL.out g aI cI wr BR.out HF.out OF.1 OF.2.1 OF.2.2.1 OF.2.2.2)
            clear OF
            go_wp2_with (first
              | ((with_reducible refine arm_row 32 (.tmp 1) ?_ ?_ w.heap.size ?_ 32 cs (0, 0) _ FR.out UO rfl hi1.out ?_); rfl; rfl; rfl)
              | (go_at_call 14; refine (calls_box hC.out).mono ?_))
            rintro e w6 ⟨⟨rfl, hB6⟩⟩
            have HB6 := Box.mk (HB.out.trans (hB6.mono HB.out.size))
            have HO6 := Box.mk (HO.out.below hB6 (fun g' hg' => (HO.out.lt g' hg').2))
            have HF6 := Box.mk ((hB6.block _ (heap_lt HF.out)).trans HF.out)
            clear hB6 hC
            go_wp2
            go_roundw
            case rel => exact ⟨3, X, by omega, rfl, HXL.out, HB6.out, HO6.out, HF6⟩
            case measure => simp [intOf]
    · obtain rfl : j = 3 := by omega
      have BR := Box.mk (B0.out.trans (HB0.out.mono B0.out.size))
      go_wp2
      go_ret
      exact ⟨rfl, BR.out⟩

set_option maxRecDepth 100000 in
set_option maxHeartbeats 8000000 in
theorem plays_val3 (o : OpV) (hk : o.kind = 3) (w : World) (lv ln : List UInt8) (hv0 : Row w o.vao o.vn lv) (hvn : o.vn ≤ 140737488351232) (hn0 : Row w o.nd.ao o.nd.n ln) (hnn : o.nd.n ≤ 140737488351232)
    (hV0 : ∀ (L : List UInt8), L.length = o.vn → ∀ (g : Nat) (a1 : Option Addr) (c1 : Nat) (W : World), Below w.heap.size w W → W.heap[g]? = some (.cells (bvs (roomyL L)).toArray 5 (0, 0)) → Row W a1 o.vn L → (a1 = none → o.vn = 0 ∧ c1 = 0) → o.vn ≤ c1 → c1 ≤ maxLen →
      Calls Tryd.prog 14 #[.agg (opC o).toArray, .slice (some ⟨g, 0, none⟩) (o.vn + 100) (o.vn + 100), .slice a1 o.vn c1] W fun e W' => e = .returned (.bool true) ∧ Below W.heap.size W W') :
    Calls Tryd.prog 11 #[.agg (opC o).toArray] w fun e w' => e = .returned (.bool true) ∧ Below w.heap.size w w' := by
  obtain ⟨fs, UO⟩ := opUnder
  have hi1 := opSize o
  have hi5 : Box ((Tryd.prog.info? 5).map (·.size) = some 1) := ⟨by kernel_rfl⟩
  have hV := Box.mk hV0
  have F0 : Box ((w.alloc (.cells (opC o).toArray 32)).heap[w.heap.size]? = some (.cells (opC o).toArray 32 (0, 0))) := ⟨heap_new rfl⟩
  have c0 : (w.alloc (.cells (opC o).toArray 32)).cell? ⟨w.heap.size, 0, none⟩ = some (.int .i64 3) := by rw [cell_of_row _ _ 0 _ _ _ F0.out, ← hk]; rfl
  have c100 : (w.alloc (.cells (opC o).toArray 32)).cell? ⟨w.heap.size, 100, none⟩ = some (.slice o.vao o.vn o.vc) := by rw [cell_of_row _ _ 100 _ _ _ F0.out]; exact opC_val o
  have ck : Box (∀ W : World, W.heap[w.heap.size]? = some (.cells (opC o).toArray 32 (0, 0)) → W.cell? ⟨w.heap.size, 0, none⟩ = some (.int .i64 3)) := ⟨fun W hW => by rw [cell_of_row _ _ 0 _ _ _ hW, ← hk]; rfl⟩
  have cn : Box (∀ W : World, W.heap[w.heap.size]? = some (.cells (opC o).toArray 32 (0, 0)) → W.cell? ⟨w.heap.size, 202, none⟩ = some (.slice o.nd.ao o.nd.n o.nd.c)) := ⟨fun W hW => by rw [cell_of_row _ _ 202 _ _ _ hW]; exact opC_nval o⟩
  have B0 := Box.mk (Below.refl_alloc w (.cells (opC o).toArray 32))
  have HV := Box.mk (hv0.old B0.out)
  have HN := Box.mk (hn0.old B0.out)
  clear hV0 hk hv0 hn0
  generalize (opC o).toArray = cs at *
  go_enter Tryd.func11, Tryd.ntmps11
  go_upto_region 1 with fail
  generalize w.alloc (.cells cs 32) = w1 at *
  have hl0 := Box.mk (heap_lt F0.out)
  go_wp2_with (go_at_call 12; refine (calls_box (copyBytes_any o.vao o.vn o.vc lv _ HV.out hvn)).mono ?_)
  rintro e w2 ⟨⟨⟨v, rfl, own⟩, hB⟩⟩
  have HB2 := Box.mk hB
  have F2 := Box.mk ((hB.block _ hl0.out).trans F0.out)
  have k2 := ck.out _ F2.out
  obtain ⟨aI, cI, rfl, rI⟩ := own_read3v own
  have hlI := Box.mk HV.out.1
  have HOWN := Box.mk own
  have RI := Box.mk rI
  clear own hB c0 c100 rI
  rw [hlI.out] at RI HOWN ⊢
  go_wp2_with (go_at_call 13; refine (calls_box (roomy_any aI o.vn cI lv _ RI.out hvn)).mono ?_)
  rintro e w3 ⟨⟨⟨g, rfl, hg, hge⟩, hB⟩⟩
  have HF3 := Box.mk hg
  have HB3 := Box.mk (HB2.out.trans (hB.mono HB2.out.size))
  have HO3 := Box.mk (HOWN.out.below hB (fun g' hg' => (HOWN.out.lt g' hg').2))
  have HNB : Box (∀ b, aI = some ⟨b, 0, none⟩ → b < g) := ⟨fun b hb => by subst hb; exact Nat.lt_of_lt_of_le (HOWN.out.lt b rfl).2 hge⟩
  have HNL : Box (∀ b, aI = some ⟨b, 0, none⟩ → w1.heap.size ≤ b) := ⟨fun b hb => by subst hb; exact (HOWN.out.lt b rfl).1⟩
  have HGL := Box.mk (Nat.le_trans HB2.out.size hge)
  have hvb := hvn
  clear hg hge hB HV HN RI HOWN cn ck
  try clear k2
  try clear F2
  generalize o.vn = n at *
  go_wp2
  go_loopw [5, 6] (fun i k wr => ∃ j : Nat, ∃ X : List UInt8, j ≤ 3 ∧ i = .int .i64 j ∧ X.length = n ∧ Below w1.heap.size w1 wr ∧ Own wr w1.heap.size 5 (.slice aI n cI) X ∧ Box (wr.heap[g]? = some (.cells (bvs (roomyL X)).toArray 5 (0, 0)))) (fun i k _ => 3 - (intOf i).toNat)
  case atStart => exact ⟨0, lv, Nat.zero_le _, rfl, hlI.out, HB3.out, HO3.out, HF3⟩
  case round =>
    obtain ⟨j, X0, hj, rfl, hXL0, hB0, hO0, HF0⟩ := hrel
    have HXL0 := Box.mk hXL0
    have HB0 := Box.mk hB0
    have HO0 := Box.mk hO0
    clear hXL0 hB0 hO0 HO3 HF3 HB3 hlI
    by_cases hlt : j < 3
    · obtain rfl | rfl | rfl : j = 0 ∨ j = 1 ∨ j = 2 := by omega
      · skip
        try rw [show ((0 : Nat) : Int) = 0 from rfl]
        go_wp2
        obtain ⟨wz, hwz⟩ : ∃ x, x = wr := ⟨_, rfl⟩
        subst hwz
        go_loopw [6] (fun k wr => ∃ q : Nat, ∃ X : List UInt8, q ≤ n ∧ k = .int .i64 q ∧ X.length = n ∧ Below w1.heap.size w1 wr ∧ Own wr w1.heap.size 5 (.slice aI n cI) X ∧ Box (wr.heap[g]? = some (.cells (bvs (roomyL X)).toArray 5 (0, 0)))) (fun k _ => n - (intOf k).toNat)
        case atStart => exact ⟨0, X0, Nat.zero_le _, rfl, HXL0.out, HB0.out, HO0.out, HF0⟩
        case round =>
          obtain ⟨q, X, hqn, rfl, hXL, hB, hO, HF⟩ := hrel
          have HXL := Box.mk hXL
          have HB := Box.mk hB
          have HO := Box.mk hO
          clear hXL hB hO HO0 HB0 HF0 HXL0
          by_cases hlq : q < n
          · skip
            go_wp2
            go_roundw
            case rel => exact ⟨q + 1, X, by omega, by go_num, HXL.out, HB.out, HO.out, HF⟩
            case measure => simp [intOf]; omega
          · obtain rfl : n = q := by omega
            have FR := Box.mk ((HB.out.block _ hl0.out).trans F0.out)
            have OF := own_facts HO.out
            have BR := Box.mk (B0.out.trans (HB.out.mono B0.out.size))
            have hC := Box.mk (hV.out X HXL.out g aI cI wr BR.out HF.out OF.1 OF.2.1 OF.2.2.1 OF.2.2.2)
            clear OF
            go_wp2_with (first
              | ((with_reducible refine arm_row 32 (.tmp 1) ?_ ?_ w.heap.size ?_ 32 cs (0, 0) _ FR.out UO rfl hi1.out ?_); rfl; rfl; rfl)
              | (go_at_call 14; refine (calls_box hC.out).mono ?_))
            rintro e w6 ⟨⟨rfl, hB6⟩⟩
            have HB6 := Box.mk (HB.out.trans (hB6.mono HB.out.size))
            have HO6 := Box.mk (HO.out.below hB6 (fun g' hg' => (HO.out.lt g' hg').2))
            have HF6 := Box.mk ((hB6.block _ (heap_lt HF.out)).trans HF.out)
            clear hB6 hC
            go_wp2
            go_roundw
            case rel => exact ⟨1, X, by omega, rfl, HXL.out, HB6.out, HO6.out, HF6⟩
            case measure => simp [intOf]
      · skip
        try rw [show ((1 : Nat) : Int) = 1 from rfl]
        go_wp2
        obtain ⟨wz, hwz⟩ : ∃ x, x = wr := ⟨_, rfl⟩
        subst hwz
        go_loopw [6] (fun k wr => ∃ q : Nat, ∃ X : List UInt8, q ≤ n ∧ k = .int .i64 q ∧ X.length = n ∧ Below w1.heap.size w1 wr ∧ Own wr w1.heap.size 5 (.slice aI n cI) X ∧ Box (wr.heap[g]? = some (.cells (bvs (roomyL X)).toArray 5 (0, 0)))) (fun k _ => n - (intOf k).toNat)
        case atStart => exact ⟨0, X0, Nat.zero_le _, rfl, HXL0.out, HB0.out, HO0.out, HF0⟩
        case round =>
          obtain ⟨q, X, hqn, rfl, hXL, hB, hO, HF⟩ := hrel
          have HXL := Box.mk hXL
          have HB := Box.mk hB
          have HO := Box.mk hO
          clear hXL hB hO HO0 HB0 HF0 HXL0
          by_cases hlq : q < n
          · skip
            have hquo : Int.tdiv (n : Int) 2 = ((n / 2 : Nat) : Int) := by rw [Int.tdiv_eq_ediv_of_nonneg (by omega)]; omega
            cases hqq : ((q : Int) == ((n / 2 : Nat) : Int))
            · skip
              go_wp2
              go_roundw
              case rel => exact ⟨q + 1, X, by omega, by go_num, HXL.out, HB.out, HO.out, HF⟩
              case measure => simp [intOf]; omega
            · skip
              obtain ⟨gi, hgi⟩ := own_ptr HO.out (by omega)
              subst hgi
              have hq' : q < X.length := by rw [HXL.out]; exact hlq
              have e0 : wr.cell? ⟨gi, q, none⟩ = some (.int .u8 ((X[q]'hq').toNat : Int)) := by have := HO.out.row.1.cell q hq'; rwa [Nat.zero_add] at this
              have hxor := xor1 (X[q]'hq')
              have hgl : Box ((roomyL X)[q]? = some (X[q]'hq')) := ⟨roomyL_at X q hq'⟩
              have hnew : Box (∀ u, (roomyL X).set q u = roomyL (X.set q u)) := ⟨fun u => roomyL_set X q hq' u⟩
              have hq2 : Box (q < (roomyL X).length) := ⟨by rw [length_roomyL]; omega⟩
              have hq3 := Box.mk hq'
              generalize (X[q]'hq') = x at *
              generalize x ^^^ 1 = u at *
              clear hq'
              go_wp2_with ((with_reducible refine arm_store_own 5 (.tmp 58) (.tmp 57) ?_ rfl gi n cI q w1.heap.size ?_ u ?_ hi5.out X HO.out hq3.out ?_); rfl; rfl; rfl)
              intro w4 O4 G4
              have HO4 := Box.mk O4
              have hne := Box.mk (HNB.out gi rfl)
              have HF4 := Box.mk ((G4.block g (heap_lt HF.out) (by intro h; injection h with h; have := hne.out; omega)).trans HF.out)
              have HB4 := Box.mk (HB.out.grown G4 HB.out.size (fun k hk => by cases hk; exact HNL.out _ rfl))
              have e1 : w4.cell? ⟨g, q, none⟩ = some (.int .u8 (x.toNat : Int)) := by
                rw [cell_of_row _ _ q _ _ _ HF4.out, ← Array.getElem?_toList]
                show (bvs (roomyL X))[q]? = _
                rw [bvs_getElem?, hgl.out]; rfl
              clear O4 G4 e0
              go_wp2_with ((with_reducible refine arm_store_byte 5 (.tmp 66) (.tmp 65) ?_ rfl g q ?_ (u.toNat : Int) ?_ hi5.out (roomyL X) HF4.out hq2.out u rfl ?_); rfl; rfl; rfl)
              intro w5 g5 G5
              have HF5 := Box.mk g5.out
              rw [hnew.out u] at HF5
              have HO5 := Box.mk (HO4.out.kept G5 (.inr (by intro h; have h' : gi = g := Option.some.inj h; have := hne.out; omega)))
              have HB5 := Box.mk (HB4.out.grown G5 HB4.out.size (fun k hk => by cases hk; exact HGL.out))
              have HX5 : Box ((X.set q u).length = n) := ⟨by rw [List.length_set]; exact HXL.out⟩
              clear g5 G5 HO4 HF4 e1
              go_wp2
              go_roundw
              case rel => exact ⟨q + 1, X.set q u, by omega, by go_num, HX5.out, HB5.out, HO5.out, HF5⟩
              case measure => simp [intOf]; omega
          · obtain rfl : n = q := by omega
            have FR := Box.mk ((HB.out.block _ hl0.out).trans F0.out)
            have OF := own_facts HO.out
            have BR := Box.mk (B0.out.trans (HB.out.mono B0.out.size))
            have hC := Box.mk (hV.out X HXL.out g aI cI wr BR.out HF.out OF.1 OF.2.1 OF.2.2.1 OF.2.2.2)
            clear OF
            go_wp2_with (first
              | ((with_reducible refine arm_row 32 (.tmp 1) ?_ ?_ w.heap.size ?_ 32 cs (0, 0) _ FR.out UO rfl hi1.out ?_); rfl; rfl; rfl)
              | (go_at_call 14; refine (calls_box hC.out).mono ?_))
            rintro e w6 ⟨⟨rfl, hB6⟩⟩
            have HB6 := Box.mk (HB.out.trans (hB6.mono HB.out.size))
            have HO6 := Box.mk (HO.out.below hB6 (fun g' hg' => (HO.out.lt g' hg').2))
            have HF6 := Box.mk ((hB6.block _ (heap_lt HF.out)).trans HF.out)
            clear hB6 hC
            go_wp2
            go_roundw
            case rel => exact ⟨2, X, by omega, rfl, HXL.out, HB6.out, HO6.out, HF6⟩
            case measure => simp [intOf]
      · skip
        try rw [show ((2 : Nat) : Int) = 2 from rfl]
        go_wp2
        obtain ⟨wz, hwz⟩ : ∃ x, x = wr := ⟨_, rfl⟩
        subst hwz
        go_loopw [6] (fun k wr => ∃ q : Nat, ∃ X : List UInt8, q ≤ n ∧ k = .int .i64 q ∧ X.length = n ∧ Below w1.heap.size w1 wr ∧ Own wr w1.heap.size 5 (.slice aI n cI) X ∧ Box (wr.heap[g]? = some (.cells (bvs (roomyL X)).toArray 5 (0, 0)))) (fun k _ => n - (intOf k).toNat)
        case atStart => exact ⟨0, X0, Nat.zero_le _, rfl, HXL0.out, HB0.out, HO0.out, HF0⟩
        case round =>
          obtain ⟨q, X, hqn, rfl, hXL, hB, hO, HF⟩ := hrel
          have HXL := Box.mk hXL
          have HB := Box.mk hB
          have HO := Box.mk hO
          clear hXL hB hO HO0 HB0 HF0 HXL0
          by_cases hlq : q < n
          · skip
            obtain ⟨gi, hgi⟩ := own_ptr HO.out (by omega)
            subst hgi
            have hq' : q < X.length := by rw [HXL.out]; exact hlq
            have e0 : wr.cell? ⟨gi, q, none⟩ = some (.int .u8 ((X[q]'hq').toNat : Int)) := by have := HO.out.row.1.cell q hq'; rwa [Nat.zero_add] at this
            have hxor := xor1 (X[q]'hq')
            have hgl : Box ((roomyL X)[q]? = some (X[q]'hq')) := ⟨roomyL_at X q hq'⟩
            have hnew : Box (∀ u, (roomyL X).set q u = roomyL (X.set q u)) := ⟨fun u => roomyL_set X q hq' u⟩
            have hq2 : Box (q < (roomyL X).length) := ⟨by rw [length_roomyL]; omega⟩
            have hq3 := Box.mk hq'
            generalize (X[q]'hq') = x at *
            generalize x ^^^ 1 = u at *
            clear hq'
            go_wp2_with ((with_reducible refine arm_store_own 5 (.tmp 58) (.tmp 57) ?_ rfl gi n cI q w1.heap.size ?_ u ?_ hi5.out X HO.out hq3.out ?_); rfl; rfl; rfl)
            intro w4 O4 G4
            have HO4 := Box.mk O4
            have hne := Box.mk (HNB.out gi rfl)
            have HF4 := Box.mk ((G4.block g (heap_lt HF.out) (by intro h; injection h with h; have := hne.out; omega)).trans HF.out)
            have HB4 := Box.mk (HB.out.grown G4 HB.out.size (fun k hk => by cases hk; exact HNL.out _ rfl))
            have e1 : w4.cell? ⟨g, q, none⟩ = some (.int .u8 (x.toNat : Int)) := by
              rw [cell_of_row _ _ q _ _ _ HF4.out, ← Array.getElem?_toList]
              show (bvs (roomyL X))[q]? = _
              rw [bvs_getElem?, hgl.out]; rfl
            clear O4 G4 e0
            go_wp2_with ((with_reducible refine arm_store_byte 5 (.tmp 66) (.tmp 65) ?_ rfl g q ?_ (u.toNat : Int) ?_ hi5.out (roomyL X) HF4.out hq2.out u rfl ?_); rfl; rfl; rfl)
            intro w5 g5 G5
            have HF5 := Box.mk g5.out
            rw [hnew.out u] at HF5
            have HO5 := Box.mk (HO4.out.kept G5 (.inr (by intro h; have h' : gi = g := Option.some.inj h; have := hne.out; omega)))
            have HB5 := Box.mk (HB4.out.grown G5 HB4.out.size (fun k hk => by cases hk; exact HGL.out))
            have HX5 : Box ((X.set q u).length = n) := ⟨by rw [List.length_set]; exact HXL.out⟩
            clear g5 G5 HO4 HF4 e1
            go_wp2
            go_roundw
            case rel => exact ⟨q + 1, X.set q u, by omega, by go_num, HX5.out, HB5.out, HO5.out, HF5⟩
            case measure => simp [intOf]; omega
          · obtain rfl : n = q := by omega
            have FR := Box.mk ((HB.out.block _ hl0.out).trans F0.out)
            have OF := own_facts HO.out
            have BR := Box.mk (B0.out.trans (HB.out.mono B0.out.size))
            have hC := Box.mk (hV.out X HXL.out g aI cI wr BR.out HF.out OF.1 OF.2.1 OF.2.2.1 OF.2.2.2)
            clear OF
            go_wp2_with (first
              | ((with_reducible refine arm_row 32 (.tmp 1) ?_ ?_ w.heap.size ?_ 32 cs (0, 0) _ FR.out UO rfl hi1.out ?_); rfl; rfl; rfl)
              | (go_at_call 14; refine (calls_box hC.out).mono ?_))
            rintro e w6 ⟨⟨rfl, hB6⟩⟩
            have HB6 := Box.mk (HB.out.trans (hB6.mono HB.out.size))
            have HO6 := Box.mk (HO.out.below hB6 (fun g' hg' => (HO.out.lt g' hg').2))
            have HF6 := Box.mk ((hB6.block _ (heap_lt HF.out)).trans HF.out)
            clear hB6 hC
            go_wp2
            go_roundw
            case rel => exact ⟨3, X, by omega, rfl, HXL.out, HB6.out, HO6.out, HF6⟩
            case measure => simp [intOf]
    · obtain rfl : j = 3 := by omega
      have BR := Box.mk (B0.out.trans (HB0.out.mono B0.out.size))
      go_wp2
      go_ret
      exact ⟨rfl, BR.out⟩

set_option maxRecDepth 100000 in
set_option maxHeartbeats 8000000 in
theorem plays_val5 (o : OpV) (hk : o.kind = 5) (w : World) (lv ln : List UInt8) (hv0 : Row w o.vao o.vn lv) (hvn : o.vn ≤ 140737488351232) (hn0 : Row w o.nd.ao o.nd.n ln) (hnn : o.nd.n ≤ 140737488351232)
    (hV0 : ∀ (L : List UInt8), L.length = o.vn → ∀ (g : Nat) (a1 : Option Addr) (c1 : Nat) (W : World), Below w.heap.size w W → W.heap[g]? = some (.cells (bvs (roomyL L)).toArray 5 (0, 0)) → Row W a1 o.vn L → (a1 = none → o.vn = 0 ∧ c1 = 0) → o.vn ≤ c1 → c1 ≤ maxLen →
      Calls Tryd.prog 14 #[.agg (opC o).toArray, .slice (some ⟨g, 0, none⟩) (o.vn + 100) (o.vn + 100), .slice a1 o.vn c1] W fun e W' => e = .returned (.bool true) ∧ Below W.heap.size W W') :
    Calls Tryd.prog 11 #[.agg (opC o).toArray] w fun e w' => e = .returned (.bool true) ∧ Below w.heap.size w w' := by
  obtain ⟨fs, UO⟩ := opUnder
  have hi1 := opSize o
  have hi5 : Box ((Tryd.prog.info? 5).map (·.size) = some 1) := ⟨by kernel_rfl⟩
  have hV := Box.mk hV0
  have F0 : Box ((w.alloc (.cells (opC o).toArray 32)).heap[w.heap.size]? = some (.cells (opC o).toArray 32 (0, 0))) := ⟨heap_new rfl⟩
  have c0 : (w.alloc (.cells (opC o).toArray 32)).cell? ⟨w.heap.size, 0, none⟩ = some (.int .i64 5) := by rw [cell_of_row _ _ 0 _ _ _ F0.out, ← hk]; rfl
  have c100 : (w.alloc (.cells (opC o).toArray 32)).cell? ⟨w.heap.size, 100, none⟩ = some (.slice o.vao o.vn o.vc) := by rw [cell_of_row _ _ 100 _ _ _ F0.out]; exact opC_val o
  have ck : Box (∀ W : World, W.heap[w.heap.size]? = some (.cells (opC o).toArray 32 (0, 0)) → W.cell? ⟨w.heap.size, 0, none⟩ = some (.int .i64 5)) := ⟨fun W hW => by rw [cell_of_row _ _ 0 _ _ _ hW, ← hk]; rfl⟩
  have cn : Box (∀ W : World, W.heap[w.heap.size]? = some (.cells (opC o).toArray 32 (0, 0)) → W.cell? ⟨w.heap.size, 202, none⟩ = some (.slice o.nd.ao o.nd.n o.nd.c)) := ⟨fun W hW => by rw [cell_of_row _ _ 202 _ _ _ hW]; exact opC_nval o⟩
  have B0 := Box.mk (Below.refl_alloc w (.cells (opC o).toArray 32))
  have HV := Box.mk (hv0.old B0.out)
  have HN := Box.mk (hn0.old B0.out)
  clear hV0 hk hv0 hn0
  generalize (opC o).toArray = cs at *
  go_enter Tryd.func11, Tryd.ntmps11
  go_upto_region 1 with fail
  generalize w.alloc (.cells cs 32) = w1 at *
  have hl0 := Box.mk (heap_lt F0.out)
  go_wp2_with (go_at_call 12; refine (calls_box (copyBytes_any o.vao o.vn o.vc lv _ HV.out hvn)).mono ?_)
  rintro e w2 ⟨⟨⟨v, rfl, own⟩, hB⟩⟩
  have HB2 := Box.mk hB
  have F2 := Box.mk ((hB.block _ hl0.out).trans F0.out)
  have k2 := ck.out _ F2.out
  obtain ⟨aI, cI, rfl, rI⟩ := own_read3v own
  have hlI := Box.mk HV.out.1
  have HOWN := Box.mk own
  have RI := Box.mk rI
  clear own hB c0 c100 rI
  rw [hlI.out] at RI HOWN ⊢
  go_wp2_with (go_at_call 13; refine (calls_box (roomy_any aI o.vn cI lv _ RI.out hvn)).mono ?_)
  rintro e w3 ⟨⟨⟨g, rfl, hg, hge⟩, hB⟩⟩
  have HF3 := Box.mk hg
  have HB3 := Box.mk (HB2.out.trans (hB.mono HB2.out.size))
  have HO3 := Box.mk (HOWN.out.below hB (fun g' hg' => (HOWN.out.lt g' hg').2))
  have HNB : Box (∀ b, aI = some ⟨b, 0, none⟩ → b < g) := ⟨fun b hb => by subst hb; exact Nat.lt_of_lt_of_le (HOWN.out.lt b rfl).2 hge⟩
  have HNL : Box (∀ b, aI = some ⟨b, 0, none⟩ → w1.heap.size ≤ b) := ⟨fun b hb => by subst hb; exact (HOWN.out.lt b rfl).1⟩
  have HGL := Box.mk (Nat.le_trans HB2.out.size hge)
  have hvb := hvn
  clear hg hge hB HV HN RI HOWN cn ck
  try clear k2
  try clear F2
  generalize o.vn = n at *
  go_wp2
  go_loopw [5, 6] (fun i k wr => ∃ j : Nat, ∃ X : List UInt8, j ≤ 3 ∧ i = .int .i64 j ∧ X.length = n ∧ Below w1.heap.size w1 wr ∧ Own wr w1.heap.size 5 (.slice aI n cI) X ∧ Box (wr.heap[g]? = some (.cells (bvs (roomyL X)).toArray 5 (0, 0)))) (fun i k _ => 3 - (intOf i).toNat)
  case atStart => exact ⟨0, lv, Nat.zero_le _, rfl, hlI.out, HB3.out, HO3.out, HF3⟩
  case round =>
    obtain ⟨j, X0, hj, rfl, hXL0, hB0, hO0, HF0⟩ := hrel
    have HXL0 := Box.mk hXL0
    have HB0 := Box.mk hB0
    have HO0 := Box.mk hO0
    clear hXL0 hB0 hO0 HO3 HF3 HB3 hlI
    by_cases hlt : j < 3
    · obtain rfl | rfl | rfl : j = 0 ∨ j = 1 ∨ j = 2 := by omega
      · skip
        try rw [show ((0 : Nat) : Int) = 0 from rfl]
        go_wp2
        obtain ⟨wz, hwz⟩ : ∃ x, x = wr := ⟨_, rfl⟩
        subst hwz
        go_loopw [6] (fun k wr => ∃ q : Nat, ∃ X : List UInt8, q ≤ n ∧ k = .int .i64 q ∧ X.length = n ∧ Below w1.heap.size w1 wr ∧ Own wr w1.heap.size 5 (.slice aI n cI) X ∧ Box (wr.heap[g]? = some (.cells (bvs (roomyL X)).toArray 5 (0, 0)))) (fun k _ => n - (intOf k).toNat)
        case atStart => exact ⟨0, X0, Nat.zero_le _, rfl, HXL0.out, HB0.out, HO0.out, HF0⟩
        case round =>
          obtain ⟨q, X, hqn, rfl, hXL, hB, hO, HF⟩ := hrel
          have HXL := Box.mk hXL
          have HB := Box.mk hB
          have HO := Box.mk hO
          clear hXL hB hO HO0 HB0 HF0 HXL0
          by_cases hlq : q < n
          · skip
            go_wp2
            go_roundw
            case rel => exact ⟨q + 1, X, by omega, by go_num, HXL.out, HB.out, HO.out, HF⟩
            case measure => simp [intOf]; omega
          · obtain rfl : n = q := by omega
            have FR := Box.mk ((HB.out.block _ hl0.out).trans F0.out)
            have OF := own_facts HO.out
            have BR := Box.mk (B0.out.trans (HB.out.mono B0.out.size))
            have hC := Box.mk (hV.out X HXL.out g aI cI wr BR.out HF.out OF.1 OF.2.1 OF.2.2.1 OF.2.2.2)
            clear OF
            go_wp2_with (first
              | ((with_reducible refine arm_row 32 (.tmp 1) ?_ ?_ w.heap.size ?_ 32 cs (0, 0) _ FR.out UO rfl hi1.out ?_); rfl; rfl; rfl)
              | (go_at_call 14; refine (calls_box hC.out).mono ?_))
            rintro e w6 ⟨⟨rfl, hB6⟩⟩
            have HB6 := Box.mk (HB.out.trans (hB6.mono HB.out.size))
            have HO6 := Box.mk (HO.out.below hB6 (fun g' hg' => (HO.out.lt g' hg').2))
            have HF6 := Box.mk ((hB6.block _ (heap_lt HF.out)).trans HF.out)
            clear hB6 hC
            go_wp2
            go_roundw
            case rel => exact ⟨1, X, by omega, rfl, HXL.out, HB6.out, HO6.out, HF6⟩
            case measure => simp [intOf]
      · skip
        try rw [show ((1 : Nat) : Int) = 1 from rfl]
        go_wp2
        obtain ⟨wz, hwz⟩ : ∃ x, x = wr := ⟨_, rfl⟩
        subst hwz
        go_loopw [6] (fun k wr => ∃ q : Nat, ∃ X : List UInt8, q ≤ n ∧ k = .int .i64 q ∧ X.length = n ∧ Below w1.heap.size w1 wr ∧ Own wr w1.heap.size 5 (.slice aI n cI) X ∧ Box (wr.heap[g]? = some (.cells (bvs (roomyL X)).toArray 5 (0, 0)))) (fun k _ => n - (intOf k).toNat)
        case atStart => exact ⟨0, X0, Nat.zero_le _, rfl, HXL0.out, HB0.out, HO0.out, HF0⟩
        case round =>
          obtain ⟨q, X, hqn, rfl, hXL, hB, hO, HF⟩ := hrel
          have HXL := Box.mk hXL
          have HB := Box.mk hB
          have HO := Box.mk hO
          clear hXL hB hO HO0 HB0 HF0 HXL0
          by_cases hlq : q < n
          · skip
            have hquo : Int.tdiv (n : Int) 2 = ((n / 2 : Nat) : Int) := by rw [Int.tdiv_eq_ediv_of_nonneg (by omega)]; omega
            cases hqq : ((q : Int) == ((n / 2 : Nat) : Int))
            · skip
              go_wp2
              go_roundw
              case rel => exact ⟨q + 1, X, by omega, by go_num, HXL.out, HB.out, HO.out, HF⟩
              case measure => simp [intOf]; omega
            · skip
              obtain ⟨gi, hgi⟩ := own_ptr HO.out (by omega)
              subst hgi
              have hq' : q < X.length := by rw [HXL.out]; exact hlq
              have e0 : wr.cell? ⟨gi, q, none⟩ = some (.int .u8 ((X[q]'hq').toNat : Int)) := by have := HO.out.row.1.cell q hq'; rwa [Nat.zero_add] at this
              have hxor := xor1 (X[q]'hq')
              have hgl : Box ((roomyL X)[q]? = some (X[q]'hq')) := ⟨roomyL_at X q hq'⟩
              have hnew : Box (∀ u, (roomyL X).set q u = roomyL (X.set q u)) := ⟨fun u => roomyL_set X q hq' u⟩
              have hq2 : Box (q < (roomyL X).length) := ⟨by rw [length_roomyL]; omega⟩
              have hq3 := Box.mk hq'
              generalize (X[q]'hq') = x at *
              generalize x ^^^ 1 = u at *
              clear hq'
              go_wp2_with ((with_reducible refine arm_store_own 5 (.tmp 58) (.tmp 57) ?_ rfl gi n cI q w1.heap.size ?_ u ?_ hi5.out X HO.out hq3.out ?_); rfl; rfl; rfl)
              intro w4 O4 G4
              have HO4 := Box.mk O4
              have hne := Box.mk (HNB.out gi rfl)
              have HF4 := Box.mk ((G4.block g (heap_lt HF.out) (by intro h; injection h with h; have := hne.out; omega)).trans HF.out)
              have HB4 := Box.mk (HB.out.grown G4 HB.out.size (fun k hk => by cases hk; exact HNL.out _ rfl))
              have e1 : w4.cell? ⟨g, q, none⟩ = some (.int .u8 (x.toNat : Int)) := by
                rw [cell_of_row _ _ q _ _ _ HF4.out, ← Array.getElem?_toList]
                show (bvs (roomyL X))[q]? = _
                rw [bvs_getElem?, hgl.out]; rfl
              clear O4 G4 e0
              go_wp2_with ((with_reducible refine arm_store_byte 5 (.tmp 66) (.tmp 65) ?_ rfl g q ?_ (u.toNat : Int) ?_ hi5.out (roomyL X) HF4.out hq2.out u rfl ?_); rfl; rfl; rfl)
              intro w5 g5 G5
              have HF5 := Box.mk g5.out
              rw [hnew.out u] at HF5
              have HO5 := Box.mk (HO4.out.kept G5 (.inr (by intro h; have h' : gi = g := Option.some.inj h; have := hne.out; omega)))
              have HB5 := Box.mk (HB4.out.grown G5 HB4.out.size (fun k hk => by cases hk; exact HGL.out))
              have HX5 : Box ((X.set q u).length = n) := ⟨by rw [List.length_set]; exact HXL.out⟩
              clear g5 G5 HO4 HF4 e1
              go_wp2
              go_roundw
              case rel => exact ⟨q + 1, X.set q u, by omega, by go_num, HX5.out, HB5.out, HO5.out, HF5⟩
              case measure => simp [intOf]; omega
          · obtain rfl : n = q := by omega
            have FR := Box.mk ((HB.out.block _ hl0.out).trans F0.out)
            have OF := own_facts HO.out
            have BR := Box.mk (B0.out.trans (HB.out.mono B0.out.size))
            have hC := Box.mk (hV.out X HXL.out g aI cI wr BR.out HF.out OF.1 OF.2.1 OF.2.2.1 OF.2.2.2)
            clear OF
            go_wp2_with (first
              | ((with_reducible refine arm_row 32 (.tmp 1) ?_ ?_ w.heap.size ?_ 32 cs (0, 0) _ FR.out UO rfl hi1.out ?_); rfl; rfl; rfl)
              | (go_at_call 14; refine (calls_box hC.out).mono ?_))
            rintro e w6 ⟨⟨rfl, hB6⟩⟩
            have HB6 := Box.mk (HB.out.trans (hB6.mono HB.out.size))
            have HO6 := Box.mk (HO.out.below hB6 (fun g' hg' => (HO.out.lt g' hg').2))
            have HF6 := Box.mk ((hB6.block _ (heap_lt HF.out)).trans HF.out)
            clear hB6 hC
            go_wp2
            go_roundw
            case rel => exact ⟨2, X, by omega, rfl, HXL.out, HB6.out, HO6.out, HF6⟩
            case measure => simp [intOf]
      · skip
        try rw [show ((2 : Nat) : Int) = 2 from rfl]
        go_wp2
        obtain ⟨wz, hwz⟩ : ∃ x, x = wr := ⟨_, rfl⟩
        subst hwz
        go_loopw [6] (fun k wr => ∃ q : Nat, ∃ X : List UInt8, q ≤ n ∧ k = .int .i64 q ∧ X.length = n ∧ Below w1.heap.size w1 wr ∧ Own wr w1.heap.size 5 (.slice aI n cI) X ∧ Box (wr.heap[g]? = some (.cells (bvs (roomyL X)).toArray 5 (0, 0)))) (fun k _ => n - (intOf k).toNat)
        case atStart => exact ⟨0, X0, Nat.zero_le _, rfl, HXL0.out, HB0.out, HO0.out, HF0⟩
        case round =>
          obtain ⟨q, X, hqn, rfl, hXL, hB, hO, HF⟩ := hrel
          have HXL := Box.mk hXL
          have HB := Box.mk hB
          have HO := Box.mk hO
          clear hXL hB hO HO0 HB0 HF0 HXL0
          by_cases hlq : q < n
          · skip
            obtain ⟨gi, hgi⟩ := own_ptr HO.out (by omega)
            subst hgi
            have hq' : q < X.length := by rw [HXL.out]; exact hlq
            have e0 : wr.cell? ⟨gi, q, none⟩ = some (.int .u8 ((X[q]'hq').toNat : Int)) := by have := HO.out.row.1.cell q hq'; rwa [Nat.zero_add] at this
            have hxor := xor1 (X[q]'hq')
            have hgl : Box ((roomyL X)[q]? = some (X[q]'hq')) := ⟨roomyL_at X q hq'⟩
            have hnew : Box (∀ u, (roomyL X).set q u = roomyL (X.set q u)) := ⟨fun u => roomyL_set X q hq' u⟩
            have hq2 : Box (q < (roomyL X).length) := ⟨by rw [length_roomyL]; omega⟩
            have hq3 := Box.mk hq'
            generalize (X[q]'hq') = x at *
            generalize x ^^^ 1 = u at *
            clear hq'
            go_wp2_with ((with_reducible refine arm_store_own 5 (.tmp 58) (.tmp 57) ?_ rfl gi n cI q w1.heap.size ?_ u ?_ hi5.out X HO.out hq3.out ?_); rfl; rfl; rfl)
            intro w4 O4 G4
            have HO4 := Box.mk O4
            have hne := Box.mk (HNB.out gi rfl)
            have HF4 := Box.mk ((G4.block g (heap_lt HF.out) (by intro h; injection h with h; have := hne.out; omega)).trans HF.out)
            have HB4 := Box.mk (HB.out.grown G4 HB.out.size (fun k hk => by cases hk; exact HNL.out _ rfl))
            have e1 : w4.cell? ⟨g, q, none⟩ = some (.int .u8 (x.toNat : Int)) := by
              rw [cell_of_row _ _ q _ _ _ HF4.out, ← Array.getElem?_toList]
              show (bvs (roomyL X))[q]? = _
              rw [bvs_getElem?, hgl.out]; rfl
            clear O4 G4 e0
            go_wp2_with ((with_reducible refine arm_store_byte 5 (.tmp 66) (.tmp 65) ?_ rfl g q ?_ (u.toNat : Int) ?_ hi5.out (roomyL X) HF4.out hq2.out u rfl ?_); rfl; rfl; rfl)
            intro w5 g5 G5
            have HF5 := Box.mk g5.out
            rw [hnew.out u] at HF5
            have HO5 := Box.mk (HO4.out.kept G5 (.inr (by intro h; have h' : gi = g := Option.some.inj h; have := hne.out; omega)))
            have HB5 := Box.mk (HB4.out.grown G5 HB4.out.size (fun k hk => by cases hk; exact HGL.out))
            have HX5 : Box ((X.set q u).length = n) := ⟨by rw [List.length_set]; exact HXL.out⟩
            clear g5 G5 HO4 HF4 e1
            go_wp2
            go_roundw
            case rel => exact ⟨q + 1, X.set q u, by omega, by go_num, HX5.out, HB5.out, HO5.out, HF5⟩
            case measure => simp [intOf]; omega
          · obtain rfl : n = q := by omega
            have FR := Box.mk ((HB.out.block _ hl0.out).trans F0.out)
            have OF := own_facts HO.out
            have BR := Box.mk (B0.out.trans (HB.out.mono B0.out.size))
            have hC := Box.mk (hV.out X HXL.out g aI cI wr BR.out HF.out OF.1 OF.2.1 OF.2.2.1 OF.2.2.2)
            clear OF
            go_wp2_with (first
              | ((with_reducible refine arm_row 32 (.tmp 1) ?_ ?_ w.heap.size ?_ 32 cs (0, 0) _ FR.out UO rfl hi1.out ?_); rfl; rfl; rfl)
              | (go_at_call 14; refine (calls_box hC.out).mono ?_))
            rintro e w6 ⟨⟨rfl, hB6⟩⟩
            have HB6 := Box.mk (HB.out.trans (hB6.mono HB.out.size))
            have HO6 := Box.mk (HO.out.below hB6 (fun g' hg' => (HO.out.lt g' hg').2))
            have HF6 := Box.mk ((hB6.block _ (heap_lt HF.out)).trans HF.out)
            clear hB6 hC
            go_wp2
            go_roundw
            case rel => exact ⟨3, X, by omega, rfl, HXL.out, HB6.out, HO6.out, HF6⟩
            case measure => simp [intOf]
    · obtain rfl : j = 3 := by omega
      have BR := Box.mk (B0.out.trans (HB0.out.mono B0.out.size))
      go_wp2
      go_ret
      exact ⟨rfl, BR.out⟩
end Go.Proofs.YteiepenanffhcaaDoor

/- One cell loaded, in a region that draws its order. No program in sight. -/
namespace Go.Proofs.YteiepenanffhcaaDoor
open Go Go.RowKit
set_option linter.unusedVariables false
section
variable {P : Program} {S : World → Prop}
theorem run_loadVar_int {k : IntKind} {ty : TypeId} {p : Addr} {v : Value} (w : World) (hu : P.underlying ty = some (.int k)) (hc : w.cell? p = some v) : (loadVar ty p).run P w = .ok v w := by
  simp [loadVar, isAgg, run_underlying hu, hc, go_sem]
theorem held_load1 {o : Oper} {a : Act} {ops : Array Oper} (hw : Region.wanted o (yielded ops a.tmps) = true) (ty : TypeId) (x : Operand) (ho : o.op = .load ty x)
    (b off : Nat) (hx : a.eval x = .pointer (some ⟨b, off, none⟩)) (k : IntKind) (v : Value) (hS : ∀ w, S w → w.cell? ⟨b, off, none⟩ = some v) (hu : P.underlying ty = some (.int k)) :
    YieldsIf P ops S o v a :=
  .inl ⟨hw, fun w hw' => by
    unfold execOp
    simp only [ho, hx, Instr.loadAt, Instr.sureAddr, Sem.run_bind, Sem.run_pure, Result.andThen_ok, run_loadVar_int w hu (hS w hw')]⟩
end
end Go.Proofs.YteiepenanffhcaaDoor
