/- Texts joined: Near, PlayN, RefText. -/
import Derived.Test.YteiepenanffhcaaDoorP05
import Derived.Test.YteiepenanffhcaaDoorP01
import Derived.Test.YteiepenanffhcaaDoorP02
/- A call that is nearly the same: nearly. -/
namespace Go.Proofs.YteiepenanffhcaaDoor
open Go Go.RowKit
set_option linter.unusedVariables false

theorem xor1F : ∀ n : Fin 256, bits .xor .u8 ((n.1 : Nat) : Int) 1 = (((UInt8.ofNat n.1) ^^^ 1).toNat : Int) := by decide +kernel
theorem xor1 (x : UInt8) : bits .xor .u8 (x.toNat : Int) 1 = ((x ^^^ 1).toNat : Int) := by
  have := xor1F ⟨x.toNat, x.toNat_lt⟩
  rwa [UInt8.ofNat_toNat] at this
/-- One byte of thirty-two written. -/
def setD (d : D32) (i : Nat) (u : UInt8) : D32 := ⟨d.1.set i u, by rw [List.length_set]; exact d.2⟩
theorem opC_setk (o : OpV) (u : UInt8) : (opC o).set 35 (bv u) = opC { o with k := setD o.k 31 u } := by
  unfold opC setD
  rw [List.set_append_right _ _ (by simp), List.set_append_left _ _ (by simp [o.k.2])]
  show _ ++ ((bvs o.k.1).set 31 (bv u) ++ _) = _
  rw [bvs_put]
theorem opC_setd (o : OpV) (u : UInt8) : (opC o).set 67 (bv u) = opC { o with d := setD o.d 31 u } := by
  unfold opC setD
  rw [List.set_append_right _ _ (by simp), List.set_append_right _ _ (by simp [o.k.2]), List.set_append_left _ _ (by simp [o.k.2, o.d.2])]
  rw [show 67 - [Value.int .i64 o.kind, .int .i64 o.w, .int .i64 o.n, .int .i64 o.m].length - (bvs o.k.1).length = 31 by simp [o.k.2], bvs_put]
theorem opC_sete (o : OpV) (u : UInt8) : (opC o).set 99 (bv u) = opC { o with e := setD o.e 31 u } := by
  unfold opC setD
  rw [List.set_append_right _ _ (by simp), List.set_append_right _ _ (by simp [o.k.2]), List.set_append_right _ _ (by simp [o.k.2, o.d.2]), List.set_append_left _ _ (by simp [o.k.2, o.d.2, o.e.2])]
  rw [show 99 - [Value.int .i64 o.kind, .int .i64 o.w, .int .i64 o.n, .int .i64 o.m].length - (bvs o.k.1).length - (bvs o.d.1).length = 31 by simp [o.k.2, o.d.2], bvs_put]
section
variable {P : Program} {Q : Exit → Act → World → Prop} {ops : Array Oper} {rest : List Oper} {o : Oper} {a : Act} {w : World}
/-- A byte stored into a cell of a block of any cells. -/
theorem arm_store_cell (ty : TypeId) (x y : Operand) (ho : o.op = .store ty x y) (hgd : o.guard = none) (b off : Nat) (hx : a.eval x = .pointer (some ⟨b, off, none⟩)) (u : UInt8) (hy : a.eval y = .int .u8 (u.toNat : Int))
    (hs : (P.info? ty).map (·.size) = some 1) (C : List Value) (e : TypeId) (hg : w.heap[b]? = some (.cells C.toArray e (0, 0))) (hlt : off < C.length)
    (h : ∀ w', Hid (w'.heap[b]? = some (.cells (C.set off (bv u)).toArray e (0, 0))) → w.grownBy w' (some b) → wpList P ops Q rest (a.put o.dst undef) w') : wpList P ops Q (o :: rest) a w := by
  have hc : w.cell? ⟨b, off, none⟩ = some C[off] := by
    rw [cell_of_row w b off _ e (0, 0) hg, ← Array.getElem?_toList, List.getElem?_eq_getElem hlt]
  have hf : w.frozen? ⟨b, off, none⟩ = false := by
    unfold World.frozen?
    rw [hg]
    simp
  refine wpList_store_int hgd ty x y ho ⟨b, off, none⟩ (bv u) hx hy ⟨_, _, rfl⟩ hs ⟨_, hc⟩ hf (h _ ?_ (grownBy_setC _ _ _))
  show _ = _
  rw [heap_setCell_same w b off _ e _ hg]
  congr 2
  apply Array.ext'
  simp
end

set_option maxRecDepth 100000 in
set_option maxHeartbeats 4000000 in
theorem nearly_any (o : OpV) (i : Int) (w : World) : Calls Tryd.prog 16 #[.agg (opC o).toArray, .int .i64 i] w fun e w' => (∃ o' : OpV, o'.kind = o.kind ∧ e = .returned (.agg (opC o').toArray)) ∧ Below w.heap.size w w' := by
  have hz := fun W : World => (show (zeroValue 32).run Tryd.prog W = .ok (.agg (opC zeroOp).toArray) W by kernel_rfl)
  have hi5 : Box ((Tryd.prog.info? 5).map (·.size) = some 1) := ⟨by kernel_rfl⟩
  obtain ⟨fs, UO⟩ := opUnder
  have hsz := opSize
  have hsz2 := opSize2 zeroOp
  have hal := Box.mk opC_all
  have f0 : Box (((w.alloc (.cells (opC o).toArray 32)).alloc (.cells (opC zeroOp).toArray 32)).heap[w.heap.size]? = some (.cells (opC o).toArray 32 (0, 0))) := ⟨heap_old (heap_new rfl)⟩
  have f1 : Box (((w.alloc (.cells (opC o).toArray 32)).alloc (.cells (opC zeroOp).toArray 32)).heap[w.heap.size + 1]? = some (.cells (opC zeroOp).toArray 32 (0, 0))) := ⟨heap_new (by simp)⟩
  have HB := Box.mk ((Below.refl_alloc w (.cells (opC o).toArray 32)).alloc (B := w.heap.size) (by simp) (.cells (opC zeroOp).toArray 32))
  have hlen := Box.mk (length_opC o)
  have kd := o.k.2
  have dd := o.d.2
  have ed := o.e.2
  -- what lies at the three places
  have ck : Box (∀ h : 31 < o.k.1.length, ∀ W : World, W.heap[w.heap.size]? = some (.cells (opC o).toArray 32 (0, 0)) → W.cell? ⟨w.heap.size, 35, none⟩ = some (.int .u8 ((o.k.1[31]'h).toNat : Int))) := ⟨fun h W hW => by
    rw [cell_of_row _ _ 35 _ _ _ hW, show 35 = 4 + 31 from rfl, opC_k o 31 (by omega), bvs_getElem?, List.getElem?_eq_getElem h]; rfl⟩
  have cd : Box (∀ h : 31 < o.d.1.length, ∀ W : World, W.heap[w.heap.size]? = some (.cells (opC o).toArray 32 (0, 0)) → W.cell? ⟨w.heap.size, 67, none⟩ = some (.int .u8 ((o.d.1[31]'h).toNat : Int))) := ⟨fun h W hW => by
    rw [cell_of_row _ _ 67 _ _ _ hW, show 67 = 36 + 31 from rfl, opC_d o 31 (by omega), bvs_getElem?, List.getElem?_eq_getElem h]; rfl⟩
  have ce : Box (∀ h : 31 < o.e.1.length, ∀ W : World, W.heap[w.heap.size]? = some (.cells (opC o).toArray 32 (0, 0)) → W.cell? ⟨w.heap.size, 99, none⟩ = some (.int .u8 ((o.e.1[31]'h).toNat : Int))) := ⟨fun h W hW => by
    rw [cell_of_row _ _ 99 _ _ _ hW, show 99 = 68 + 31 from rfl, opC_e o 31 (by omega), bvs_getElem?, List.getElem?_eq_getElem h]; rfl⟩
  have sk := Box.mk (opC_setk o)
  have sd := Box.mk (opC_setd o)
  have se := Box.mk (opC_sete o)
  have hrow : ∀ (o' : OpV), o'.kind = o.kind → Box (o'.kind = o.kind) := fun _ h => ⟨h⟩
  by_cases i1 : i = 1
  · subst i1
    generalize hzo : (opC zeroOp).toArray = zo at *
    have HZO := Box.mk hzo
    clear hzo
    obtain ⟨o', ho'⟩ : ∃ o' : OpV, o' = { o with k := setD o.k 31 ((o.k.1[31]'(by omega)) ^^^ 1) } := ⟨_, rfl⟩
    have hkind : o'.kind = o.kind := by rw [ho']
    have hset := Box.mk (sk.out ((o.k.1[31]'(by omega)) ^^^ 1))
    rw [← ho'] at hset
    have cc := ck.out (by omega) _ f0.out
    have hxor := xor1 (o.k.1[31]'(by omega))
    generalize (o.k.1[31]'(by omega)) = x at *
    generalize x ^^^ 1 = u at *
    have hi1 := hsz o'
    have hss := hsz2 o'
    try rw [HZO.out] at hss
    have ha := Box.mk (hal.out o')
    have HK := Box.mk hkind
    clear ho' hkind ck cd ce sk sd se hrow kd dd ed hsz hsz2 hal
    generalize opC o = cl at *
    generalize hcn : opC o' = cn at *
    have HCN := Box.mk hcn
    clear hcn
    go_enter Tryd.func16, Tryd.ntmps16
    go_upto_region 1 with fail
    have hsz1 : (w.alloc (.cells cl.toArray 32)).heap.size = w.heap.size + 1 := by simp
    try rw [hsz1]
    clear hsz1
    generalize (w.alloc (.cells cl.toArray 32)).alloc (.cells zo 32) = w0 at *
    go_wp2_with ((with_reducible refine arm_store_cell 5 (.tmp 13) (.tmp 11) ?_ rfl w.heap.size 35 ?_ u ?_ hi5.out cl 32 f0.out (by rw [hlen.out]; omega) ?_); rfl; rfl; rfl)
    intro w2 g2 G2
    have B2 := Box.mk (HB.out.grown G2 HB.out.size (fun k hk => by cases hk; exact Nat.le_refl _))
    have f2 := Box.mk (show w2.heap[w.heap.size]? = some (.cells cn.toArray 32 (0, 0)) by rw [← hset.out]; exact g2.out)
    have f3 := Box.mk ((G2.block _ (heap_lt f1.out) (by intro h; injection h with h; omega)).trans f1.out)
    clear g2 G2 f1 f0
    go_wp2_with (first
      | ((with_reducible refine arm_row 32 (.tmp 2) ?_ ?_ w.heap.size ?_ 32 cn.toArray (0, 0) _ f2.out UO rfl hi1.out ?_); rfl; rfl; rfl)
      | ((with_reducible refine arm_store_row 32 (.tmp 4) (.tmp 30) ?_ rfl (w.heap.size + 1) zo cn.toArray 32 ?_ ?_ f3.out hss.out hi1.out ha.out ?_); rfl; rfl; rfl))
    intro w4 g4 G4
    have B4 := Box.mk (B2.out.grown G4 B2.out.size (fun k hk => by cases hk; omega))
    go_wp2
    exact bodyPost_ret (v := .agg cn.toArray) (results_cell_row (p := 4) (ty := 32) rfl _ _ (w.heap.size + 1) 32 _ (0, 0) _ rfl g4.out UO rfl hi1.out) rfl ⟨⟨o', HK.out, by rw [HCN.out]⟩, B4.out⟩
  · by_cases i2 : i = 2
    · subst i2
      generalize hzo : (opC zeroOp).toArray = zo at *
      have HZO := Box.mk hzo
      clear hzo
      obtain ⟨o', ho'⟩ : ∃ o' : OpV, o' = { o with d := setD o.d 31 ((o.d.1[31]'(by omega)) ^^^ 1) } := ⟨_, rfl⟩
      have hkind : o'.kind = o.kind := by rw [ho']
      have hset := Box.mk (sd.out ((o.d.1[31]'(by omega)) ^^^ 1))
      rw [← ho'] at hset
      have cc := cd.out (by omega) _ f0.out
      have hxor := xor1 (o.d.1[31]'(by omega))
      generalize (o.d.1[31]'(by omega)) = x at *
      generalize x ^^^ 1 = u at *
      have hi1 := hsz o'
      have hss := hsz2 o'
      try rw [HZO.out] at hss
      have ha := Box.mk (hal.out o')
      have HK := Box.mk hkind
      clear ho' hkind ck cd ce sk sd se hrow kd dd ed hsz hsz2 hal
      generalize opC o = cl at *
      generalize hcn : opC o' = cn at *
      have HCN := Box.mk hcn
      clear hcn
      go_enter Tryd.func16, Tryd.ntmps16
      go_upto_region 1 with fail
      have hsz1 : (w.alloc (.cells cl.toArray 32)).heap.size = w.heap.size + 1 := by simp
      try rw [hsz1]
      clear hsz1
      generalize (w.alloc (.cells cl.toArray 32)).alloc (.cells zo 32) = w0 at *
      go_wp2_with ((with_reducible refine arm_store_cell 5 (.tmp 21) (.tmp 19) ?_ rfl w.heap.size 67 ?_ u ?_ hi5.out cl 32 f0.out (by rw [hlen.out]; omega) ?_); rfl; rfl; rfl)
      intro w2 g2 G2
      have B2 := Box.mk (HB.out.grown G2 HB.out.size (fun k hk => by cases hk; exact Nat.le_refl _))
      have f2 := Box.mk (show w2.heap[w.heap.size]? = some (.cells cn.toArray 32 (0, 0)) by rw [← hset.out]; exact g2.out)
      have f3 := Box.mk ((G2.block _ (heap_lt f1.out) (by intro h; injection h with h; omega)).trans f1.out)
      clear g2 G2 f1 f0
      go_wp2_with (first
        | ((with_reducible refine arm_row 32 (.tmp 2) ?_ ?_ w.heap.size ?_ 32 cn.toArray (0, 0) _ f2.out UO rfl hi1.out ?_); rfl; rfl; rfl)
        | ((with_reducible refine arm_store_row 32 (.tmp 4) (.tmp 30) ?_ rfl (w.heap.size + 1) zo cn.toArray 32 ?_ ?_ f3.out hss.out hi1.out ha.out ?_); rfl; rfl; rfl))
      intro w4 g4 G4
      have B4 := Box.mk (B2.out.grown G4 B2.out.size (fun k hk => by cases hk; omega))
      go_wp2
      exact bodyPost_ret (v := .agg cn.toArray) (results_cell_row (p := 4) (ty := 32) rfl _ _ (w.heap.size + 1) 32 _ (0, 0) _ rfl g4.out UO rfl hi1.out) rfl ⟨⟨o', HK.out, by rw [HCN.out]⟩, B4.out⟩
    · by_cases i3 : i = 3
      · subst i3
        generalize hzo : (opC zeroOp).toArray = zo at *
        have HZO := Box.mk hzo
        clear hzo
        obtain ⟨o', ho'⟩ : ∃ o' : OpV, o' = { o with e := setD o.e 31 ((o.e.1[31]'(by omega)) ^^^ 1) } := ⟨_, rfl⟩
        have hkind : o'.kind = o.kind := by rw [ho']
        have hset := Box.mk (se.out ((o.e.1[31]'(by omega)) ^^^ 1))
        rw [← ho'] at hset
        have cc := ce.out (by omega) _ f0.out
        have hxor := xor1 (o.e.1[31]'(by omega))
        generalize (o.e.1[31]'(by omega)) = x at *
        generalize x ^^^ 1 = u at *
        have hi1 := hsz o'
        have hss := hsz2 o'
        try rw [HZO.out] at hss
        have ha := Box.mk (hal.out o')
        have HK := Box.mk hkind
        clear ho' hkind ck cd ce sk sd se hrow kd dd ed hsz hsz2 hal
        generalize opC o = cl at *
        generalize hcn : opC o' = cn at *
        have HCN := Box.mk hcn
        clear hcn
        go_enter Tryd.func16, Tryd.ntmps16
        go_upto_region 1 with fail
        have hsz1 : (w.alloc (.cells cl.toArray 32)).heap.size = w.heap.size + 1 := by simp
        try rw [hsz1]
        clear hsz1
        generalize (w.alloc (.cells cl.toArray 32)).alloc (.cells zo 32) = w0 at *
        go_wp2_with ((with_reducible refine arm_store_cell 5 (.tmp 29) (.tmp 27) ?_ rfl w.heap.size 99 ?_ u ?_ hi5.out cl 32 f0.out (by rw [hlen.out]; omega) ?_); rfl; rfl; rfl)
        intro w2 g2 G2
        have B2 := Box.mk (HB.out.grown G2 HB.out.size (fun k hk => by cases hk; exact Nat.le_refl _))
        have f2 := Box.mk (show w2.heap[w.heap.size]? = some (.cells cn.toArray 32 (0, 0)) by rw [← hset.out]; exact g2.out)
        have f3 := Box.mk ((G2.block _ (heap_lt f1.out) (by intro h; injection h with h; omega)).trans f1.out)
        clear g2 G2 f1 f0
        go_wp2_with (first
          | ((with_reducible refine arm_row 32 (.tmp 2) ?_ ?_ w.heap.size ?_ 32 cn.toArray (0, 0) _ f2.out UO rfl hi1.out ?_); rfl; rfl; rfl)
          | ((with_reducible refine arm_store_row 32 (.tmp 4) (.tmp 30) ?_ rfl (w.heap.size + 1) zo cn.toArray 32 ?_ ?_ f3.out hss.out hi1.out ha.out ?_); rfl; rfl; rfl))
        intro w4 g4 G4
        have B4 := Box.mk (B2.out.grown G4 B2.out.size (fun k hk => by cases hk; omega))
        go_wp2
        exact bodyPost_ret (v := .agg cn.toArray) (results_cell_row (p := 4) (ty := 32) rfl _ _ (w.heap.size + 1) 32 _ (0, 0) _ rfl g4.out UO rfl hi1.out) rfl ⟨⟨o', HK.out, by rw [HCN.out]⟩, B4.out⟩
      · have e1 : (i == 1) = false := by rw [beq_eq_false_iff_ne]; exact i1
        have e2 : (i == 2) = false := by rw [beq_eq_false_iff_ne]; exact i2
        have e3 : (i == 3) = false := by rw [beq_eq_false_iff_ne]; exact i3
        clear i1 i2 i3
        generalize hzo : (opC zeroOp).toArray = zo at *
        have HZO := Box.mk hzo
        clear hzo
        have hi1 := hsz o
        have hss := hsz2 o
        try rw [HZO.out] at hss
        have ha := Box.mk (hal.out o)
        clear ck cd ce sk sd se hrow kd dd ed hsz hsz2 hal hlen
        generalize hcn : opC o = cn at *
        have HCN := Box.mk hcn
        clear hcn
        go_enter Tryd.func16, Tryd.ntmps16
        go_upto_region 1 with fail
        have hsz1 : (w.alloc (.cells cn.toArray 32)).heap.size = w.heap.size + 1 := by simp
        try rw [hsz1]
        clear hsz1
        generalize (w.alloc (.cells cn.toArray 32)).alloc (.cells zo 32) = w0 at *
        go_wp2_with (first
          | ((with_reducible refine arm_row 32 (.tmp 2) ?_ ?_ w.heap.size ?_ 32 cn.toArray (0, 0) _ f0.out UO rfl hi1.out ?_); rfl; rfl; rfl)
          | ((with_reducible refine arm_store_row 32 (.tmp 4) (.tmp 30) ?_ rfl (w.heap.size + 1) zo cn.toArray 32 ?_ ?_ f1.out hss.out hi1.out ha.out ?_); rfl; rfl; rfl))
        intro w4 g4 G4
        have B4 := Box.mk (HB.out.grown G4 HB.out.size (fun k hk => by cases hk; omega))
        go_wp2
        exact bodyPost_ret (v := .agg cn.toArray) (results_cell_row (p := 4) (ty := 32) rfl _ _ (w.heap.size + 1) 32 _ (0, 0) _ rfl g4.out UO rfl hi1.out) rfl ⟨⟨o, rfl, by rw [HCN.out]⟩, B4.out⟩
end Go.Proofs.YteiepenanffhcaaDoor

/- A call that is handed no list, played in turns: plays. -/
namespace Go.Proofs.YteiepenanffhcaaDoor
open Go Go.RowKit
set_option linter.unusedVariables false

set_option maxRecDepth 100000 in
set_option maxHeartbeats 4000000 in
theorem plays_num4 (o : OpV) (hk : o.kind = 4) (w : World)
    (hP0 : ∀ o' : OpV, o'.kind = 4 → ∀ W, Below w.heap.size w W → Calls Tryd.prog 15 #[.agg (opC o').toArray] W fun e W' => e = .returned (.bool true) ∧ Below W.heap.size W W') :
    Calls Tryd.prog 11 #[.agg (opC o).toArray] w fun e w' => e = .returned (.bool true) ∧ Below w.heap.size w w' := by
  obtain ⟨fs, UO⟩ := opUnder
  have hi1 := opSize o
  have hP := Box.mk hP0
  have hN := Box.mk (fun (i : Int) (W : World) => nearly_any o i W)
  have F0 : Box ((w.alloc (.cells (opC o).toArray 32)).heap[w.heap.size]? = some (.cells (opC o).toArray 32 (0, 0))) := ⟨heap_new rfl⟩
  have ck : Box (∀ W : World, W.heap[w.heap.size]? = some (.cells (opC o).toArray 32 (0, 0)) → W.cell? ⟨w.heap.size, 0, none⟩ = some (.int .i64 4)) := ⟨fun W hW => by rw [cell_of_row _ _ 0 _ _ _ hW, ← hk]; rfl⟩
  have B0 := Box.mk (Below.refl_alloc w (.cells (opC o).toArray 32))
  have hPo := Box.mk (hP0 o hk)
  have HK := Box.mk hk
  clear hP0 hk
  generalize (opC o).toArray = cs at *
  have c0 := ck.out _ F0.out
  go_enter Tryd.func11, Tryd.ntmps11
  go_upto_region 1 with fail
  generalize w.alloc (.cells cs 32) = w1 at *
  have hl0 := Box.mk (heap_lt F0.out)
  go_wp2
  go_loopw [7, 8] (fun i m wr => ∃ k : Nat, k ≤ 4 ∧ i = .int .i64 k ∧ Below w1.heap.size w1 wr) (fun i m _ => 4 - (intOf i).toNat)
  case atStart => exact ⟨0, Nat.zero_le _, rfl, Below.refl _ w1⟩
  case round =>
    obtain ⟨k, hk4, rfl, hB0⟩ := hrel
    have HB := Box.mk hB0
    have FR := Box.mk ((hB0.block _ hl0.out).trans F0.out)
    have BR := Box.mk (B0.out.trans (hB0.mono B0.out.size))
    have c1 := ck.out _ FR.out
    clear hB0 c0
    by_cases hlt : k < 4
    · obtain rfl | rfl | rfl | rfl : k = 0 ∨ k = 1 ∨ k = 2 ∨ k = 3 := by omega
      · skip
        go_wp2_with (first
          | ((with_reducible refine arm_row 32 (.tmp 1) ?_ ?_ w.heap.size ?_ 32 cs (0, 0) _ FR.out UO rfl hi1.out ?_); rfl; rfl; rfl)
          | (go_at_call 16; refine (calls_box (hN.out _ _)).mono ?_))
        rintro e w2 ⟨⟨⟨o', hk', rfl⟩, hB⟩⟩
        have B2 := Box.mk (HB.out.trans (hB.mono HB.out.size))
        have BR2 := Box.mk (BR.out.trans (hB.mono BR.out.size))
        have hC := Box.mk (hP.out o' (hk'.trans HK.out) w2 BR2.out)
        clear hB hk'
        generalize (opC o').toArray = cs' at *
        go_wp2_with (go_at_call 15; refine (calls_box hC.out).mono ?_)
        rintro e w3 ⟨⟨rfl, hB⟩⟩
        have B3 := Box.mk (B2.out.trans (hB.mono B2.out.size))
        clear hB
        go_wp2
        go_roundw
        case rel => exact ⟨1, by omega, rfl, B3.out⟩
        case measure => simp [intOf]
      · skip
        go_wp2
        go_roundw
        case rel => exact ⟨2, by omega, rfl, HB.out⟩
        case measure => simp [intOf]
      · skip
        go_wp2_with (first
          | ((with_reducible refine arm_row 32 (.tmp 1) ?_ ?_ w.heap.size ?_ 32 cs (0, 0) _ FR.out UO rfl hi1.out ?_); rfl; rfl; rfl)
          | (go_at_call 16; refine (calls_box (hN.out _ _)).mono ?_))
        rintro e w2 ⟨⟨⟨o', hk', rfl⟩, hB⟩⟩
        have B2 := Box.mk (HB.out.trans (hB.mono HB.out.size))
        have BR2 := Box.mk (BR.out.trans (hB.mono BR.out.size))
        have hC := Box.mk (hP.out o' (hk'.trans HK.out) w2 BR2.out)
        clear hB hk'
        generalize (opC o').toArray = cs' at *
        go_wp2_with (go_at_call 15; refine (calls_box hC.out).mono ?_)
        rintro e w3 ⟨⟨rfl, hB⟩⟩
        have B3 := Box.mk (B2.out.trans (hB.mono B2.out.size))
        clear hB
        go_wp2
        go_roundw
        case rel => exact ⟨3, by omega, rfl, B3.out⟩
        case measure => simp [intOf]
      · skip
        go_wp2_with (first
          | ((with_reducible refine arm_row 32 (.tmp 1) ?_ ?_ w.heap.size ?_ 32 cs (0, 0) _ FR.out UO rfl hi1.out ?_); rfl; rfl; rfl)
          | (go_at_call 16; refine (calls_box (hN.out _ _)).mono ?_))
        rintro e w2 ⟨⟨⟨o', hk', rfl⟩, hB⟩⟩
        have B2 := Box.mk (HB.out.trans (hB.mono HB.out.size))
        have BR2 := Box.mk (BR.out.trans (hB.mono BR.out.size))
        have hC := Box.mk (hP.out o' (hk'.trans HK.out) w2 BR2.out)
        clear hB hk'
        generalize (opC o').toArray = cs' at *
        go_wp2_with (go_at_call 15; refine (calls_box hC.out).mono ?_)
        rintro e w3 ⟨⟨rfl, hB⟩⟩
        have B3 := Box.mk (B2.out.trans (hB.mono B2.out.size))
        clear hB
        go_wp2
        go_roundw
        case rel => exact ⟨4, by omega, rfl, B3.out⟩
        case measure => simp [intOf]
    · obtain rfl : k = 4 := by omega
      have hC := Box.mk (hPo.out wr BR.out)
      go_wp2_with (first
        | ((with_reducible refine arm_row 32 (.tmp 1) ?_ ?_ w.heap.size ?_ 32 cs (0, 0) _ FR.out UO rfl hi1.out ?_); rfl; rfl; rfl)
        | (go_at_call 15; refine (calls_box hC.out).mono ?_))
      rintro e w3 ⟨⟨rfl, hB⟩⟩
      have B3 := Box.mk (BR.out.trans (hB.mono BR.out.size))
      clear hB
      go_wp2
      go_ret
      exact ⟨rfl, B3.out⟩

set_option maxRecDepth 100000 in
set_option maxHeartbeats 4000000 in
theorem plays_num6 (o : OpV) (hk : o.kind = 6) (w : World)
    (hP0 : ∀ o' : OpV, o'.kind = 6 → ∀ W, Below w.heap.size w W → Calls Tryd.prog 15 #[.agg (opC o').toArray] W fun e W' => e = .returned (.bool true) ∧ Below W.heap.size W W') :
    Calls Tryd.prog 11 #[.agg (opC o).toArray] w fun e w' => e = .returned (.bool true) ∧ Below w.heap.size w w' := by
  obtain ⟨fs, UO⟩ := opUnder
  have hi1 := opSize o
  have hP := Box.mk hP0
  have hN := Box.mk (fun (i : Int) (W : World) => nearly_any o i W)
  have F0 : Box ((w.alloc (.cells (opC o).toArray 32)).heap[w.heap.size]? = some (.cells (opC o).toArray 32 (0, 0))) := ⟨heap_new rfl⟩
  have ck : Box (∀ W : World, W.heap[w.heap.size]? = some (.cells (opC o).toArray 32 (0, 0)) → W.cell? ⟨w.heap.size, 0, none⟩ = some (.int .i64 6)) := ⟨fun W hW => by rw [cell_of_row _ _ 0 _ _ _ hW, ← hk]; rfl⟩
  have B0 := Box.mk (Below.refl_alloc w (.cells (opC o).toArray 32))
  have hPo := Box.mk (hP0 o hk)
  have HK := Box.mk hk
  clear hP0 hk
  generalize (opC o).toArray = cs at *
  have c0 := ck.out _ F0.out
  go_enter Tryd.func11, Tryd.ntmps11
  go_upto_region 1 with fail
  generalize w.alloc (.cells cs 32) = w1 at *
  have hl0 := Box.mk (heap_lt F0.out)
  go_wp2
  go_loopw [7, 8] (fun i m wr => ∃ k : Nat, k ≤ 4 ∧ i = .int .i64 k ∧ Below w1.heap.size w1 wr) (fun i m _ => 4 - (intOf i).toNat)
  case atStart => exact ⟨0, Nat.zero_le _, rfl, Below.refl _ w1⟩
  case round =>
    obtain ⟨k, hk4, rfl, hB0⟩ := hrel
    have HB := Box.mk hB0
    have FR := Box.mk ((hB0.block _ hl0.out).trans F0.out)
    have BR := Box.mk (B0.out.trans (hB0.mono B0.out.size))
    have c1 := ck.out _ FR.out
    clear hB0 c0
    by_cases hlt : k < 4
    · obtain rfl | rfl | rfl | rfl : k = 0 ∨ k = 1 ∨ k = 2 ∨ k = 3 := by omega
      · skip
        go_wp2_with (first
          | ((with_reducible refine arm_row 32 (.tmp 1) ?_ ?_ w.heap.size ?_ 32 cs (0, 0) _ FR.out UO rfl hi1.out ?_); rfl; rfl; rfl)
          | (go_at_call 16; refine (calls_box (hN.out _ _)).mono ?_))
        rintro e w2 ⟨⟨⟨o', hk', rfl⟩, hB⟩⟩
        have B2 := Box.mk (HB.out.trans (hB.mono HB.out.size))
        have BR2 := Box.mk (BR.out.trans (hB.mono BR.out.size))
        have hC := Box.mk (hP.out o' (hk'.trans HK.out) w2 BR2.out)
        clear hB hk'
        generalize (opC o').toArray = cs' at *
        go_wp2_with (go_at_call 15; refine (calls_box hC.out).mono ?_)
        rintro e w3 ⟨⟨rfl, hB⟩⟩
        have B3 := Box.mk (B2.out.trans (hB.mono B2.out.size))
        clear hB
        go_wp2
        go_roundw
        case rel => exact ⟨1, by omega, rfl, B3.out⟩
        case measure => simp [intOf]
      · skip
        go_wp2
        go_roundw
        case rel => exact ⟨2, by omega, rfl, HB.out⟩
        case measure => simp [intOf]
      · skip
        go_wp2_with (first
          | ((with_reducible refine arm_row 32 (.tmp 1) ?_ ?_ w.heap.size ?_ 32 cs (0, 0) _ FR.out UO rfl hi1.out ?_); rfl; rfl; rfl)
          | (go_at_call 16; refine (calls_box (hN.out _ _)).mono ?_))
        rintro e w2 ⟨⟨⟨o', hk', rfl⟩, hB⟩⟩
        have B2 := Box.mk (HB.out.trans (hB.mono HB.out.size))
        have BR2 := Box.mk (BR.out.trans (hB.mono BR.out.size))
        have hC := Box.mk (hP.out o' (hk'.trans HK.out) w2 BR2.out)
        clear hB hk'
        generalize (opC o').toArray = cs' at *
        go_wp2_with (go_at_call 15; refine (calls_box hC.out).mono ?_)
        rintro e w3 ⟨⟨rfl, hB⟩⟩
        have B3 := Box.mk (B2.out.trans (hB.mono B2.out.size))
        clear hB
        go_wp2
        go_roundw
        case rel => exact ⟨3, by omega, rfl, B3.out⟩
        case measure => simp [intOf]
      · skip
        go_wp2_with (first
          | ((with_reducible refine arm_row 32 (.tmp 1) ?_ ?_ w.heap.size ?_ 32 cs (0, 0) _ FR.out UO rfl hi1.out ?_); rfl; rfl; rfl)
          | (go_at_call 16; refine (calls_box (hN.out _ _)).mono ?_))
        rintro e w2 ⟨⟨⟨o', hk', rfl⟩, hB⟩⟩
        have B2 := Box.mk (HB.out.trans (hB.mono HB.out.size))
        have BR2 := Box.mk (BR.out.trans (hB.mono BR.out.size))
        have hC := Box.mk (hP.out o' (hk'.trans HK.out) w2 BR2.out)
        clear hB hk'
        generalize (opC o').toArray = cs' at *
        go_wp2_with (go_at_call 15; refine (calls_box hC.out).mono ?_)
        rintro e w3 ⟨⟨rfl, hB⟩⟩
        have B3 := Box.mk (B2.out.trans (hB.mono B2.out.size))
        clear hB
        go_wp2
        go_roundw
        case rel => exact ⟨4, by omega, rfl, B3.out⟩
        case measure => simp [intOf]
    · obtain rfl : k = 4 := by omega
      have hC := Box.mk (hPo.out wr BR.out)
      go_wp2_with (first
        | ((with_reducible refine arm_row 32 (.tmp 1) ?_ ?_ w.heap.size ?_ 32 cs (0, 0) _ FR.out UO rfl hi1.out ?_); rfl; rfl; rfl)
        | (go_at_call 15; refine (calls_box hC.out).mono ?_))
      rintro e w3 ⟨⟨rfl, hB⟩⟩
      have B3 := Box.mk (BR.out.trans (hB.mono BR.out.size))
      clear hB
      go_wp2
      go_ret
      exact ⟨rfl, B3.out⟩

set_option maxRecDepth 100000 in
set_option maxHeartbeats 4000000 in
theorem plays_num7 (o : OpV) (hk : o.kind = 7) (w : World)
    (hP0 : ∀ o' : OpV, o'.kind = 7 → ∀ W, Below w.heap.size w W → Calls Tryd.prog 15 #[.agg (opC o').toArray] W fun e W' => e = .returned (.bool true) ∧ Below W.heap.size W W') :
    Calls Tryd.prog 11 #[.agg (opC o).toArray] w fun e w' => e = .returned (.bool true) ∧ Below w.heap.size w w' := by
  obtain ⟨fs, UO⟩ := opUnder
  have hi1 := opSize o
  have hP := Box.mk hP0
  have hN := Box.mk (fun (i : Int) (W : World) => nearly_any o i W)
  have F0 : Box ((w.alloc (.cells (opC o).toArray 32)).heap[w.heap.size]? = some (.cells (opC o).toArray 32 (0, 0))) := ⟨heap_new rfl⟩
  have ck : Box (∀ W : World, W.heap[w.heap.size]? = some (.cells (opC o).toArray 32 (0, 0)) → W.cell? ⟨w.heap.size, 0, none⟩ = some (.int .i64 7)) := ⟨fun W hW => by rw [cell_of_row _ _ 0 _ _ _ hW, ← hk]; rfl⟩
  have B0 := Box.mk (Below.refl_alloc w (.cells (opC o).toArray 32))
  have hPo := Box.mk (hP0 o hk)
  have HK := Box.mk hk
  clear hP0 hk
  generalize (opC o).toArray = cs at *
  have c0 := ck.out _ F0.out
  go_enter Tryd.func11, Tryd.ntmps11
  go_upto_region 1 with fail
  generalize w.alloc (.cells cs 32) = w1 at *
  have hl0 := Box.mk (heap_lt F0.out)
  go_wp2
  go_loopw [7, 8] (fun i m wr => ∃ k : Nat, k ≤ 4 ∧ i = .int .i64 k ∧ Below w1.heap.size w1 wr) (fun i m _ => 4 - (intOf i).toNat)
  case atStart => exact ⟨0, Nat.zero_le _, rfl, Below.refl _ w1⟩
  case round =>
    obtain ⟨k, hk4, rfl, hB0⟩ := hrel
    have HB := Box.mk hB0
    have FR := Box.mk ((hB0.block _ hl0.out).trans F0.out)
    have BR := Box.mk (B0.out.trans (hB0.mono B0.out.size))
    have c1 := ck.out _ FR.out
    clear hB0 c0
    by_cases hlt : k < 4
    · obtain rfl | rfl | rfl | rfl : k = 0 ∨ k = 1 ∨ k = 2 ∨ k = 3 := by omega
      · skip
        go_wp2_with (first
          | ((with_reducible refine arm_row 32 (.tmp 1) ?_ ?_ w.heap.size ?_ 32 cs (0, 0) _ FR.out UO rfl hi1.out ?_); rfl; rfl; rfl)
          | (go_at_call 16; refine (calls_box (hN.out _ _)).mono ?_))
        rintro e w2 ⟨⟨⟨o', hk', rfl⟩, hB⟩⟩
        have B2 := Box.mk (HB.out.trans (hB.mono HB.out.size))
        have BR2 := Box.mk (BR.out.trans (hB.mono BR.out.size))
        have hC := Box.mk (hP.out o' (hk'.trans HK.out) w2 BR2.out)
        clear hB hk'
        generalize (opC o').toArray = cs' at *
        go_wp2_with (go_at_call 15; refine (calls_box hC.out).mono ?_)
        rintro e w3 ⟨⟨rfl, hB⟩⟩
        have B3 := Box.mk (B2.out.trans (hB.mono B2.out.size))
        clear hB
        go_wp2
        go_roundw
        case rel => exact ⟨1, by omega, rfl, B3.out⟩
        case measure => simp [intOf]
      · skip
        go_wp2
        go_roundw
        case rel => exact ⟨2, by omega, rfl, HB.out⟩
        case measure => simp [intOf]
      · skip
        go_wp2
        go_roundw
        case rel => exact ⟨3, by omega, rfl, HB.out⟩
        case measure => simp [intOf]
      · skip
        go_wp2
        go_roundw
        case rel => exact ⟨4, by omega, rfl, HB.out⟩
        case measure => simp [intOf]
    · obtain rfl : k = 4 := by omega
      go_wp2
      go_ret
      exact ⟨rfl, BR.out⟩

set_option maxRecDepth 100000 in
set_option maxHeartbeats 4000000 in
theorem plays_num8 (o : OpV) (hk : o.kind = 8) (w : World)
    (hP0 : ∀ o' : OpV, o'.kind = 8 → ∀ W, Below w.heap.size w W → Calls Tryd.prog 15 #[.agg (opC o').toArray] W fun e W' => e = .returned (.bool true) ∧ Below W.heap.size W W') :
    Calls Tryd.prog 11 #[.agg (opC o).toArray] w fun e w' => e = .returned (.bool true) ∧ Below w.heap.size w w' := by
  obtain ⟨fs, UO⟩ := opUnder
  have hi1 := opSize o
  have hP := Box.mk hP0
  have hN := Box.mk (fun (i : Int) (W : World) => nearly_any o i W)
  have F0 : Box ((w.alloc (.cells (opC o).toArray 32)).heap[w.heap.size]? = some (.cells (opC o).toArray 32 (0, 0))) := ⟨heap_new rfl⟩
  have ck : Box (∀ W : World, W.heap[w.heap.size]? = some (.cells (opC o).toArray 32 (0, 0)) → W.cell? ⟨w.heap.size, 0, none⟩ = some (.int .i64 8)) := ⟨fun W hW => by rw [cell_of_row _ _ 0 _ _ _ hW, ← hk]; rfl⟩
  have B0 := Box.mk (Below.refl_alloc w (.cells (opC o).toArray 32))
  have hPo := Box.mk (hP0 o hk)
  have HK := Box.mk hk
  clear hP0 hk
  generalize (opC o).toArray = cs at *
  have c0 := ck.out _ F0.out
  go_enter Tryd.func11, Tryd.ntmps11
  go_upto_region 1 with fail
  generalize w.alloc (.cells cs 32) = w1 at *
  have hl0 := Box.mk (heap_lt F0.out)
  go_wp2
  go_loopw [7, 8] (fun i m wr => ∃ k : Nat, k ≤ 4 ∧ i = .int .i64 k ∧ Below w1.heap.size w1 wr) (fun i m _ => 4 - (intOf i).toNat)
  case atStart => exact ⟨0, Nat.zero_le _, rfl, Below.refl _ w1⟩
  case round =>
    obtain ⟨k, hk4, rfl, hB0⟩ := hrel
    have HB := Box.mk hB0
    have FR := Box.mk ((hB0.block _ hl0.out).trans F0.out)
    have BR := Box.mk (B0.out.trans (hB0.mono B0.out.size))
    have c1 := ck.out _ FR.out
    clear hB0 c0
    by_cases hlt : k < 4
    · obtain rfl | rfl | rfl | rfl : k = 0 ∨ k = 1 ∨ k = 2 ∨ k = 3 := by omega
      · skip
        go_wp2_with (first
          | ((with_reducible refine arm_row 32 (.tmp 1) ?_ ?_ w.heap.size ?_ 32 cs (0, 0) _ FR.out UO rfl hi1.out ?_); rfl; rfl; rfl)
          | (go_at_call 16; refine (calls_box (hN.out _ _)).mono ?_))
        rintro e w2 ⟨⟨⟨o', hk', rfl⟩, hB⟩⟩
        have B2 := Box.mk (HB.out.trans (hB.mono HB.out.size))
        have BR2 := Box.mk (BR.out.trans (hB.mono BR.out.size))
        have hC := Box.mk (hP.out o' (hk'.trans HK.out) w2 BR2.out)
        clear hB hk'
        generalize (opC o').toArray = cs' at *
        go_wp2_with (go_at_call 15; refine (calls_box hC.out).mono ?_)
        rintro e w3 ⟨⟨rfl, hB⟩⟩
        have B3 := Box.mk (B2.out.trans (hB.mono B2.out.size))
        clear hB
        go_wp2
        go_roundw
        case rel => exact ⟨1, by omega, rfl, B3.out⟩
        case measure => simp [intOf]
      · skip
        go_wp2_with (first
          | ((with_reducible refine arm_row 32 (.tmp 1) ?_ ?_ w.heap.size ?_ 32 cs (0, 0) _ FR.out UO rfl hi1.out ?_); rfl; rfl; rfl)
          | (go_at_call 16; refine (calls_box (hN.out _ _)).mono ?_))
        rintro e w2 ⟨⟨⟨o', hk', rfl⟩, hB⟩⟩
        have B2 := Box.mk (HB.out.trans (hB.mono HB.out.size))
        have BR2 := Box.mk (BR.out.trans (hB.mono BR.out.size))
        have hC := Box.mk (hP.out o' (hk'.trans HK.out) w2 BR2.out)
        clear hB hk'
        generalize (opC o').toArray = cs' at *
        go_wp2_with (go_at_call 15; refine (calls_box hC.out).mono ?_)
        rintro e w3 ⟨⟨rfl, hB⟩⟩
        have B3 := Box.mk (B2.out.trans (hB.mono B2.out.size))
        clear hB
        go_wp2
        go_roundw
        case rel => exact ⟨2, by omega, rfl, B3.out⟩
        case measure => simp [intOf]
      · skip
        go_wp2_with (first
          | ((with_reducible refine arm_row 32 (.tmp 1) ?_ ?_ w.heap.size ?_ 32 cs (0, 0) _ FR.out UO rfl hi1.out ?_); rfl; rfl; rfl)
          | (go_at_call 16; refine (calls_box (hN.out _ _)).mono ?_))
        rintro e w2 ⟨⟨⟨o', hk', rfl⟩, hB⟩⟩
        have B2 := Box.mk (HB.out.trans (hB.mono HB.out.size))
        have BR2 := Box.mk (BR.out.trans (hB.mono BR.out.size))
        have hC := Box.mk (hP.out o' (hk'.trans HK.out) w2 BR2.out)
        clear hB hk'
        generalize (opC o').toArray = cs' at *
        go_wp2_with (go_at_call 15; refine (calls_box hC.out).mono ?_)
        rintro e w3 ⟨⟨rfl, hB⟩⟩
        have B3 := Box.mk (B2.out.trans (hB.mono B2.out.size))
        clear hB
        go_wp2
        go_roundw
        case rel => exact ⟨3, by omega, rfl, B3.out⟩
        case measure => simp [intOf]
      · skip
        go_wp2
        go_roundw
        case rel => exact ⟨4, by omega, rfl, HB.out⟩
        case measure => simp [intOf]
    · obtain rfl : k = 4 := by omega
      have hC := Box.mk (hPo.out wr BR.out)
      go_wp2_with (first
        | ((with_reducible refine arm_row 32 (.tmp 1) ?_ ?_ w.heap.size ?_ 32 cs (0, 0) _ FR.out UO rfl hi1.out ?_); rfl; rfl; rfl)
        | (go_at_call 15; refine (calls_box hC.out).mono ?_))
      rintro e w3 ⟨⟨rfl, hB⟩⟩
      have B3 := Box.mk (BR.out.trans (hB.mono BR.out.size))
      clear hB
      go_wp2
      go_ret
      exact ⟨rfl, B3.out⟩
end Go.Proofs.YteiepenanffhcaaDoor

/- The reference's texts, written out byte by byte. -/
namespace Go.Proofs.YteiepenanffhcaaDoor
open Go Go.RowKit
set_option linter.unusedVariables false

theorem own_lit1 (w : World) (base : Nat) (e : TypeId) (u : UInt8) (h : base ≤ w.heap.size) : Own (w.alloc (.cells #[.int .u8 (u.toNat : Int)] e)) base e (.slice (some ⟨w.heap.size, 0, none⟩) 1 1) [u] :=
  ⟨rfl, .inr ⟨w.heap.size, 1, _, rfl, h, heap_alloc_new w _, Nat.le_refl _, by unfold maxLen; omega, rfl, rfl⟩⟩
theorem own_base2 {w : World} {a b : Nat} {e : TypeId} {v : Value} {l : List UInt8} (h : Own w b e v l) (hab : a ≤ b) : Own w a e v l := by
  obtain ⟨hl, h⟩ := h
  refine ⟨hl, ?_⟩
  rcases h with h | ⟨g, cap, cur, rfl, h1, h2⟩
  · exact .inl h
  · exact .inr ⟨g, cap, cur, rfl, Nat.le_trans hab h1, h2⟩
theorem cell_d32 {w : World} {b : Nat} {d : D32} {e : TypeId} {fr : Nat × Nat} (h : w.heap[b]? = some (.cells (dc d) e fr)) (k : Nat) (hk : k < d.1.length) : w.cell? ⟨b, k, none⟩ = some (.int .u8 ((d.1[k]'hk).toNat : Int)) := by
  rw [cell_of_row w b k (dc d) e fr h, ← Array.getElem?_toList, dc_toList, bvs_getElem?, List.getElem?_eq_getElem hk]
  rfl

set_option maxRecDepth 100000 in
set_option maxHeartbeats 1000000 in
theorem rleafText_any (kk : D32) (ao : Option Addr) (n c : Nat) (l : List UInt8) (w : World) (h0 : Row w ao n l) (hb : n ≤ 140737488351232) :
    Calls Tryd.prog 24 #[.agg (dc kk), .slice ao n c] w fun e w' => (∃ v, e = .returned v ∧ Own w' w.heap.size 5 v (0 :: (kk.1 ++ l))) ∧ Below w.heap.size w w' := by
  have h := Box.mk (h0.old (Below.refl_alloc w (.cells (dc kk) 26)))
  have hl := Box.mk h0.1
  have h32 := Box.mk kk.2
  have F0 : Box ((w.alloc (.cells (dc kk) 26)).heap[w.heap.size]? = some (.cells (dc kk) 26 (0, 0))) := ⟨heap_new rfl⟩
  have HB0 := Box.mk (Below.refl_alloc w (.cells (dc kk) 26))
  have hs0 : Box ((w.alloc (.cells (dc kk) 26)).heap.size = w.heap.size + 1) := ⟨by simp⟩
  clear h0
  go_enter Tryd.func24, Tryd.ntmps24
  go_upto_region 1 with fail
  generalize w.alloc (.cells (dc kk) 26) = w0 at *
  have B0 := Box.mk (Below.refl_alloc w0 (.cells #[.int .u8 ((0 : UInt8).toNat : Int)] 5))
  have O0 := Box.mk (own_lit1 w0 w0.heap.size 5 0 (Nat.le_refl _))
  go_wp2
  go_loopw [5, 6] (fun v i wr => ∃ k : Nat, k ≤ 32 ∧ i = .int .i64 k ∧ Below (w0.heap.size) w0 wr ∧ Own wr (w0.heap.size) 5 v ((0 :: kk.1.take k))) (fun v i _ => 32 - (intOf i).toNat)
  case atStart => exact ⟨0, Nat.zero_le _, rfl, B0.out, by rw [List.take_zero]; exact O0.out⟩
  case round =>
    obtain ⟨k, hk, rfl, hB0, hO0⟩ := hrel
    have HB := Box.mk hB0
    have HO := Box.mk hO0
    clear hB0 hO0
    by_cases hlt : k < 32
    · have hkl : k < kk.1.length := by rw [h32.out]; exact hlt
      have e0 : wr.cell? ⟨w.heap.size, k, none⟩ = some (.int .u8 (kk.1[k]'hkl).toNat) := cell_d32 ((HB.out.block w.heap.size (by rw [hs0.out]; omega)).trans F0.out) k hkl
      obtain ⟨u, hu⟩ : ∃ u, kk.1[k]'hkl = u := ⟨_, rfl⟩
      rw [hu] at e0
      have HU := Box.mk (show (0 :: kk.1.take (k + 1)) = (0 :: kk.1.take k) ++ [u] by rw [List.take_succ_eq_append_getElem hkl, hu]; rfl)
      have hlen := Box.mk (show ((0 :: kk.1.take k)).length ≤ 140737488351300 by simp; omega)
      have hsz := Box.mk (HB.out.size)
      clear hu hkl
      generalize (0 :: kk.1.take k) = lk at *
      go_wp2_with ((with_reducible refine arm_append byteTy (.tmp 13) (.tmp 17) ?_ rfl (w0.heap.size) _ lk ?_ (HO.out.alloc _) (some ⟨wr.heap.size, 0, none⟩) 1 1 [u] ?_ (by intro h; cases h) (Row.lit1 wr 5 u) (by have := hlen.out; omega) (by have := hsz.out; simp at this ⊢; omega) ?_); rfl; rfl; rfl)
      intro v' w' own' G
      have hB' := Box.mk ((HB.out.alloc (by have := hsz.out; simp at this ⊢; omega) (.cells #[.int .u8 (u.toNat : Int)] 5)).grown G (by have := hsz.out; simp at this ⊢; omega) fun k hk => (HO.out.lt k hk).1)
      go_wp2
      go_roundw
      case rel => exact ⟨k + 1, by omega, by go_num, hB'.out, by rw [HU.out]; exact own'⟩
      case measure => simp [intOf]; omega
    · obtain rfl : k = 32 := by omega
      rw [show ((32 : Nat) : Int) = 32 from rfl]
      have HO2 := HO.out
      rw [List.take_of_length_le (by rw [h32.out]; omega)] at HO2
      have HO3 := Box.mk HO2
      clear HO HO2 O0 B0
      go_wp2
      obtain ⟨wz, hwz⟩ : ∃ x, x = wr := ⟨_, rfl⟩
      subst hwz
      go_loopw [5, 7] (fun v i wr => ∃ k : Nat, k ≤ n ∧ i = .int .i64 k ∧ Below (w0.heap.size) w0 wr ∧ Own wr (w0.heap.size) 5 v ((0 :: (kk.1 ++ l.take k)))) (fun v i _ => n - (intOf i).toNat)
      case atStart => exact ⟨0, Nat.zero_le _, rfl, HB.out, by rw [List.take_zero, List.append_nil]; exact HO3.out⟩
      case round =>
        obtain ⟨k, hk, rfl, hB0, hO0⟩ := hrel
        have HB := Box.mk hB0
        have HO := Box.mk hO0
        clear hB0 hO0
        by_cases hlt : k < n
        · obtain ⟨b, o, rfl⟩ := h.out.at0 (by omega)
          have hkl : k < l.length := by rw [hl.out]; exact hlt
          have e0 : wr.cell? ⟨b, o + k, none⟩ = some (.int .u8 (l[k]'hkl).toNat) := (h.out.old HB.out).cell k hkl
          obtain ⟨u, hu⟩ : ∃ u, l[k]'hkl = u := ⟨_, rfl⟩
          rw [hu] at e0
          have HU := Box.mk (show (0 :: (kk.1 ++ l.take (k + 1))) = (0 :: (kk.1 ++ l.take k)) ++ [u] by rw [List.take_succ_eq_append_getElem hkl, hu]; simp)
          have hlen := Box.mk (show ((0 :: (kk.1 ++ l.take k))).length ≤ 140737488351300 by have := h32.out; simp; omega)
          have hsz := Box.mk (HB.out.size)
          clear hu hkl
          generalize (0 :: (kk.1 ++ l.take k)) = lk at *
          go_wp2_with ((with_reducible refine arm_append byteTy (.tmp 25) (.tmp 30) ?_ rfl (w0.heap.size) _ lk ?_ (HO.out.alloc _) (some ⟨wr.heap.size, 0, none⟩) 1 1 [u] ?_ (by intro h; cases h) (Row.lit1 wr 5 u) (by have := hlen.out; omega) (by have := hsz.out; simp at this ⊢; omega) ?_); rfl; rfl; rfl)
          intro v' w' own' G
          have hB' := Box.mk ((HB.out.alloc (by have := hsz.out; simp at this ⊢; omega) (.cells #[.int .u8 (u.toNat : Int)] 5)).grown G (by have := hsz.out; simp at this ⊢; omega) fun k hk => (HO.out.lt k hk).1)
          go_wp2
          go_roundw
          case rel => exact ⟨k + 1, by omega, by go_num, hB'.out, by rw [HU.out]; exact own'⟩
          case measure => simp [intOf]; omega
        · obtain rfl : n = k := by omega
          have HO2 := HO.out
          rw [List.take_of_length_le (by rw [hl.out]; omega)] at HO2
          have HO4 := Box.mk (own_base2 HO2 (a := w.heap.size) (by rw [hs0.out]; omega))
          have HB4 := Box.mk (HB0.out.trans (HB.out.mono (by rw [hs0.out]; omega)))
          clear HO HO2 HO3
          go_wp2
          go_ret
          exact ⟨⟨_, rfl, HO4.out⟩, HB4.out⟩

set_option maxRecDepth 100000 in
set_option maxHeartbeats 1000000 in
theorem rbranchText_any (width : Int) (ll rr : D32) (w : World) :
    Calls Tryd.prog 29 #[.int .i64 width, .agg (dc ll), .agg (dc rr)] w fun e w' => (∃ v, e = .returned v ∧ Own w' w.heap.size 5 v (1 :: (ll.1.take (wid width) ++ rr.1.take (wid width)))) ∧ Below w.heap.size w w' := by
  have hc := wid_eq width
  have hc32 := wid_le width
  have HWI : Box (∀ W, _) := ⟨fun W => lwithin_any width 0 32 W (by omega)⟩
  rw [hc] at HWI
  generalize wid width = c at *
  clear hc
  have hl := Box.mk ll.2
  have hr := Box.mk rr.2
  have F0 : Box (((w.alloc (.cells (dc ll) 27)).alloc (.cells (dc rr) 27)).heap[w.heap.size]? = some (.cells (dc ll) 27 (0, 0))) := ⟨heap_old (heap_new rfl)⟩
  have F1 : Box (((w.alloc (.cells (dc ll) 27)).alloc (.cells (dc rr) 27)).heap[w.heap.size + 1]? = some (.cells (dc rr) 27 (0, 0))) := ⟨heap_new (by simp)⟩
  have HB0 := Box.mk ((Below.refl_alloc w (.cells (dc ll) 27)).alloc (B := w.heap.size) (by simp) (.cells (dc rr) 27))
  have hs0 : Box (((w.alloc (.cells (dc ll) 27)).alloc (.cells (dc rr) 27)).heap.size = w.heap.size + 2) := ⟨by simp⟩
  go_enter Tryd.func29, Tryd.ntmps29
  go_upto_region 1 with fail
  have hsz1 : (w.alloc (.cells (dc ll) 27)).heap.size = w.heap.size + 1 := by simp
  try rw [hsz1]
  clear hsz1
  generalize (w.alloc (.cells (dc ll) 27)).alloc (.cells (dc rr) 27) = w0 at *
  have B0 := Box.mk (Below.refl_alloc w0 (.cells #[.int .u8 ((1 : UInt8).toNat : Int)] 5))
  have O0 := Box.mk (own_lit1 w0 w0.heap.size 5 1 (Nat.le_refl _))
  go_wp2_with (go_at_call 46; refine (calls_box (HWI.out _)).mono ?_)
  rintro e w' ⟨⟨rfl, rfl⟩⟩
  go_wp2
  go_loopw [8, 9] (fun v i wr => ∃ k : Nat, k ≤ c ∧ i = .int .i64 k ∧ Below (w0.heap.size) w0 wr ∧ Own wr (w0.heap.size) 5 v ((1 :: ll.1.take k))) (fun v i _ => c - (intOf i).toNat)
  case atStart => exact ⟨0, Nat.zero_le _, rfl, B0.out, by rw [List.take_zero]; exact O0.out⟩
  case round =>
    obtain ⟨k, hk, rfl, hB0, hO0⟩ := hrel
    have HB := Box.mk hB0
    have HO := Box.mk hO0
    clear hB0 hO0
    by_cases hlt : k < c
    · have hkl : k < ll.1.length := by rw [hl.out]; omega
      have e0 : wr.cell? ⟨w.heap.size, k, none⟩ = some (.int .u8 (ll.1[k]'hkl).toNat) := cell_d32 ((HB.out.block (w.heap.size) (by rw [hs0.out]; omega)).trans F0.out) k hkl
      obtain ⟨u, hu⟩ : ∃ u, ll.1[k]'hkl = u := ⟨_, rfl⟩
      rw [hu] at e0
      have HU := Box.mk (show (1 :: ll.1.take (k + 1)) = (1 :: ll.1.take k) ++ [u] by rw [List.take_succ_eq_append_getElem hkl, hu]; rfl)
      have hlen := Box.mk (show ((1 :: ll.1.take k)).length ≤ 140737488351300 by simp; omega)
      have hsz := Box.mk (HB.out.size)
      clear hu hkl
      generalize (1 :: ll.1.take k) = lk at *
      go_wp2_with ((with_reducible refine arm_append byteTy (.tmp 19) (.tmp 23) ?_ rfl (w0.heap.size) _ lk ?_ (HO.out.alloc _) (some ⟨wr.heap.size, 0, none⟩) 1 1 [u] ?_ (by intro h; cases h) (Row.lit1 wr 5 u) (by have := hlen.out; omega) (by have := hsz.out; simp at this ⊢; omega) ?_); rfl; rfl; rfl)
      intro v' w' own' G
      have hB' := Box.mk ((HB.out.alloc (by have := hsz.out; simp at this ⊢; omega) (.cells #[.int .u8 (u.toNat : Int)] 5)).grown G (by have := hsz.out; simp at this ⊢; omega) fun k hk => (HO.out.lt k hk).1)
      go_wp2
      go_roundw
      case rel => exact ⟨k + 1, by omega, by go_num, hB'.out, by rw [HU.out]; exact own'⟩
      case measure => simp [intOf]; omega
    · obtain rfl : c = k := by omega
      have HO3 := HO
      clear HO O0 B0
      go_wp2
      obtain ⟨wz, hwz⟩ : ∃ x, x = wr := ⟨_, rfl⟩
      subst hwz
      go_loopw [8, 10] (fun v i wr => ∃ k : Nat, k ≤ c ∧ i = .int .i64 k ∧ Below (w0.heap.size) w0 wr ∧ Own wr (w0.heap.size) 5 v ((1 :: (ll.1.take c ++ rr.1.take k)))) (fun v i _ => c - (intOf i).toNat)
      case atStart => exact ⟨0, Nat.zero_le _, rfl, HB.out, by rw [List.take_zero, List.append_nil]; exact HO3.out⟩
      case round =>
        obtain ⟨k, hk, rfl, hB0, hO0⟩ := hrel
        have HB := Box.mk hB0
        have HO := Box.mk hO0
        clear hB0 hO0
        by_cases hlt : k < c
        · have hkl : k < rr.1.length := by rw [hr.out]; omega
          have e0 : wr.cell? ⟨w.heap.size + 1, k, none⟩ = some (.int .u8 (rr.1[k]'hkl).toNat) := cell_d32 ((HB.out.block (w.heap.size + 1) (by rw [hs0.out]; omega)).trans F1.out) k hkl
          obtain ⟨u, hu⟩ : ∃ u, rr.1[k]'hkl = u := ⟨_, rfl⟩
          rw [hu] at e0
          have HU := Box.mk (show (1 :: (ll.1.take c ++ rr.1.take (k + 1))) = (1 :: (ll.1.take c ++ rr.1.take k)) ++ [u] by rw [List.take_succ_eq_append_getElem hkl, hu]; simp)
          have hlen := Box.mk (show ((1 :: (ll.1.take c ++ rr.1.take k))).length ≤ 140737488351300 by simp; omega)
          have hsz := Box.mk (HB.out.size)
          clear hu hkl
          generalize (1 :: (ll.1.take c ++ rr.1.take k)) = lk at *
          go_wp2_with ((with_reducible refine arm_append byteTy (.tmp 30) (.tmp 34) ?_ rfl (w0.heap.size) _ lk ?_ (HO.out.alloc _) (some ⟨wr.heap.size, 0, none⟩) 1 1 [u] ?_ (by intro h; cases h) (Row.lit1 wr 5 u) (by have := hlen.out; omega) (by have := hsz.out; simp at this ⊢; omega) ?_); rfl; rfl; rfl)
          intro v' w' own' G
          have hB' := Box.mk ((HB.out.alloc (by have := hsz.out; simp at this ⊢; omega) (.cells #[.int .u8 (u.toNat : Int)] 5)).grown G (by have := hsz.out; simp at this ⊢; omega) fun k hk => (HO.out.lt k hk).1)
          go_wp2
          go_roundw
          case rel => exact ⟨k + 1, by omega, by go_num, hB'.out, by rw [HU.out]; exact own'⟩
          case measure => simp [intOf]; omega
        · obtain rfl : c = k := by omega
          have HO4 := Box.mk (own_base2 HO.out (a := w.heap.size) (by rw [hs0.out]; omega))
          have HB4 := Box.mk (HB0.out.trans (HB.out.mono (by rw [hs0.out]; omega)))
          clear HO HO3
          go_wp2
          go_ret
          exact ⟨⟨_, rfl, HO4.out⟩, HB4.out⟩
end Go.Proofs.YteiepenanffhcaaDoor
