/- A call that is nearly the same: nearly. -/
import Derived.Test.YteiepenanffhcaaDoorOp
namespace Go.Proofs.YteiepenanffhcaaDoor
open Go Go.RowKit
set_option linter.unusedVariables false

theorem xor1F : ∀ n : Fin 256, bits .xor .u8 ((n.1 : Nat) : Int) 1 = (((UInt8.ofNat n.1) ^^^ 1).toNat : Int) := by decide +kernel
theorem xor1 (x : UInt8) : bits .xor .u8 (x.toNat : Int) 1 = ((x ^^^ 1).toNat : Int) := by
  have := xor1F ⟨x.toNat, x.toNat_lt⟩
  rwa [UInt8.ofNat_toNat] at this
/-- One byte of thirty-two written. -/
def setD (d : D32) (i : Nat) (u : UInt8) : D32 := ⟨d.1.set i u, by rw [List.length_set]; exact d.2⟩
theorem opC_setk (o : OpV) (u : UInt8) : (opC o).set 35 (bv u) = opC { o with k := setD o.k 31 u } := by
  unfold opC setD
  rw [List.set_append_right _ _ (by simp), List.set_append_left _ _ (by simp [o.k.2])]
  show _ ++ ((bvs o.k.1).set 31 (bv u) ++ _) = _
  rw [bvs_put]
theorem opC_setd (o : OpV) (u : UInt8) : (opC o).set 67 (bv u) = opC { o with d := setD o.d 31 u } := by
  unfold opC setD
  rw [List.set_append_right _ _ (by simp), List.set_append_right _ _ (by simp [o.k.2]), List.set_append_left _ _ (by simp [o.k.2, o.d.2])]
  rw [show 67 - [Value.int .i64 o.kind, .int .i64 o.w, .int .i64 o.n, .int .i64 o.m].length - (bvs o.k.1).length = 31 by simp [o.k.2], bvs_put]
theorem opC_sete (o : OpV) (u : UInt8) : (opC o).set 99 (bv u) = opC { o with e := setD o.e 31 u } := by
  unfold opC setD
  rw [List.set_append_right _ _ (by simp), List.set_append_right _ _ (by simp [o.k.2]), List.set_append_right _ _ (by simp [o.k.2, o.d.2]), List.set_append_left _ _ (by simp [o.k.2, o.d.2, o.e.2])]
  rw [show 99 - [Value.int .i64 o.kind, .int .i64 o.w, .int .i64 o.n, .int .i64 o.m].length - (bvs o.k.1).length - (bvs o.d.1).length = 31 by simp [o.k.2, o.d.2], bvs_put]
section
variable {P : Program} {Q : Exit → Act → World → Prop} {ops : Array Oper} {rest : List Oper} {o : Oper} {a : Act} {w : World}
/-- A byte stored into a cell of a block of any cells. -/
theorem arm_store_cell (ty : TypeId) (x y : Operand) (ho : o.op = .store ty x y) (hgd : o.guard = none) (b off : Nat) (hx : a.eval x = .pointer (some ⟨b, off, none⟩)) (u : UInt8) (hy : a.eval y = .int .u8 (u.toNat : Int))
    (hs : (P.info? ty).map (·.size) = some 1) (C : List Value) (e : TypeId) (hg : w.heap[b]? = some (.cells C.toArray e (0, 0))) (hlt : off < C.length)
    (h : ∀ w', Hid (w'.heap[b]? = some (.cells (C.set off (bv u)).toArray e (0, 0))) → w.grownBy w' (some b) → wpList P ops Q rest (a.put o.dst undef) w') : wpList P ops Q (o :: rest) a w := by
  have hc : w.cell? ⟨b, off, none⟩ = some C[off] := by
    rw [cell_of_row w b off _ e (0, 0) hg, ← Array.getElem?_toList, List.getElem?_eq_getElem hlt]
  have hf : w.frozen? ⟨b, off, none⟩ = false := by
    unfold World.frozen?
    rw [hg]
    simp
  refine wpList_store_int hgd ty x y ho ⟨b, off, none⟩ (bv u) hx hy ⟨_, _, rfl⟩ hs ⟨_, hc⟩ hf (h _ ?_ (grownBy_setC _ _ _))
  show _ = _
  rw [heap_setCell_same w b off _ e _ hg]
  congr 2
  apply Array.ext'
  simp
end

set_option maxRecDepth 100000 in
set_option maxHeartbeats 4000000 in
theorem nearly_any (o : OpV) (i : Int) (w : World) : Calls Tryd.prog 16 #[.agg (opC o).toArray, .int .i64 i] w fun e w' => (∃ o' : OpV, o'.kind = o.kind ∧ e = .returned (.agg (opC o').toArray)) ∧ Below w.heap.size w w' := by
  have hz := fun W : World => (show (zeroValue 32).run Tryd.prog W = .ok (.agg (opC zeroOp).toArray) W by kernel_rfl)
  have hi5 : Box ((Tryd.prog.info? 5).map (·.size) = some 1) := ⟨by kernel_rfl⟩
  obtain ⟨fs, UO⟩ := opUnder
  have hsz := opSize
  have hsz2 := opSize2 zeroOp
  have hal := Box.mk opC_all
  have f0 : Box (((w.alloc (.cells (opC o).toArray 32)).alloc (.cells (opC zeroOp).toArray 32)).heap[w.heap.size]? = some (.cells (opC o).toArray 32 (0, 0))) := ⟨heap_old (heap_new rfl)⟩
  have f1 : Box (((w.alloc (.cells (opC o).toArray 32)).alloc (.cells (opC zeroOp).toArray 32)).heap[w.heap.size + 1]? = some (.cells (opC zeroOp).toArray 32 (0, 0))) := ⟨heap_new (by simp)⟩
  have HB := Box.mk ((Below.refl_alloc w (.cells (opC o).toArray 32)).alloc (B := w.heap.size) (by simp) (.cells (opC zeroOp).toArray 32))
  have hlen := Box.mk (length_opC o)
  have kd := o.k.2
  have dd := o.d.2
  have ed := o.e.2
  -- what lies at the three places
  have ck : Box (∀ h : 31 < o.k.1.length, ∀ W : World, W.heap[w.heap.size]? = some (.cells (opC o).toArray 32 (0, 0)) → W.cell? ⟨w.heap.size, 35, none⟩ = some (.int .u8 ((o.k.1[31]'h).toNat : Int))) := ⟨fun h W hW => by
    rw [cell_of_row _ _ 35 _ _ _ hW, show 35 = 4 + 31 from rfl, opC_k o 31 (by omega), bvs_getElem?, List.getElem?_eq_getElem h]; rfl⟩
  have cd : Box (∀ h : 31 < o.d.1.length, ∀ W : World, W.heap[w.heap.size]? = some (.cells (opC o).toArray 32 (0, 0)) → W.cell? ⟨w.heap.size, 67, none⟩ = some (.int .u8 ((o.d.1[31]'h).toNat : Int))) := ⟨fun h W hW => by
    rw [cell_of_row _ _ 67 _ _ _ hW, show 67 = 36 + 31 from rfl, opC_d o 31 (by omega), bvs_getElem?, List.getElem?_eq_getElem h]; rfl⟩
  have ce : Box (∀ h : 31 < o.e.1.length, ∀ W : World, W.heap[w.heap.size]? = some (.cells (opC o).toArray 32 (0, 0)) → W.cell? ⟨w.heap.size, 99, none⟩ = some (.int .u8 ((o.e.1[31]'h).toNat : Int))) := ⟨fun h W hW => by
    rw [cell_of_row _ _ 99 _ _ _ hW, show 99 = 68 + 31 from rfl, opC_e o 31 (by omega), bvs_getElem?, List.getElem?_eq_getElem h]; rfl⟩
  have sk := Box.mk (opC_setk o)
  have sd := Box.mk (opC_setd o)
  have se := Box.mk (opC_sete o)
  have hrow : ∀ (o' : OpV), o'.kind = o.kind → Box (o'.kind = o.kind) := fun _ h => ⟨h⟩
  by_cases i1 : i = 1
  · subst i1
    generalize hzo : (opC zeroOp).toArray = zo at *
    have HZO := Box.mk hzo
    clear hzo
    obtain ⟨o', ho'⟩ : ∃ o' : OpV, o' = { o with k := setD o.k 31 ((o.k.1[31]'(by omega)) ^^^ 1) } := ⟨_, rfl⟩
    have hkind : o'.kind = o.kind := by rw [ho']
    have hset := Box.mk (sk.out ((o.k.1[31]'(by omega)) ^^^ 1))
    rw [← ho'] at hset
    have cc := ck.out (by omega) _ f0.out
    have hxor := xor1 (o.k.1[31]'(by omega))
    generalize (o.k.1[31]'(by omega)) = x at *
    generalize x ^^^ 1 = u at *
    have hi1 := hsz o'
    have hss := hsz2 o'
    try rw [HZO.out] at hss
    have ha := Box.mk (hal.out o')
    have HK := Box.mk hkind
    clear ho' hkind ck cd ce sk sd se hrow kd dd ed hsz hsz2 hal
    generalize opC o = cl at *
    generalize hcn : opC o' = cn at *
    have HCN := Box.mk hcn
    clear hcn
    go_enter Tryd.func16, Tryd.ntmps16
    go_upto_region 1 with fail
    have hsz1 : (w.alloc (.cells cl.toArray 32)).heap.size = w.heap.size + 1 := by simp
    try rw [hsz1]
    clear hsz1
    generalize (w.alloc (.cells cl.toArray 32)).alloc (.cells zo 32) = w0 at *
    go_wp2_with ((with_reducible refine arm_store_cell 5 (.tmp 13) (.tmp 11) ?_ rfl w.heap.size 35 ?_ u ?_ hi5.out cl 32 f0.out (by rw [hlen.out]; omega) ?_); rfl; rfl; rfl)
    intro w2 g2 G2
    have B2 := Box.mk (HB.out.grown G2 HB.out.size (fun k hk => by cases hk; exact Nat.le_refl _))
    have f2 := Box.mk (show w2.heap[w.heap.size]? = some (.cells cn.toArray 32 (0, 0)) by rw [← hset.out]; exact g2.out)
    have f3 := Box.mk ((G2.block _ (heap_lt f1.out) (by intro h; injection h with h; omega)).trans f1.out)
    clear g2 G2 f1 f0
    go_wp2_with (first
      | ((with_reducible refine arm_row 32 (.tmp 2) ?_ ?_ w.heap.size ?_ 32 cn.toArray (0, 0) _ f2.out UO rfl hi1.out ?_); rfl; rfl; rfl)
      | ((with_reducible refine arm_store_row 32 (.tmp 4) (.tmp 30) ?_ rfl (w.heap.size + 1) zo cn.toArray 32 ?_ ?_ f3.out hss.out hi1.out ha.out ?_); rfl; rfl; rfl))
    intro w4 g4 G4
    have B4 := Box.mk (B2.out.grown G4 B2.out.size (fun k hk => by cases hk; omega))
    go_wp2
    exact bodyPost_ret (v := .agg cn.toArray) (results_cell_row (p := 4) (ty := 32) rfl _ _ (w.heap.size + 1) 32 _ (0, 0) _ rfl g4.out UO rfl hi1.out) rfl ⟨⟨o', HK.out, by rw [HCN.out]⟩, B4.out⟩
  · by_cases i2 : i = 2
    · subst i2
      generalize hzo : (opC zeroOp).toArray = zo at *
      have HZO := Box.mk hzo
      clear hzo
      obtain ⟨o', ho'⟩ : ∃ o' : OpV, o' = { o with d := setD o.d 31 ((o.d.1[31]'(by omega)) ^^^ 1) } := ⟨_, rfl⟩
      have hkind : o'.kind = o.kind := by rw [ho']
      have hset := Box.mk (sd.out ((o.d.1[31]'(by omega)) ^^^ 1))
      rw [← ho'] at hset
      have cc := cd.out (by omega) _ f0.out
      have hxor := xor1 (o.d.1[31]'(by omega))
      generalize (o.d.1[31]'(by omega)) = x at *
      generalize x ^^^ 1 = u at *
      have hi1 := hsz o'
      have hss := hsz2 o'
      try rw [HZO.out] at hss
      have ha := Box.mk (hal.out o')
      have HK := Box.mk hkind
      clear ho' hkind ck cd ce sk sd se hrow kd dd ed hsz hsz2 hal
      generalize opC o = cl at *
      generalize hcn : opC o' = cn at *
      have HCN := Box.mk hcn
      clear hcn
      go_enter Tryd.func16, Tryd.ntmps16
      go_upto_region 1 with fail
      have hsz1 : (w.alloc (.cells cl.toArray 32)).heap.size = w.heap.size + 1 := by simp
      try rw [hsz1]
      clear hsz1
      generalize (w.alloc (.cells cl.toArray 32)).alloc (.cells zo 32) = w0 at *
      go_wp2_with ((with_reducible refine arm_store_cell 5 (.tmp 21) (.tmp 19) ?_ rfl w.heap.size 67 ?_ u ?_ hi5.out cl 32 f0.out (by rw [hlen.out]; omega) ?_); rfl; rfl; rfl)
      intro w2 g2 G2
      have B2 := Box.mk (HB.out.grown G2 HB.out.size (fun k hk => by cases hk; exact Nat.le_refl _))
      have f2 := Box.mk (show w2.heap[w.heap.size]? = some (.cells cn.toArray 32 (0, 0)) by rw [← hset.out]; exact g2.out)
      have f3 := Box.mk ((G2.block _ (heap_lt f1.out) (by intro h; injection h with h; omega)).trans f1.out)
      clear g2 G2 f1 f0
      go_wp2_with (first
        | ((with_reducible refine arm_row 32 (.tmp 2) ?_ ?_ w.heap.size ?_ 32 cn.toArray (0, 0) _ f2.out UO rfl hi1.out ?_); rfl; rfl; rfl)
        | ((with_reducible refine arm_store_row 32 (.tmp 4) (.tmp 30) ?_ rfl (w.heap.size + 1) zo cn.toArray 32 ?_ ?_ f3.out hss.out hi1.out ha.out ?_); rfl; rfl; rfl))
      intro w4 g4 G4
      have B4 := Box.mk (B2.out.grown G4 B2.out.size (fun k hk => by cases hk; omega))
      go_wp2
      exact bodyPost_ret (v := .agg cn.toArray) (results_cell_row (p := 4) (ty := 32) rfl _ _ (w.heap.size + 1) 32 _ (0, 0) _ rfl g4.out UO rfl hi1.out) rfl ⟨⟨o', HK.out, by rw [HCN.out]⟩, B4.out⟩
    · by_cases i3 : i = 3
      · subst i3
        generalize hzo : (opC zeroOp).toArray = zo at *
        have HZO := Box.mk hzo
        clear hzo
        obtain ⟨o', ho'⟩ : ∃ o' : OpV, o' = { o with e := setD o.e 31 ((o.e.1[31]'(by omega)) ^^^ 1) } := ⟨_, rfl⟩
        have hkind : o'.kind = o.kind := by rw [ho']
        have hset := Box.mk (se.out ((o.e.1[31]'(by omega)) ^^^ 1))
        rw [← ho'] at hset
        have cc := ce.out (by omega) _ f0.out
        have hxor := xor1 (o.e.1[31]'(by omega))
        generalize (o.e.1[31]'(by omega)) = x at *
        generalize x ^^^ 1 = u at *
        have hi1 := hsz o'
        have hss := hsz2 o'
        try rw [HZO.out] at hss
        have ha := Box.mk (hal.out o')
        have HK := Box.mk hkind
        clear ho' hkind ck cd ce sk sd se hrow kd dd ed hsz hsz2 hal
        generalize opC o = cl at *
        generalize hcn : opC o' = cn at *
        have HCN := Box.mk hcn
        clear hcn
        go_enter Tryd.func16, Tryd.ntmps16
        go_upto_region 1 with fail
        have hsz1 : (w.alloc (.cells cl.toArray 32)).heap.size = w.heap.size + 1 := by simp
        try rw [hsz1]
        clear hsz1
        generalize (w.alloc (.cells cl.toArray 32)).alloc (.cells zo 32) = w0 at *
        go_wp2_with ((with_reducible refine arm_store_cell 5 (.tmp 29) (.tmp 27) ?_ rfl w.heap.size 99 ?_ u ?_ hi5.out cl 32 f0.out (by rw [hlen.out]; omega) ?_); rfl; rfl; rfl)
        intro w2 g2 G2
        have B2 := Box.mk (HB.out.grown G2 HB.out.size (fun k hk => by cases hk; exact Nat.le_refl _))
        have f2 := Box.mk (show w2.heap[w.heap.size]? = some (.cells cn.toArray 32 (0, 0)) by rw [← hset.out]; exact g2.out)
        have f3 := Box.mk ((G2.block _ (heap_lt f1.out) (by intro h; injection h with h; omega)).trans f1.out)
        clear g2 G2 f1 f0
        go_wp2_with (first
          | ((with_reducible refine arm_row 32 (.tmp 2) ?_ ?_ w.heap.size ?_ 32 cn.toArray (0, 0) _ f2.out UO rfl hi1.out ?_); rfl; rfl; rfl)
          | ((with_reducible refine arm_store_row 32 (.tmp 4) (.tmp 30) ?_ rfl (w.heap.size + 1) zo cn.toArray 32 ?_ ?_ f3.out hss.out hi1.out ha.out ?_); rfl; rfl; rfl))
        intro w4 g4 G4
        have B4 := Box.mk (B2.out.grown G4 B2.out.size (fun k hk => by cases hk; omega))
        go_wp2
        exact bodyPost_ret (v := .agg cn.toArray) (results_cell_row (p := 4) (ty := 32) rfl _ _ (w.heap.size + 1) 32 _ (0, 0) _ rfl g4.out UO rfl hi1.out) rfl ⟨⟨o', HK.out, by rw [HCN.out]⟩, B4.out⟩
      · have e1 : (i == 1) = false := by rw [beq_eq_false_iff_ne]; exact i1
        have e2 : (i == 2) = false := by rw [beq_eq_false_iff_ne]; exact i2
        have e3 : (i == 3) = false := by rw [beq_eq_false_iff_ne]; exact i3
        clear i1 i2 i3
        generalize hzo : (opC zeroOp).toArray = zo at *
        have HZO := Box.mk hzo
        clear hzo
        have hi1 := hsz o
        have hss := hsz2 o
        try rw [HZO.out] at hss
        have ha := Box.mk (hal.out o)
        clear ck cd ce sk sd se hrow kd dd ed hsz hsz2 hal hlen
        generalize hcn : opC o = cn at *
        have HCN := Box.mk hcn
        clear hcn
        go_enter Tryd.func16, Tryd.ntmps16
        go_upto_region 1 with fail
        have hsz1 : (w.alloc (.cells cn.toArray 32)).heap.size = w.heap.size + 1 := by simp
        try rw [hsz1]
        clear hsz1
        generalize (w.alloc (.cells cn.toArray 32)).alloc (.cells zo 32) = w0 at *
        go_wp2_with (first
          | ((with_reducible refine arm_row 32 (.tmp 2) ?_ ?_ w.heap.size ?_ 32 cn.toArray (0, 0) _ f0.out UO rfl hi1.out ?_); rfl; rfl; rfl)
          | ((with_reducible refine arm_store_row 32 (.tmp 4) (.tmp 30) ?_ rfl (w.heap.size + 1) zo cn.toArray 32 ?_ ?_ f1.out hss.out hi1.out ha.out ?_); rfl; rfl; rfl))
        intro w4 g4 G4
        have B4 := Box.mk (HB.out.grown G4 HB.out.size (fun k hk => by cases hk; omega))
        go_wp2
        exact bodyPost_ret (v := .agg cn.toArray) (results_cell_row (p := 4) (ty := 32) rfl _ _ (w.heap.size + 1) 32 _ (0, 0) _ rfl g4.out UO rfl hi1.out) rfl ⟨⟨o, rfl, by rw [HCN.out]⟩, B4.out⟩
end Go.Proofs.YteiepenanffhcaaDoor
