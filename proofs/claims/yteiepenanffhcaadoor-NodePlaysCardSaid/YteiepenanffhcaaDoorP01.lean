/- Texts joined: Arm, Arm2, Copy. -/
import Derived.Test.YteiepenanffhcaaDoorP00
import Derived.OwnWalk
import Derived.Test.YteiepenanffhcaaDoorRows
/- Steps of a plain region, guarded or not: the operation's own text is asked first, so that a wrong step falls at once. No program in sight. -/
namespace Go.Proofs.YteiepenanffhcaaDoor
open Go Go.RowKit
set_option linter.unusedVariables false
/-- A contract's word in a box: the walk does not take it apart. -/
theorem calls_box {P : Program} {f : FuncId} {args : Array Value} {w : World} {R : Ending → World → Prop} (h : Calls P f args w R) : Calls P f args w fun e w' => Box (R e w') :=
  h.mono fun _ _ h => ⟨h⟩
section
variable {P : Program} {Q : Exit → Act → World → Prop} {ops : Array Oper} {rest : List Oper} {o : Oper} {a : Act} {w : World}
theorem arm_load32 (ty : TypeId) (x : Operand) (ho : o.op = .load ty x) (hw : Region.wanted o (yielded ops a.tmps) = true)
    (b off : Nat) (hx : a.eval x = .pointer (some ⟨b, off, none⟩)) (d : D32) (e : TypeId) (hS : w.rangeAt b off (bvs d.1)) (hu : P.underlying ty = some (.array 32 e)) (hi : Hid ((P.info? ty).map (·.size) = some 32))
    (h : wpList P ops Q rest (a.put o.dst (.agg (dc d))) w) : wpList P ops Q (o :: rest) a w :=
  wpList_load32g hw ty x ho b off hx d e hS hu hi h
theorem arm_built (t : TypeId) (parts : List (Nat × Operand)) (ho : o.op = .build t parts.toArray) (hw : Region.wanted o (yielded ops a.tmps) = true)
    (ps : List (Nat × Value)) (hp : (parts.map fun p => (p.1, a.eval p.2)) = ps) (cells : Array Value) (hc : P.built t ps = some cells)
    (h : wpList P ops Q rest (a.put o.dst (.agg cells)) w) : wpList P ops Q (o :: rest) a w :=
  wpList_builtg hw t parts ho ps hp cells hc h
theorem arm_eql (t t' : TypeId) (x y : Operand) (ho : o.op = .binOp .eql t x y t') (hw : Region.wanted o (yielded ops a.tmps) = true) (c d : Array Value) (r : Bool)
    (hx : a.eval x = .agg c) (hy : a.eval y = .agg d) (hm : P.eqGuardType P.depth t = false) (he : ∀ W, (Op.equalIn 10000 t (.agg c) (.agg d)).run P W = .ok r W)
    (h : wpList P ops Q rest (a.put o.dst (.bool r)) w) : wpList P ops Q (o :: rest) a w :=
  wpList_yields hw (held_pure hw fun W => by
    unfold execOp
    simp only [ho, hx, hy, Sem.run_bind, run_eql_struct, run_eqGuard_agg (hm := hm), he, Result.andThen_ok]
    rfl) h
theorem arm_neq (t t' : TypeId) (x y : Operand) (ho : o.op = .binOp .neq t x y t') (hw : Region.wanted o (yielded ops a.tmps) = true) (c d : Array Value) (r : Bool)
    (hx : a.eval x = .agg c) (hy : a.eval y = .agg d) (hm : P.eqGuardType P.depth t = false) (he : ∀ W, (Op.equalIn 10000 t (.agg c) (.agg d)).run P W = .ok (!r) W)
    (h : wpList P ops Q rest (a.put o.dst (.bool r)) w) : wpList P ops Q (o :: rest) a w :=
  wpList_yields hw (held_pure hw fun W => by
    unfold execOp
    simp only [ho, hx, hy, Sem.run_bind, run_neq_struct, run_eqGuard_agg (hm := hm), he, Result.andThen_ok, Bool.not_not]
    rfl) h
/-- A whole struct or array loaded from a block of its own. -/
theorem arm_row (ty : TypeId) (x : Operand) (ho : o.op = .load ty x) (hw : Region.wanted o (yielded ops a.tmps) = true)
    (g : Nat) (hx : a.eval x = .pointer (some ⟨g, 0, none⟩)) (t : TypeId) (cs : Array Value) (fr : Nat × Nat) (d : TypeDesc) (hg : w.heap[g]? = some (.cells cs t fr))
    (hu : P.underlying ty = some d) (hd : d.isRow = true) (hi : (P.info? ty).map (·.size) = some cs.size)
    (h : wpList P ops Q rest (a.put o.dst (.agg cs)) w) : wpList P ops Q (o :: rest) a w := by
  have hS : w.rangeAt g 0 cs.toList := fun j v hj => by
    rw [cell_of_row w g (0 + j) cs t fr hg, Nat.zero_add, ← Array.getElem?_toList]; exact hj
  refine wpList_yields hw (yieldsIf_load_mid hw ty x ho g 0 hx cs.toList d (fun W hW => by rw [hW]; exact hS) hu hd (by simpa using hi)) ?_
  simpa using h
end
end Go.Proofs.YteiepenanffhcaaDoor

/- More steps: bytes made, appended, stored one by one. No program in sight. -/
namespace Go.Proofs.YteiepenanffhcaaDoor
open Go Go.RowKit
set_option linter.unusedVariables false

theorem made_zeros (n : Nat) : madeCells (Value.cells (.int .u8 0)) n = (bvs (List.replicate n 0)).toArray := by
  apply Array.ext'
  apply List.ext_getElem?
  intro i
  have h : (madeCells (Value.cells (.int .u8 0)) n).toList = List.replicate n (Value.int .u8 0) := by
    unfold madeCells
    rw [Array.toList_map, Array.toList_range]
    apply List.ext_getElem
    · simp
    · intro i h1 h2
      simp [Value.cells, Nat.mod_one]
  rw [h]
  simp [bvs, bv]
theorem grownBy_setC (w : World) (a : Addr) (u : Value) : w.grownBy (w.setCell a u) (some a.block) :=
  ⟨rfl, rfl, rfl, Nat.le_of_eq (by simp [World.setCell]), fun k _ hk => heap_setCell_other w a k u fun h => hk (by rw [h])⟩
theorem bvs_put (L : List UInt8) (i : Nat) (u : UInt8) : (bvs L).set i (bv u) = bvs (L.set i u) := by
  unfold bvs; rw [List.map_set]
/-- One byte in a block of its own. -/
theorem Row.lit1 (w : World) (e : TypeId) (u : UInt8) : Row (w.alloc (.cells #[.int .u8 (u.toNat : Int)] e)) (some ⟨w.heap.size, 0, none⟩) 1 [u] := Row.lit w _ e [u] rfl
section
variable {P : Program} {t e : TypeId} {Q : Exit → Act → World → Prop} {ops : Array Oper} {rest : List Oper} {o : Oper} {a : Act} {w : World}
/-- 'make([]byte, n)'. -/
theorem arm_make_full (hT : ByteTy P t e) (l c : Operand) (ho : o.op = Op.makeSlice t l c) (hg : o.guard = none) (kl kc : IntKind) (L C : Int) (n : Nat)
    (hl : a.eval l = .int kl L) (hc : a.eval c = .int kc C) (hL : L = (n : Int)) (hC : C = (n : Int)) (b2 : n ≤ 281474976710656)
    (hK : ∀ w', Hid (w'.heap[w.heap.size]? = some (.cells (bvs (List.replicate n 0)).toArray e (0, 0))) → Below w.heap.size w w' → wpList P ops Q rest (a.put o.dst (.slice (some ⟨w.heap.size, 0, none⟩) n n)) w') :
    wpList P ops Q (o :: rest) a w := by
  obtain ⟨i, h1, h2, h3, h4, h5⟩ := hT
  refine wpList_plain hg fun K hK' => ?_
  subst hL
  subst hC
  have hrun := run_make (P := P) w t e i _ h1 h2 h3 kl kc n n (by omega) (Int.le_refl _) (by rw [h5]; omega) (by omega)
  simp only [Int.toNat_natCast, h4, Nat.mul_one] at hrun
  unfold Oper.wp
  simp only [execOp, ho, hl, hc, hrun, Sem.run_bind, Result.andThen_ok]
  refine hK' _ _ (hK _ ?_ (Below.refl_alloc w _))
  show _ = _
  rw [heap_alloc_new]
  exact congrArg (fun x => some (Obj.cells x e (0, 0))) (made_zeros n)
/-- 'append' of bytes to bytes of the call's own. -/
theorem arm_append (hT : ByteTy P t e) (s x : Operand) (ho : o.op = Op.call { callee := Callee.builtin Builtin.append, args := #[s, x], argTypes := #[t, t] }) (hg : o.guard = none)
    (base : Nat) (v : Value) (l : List UInt8) (hs : a.eval s = v) (hown : Own w base e v l)
    (ao : Option Addr) (m c : Nat) (l2 : List UInt8) (hx : a.eval x = .slice ao m c) (hnone : ao = none → m = 0 ∧ c = 0) (hrow : Row w ao m l2) (hb : l.length + m ≤ 140737488355328) (hbase : base ≤ w.heap.size)
    (hK : ∀ v' w', Own w' base e v' (l ++ l2) → w.grownBy w' v.ownBlock → wpList P ops Q rest (a.put o.dst v') w') :
    wpList P ops Q (o :: rest) a w :=
  wpList_append_grow hT w hg s x ho base v l hs hown ao m c l2 hx hnone hrow hb hbase hK
/-- A byte stored into a block of bytes. -/
theorem arm_store_byte (ty : TypeId) (x y : Operand) (ho : o.op = .store ty x y) (hgd : o.guard = none) (b off : Nat) (hx : a.eval x = .pointer (some ⟨b, off, none⟩)) (z : Int) (hy : a.eval y = .int .u8 z)
    (hs : (P.info? ty).map (·.size) = some 1) (L : List UInt8) (hg : w.heap[b]? = some (.cells (bvs L).toArray e (0, 0))) (hlt : off < L.length) (u : UInt8) (hz : z = (u.toNat : Int))
    (h : ∀ w', Hid (w'.heap[b]? = some (.cells (bvs (L.set off u)).toArray e (0, 0))) → w.grownBy w' (some b) → wpList P ops Q rest (a.put o.dst undef) w') : wpList P ops Q (o :: rest) a w := by
  have hc : w.cell? ⟨b, off, none⟩ = some (bv L[off]) := by
    rw [cell_of_row w b off _ e (0, 0) hg, ← Array.getElem?_toList]
    show (bvs L)[off]? = _
    rw [bvs_getElem?, List.getElem?_eq_getElem hlt]; rfl
  have hf : w.frozen? ⟨b, off, none⟩ = false := by
    unfold World.frozen?
    rw [hg]
    simp
  subst hz
  refine wpList_store_int hgd ty x y ho ⟨b, off, none⟩ (bv u) hx hy ⟨_, _, rfl⟩ hs ⟨_, hc⟩ hf (h _ ?_ (grownBy_setC _ _ _))
  show _ = _
  rw [heap_setCell_same w b off _ e _ hg]
  congr 2
  rw [← bvs_put]
  apply Array.ext'
  simp
end
end Go.Proofs.YteiepenanffhcaaDoor

/- The laws' own lists: copyBytes, roomy, roomyIs. -/
namespace Go.Proofs.YteiepenanffhcaaDoor
open Go Go.RowKit
set_option linter.unusedVariables false

theorem byteTyC : ByteTy Tryd.prog 28 5 := by
  obtain ⟨i, hi⟩ := Option.isSome_iff_exists.1 (show (Tryd.prog.info? 5).isSome = true by kernel_rfl)
  have h : (Tryd.prog.info? 5).map (fun i => (i.zero, i.size, i.bytes)) = some (some (.int .u8 0), 1, 1) := by kernel_rfl
  rw [hi] at h
  simp only [Option.map_some, Option.some.injEq, Prod.mk.injEq] at h
  exact ⟨i, Tryd.underlying28, hi, h.1, h.2.1, h.2.2⟩

theorem below_drewN2 {B : Nat} {w w' : World} (h : Below B w w') (q : Nat) : Below B w (w'.drewN q) := ⟨h.os, h.tape, h.output, h.size, h.block⟩
theorem below_own {w wr w' : World} {base : Nat} {e : TypeId} {v : Value} {l : List UInt8} (hB : Below base w wr) (ho : Own wr base e v l) (G : wr.grownBy w' v.ownBlock) (hb : base ≤ w.heap.size) : Below base w w' :=
  hB.grown G (Nat.le_trans hb hB.size) fun k hk => (ho.lt k hk).1

set_option maxRecDepth 100000 in
set_option maxHeartbeats 1000000 in
theorem copyBytes_any (ao : Option Addr) (n c : Nat) (l : List UInt8) (w : World) (h0 : Row w ao n l) (hb : n ≤ 140737488351232) :
    Calls Tryd.prog 12 #[.slice ao n c] w fun e w' => (∃ v, e = .returned v ∧ Own w' w.heap.size 5 v l) ∧ Below w.heap.size w w' := by
  have h := Box.mk h0
  have hl := Box.mk h0.1
  clear h0
  go_enter Tryd.func12, Tryd.ntmps12
  go_wp2
  go_loopw [3, 4] (fun v i wr => ∃ k : Nat, k ≤ n ∧ i = .int .i64 k ∧ Below w.heap.size w wr ∧ Own wr w.heap.size 5 v (l.take k)) (fun v i _ => n - (intOf i).toNat)
  case atStart => exact ⟨0, Nat.zero_le _, rfl, Below.refl _ w, by rw [List.take_zero]; exact ⟨rfl, .inl ⟨rfl, rfl⟩⟩⟩
  case round =>
    obtain ⟨k, hk, rfl, hB0, hO0⟩ := hrel
    have HB := Box.mk hB0
    have HO := Box.mk hO0
    clear hB0 hO0
    by_cases hlt : k < n
    · obtain ⟨b, o, rfl⟩ := h.out.at0 (by omega)
      have hkl : k < l.length := by rw [hl.out]; exact hlt
      have e0 : wr.cell? ⟨b, o + k, none⟩ = some (.int .u8 (l[k]'hkl).toNat) := (h.out.old HB.out).cell k hkl
      obtain ⟨u, hu⟩ : ∃ u, l[k]'hkl = u := ⟨_, rfl⟩
      rw [hu] at e0
      have HU := Box.mk (show l.take (k + 1) = l.take k ++ [u] by rw [List.take_succ_eq_append_getElem hkl, hu])
      have hlen := Box.mk (show (l.take k).length = k by rw [List.length_take]; omega)
      have hsz := Box.mk (HB.out.size)
      clear hu hkl
      generalize l.take k = lk at *
      go_wp2_with ((with_reducible refine arm_append byteTyC (.tmp 11) (.tmp 16) ?_ rfl w.heap.size _ lk ?_ (HO.out.alloc _) (some ⟨wr.heap.size, 0, none⟩) 1 1 [u] ?_ (by intro h; cases h) (Row.lit1 wr 5 u) (by rw [hlen.out]; omega) (by have := hsz.out; simp; omega) ?_); rfl; rfl; rfl)
      intro v' w' own' G
      have hB' := Box.mk (below_own (HB.out.alloc HB.out.size (.cells #[.int .u8 (u.toNat : Int)] 5)) (HO.out.alloc _) G (Nat.le_refl _))
      go_wp2
      go_roundw
      case rel => exact ⟨k + 1, by omega, by go_num, hB'.out, by rw [HU.out]; exact own'⟩
      case measure => simp [intOf]; omega
    · obtain rfl : k = n := by omega
      have HO2 := HO.out
      rw [List.take_of_length_le (by rw [hl.out]; omega)] at HO2
      have HO3 := Box.mk HO2
      clear HO HO2
      go_wp2
      go_ret
      exact ⟨⟨_, rfl, HO3.out⟩, HB.out⟩

/-- What roomy makes. -/
def roomyL (l : List UInt8) : List UInt8 := l ++ (List.range 100).map fun i => UInt8.ofNat (101 + i)
theorem length_roomyL (l : List UInt8) : (roomyL l).length = l.length + 100 := by simp [roomyL]
theorem stage_set (A : List UInt8) (m k : Nat) (hm : A.length = m) (hk : k < m) (u : UInt8) (hu : A[k]? = some u) :
    (A.take k ++ List.replicate (m - k) 0).set k u = A.take (k + 1) ++ List.replicate (m - (k + 1)) 0 := by
  obtain ⟨hk', hu'⟩ := List.getElem?_eq_some_iff.1 hu
  have h1 : (A.take k).length = k := by rw [List.length_take]; omega
  rw [List.set_append_right _ _ (by omega), h1, Nat.sub_self, List.take_succ_eq_append_getElem hk', hu']
  have h2 : m - k = (m - (k + 1)) + 1 := by omega
  rw [h2, List.replicate_succ, List.set_cons_zero, List.append_assoc]
  rfl

set_option maxRecDepth 100000 in
set_option maxHeartbeats 1000000 in
theorem roomy_any (ao : Option Addr) (n c : Nat) (l : List UInt8) (w : World) (h0 : Row w ao n l) (hb : n ≤ 140737488351232) :
    Calls Tryd.prog 13 #[.slice ao n c] w fun e w' => (∃ g, e = .returned (.slice (some ⟨g, 0, none⟩) (n + 100) (n + 100)) ∧ w'.heap[g]? = some (.cells (bvs (roomyL l)).toArray 5 (0, 0)) ∧ w.heap.size ≤ g) ∧ Below w.heap.size w w' := by
  have h := Box.mk h0
  have hl := Box.mk h0.1
  have hi5 : Box ((Tryd.prog.info? 5).map (·.size) = some 1) := ⟨by kernel_rfl⟩
  have hadd : wrap64 ((n : Int) + 100) = ((n + 100 : Nat) : Int) := by unfold wrap64; omega
  clear h0
  go_enter Tryd.func13, Tryd.ntmps13
  go_wp2_with ((with_reducible refine arm_make_full byteTyC (.tmp 7) (.tmp 7) ?_ rfl .i64 .i64 ((n : Int) + 100) ((n : Int) + 100) (n + 100) ?_ ?_ ?_ ?_ (by omega) ?_); rfl; rfl; rfl; (first | omega | exact hadd); (first | omega | exact hadd))
  intro w1 hg B1
  have f1 := Box.mk (show w1.heap[w.heap.size]? = some (.cells (bvs ((roomyL l).take 0 ++ List.replicate (n + 100 - 0) 0)).toArray 5 (0, 0)) by rw [List.take_zero, List.nil_append, Nat.sub_zero]; exact hg)
  clear hg
  have HB1 := Box.mk B1
  clear B1
  go_wp2
  go_loopw [4] (fun i wr => ∃ k : Nat, k ≤ n + 100 ∧ i = .int .i64 k ∧ Below w.heap.size w wr ∧ Box (wr.heap[w.heap.size]? = some (.cells (bvs ((roomyL l).take k ++ List.replicate (n + 100 - k) 0)).toArray 5 (0, 0)))) (fun i _ => n + 100 - (intOf i).toNat)
  case atStart => exact ⟨0, Nat.zero_le _, rfl, HB1.out, f1⟩
  case round =>
    obtain ⟨k, hk, rfl, hB0, hF⟩ := hrel
    have HB := Box.mk hB0
    clear hB0
    have hsz : Box (w.heap.size ≤ wr.heap.size) := ⟨HB.out.size⟩
    have hlenL : Box (((roomyL l).take k ++ List.replicate (n + 100 - k) 0).length = n + 100) := ⟨by
      have := length_roomyL l
      have := hl.out
      rw [List.length_append, List.length_take, List.length_replicate]; omega⟩
    by_cases hlt : k < n + 100
    · by_cases hkn : k < n
      · obtain ⟨b, o, rfl⟩ := h.out.at0 (by omega)
        have hkl : k < l.length := by rw [hl.out]; exact hkn
        have e0 : wr.cell? ⟨b, o + k, none⟩ = some (.int .u8 (l[k]'hkl).toNat) := (h.out.old HB.out).cell k hkl
        have hu' : (roomyL l)[k]? = some (l[k]'hkl) := by
          unfold roomyL
          rw [List.getElem?_append_left hkl, List.getElem?_eq_getElem hkl]
        obtain ⟨u, hu⟩ : ∃ u, l[k]'hkl = u := ⟨_, rfl⟩
        rw [hu] at e0 hu'
        have HS := Box.mk (stage_set (roomyL l) (n + 100) k (by rw [length_roomyL, hl.out]) hlt u hu')
        clear hu hkl hu'
        generalize (roomyL l).take k ++ List.replicate (n + 100 - k) 0 = cur at *
        generalize hnx : (roomyL l).take (k + 1) ++ List.replicate (n + 100 - (k + 1)) 0 = nxt at *
        have HN := Box.mk hnx
        clear hnx
        go_wp2_with ((with_reducible refine arm_store_byte 5 (.tmp 25) (.tmp 24) ?_ rfl w.heap.size k ?_ (u.toNat : Int) ?_ hi5.out cur hF.out (by rw [hlenL.out]; omega) u rfl ?_); rfl; rfl; rfl)
        intro w' hg' G
        have hF' := Box.mk hg'.out
        rw [HS.out] at hF'
        have HB' := Box.mk (HB.out.grown G hsz.out (fun k hk => by cases hk; exact Nat.le_refl _))
        clear hg' G
        go_wp2
        go_roundw
        case rel => exact ⟨k + 1, by omega, by go_num, HB'.out, by rw [HN.out]; exact hF'⟩
        case measure => simp [intOf]; omega
      · have hw1 : wrap64 (101 + (k : Int)) = 101 + (k : Int) := by unfold wrap64; omega
        have hw2 : wrap64 (101 + (k : Int) - (n : Int)) = ((101 + (k - n) : Nat) : Int) := by unfold wrap64; omega
        have hu' : (roomyL l)[k]? = some (UInt8.ofNat (101 + (k - n))) := by
          unfold roomyL
          rw [List.getElem?_append_right (by rw [hl.out]; omega), hl.out, List.getElem?_map, List.getElem?_range (by omega)]
          rfl
        have HS := Box.mk (stage_set (roomyL l) (n + 100) k (by rw [length_roomyL, hl.out]) hlt _ hu')
        have hzz : Box (101 + (k : Int) - (n : Int) = ((UInt8.ofNat (101 + (k - n))).toNat : Int)) := ⟨by rw [UInt8.toNat_ofNat']; omega⟩
        clear hu'
        generalize (roomyL l).take k ++ List.replicate (n + 100 - k) 0 = cur at *
        generalize hnx : (roomyL l).take (k + 1) ++ List.replicate (n + 100 - (k + 1)) 0 = nxt at *
        have HN := Box.mk hnx
        clear hnx
        generalize UInt8.ofNat (101 + (k - n)) = u at *
        go_wp2_with ((with_reducible refine arm_store_byte 5 (.tmp 34) (.tmp 33) ?_ rfl w.heap.size k ?_ (101 + (k : Int) - (n : Int)) ?_ hi5.out cur hF.out (by rw [hlenL.out]; omega) u hzz.out ?_); rfl; rfl; rfl)
        intro w' hg' G
        have hF' := Box.mk hg'.out
        rw [HS.out] at hF'
        have HB' := Box.mk (HB.out.grown G hsz.out (fun k hk => by cases hk; exact Nat.le_refl _))
        clear hg' G
        go_wp2
        go_roundw
        case rel => exact ⟨k + 1, by omega, by go_num, HB'.out, by rw [HN.out]; exact hF'⟩
        case measure => simp [intOf]; omega
    · obtain rfl : k = n + 100 := by omega
      have hF2 := hF.out
      rw [Nat.sub_self, List.replicate_zero, List.append_nil, List.take_of_length_le (by rw [length_roomyL, hl.out]; omega)] at hF2
      have hF3 := Box.mk hF2
      clear hF hF2 hlenL
      go_wp2
      go_ret
      exact ⟨⟨_, rfl, hF3.out, Nat.le_refl _⟩, HB.out⟩

set_option maxRecDepth 100000 in
set_option maxHeartbeats 1000000 in
theorem roomyIs_any (a0 a1 : Option Addr) (n0 c0 n1 c1 : Nat) (l0 l1 : List UInt8) (w : World) (h0 : Row w a0 n0 l0) (h1 : Row w a1 n1 l1) (m0 : n0 ≤ maxLen) (m1 : n1 ≤ 140737488351232) :
    Calls Tryd.prog 27 #[.slice a0 n0 c0, .slice a1 n1 c1] w fun e w' => e = .returned (.bool (eqB l0 (roomyL l1))) ∧ Below w.heap.size w w' := by
  have H0 := Box.mk h0
  have H1 := Box.mk h1
  clear h0 h1
  go_enter Tryd.func27, Tryd.ntmps27
  go_wp2_with (go_at_call 13; refine (calls_box (roomy_any a1 n1 c1 l1 _ H1.out m1)).mono ?_)
  rintro e w1 ⟨⟨⟨g, rfl, hg, hge⟩, hB⟩⟩
  have B1 := Box.mk hB
  have hn1 := H1.out.1
  have R1 : Box (Row w1 (some ⟨g, 0, none⟩) (n1 + 100) (roomyL l1)) := ⟨by have := Row.of_row hg; rwa [length_roomyL, hn1] at this⟩
  have R0 := Box.mk (H0.out.old B1.out)
  have hm : Box (n1 + 100 ≤ maxLen) := ⟨by unfold maxLen; omega⟩
  clear hB hg hge hn1
  go_wp2_with (go_at_call 19; refine (calls_box (sameBytes_any _ _ _ _ _ _ l0 (roomyL l1) _ R0.out R1.out m0 hm.out)).mono ?_)
  rintro e w2 ⟨⟨rfl, q, rfl⟩⟩
  go_wp2
  go_ret
  exact ⟨rfl, below_drewN2 B1.out q⟩
end Go.Proofs.YteiepenanffhcaaDoor
