/- More steps: bytes made, appended, stored one by one. No program in sight. -/
import Derived.Test.YtocfiabbhcgegaaArm
import Derived.OwnWalk
namespace Go.Proofs.Ytocfiabbhcgegaa
open Go Go.RowKit
set_option linter.unusedVariables false

theorem made_zeros (n : Nat) : madeCells (Value.cells (.int .u8 0)) n = (bvs (List.replicate n 0)).toArray := by
  apply Array.ext'
  apply List.ext_getElem?
  intro i
  have h : (madeCells (Value.cells (.int .u8 0)) n).toList = List.replicate n (Value.int .u8 0) := by
    unfold madeCells
    rw [Array.toList_map, Array.toList_range]
    apply List.ext_getElem
    · simp
    · intro i h1 h2
      simp [Value.cells, Nat.mod_one]
  rw [h]
  simp [bvs, bv]
theorem grownBy_setC (w : World) (a : Addr) (u : Value) : w.grownBy (w.setCell a u) (some a.block) :=
  ⟨rfl, rfl, rfl, Nat.le_of_eq (by simp [World.setCell]), fun k _ hk => heap_setCell_other w a k u fun h => hk (by rw [h])⟩
theorem bvs_put (L : List UInt8) (i : Nat) (u : UInt8) : (bvs L).set i (bv u) = bvs (L.set i u) := by
  unfold bvs; rw [List.map_set]
/-- One byte in a block of its own. -/
theorem Row.lit1 (w : World) (e : TypeId) (u : UInt8) : Row (w.alloc (.cells #[.int .u8 (u.toNat : Int)] e)) (some ⟨w.heap.size, 0, none⟩) 1 [u] := Row.lit w _ e [u] rfl
section
variable {P : Program} {t e : TypeId} {Q : Exit → Act → World → Prop} {ops : Array Oper} {rest : List Oper} {o : Oper} {a : Act} {w : World}
/-- 'make([]byte, n)'. -/
theorem arm_make_full (hT : ByteTy P t e) (l c : Operand) (ho : o.op = Op.makeSlice t l c) (hg : o.guard = none) (kl kc : IntKind) (L C : Int) (n : Nat)
    (hl : a.eval l = .int kl L) (hc : a.eval c = .int kc C) (hL : L = (n : Int)) (hC : C = (n : Int)) (b2 : n ≤ 281474976710656)
    (hK : ∀ w', Hid (w'.heap[w.heap.size]? = some (.cells (bvs (List.replicate n 0)).toArray e (0, 0))) → Below w.heap.size w w' → wpList P ops Q rest (a.put o.dst (.slice (some ⟨w.heap.size, 0, none⟩) n n)) w') :
    wpList P ops Q (o :: rest) a w := by
  obtain ⟨i, h1, h2, h3, h4, h5⟩ := hT
  refine wpList_plain hg fun K hK' => ?_
  subst hL
  subst hC
  have hrun := run_make (P := P) w t e i _ h1 h2 h3 kl kc n n (by omega) (Int.le_refl _) (by rw [h5]; omega) (by omega)
  simp only [Int.toNat_natCast, h4, Nat.mul_one] at hrun
  unfold Oper.wp
  simp only [execOp, ho, hl, hc, hrun, Sem.run_bind, Result.andThen_ok]
  refine hK' _ _ (hK _ ?_ (Below.refl_alloc w _))
  show _ = _
  rw [heap_alloc_new]
  exact congrArg (fun x => some (Obj.cells x e (0, 0))) (made_zeros n)
/-- 'append' of bytes to bytes of the call's own. -/
theorem arm_append (hT : ByteTy P t e) (s x : Operand) (ho : o.op = Op.call { callee := Callee.builtin Builtin.append, args := #[s, x], argTypes := #[t, t] }) (hg : o.guard = none)
    (base : Nat) (v : Value) (l : List UInt8) (hs : a.eval s = v) (hown : Own w base e v l)
    (ao : Option Addr) (m c : Nat) (l2 : List UInt8) (hx : a.eval x = .slice ao m c) (hnone : ao = none → m = 0 ∧ c = 0) (hrow : Row w ao m l2) (hb : l.length + m ≤ 140737488355328) (hbase : base ≤ w.heap.size)
    (hK : ∀ v' w', Own w' base e v' (l ++ l2) → w.grownBy w' v.ownBlock → wpList P ops Q rest (a.put o.dst v') w') :
    wpList P ops Q (o :: rest) a w :=
  wpList_append_grow hT w hg s x ho base v l hs hown ao m c l2 hx hnone hrow hb hbase hK
/-- A byte stored into a block of bytes. -/
theorem arm_store_byte (ty : TypeId) (x y : Operand) (ho : o.op = .store ty x y) (hgd : o.guard = none) (b off : Nat) (hx : a.eval x = .pointer (some ⟨b, off, none⟩)) (z : Int) (hy : a.eval y = .int .u8 z)
    (hs : (P.info? ty).map (·.size) = some 1) (L : List UInt8) (hg : w.heap[b]? = some (.cells (bvs L).toArray e (0, 0))) (hlt : off < L.length) (u : UInt8) (hz : z = (u.toNat : Int))
    (h : ∀ w', Hid (w'.heap[b]? = some (.cells (bvs (L.set off u)).toArray e (0, 0))) → w.grownBy w' (some b) → wpList P ops Q rest (a.put o.dst undef) w') : wpList P ops Q (o :: rest) a w := by
  have hc : w.cell? ⟨b, off, none⟩ = some (bv L[off]) := by
    rw [cell_of_row w b off _ e (0, 0) hg, ← Array.getElem?_toList]
    show (bvs L)[off]? = _
    rw [bvs_getElem?, List.getElem?_eq_getElem hlt]; rfl
  have hf : w.frozen? ⟨b, off, none⟩ = false := by
    unfold World.frozen?
    rw [hg]
    simp
  subst hz
  refine wpList_store_int hgd ty x y ho ⟨b, off, none⟩ (bv u) hx hy ⟨_, _, rfl⟩ hs ⟨_, hc⟩ hf (h _ ?_ (grownBy_setC _ _ _))
  show _ = _
  rw [heap_setCell_same w b off _ e _ hg]
  congr 2
  rw [← bvs_put]
  apply Array.ext'
  simp
end
end Go.Proofs.Ytocfiabbhcgegaa
