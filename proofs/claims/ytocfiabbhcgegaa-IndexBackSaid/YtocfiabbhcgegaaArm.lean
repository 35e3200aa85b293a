/- Steps of a plain region, guarded or not: the operation's own text is asked first, so that a wrong step falls at once. No program in sight. -/
import Derived.Test.YtocfiabbhcgegaaHeld
namespace Go.Proofs.Ytocfiabbhcgegaa
open Go Go.RowKit
set_option linter.unusedVariables false
/-- A contract's word in a box: the walk does not take it apart. -/
theorem calls_box {P : Program} {f : FuncId} {args : Array Value} {w : World} {R : Ending → World → Prop} (h : Calls P f args w R) : Calls P f args w fun e w' => Box (R e w') :=
  h.mono fun _ _ h => ⟨h⟩
section
variable {P : Program} {Q : Exit → Act → World → Prop} {ops : Array Oper} {rest : List Oper} {o : Oper} {a : Act} {w : World}
theorem arm_load32 (ty : TypeId) (x : Operand) (ho : o.op = .load ty x) (hw : Region.wanted o (yielded ops a.tmps) = true)
    (b off : Nat) (hx : a.eval x = .pointer (some ⟨b, off, none⟩)) (d : D32) (e : TypeId) (hS : w.rangeAt b off (bvs d.1)) (hu : P.underlying ty = some (.array 32 e)) (hi : Hid ((P.info? ty).map (·.size) = some 32))
    (h : wpList P ops Q rest (a.put o.dst (.agg (dc d))) w) : wpList P ops Q (o :: rest) a w :=
  wpList_load32g hw ty x ho b off hx d e hS hu hi h
theorem arm_built (t : TypeId) (parts : List (Nat × Operand)) (ho : o.op = .build t parts.toArray) (hw : Region.wanted o (yielded ops a.tmps) = true)
    (ps : List (Nat × Value)) (hp : (parts.map fun p => (p.1, a.eval p.2)) = ps) (cells : Array Value) (hc : P.built t ps = some cells)
    (h : wpList P ops Q rest (a.put o.dst (.agg cells)) w) : wpList P ops Q (o :: rest) a w :=
  wpList_builtg hw t parts ho ps hp cells hc h
theorem arm_eql (t t' : TypeId) (x y : Operand) (ho : o.op = .binOp .eql t x y t') (hw : Region.wanted o (yielded ops a.tmps) = true) (c d : Array Value) (r : Bool)
    (hx : a.eval x = .agg c) (hy : a.eval y = .agg d) (hm : P.eqGuardType P.depth t = false) (he : ∀ W, (Op.equalIn 10000 t (.agg c) (.agg d)).run P W = .ok r W)
    (h : wpList P ops Q rest (a.put o.dst (.bool r)) w) : wpList P ops Q (o :: rest) a w :=
  wpList_yields hw (held_pure hw fun W => by
    unfold execOp
    simp only [ho, hx, hy, Sem.run_bind, run_eql_struct, run_eqGuard_agg (hm := hm), he, Result.andThen_ok]
    rfl) h
theorem arm_neq (t t' : TypeId) (x y : Operand) (ho : o.op = .binOp .neq t x y t') (hw : Region.wanted o (yielded ops a.tmps) = true) (c d : Array Value) (r : Bool)
    (hx : a.eval x = .agg c) (hy : a.eval y = .agg d) (hm : P.eqGuardType P.depth t = false) (he : ∀ W, (Op.equalIn 10000 t (.agg c) (.agg d)).run P W = .ok (!r) W)
    (h : wpList P ops Q rest (a.put o.dst (.bool r)) w) : wpList P ops Q (o :: rest) a w :=
  wpList_yields hw (held_pure hw fun W => by
    unfold execOp
    simp only [ho, hx, hy, Sem.run_bind, run_neq_struct, run_eqGuard_agg (hm := hm), he, Result.andThen_ok, Bool.not_not]
    rfl) h
/-- A whole struct or array loaded from a block of its own. -/
theorem arm_row (ty : TypeId) (x : Operand) (ho : o.op = .load ty x) (hw : Region.wanted o (yielded ops a.tmps) = true)
    (g : Nat) (hx : a.eval x = .pointer (some ⟨g, 0, none⟩)) (t : TypeId) (cs : Array Value) (fr : Nat × Nat) (d : TypeDesc) (hg : w.heap[g]? = some (.cells cs t fr))
    (hu : P.underlying ty = some d) (hd : d.isRow = true) (hi : (P.info? ty).map (·.size) = some cs.size)
    (h : wpList P ops Q rest (a.put o.dst (.agg cs)) w) : wpList P ops Q (o :: rest) a w := by
  have hS : w.rangeAt g 0 cs.toList := fun j v hj => by
    rw [cell_of_row w g (0 + j) cs t fr hg, Nat.zero_add, ← Array.getElem?_toList]; exact hj
  refine wpList_yields hw (yieldsIf_load_mid hw ty x ho g 0 hx cs.toList d (fun W hW => by rw [hW]; exact hS) hu hd (by simpa using hi)) ?_
  simpa using h
end
end Go.Proofs.Ytocfiabbhcgegaa
