/- A slice stored into a cell of a block. No program in sight. -/
import Derived.Test.YtocfiabbhcgegaaArm2
namespace Go.Proofs.Ytocfiabbhcgegaa
open Go Go.RowKit
set_option linter.unusedVariables false

section
variable {P : Program} {Q : Exit → Act → World → Prop} {ops : Array Oper} {rest : List Oper} {o : Oper} {a : Act} {w : World}
/-- A slice stored into a cell of a block of any cells. -/
theorem arm_store_slice (ty : TypeId) (x y : Operand) (ho : o.op = .store ty x y) (hgd : o.guard = none) (b off : Nat) (hx : a.eval x = .pointer (some ⟨b, off, none⟩)) (ao : Option Addr) (n c : Nat) (hy : a.eval y = .slice ao n c)
    (hs : (P.info? ty).map (·.size) = some 1) (C : List Value) (e : TypeId) (hg : w.heap[b]? = some (.cells C.toArray e (0, 0))) (hlt : off < C.length)
    (h : ∀ w', Hid (w'.heap[b]? = some (.cells (C.set off (.slice ao n c)).toArray e (0, 0))) → w.grownBy w' (some b) → wpList P ops Q rest (a.put o.dst undef) w') : wpList P ops Q (o :: rest) a w := by
  have hc : w.cell? ⟨b, off, none⟩ = some C[off] := by
    rw [cell_of_row w b off _ e (0, 0) hg, ← Array.getElem?_toList, List.getElem?_eq_getElem hlt]
  have hf : w.frozen? ⟨b, off, none⟩ = false := by
    unfold World.frozen?
    rw [hg]
    simp
  refine wpList_plain hgd fun _ hK => ?_
  cases hq : P.info? ty with
  | none => simp [hq] at hs
  | some i =>
    have hs' : i.size = 1 := by simpa [hq] using hs
    unfold Oper.wp execOp
    simp only [ho, hx, hy, Instr.storeAt, Instr.sureAddr, Sem.run_bind, Sem.run_pure, Result.andThen_ok]
    have : (storeVar ty ⟨b, off, none⟩ (.slice ao n c)).run P w = .ok () (w.setCell ⟨b, off, none⟩ (.slice ao n c)) := by
      simp [storeVar, sizeOf, typeInfo, hq, hs', Value.cells, storeCells, hc, hf, go_sem]
    rw [this]
    refine hK _ _ (h _ ?_ (grownBy_setC _ _ _))
    show _ = _
    rw [heap_setCell_same w b off _ e _ hg]
    congr 2
    apply Array.ext'
    simp
end
end Go.Proofs.Ytocfiabbhcgegaa
