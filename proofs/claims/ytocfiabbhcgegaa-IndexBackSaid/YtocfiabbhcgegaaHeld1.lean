/- One cell loaded, in a region that draws its order. No program in sight. -/
import Derived.Test.YtocfiabbhcgegaaHeld
namespace Go.Proofs.Ytocfiabbhcgegaa
open Go Go.RowKit
set_option linter.unusedVariables false
section
variable {P : Program} {S : World → Prop}
theorem run_loadVar_int {k : IntKind} {ty : TypeId} {p : Addr} {v : Value} (w : World) (hu : P.underlying ty = some (.int k)) (hc : w.cell? p = some v) : (loadVar ty p).run P w = .ok v w := by
  simp [loadVar, isAgg, run_underlying hu, hc, go_sem]
theorem held_load1 {o : Oper} {a : Act} {ops : Array Oper} (hw : Region.wanted o (yielded ops a.tmps) = true) (ty : TypeId) (x : Operand) (ho : o.op = .load ty x)
    (b off : Nat) (hx : a.eval x = .pointer (some ⟨b, off, none⟩)) (k : IntKind) (v : Value) (hS : ∀ w, S w → w.cell? ⟨b, off, none⟩ = some v) (hu : P.underlying ty = some (.int k)) :
    YieldsIf P ops S o v a :=
  .inl ⟨hw, fun w hw' => by
    unfold execOp
    simp only [ho, hx, Instr.loadAt, Instr.sureAddr, Sem.run_bind, Sem.run_pure, Result.andThen_ok, run_loadVar_int w hu (hS w hw')]⟩
end
end Go.Proofs.Ytocfiabbhcgegaa
