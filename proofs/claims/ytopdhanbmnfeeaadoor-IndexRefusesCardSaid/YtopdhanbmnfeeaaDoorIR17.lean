/- Texts joined: Def, Store7, Store8, Store9. -/
import Derived.Test.YtopdhanbmnfeeaaDoorIR03
import Derived.Test.YtopdhanbmnfeeaaDoorIR07
import Derived.Defers
import Derived.Test.YtopdhanbmnfeeaaDoorIR16
/- A deferred call at a function's end. No program in sight. -/
namespace Go.Proofs.YtopdhanbmnfeeaaDoor
set_option linter.unusedSimpArgs false
open Go Go.RowKit
set_option linter.unusedVariables false
set_option linter.unusedSectionVars false
section
variable {P : Program} {ops : Array Oper} {Q : Exit → Act → World → Prop} {o : Oper} {a : Act} {w : World} {K : Act → World → Prop} {x : Operand} {fn : Func} {R : Ending → World → Prop}
theorem Mem.off2 {w0 : World} {F : List Nat} {G A B : Asn} {R : List Asn} (M : Mem w0 F w (G :: A :: B :: R)) {b : Nat} (hb : b ∈ G.foot) : b ∉ foots [A, B] := fun hx => by
  rw [foots_cons, foots_cons] at hx
  rcases List.mem_append.1 hx with h | h
  · exact M.apart 0 1 (by decide) rfl rfl hb h
  · rcases List.mem_append.1 h with h | h
    · exact M.apart 0 2 (by decide) rfl rfl hb h
    · cases h
end
end Go.Proofs.YtopdhanbmnfeeaaDoor

/- The store: what Flush is, its deferred call. -/
namespace Go.Proofs.YtopdhanbmnfeeaaDoor
set_option linter.unusedSectionVars false
open Go Go.RowKit
set_option linter.unusedVariables false
set_option linter.unusedSimpArgs false
end Go.Proofs.YtopdhanbmnfeeaaDoor

/- The store: Flush refused. -/
namespace Go.Proofs.YtopdhanbmnfeeaaDoor
set_option linter.unusedSectionVars false
open Go Go.RowKit
set_option linter.unusedVariables false
set_option linter.unusedSimpArgs false
end Go.Proofs.YtopdhanbmnfeeaaDoor

/- The store: Flush. -/
namespace Go.Proofs.YtopdhanbmnfeeaaDoor
set_option linter.unusedSectionVars false
open Go Go.RowKit
set_option linter.unusedVariables false
set_option linter.unusedSimpArgs false
end Go.Proofs.YtopdhanbmnfeeaaDoor
