/- Texts joined: Open, OpenM, SL2, ConvB. -/
import Derived.Test.YtopdhanbmnfeeaaDoorIR00
import Derived.ProofKit
import Derived.OpenShut
import Derived.Deep.Slices
import Derived.SizedLaws
import Derived.Test.YtopdhanbmnfeeaaDoorRows
import Derived.Test.YtopdhanbmnfeeaaDoorIR20
import Derived.Test.YtopdhanbmnfeeaaDoorIR19
import Derived.Test.YtopdhanbmnfeeaaDoorIR17
/- Reading arguments that came in: bytes, digests, lists of them. No program in sight. -/
namespace Go.Proofs.YtopdhanbmnfeeaaDoor
set_option linter.unusedSectionVars false
set_option linter.unusedSimpArgs false
set_option linter.unusedVariables false
open Go Go.RowKit Go.ChangeShapes Go.WideShapes Go.ChangeAt Go.Deep
instance : Inhabited D32 := ⟨zero32⟩
section
variable {H : Type} {enc : TypeId × Value → H} {P : Program} {w : World} {base : Nat} {sp : Nat → Bool} {held : Bool} {t e : TypeId}
end
end Go.Proofs.YtopdhanbmnfeeaaDoor

/- Reading pages to be staged that came in. -/
namespace Go.Proofs.YtopdhanbmnfeeaaDoor
set_option linter.unusedSectionVars false
set_option linter.unusedSimpArgs false
open Go Go.RowKit Go.ChangeShapes Go.WideShapes Go.ChangeAt Go.Deep
set_option linter.unusedVariables false
section
variable {H : Type} {enc : TypeId × Value → H} {P : Program} {w : World} {base : Nat} {sp : Nat → Bool} {held : Bool} {t e : TypeId}
end
section
variable {H : Type} {enc : TypeId × Value → H} {P : Program} {w : World} {base : Nat} {sp : Nat → Bool} {held : Bool} {t e : TypeId}
end
section
variable {H : Type} {enc : TypeId × Value → H} {w : World} {base : Nat} {sp : Nat → Bool} {held : Bool}
end
theorem Mem.range {w0 w : World} {F : List Nat} {L : List Asn} (h : Mem w0 F w L) {b o : Nat} {ys : List Value} (hr : w0.rangeAt b o ys) (hF : b ∉ F) : w.rangeAt b o ys := fun j v hj => by
  have h1 := hr j v hj
  exact (World.cell?_of_block (w := w0) (w' := w) (a := ⟨b, o + j, none⟩) (h.old (block_lt_of_cell h1) hF)).trans h1
theorem Mem.below {w w' : World} {L : List Asn} (h : Mem w [] w' L) : Below w.heap.size w w' := ⟨h.grew.os, h.grew.tape, h.grew.output, h.grew.size, fun k hk => h.grew.block k hk (by simp)⟩
end Go.Proofs.YtopdhanbmnfeeaaDoor

/- The statements' own stages and loads. -/
namespace Go.Proofs.YtopdhanbmnfeeaaDoor
set_option linter.unusedSectionVars false
open Go Go.RowKit
set_option linter.unusedVariables false
set_option linter.unusedSimpArgs false
end Go.Proofs.YtopdhanbmnfeeaaDoor

/- The conversion of a literal's row to its own type: the place behind its last cell is marked. No program in sight. -/
namespace Go.Proofs.YtopdhanbmnfeeaaDoor
set_option linter.unusedSectionVars false
set_option linter.unusedSimpArgs false
open Go Go.RowKit
set_option linter.unusedVariables false
section
variable {P : Program} {Q : Exit → Act → World → Prop} {o : Oper} {a : Act} {w w0 : World} {K : Act → World → Prop} {x : Operand} {t e : TypeId} {F : List Nat} {L : List Asn}
end
end Go.Proofs.YtopdhanbmnfeeaaDoor
