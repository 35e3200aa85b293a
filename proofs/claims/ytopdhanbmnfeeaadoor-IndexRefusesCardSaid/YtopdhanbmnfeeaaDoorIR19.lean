/- Texts joined: StoQ, StoC, Same8, SL1. -/
import Derived.Test.YtopdhanbmnfeeaaDoorIR18
import Derived.Test.YtopdhanbmnfeeaaDoorIR00
import Derived.Test.YtopdhanbmnfeeaaDoorIR05
import Derived.Test.YtopdhanbmnfeeaaDoorIR17
import Derived.Test.YtopdhanbmnfeeaaDoorIR07
/- A store over a page file, as values: Flush, with a loss of power at any act. -/
namespace Go.Proofs.YtopdhanbmnfeeaaDoor
set_option linter.unusedSectionVars false
open Go Go.RowKit
set_option linter.unusedVariables false
set_option linter.unusedSimpArgs false
section
variable {D : DV} {V : FV} {C : CS} {pz : Pgs} {X : SX}
end
end Go.Proofs.YtopdhanbmnfeeaaDoor

/- A store over a page file, as values: what a loss of power in a Flush leaves on the disk. -/
namespace Go.Proofs.YtopdhanbmnfeeaaDoor
set_option linter.unusedSectionVars false
open Go Go.RowKit
set_option linter.unusedVariables false
set_option linter.unusedSimpArgs false
section
variable {D E : DV} {V : FV} {ps pz : Pgs} {C : CS} {X : SX}
end
end Go.Proofs.YtopdhanbmnfeeaaDoor

namespace Go.Proofs.YtopdhanbmnfeeaaDoor
set_option linter.unusedSectionVars false
set_option linter.unusedSimpArgs false
set_option linter.unusedVariables false
open Go Go.RowKit
end Go.Proofs.YtopdhanbmnfeeaaDoor

/- The statements' own whole, cut, short, begun. -/
namespace Go.Proofs.YtopdhanbmnfeeaaDoor
set_option linter.unusedSectionVars false
open Go Go.RowKit
set_option linter.unusedVariables false
set_option linter.unusedSimpArgs false
def wholeN (n lo hi : Int) : Int := lo + n % (hi - lo + 1)
theorem new_fit (k : Nat) (h : 3 ≤ k ∧ k ≤ 4096) (w : World) : Calls Tryd.prog 13 #[.int .i64 (k : Int)] w fun e w' => ∃ p pg mb, e = .returned (.tuple #[.pointer (some ⟨p, 0, none⟩), .int .i64 0]) ∧ Mem w [] w' [disk (newD k) p pg mb (.slice none 0 0)] := by
  refine (new_any (k : Int) w).mono ?_
  rintro e w' (⟨h1, _⟩ | ⟨_, _, p, pg, mb, rfl, h2⟩)
  · omega
  · exact ⟨p, pg, mb, rfl, h2⟩
theorem format_fit {D : DV} {p pg mb : Nat} {qv : Value} {w : World} (hM : Mem w (foots [disk D p pg mb qv]) w [disk D p pg mb qv]) (hB : Blank D) (ha : D.armed = 0) {width : Int} (hw : 1 ≤ width ∧ width ≤ 32) :
    Calls Tryd.prog 14 #[.pointer (some ⟨p, 0, none⟩), .int .i64 width] w fun e w' => ∃ E qv', e = .returned (.int .i64 0) ∧ Mem w (foots [disk D p pg mb qv]) w' [disk E p pg mb qv'] ∧ Plat E (secondS width D.pages.length) [] ∧ E.q = [] ∧ E.dead = false ∧ E.epoch = D.epoch ∧ E.armed = 0 ∧ E.pages.length = D.pages.length := by
  refine (format_any hM width (by rw [hB.que]; decide)).mono ?_
  rintro e w' ⟨qv', rfl, h2⟩
  rcases hB.format hw with ⟨_, h3, h4, h5, h6, h7, h8, h9⟩ | ⟨h3, _⟩
  · rw [h3]
    exact ⟨_, qv', rfl, h2, h4, h5, h6, h7, h8 ha, h9⟩
  · omega
theorem open_fit {D : DV} {p pg mb : Nat} {qv : Value} {S : SupV} {ps : Pgs} {w : World} (hM : Mem w (foots [disk D p pg mb qv]) w [disk D p pg mb qv]) (hP : Plat D S ps) (hd : D.dead = false) :
    Calls Tryd.prog 35 #[.pointer (some ⟨p, 0, none⟩)] w fun e w' => ∃ f E m, e = .returned (.tuple #[.pointer (some ⟨f, 0, none⟩), .int .i64 0]) ∧ Mem w (foots [disk D p pg mb qv]) w' [disk E p pg mb qv, blk f 99 (fC ⟨S, S.mark, m⟩ p)] ∧ Inv E ⟨S, S.mark, m⟩ ps ∧ E.q = D.q ∧ E.pages = D.pages ∧ E.armed = D.armed ∧ E.epoch = wrap64 (D.epoch + 1) := by
  obtain ⟨e1, e2, e3, e4, e5, e6, e7, e8⟩ := hP.open hd
  refine (open_any hM).mono ?_
  rintro e w' (⟨h1, _⟩ | ⟨_, f, rfl, h2⟩)
  · exact absurd e1 h1
  · have hV : openV D = ⟨S, S.mark, (openV D).mine⟩ := by
      have h0 : openV D = ⟨(openV D).s, (openV D).next, (openV D).mine⟩ := rfl
      rw [e2, e3] at h0
      exact h0
    rw [hV] at h2 e4
    exact ⟨f, openD D, (openV D).mine, rfl, h2, e4, e5, e6, e7, e8⟩
end Go.Proofs.YtopdhanbmnfeeaaDoor
