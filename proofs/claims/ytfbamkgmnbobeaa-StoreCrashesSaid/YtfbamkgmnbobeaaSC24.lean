/- Texts joined: OpenI. -/
import Derived.Test.YtfbamkgmnbobeaaSC22
import Derived.Test.YtfbamkgmnbobeaaSC23
/- Reading a list of numbers that came in. -/
namespace Go.Proofs.Ytfbamkgmnbobeaa
set_option linter.unusedSectionVars false
set_option linter.unusedSimpArgs false
open Go Go.RowKit Go.ChangeShapes Go.WideShapes Go.ChangeAt Go.Deep
set_option linter.unusedVariables false
section
variable {H : Type} {enc : TypeId × Value → H} {w : World} {base : Nat} {sp : Nat → Bool} {held : Bool}
set_option maxRecDepth 100000 in
theorem open_rooms {r : Reach} {b0 : Nat} {v : Value} {d : DataW H} {p : List MemPlace} (hsp : ∀ b, sp b = true) (hv : Value.okWide Try.prog w r b0 22 v) (h : DataW.Trod enc Try.prog w base sp held 22 v d p)
    (hs : Sized Try.prog 22 d) :
    ∃ (ao : Option Addr) (n c : Nat) (os : List Int), v = .slice ao n c ∧ (ListIn intC 1 w ao n os ∧ n ≤ c) ∧ n ≤ 4611686018427387904 ∧ ∀ o ∈ os, True := by
  have hct : Try.prog.cellsOf 3 = 1 := by kernel_rfl
  have hbt : 1 ≤ Try.prog.bytesOf 3 := of_decide_eq_true (by kernel_rfl)
  exact open_list (H := H) (enc := enc) (P := Try.prog) (w := w) (base := base) (sp := sp) (held := held) (r := r) (b0 := b0) (v := v) (d := d) (p := p) (t := 22) (e := 3) intC 1 (fun _ => rfl) (by decide) (fun _ => True) Try.underlying22 hct hbt
    (fun _ _ _ h1 _ => by obtain ⟨a0, e0, _, w0⟩ := DataW.trod_int Try.underlying3 h1; exact ⟨a0, e0, trivial⟩) hv h hs
end
end Go.Proofs.Ytfbamkgmnbobeaa
