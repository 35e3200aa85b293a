/- Texts joined: Open. -/
import Derived.Test.YtfbamkgmnbobeaaDoorSY00
import Derived.ProofKit
import Derived.OpenShut
import Derived.Deep.Slices
import Derived.SizedLaws
/- Reading arguments that came in: bytes, digests, lists of them. No program in sight. -/
namespace Go.Proofs.YtfbamkgmnbobeaaDoor
set_option linter.unusedSectionVars false
set_option linter.unusedSimpArgs false
set_option linter.unusedVariables false
open Go Go.RowKit Go.ChangeShapes Go.WideShapes Go.ChangeAt Go.Deep
instance : Inhabited D32 := ⟨zero32⟩
section
variable {H : Type} {enc : TypeId × Value → H} {P : Program} {w : World} {base : Nat} {sp : Nat → Bool} {held : Bool} {t e : TypeId}
def InRow (w : World) (ao : Option Addr) (n c : Nat) (l : List UInt8) : Prop :=
  Row w ao n l ∧ (ao = none → n = 0 ∧ c = 0) ∧ n ≤ c
theorem row_of_ints {a : Addr} {zs : List Int} {len : Nat} (hl : len ≤ zs.length) (hc : ∀ i, i < zs.length → w.cell? (a.add i) = some (.int .u8 (zs.getD i 0))) (hw : ∀ n ∈ zs, (Lit.int .u8 n).wf = true) :
    ∃ l : List UInt8, Row w (some a) len l := by
  refine ⟨(zs.take len).map fun z => UInt8.ofNat z.toNat, by simp; omega, fun i hi => ?_⟩
  have hi' : i < len := by simp at hi; omega
  have h1 := hc i (by omega)
  have h0 := hc 0 (by omega)
  obtain ⟨b, o, s⟩ := a
  have hs : s = none := by simpa [Addr.add] using World.cell?_spot h0
  subst hs
  refine ⟨b, o, rfl, ?_⟩
  rw [Addr.add_mid] at h1
  rw [h1, List.getElem_map, List.getElem_take]
  have hiz : i < zs.length := by omega
  have hwi := bounds_u8 (hw _ (List.getElem_mem hiz))
  have : zs.getD i 0 = zs[i]'(by omega) := by simp [List.getD, List.getElem?_eq_getElem (show i < zs.length by omega)]
  rw [this, UInt8.toNat_ofNat']
  congr 2
  omega
end
end Go.Proofs.YtfbamkgmnbobeaaDoor
