/- Texts joined: Open. -/
import Derived.Test.YtfbamkgmnbobeaaSC00
import Derived.ProofKit
import Derived.OpenShut
import Derived.Deep.Slices
import Derived.SizedLaws
/- Reading arguments that came in: bytes, digests, lists of them. No program in sight. -/
namespace Go.Proofs.Ytfbamkgmnbobeaa
set_option linter.unusedSectionVars false
set_option linter.unusedSimpArgs false
set_option linter.unusedVariables false
open Go Go.RowKit Go.ChangeShapes Go.WideShapes Go.ChangeAt Go.Deep
instance : Inhabited D32 := ⟨zero32⟩
section
variable {H : Type} {enc : TypeId × Value → H} {P : Program} {w : World} {base : Nat} {sp : Nat → Bool} {held : Bool} {t e : TypeId}
def InRow (w : World) (ao : Option Addr) (n c : Nat) (l : List UInt8) : Prop :=
  Row w ao n l ∧ (ao = none → n = 0 ∧ c = 0) ∧ n ≤ c
theorem row_of_ints {a : Addr} {zs : List Int} {len : Nat} (hl : len ≤ zs.length) (hc : ∀ i, i < zs.length → w.cell? (a.add i) = some (.int .u8 (zs.getD i 0))) (hw : ∀ n ∈ zs, (Lit.int .u8 n).wf = true) :
    ∃ l : List UInt8, Row w (some a) len l := by
  refine ⟨(zs.take len).map fun z => UInt8.ofNat z.toNat, by simp; omega, fun i hi => ?_⟩
  have hi' : i < len := by simp at hi; omega
  have h1 := hc i (by omega)
  have h0 := hc 0 (by omega)
  obtain ⟨b, o, s⟩ := a
  have hs : s = none := by simpa [Addr.add] using World.cell?_spot h0
  subst hs
  refine ⟨b, o, rfl, ?_⟩
  rw [Addr.add_mid] at h1
  rw [h1, List.getElem_map, List.getElem_take]
  have hiz : i < zs.length := by omega
  have hwi := bounds_u8 (hw _ (List.getElem_mem hiz))
  have : zs.getD i 0 = zs[i]'(by omega) := by simp [List.getD, List.getElem?_eq_getElem (show i < zs.length by omega)]
  rw [this, UInt8.toNat_ofNat']
  congr 2
  omega
theorem open_row {r : Reach} {b0 : Nat} {v : Value} {d : DataW H} {p : List MemPlace} (hsp : ∀ b, sp b = true) (ht : P.underlying t = some (.slice e)) (he : P.underlying e = some (.int .u8)) (hc : P.cellsOf e = 1)
    (hv : Value.okWide P w r b0 t v) (h : DataW.Trod enc P w base sp held t v d p) :
    ∃ (ao : Option Addr) (n c : Nat) (l : List UInt8), v = .slice ao n c ∧ InRow w ao n c l ∧ c ≤ maxLen ∧ ((ao = none ∧ d = .nil) ∨ ∃ es ss, d = .slice es ss ∧ es.length + ss.length = c) := by
  obtain ⟨a0, n, c, rfl⟩ := okWide_slice ht hv
  obtain ⟨fuel, hf⟩ := h
  rcases open_ints ht he hc hf with ⟨hcs, hx⟩ | ⟨a, len, cap, zs, hcs, _, hl, hm, hz, hx, hcell, hw⟩
  · simp [Value.cells] at hcs
    obtain ⟨rfl, rfl, rfl⟩ := hcs
    exact ⟨none, 0, 0, [], rfl, ⟨Row.nil, fun _ => ⟨rfl, rfl⟩, Nat.le_refl _⟩, Nat.zero_le _, .inl ⟨rfl, (Prod.mk.inj hx).1⟩⟩
  · simp [Value.cells] at hcs
    obtain ⟨rfl, rfl, rfl⟩ := hcs
    rw [hsp, if_pos rfl] at hz
    obtain ⟨l, hr⟩ := row_of_ints (len := n) (by omega) hcell hw
    refine ⟨some a, n, c, l, rfl, ⟨hr, (fun h => by cases h), hl⟩, hm, .inr ⟨_, _, (Prod.mk.inj hx).1, ?_⟩⟩
    simp [lits]; omega
end
end Go.Proofs.Ytfbamkgmnbobeaa
