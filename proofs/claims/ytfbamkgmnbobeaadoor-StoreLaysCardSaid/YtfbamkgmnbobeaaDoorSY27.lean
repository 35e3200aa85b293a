/- Texts joined: Laid8. -/
import Derived.Test.YtfbamkgmnbobeaaDoorSY23
import Derived.Test.YtfbamkgmnbobeaaDoorRows
import Derived.ProofKit
import Derived.LaidMore
import Derived.OpenShut
import Derived.Stop.Joined
/- What the laid divisor gives. -/
namespace Go.Proofs.YtfbamkgmnbobeaaDoor
set_option linter.unusedSectionVars false
set_option linter.unusedSimpArgs false
open Go Go.RowKit
open Go.ChangeShapes Go.WideShapes Go.ChangeAt Go.WideMaps Go.WideElems
set_option linter.unusedVariables false
def laid1 {H : Type} : List (String × DataW H) := [("ledger/ledgerref2.divisor", Rows.laid_ledger_ledgerref2_divisor)]
theorem gDiv : Tryd.prog.globalNamed "ledger/ledgerref2.divisor" = some 0 := by kernel_rfl
theorem tDiv : (Tryd.prog.globals[0]?).map (·.type) = some 120 := by kernel_rfl
theorem div_words {H : Type} : (Rows.laid_ledger_ledgerref2_divisor : DataW H) = .agg (divisorL.map fun k => .lit (.int .u8 (k.toNat : Int))) := by kernel_rfl
theorem cells_of_bytes {H : Type} {enc : TypeId × Value → H} {P : Program} {W : World} {base : Nat} {spare : TypeId → Bool} {held : Bool} {fuel : Nat} {t e : TypeId} {cs : List Value} {q : List MemPlace} (n : Nat) (ks : List UInt8)
    (ht : P.underlying t = some (.array n e)) (he : P.underlying e = some (.int .u8)) (hc : P.cellsOf e = 1) (hct : P.cellsOf t = n) (hks : ks.length = n)
    (h : DataW.trod enc P W base spare held fuel t cs = some (.agg (ks.map fun k => .lit (.int .u8 (k.toNat : Int))), q)) : cs = bvs ks := by
  obtain ⟨xs, m, rfl, hx, hlen, hn, hel⟩ := DataW.trod_array ht h
  rw [hct] at hlen
  have hmap : xs.map (·.1) = ks.map fun k => .lit (.int .u8 (k.toNat : Int)) := by
    simp only [Prod.mk.injEq, DataW.agg.injEq] at hx
    exact hx.1.symm
  refine List.ext_getElem? fun i => ?_
  rw [bvs_getElem?]
  by_cases hi : i < n
  · have h1 := hel i hi
    rw [hc, Nat.mul_one] at h1
    have hlx : i < xs.length := by omega
    rw [List.getElem?_eq_getElem hlx] at h1
    obtain ⟨k, e1, e2, _⟩ := DataW.trod_int he h1
    have hki : i < ks.length := by omega
    have h2 : (xs.map (·.1))[i]? = (ks.map fun k => (DataW.lit (.int .u8 (k.toNat : Int)) : DataW H))[i]? := by rw [hmap]
    rw [List.getElem?_map, List.getElem?_map, List.getElem?_eq_getElem hlx, List.getElem?_eq_getElem hki, e2] at h2
    simp only [Option.map_some, Option.some.injEq, DataW.lit.injEq, Lit.int.injEq, true_and] at h2
    have h3 : ((cs.drop i).take 1)[0]? = some (.int .u8 k) := by rw [e1]; rfl
    rw [List.getElem?_take, if_pos (by omega), List.getElem?_drop, Nat.add_zero] at h3
    rw [h3, h2, List.getElem?_eq_getElem hki]
    rfl
  · rw [List.getElem?_eq_none (by omega), List.getElem?_eq_none (by omega)]
    rfl
theorem of_laidD {W : World} (h : laidMetH Tryd.prog laid1 W) : ∃ T, (blk 0 T (bvs divisorL)).holds W := by
  rw [MakeChecks.laidMetH_plain _ _ _ (by kernel_rfl)] at h
  obtain ⟨ps, ⟨g0, t0, cs0, f0, p0, q0, hg0, ht0, hv0, hd0, _, hps⟩, _, hfr⟩ := h
  obtain rfl := Option.some.inj (gDiv.symm.trans hg0)
  obtain rfl := Option.some.inj (tDiv.symm.trans ht0)
  rw [div_words] at hd0
  have h0 := cells_of_bytes 33 divisorL Tryd.underlying120 Tryd.underlying5 (by kernel_rfl) (by kernel_rfl) (by kernel_rfl) hd0
  have hsz : cs0.size = 33 := by rw [← Array.length_toList, h0, length_bvs]; kernel_rfl
  obtain ⟨⟨c, t, hc⟩, _⟩ := hfr 0 0 (by rw [hps, hsz]; simp [MemPlace.row])
  refine ⟨t, ?_⟩
  have hv : some c = some cs0 := by
    simp only [World.var?, hg0, Option.bind_some, hc] at hv0
    exact hv0
  cases hv
  show W.heap[0]? = _
  rw [hc, ← h0]
theorem door_met (os : Os) (args : Array Value) : laidMetH Tryd.prog laid1 ((World.doorLaid Tryd.prog 400 os).forCall (fun _ _ => 0) ⟨#[], args, []⟩).memory :=
  laidMetH_of_parts3 (fuel := 8) (laidMet_of_run' 8 (by kernel_rfl) (by kernel_rfl)) (by kernel_rfl) (by kernel_rfl)
end Go.Proofs.YtfbamkgmnbobeaaDoor
