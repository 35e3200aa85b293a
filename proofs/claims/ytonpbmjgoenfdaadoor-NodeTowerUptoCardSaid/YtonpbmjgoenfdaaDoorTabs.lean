/- The two tables of the program, as its text lays them: what the laid condition gives the walks. -/
import Derived.Test.YtonpbmjgoenfdaaDoorTree
import Derived.Test.YtonpbmjgoenfdaaDoorRows
import Derived.ProofKit
import Derived.LaidMore
import Derived.OpenShut
import Derived.Stop.Joined
namespace Go.Proofs.YtonpbmjgoenfdaaDoor
open Go Go.ChangeShapes Go.WideShapes Go.ChangeAt Go.WideMaps Go.WideElems Go.RowKit
set_option linter.unusedVariables false

/-- The words of a laid table. -/
def wordsOf {H : Type} : DataW H → List UInt32
  | .agg l => l.map fun x => match x with
    | .lit (.int _ k) => UInt32.ofNat k.toNat
    | _ => 0
  | _ => []
def beginT : List UInt32 := wordsOf (Rows.laid_ledger_digest_begin (H := Unit))
def roundT : List UInt32 := wordsOf (Rows.laid_ledger_digest_round (H := Unit))
def begin8 : S8 := S8.of beginT

theorem cells_of_words {H : Type} {enc : TypeId × Value → H} {P : Program} {W : World} {base : Nat} {spare : TypeId → Bool} {held : Bool} {fuel : Nat} {t e : TypeId} {cs : List Value} {q : List MemPlace} (n : Nat) (ks : List UInt32)
    (ht : P.underlying t = some (.array n e)) (he : P.underlying e = some (.int .u32)) (hc : P.cellsOf e = 1) (hks : ks.length = n)
    (h : DataW.trod enc P W base spare held fuel t cs = some (.agg (ks.map fun k => .lit (.int .u32 (k.toNat : Int))), q)) :
    ∀ i, i < n → cs[i]? = some (uv (ks.getD i 0)) := by
  intro i hi
  obtain ⟨xs, m, rfl, hx, _, hn, hel⟩ := DataW.trod_array ht h
  have h1 := hel i hi
  rw [hc, Nat.mul_one] at h1
  have hlx : i < xs.length := by omega
  rw [List.getElem?_eq_getElem hlx] at h1
  obtain ⟨k, e1, e2, _⟩ := DataW.trod_int he h1
  have hmap : xs.map (·.1) = ks.map fun k => .lit (.int .u32 (k.toNat : Int)) := by
    simp only [Prod.mk.injEq, DataW.agg.injEq] at hx
    exact hx.1.symm
  have hki : i < ks.length := by omega
  have h2 : (xs.map (·.1))[i]? = (ks.map fun k => (DataW.lit (.int .u32 (k.toNat : Int)) : DataW H))[i]? := by rw [hmap]
  rw [List.getElem?_map, List.getElem?_map, List.getElem?_eq_getElem hlx, List.getElem?_eq_getElem hki, e2] at h2
  simp only [Option.map_some, Option.some.injEq, DataW.lit.injEq, Lit.int.injEq, true_and] at h2
  have h3 : ((cs.drop i).take 1)[0]? = some (.int .u32 k) := by rw [e1]; rfl
  rw [List.getElem?_take, if_pos (by omega), List.getElem?_drop, Nat.add_zero] at h3
  rw [h3, h2]
  simp [uv, List.getD, List.getElem?_eq_getElem hki]

theorem gBegin : Tryd.prog.globalNamed "ledger/digest.begin" = some 0 := by kernel_rfl
theorem gRound : Tryd.prog.globalNamed "ledger/digest.round" = some 1 := by kernel_rfl
theorem tBegin : (Tryd.prog.globals[0]?).map (·.type) = some 42 := by kernel_rfl
theorem tRound : (Tryd.prog.globals[1]?).map (·.type) = some 52 := by kernel_rfl
def laid2 {H : Type} : List (String × DataW H) := [("ledger/digest.begin", Rows.laid_ledger_digest_begin), ("ledger/digest.round", Rows.laid_ledger_digest_round)]
theorem begin_words {H : Type} : (Rows.laid_ledger_digest_begin : DataW H) = .agg (beginT.map fun k => .lit (.int .u32 (k.toNat : Int))) := by kernel_rfl
theorem round_words {H : Type} : (Rows.laid_ledger_digest_round : DataW H) = .agg (roundT.map fun k => .lit (.int .u32 (k.toNat : Int))) := by kernel_rfl

theorem of_laid {W : World} (h : laidMetH Tryd.prog laid2 W) : Laid begin8 roundT W := by
  rw [MakeChecks.laidMetH_plain _ _ _ (by kernel_rfl)] at h
  obtain ⟨ps, ⟨g0, t0, cs0, f0, p0, q0, hg0, ht0, hv0, hd0, ⟨g1, t1, cs1, f1, p1, q1, hg1, ht1, hv1, hd1, _, _⟩, _⟩, _, _⟩ := h
  obtain rfl := Option.some.inj (gBegin.symm.trans hg0)
  obtain rfl := Option.some.inj (gRound.symm.trans hg1)
  obtain rfl := Option.some.inj (tBegin.symm.trans ht0)
  obtain rfl := Option.some.inj (tRound.symm.trans ht1)
  rw [begin_words] at hd0
  rw [round_words] at hd1
  have c5 : Tryd.prog.cellsOf 41 = 1 := by kernel_rfl
  have h0 := cells_of_words 8 beginT Tryd.underlying42 Tryd.underlying41 c5 (by kernel_rfl) hd0
  have h1 := cells_of_words 64 roundT Tryd.underlying52 Tryd.underlying41 c5 (by kernel_rfl) hd1
  refine ⟨by kernel_rfl, fun i hi => ?_, fun i hi => ?_⟩
  · have := World.var?_cell hg0 hv0 i
    rw [this]
    have h2 := h0 i hi
    rw [Array.getElem?_toList] at h2
    rw [h2, show begin8.list = beginT by kernel_rfl]
  · have := World.var?_cell hg1 hv1 i
    rw [this]
    have h2 := h1 i hi
    rw [Array.getElem?_toList] at h2
    exact h2
/-- The door's own heap meets the condition. -/
theorem door_met (os : Os) (args : Array Value) : laidMetH Tryd.prog laid2 ((World.doorLaid Tryd.prog 400 os).forCall (fun _ _ => 0) ⟨#[], args, []⟩).memory :=
  laidMetH_of_parts3 (fuel := 8) (laidMet_of_run' 8 (by kernel_rfl) (by kernel_rfl)) (by kernel_rfl) (by kernel_rfl)
end Go.Proofs.YtonpbmjgoenfdaaDoor
