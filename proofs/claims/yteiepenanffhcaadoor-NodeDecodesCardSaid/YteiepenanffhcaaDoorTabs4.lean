/- The four tables of the program and of the reference, as the text lays them: what the laid condition gives the walks. -/
import Derived.Test.YteiepenanffhcaaDoorTree
import Derived.Test.YteiepenanffhcaaDoorRows
import Derived.ProofKit
import Derived.LaidMore
import Derived.OpenShut
import Derived.Stop.Joined
namespace Go.Proofs.YteiepenanffhcaaDoor
open Go Go.ChangeShapes Go.WideShapes Go.ChangeAt Go.WideMaps Go.WideElems Go.RowKit
set_option linter.unusedVariables false

/-- The words of a laid table. -/
def wordsOf {H : Type} : DataW H → List UInt32
  | .agg l => l.map fun x => match x with
    | .lit (.int _ k) => UInt32.ofNat k.toNat
    | _ => 0
  | _ => []
def beginT : List UInt32 := wordsOf (Rows.laid_ledger_digest_begin (H := Unit))
def roundT : List UInt32 := wordsOf (Rows.laid_ledger_digest_round (H := Unit))
def begin8 : S8 := S8.of beginT

theorem cells_of_words {H : Type} {enc : TypeId × Value → H} {P : Program} {W : World} {base : Nat} {spare : TypeId → Bool} {held : Bool} {fuel : Nat} {t e : TypeId} {cs : List Value} {q : List MemPlace} (n : Nat) (ks : List UInt32)
    (ht : P.underlying t = some (.array n e)) (he : P.underlying e = some (.int .u32)) (hc : P.cellsOf e = 1) (hks : ks.length = n)
    (h : DataW.trod enc P W base spare held fuel t cs = some (.agg (ks.map fun k => .lit (.int .u32 (k.toNat : Int))), q)) :
    ∀ i, i < n → cs[i]? = some (uv (ks.getD i 0)) := by
  intro i hi
  obtain ⟨xs, m, rfl, hx, _, hn, hel⟩ := DataW.trod_array ht h
  have h1 := hel i hi
  rw [hc, Nat.mul_one] at h1
  have hlx : i < xs.length := by omega
  rw [List.getElem?_eq_getElem hlx] at h1
  obtain ⟨k, e1, e2, _⟩ := DataW.trod_int he h1
  have hmap : xs.map (·.1) = ks.map fun k => .lit (.int .u32 (k.toNat : Int)) := by
    simp only [Prod.mk.injEq, DataW.agg.injEq] at hx
    exact hx.1.symm
  have hki : i < ks.length := by omega
  have h2 : (xs.map (·.1))[i]? = (ks.map fun k => (DataW.lit (.int .u32 (k.toNat : Int)) : DataW H))[i]? := by rw [hmap]
  rw [List.getElem?_map, List.getElem?_map, List.getElem?_eq_getElem hlx, List.getElem?_eq_getElem hki, e2] at h2
  simp only [Option.map_some, Option.some.injEq, DataW.lit.injEq, Lit.int.injEq, true_and] at h2
  have h3 : ((cs.drop i).take 1)[0]? = some (.int .u32 k) := by rw [e1]; rfl
  rw [List.getElem?_take, if_pos (by omega), List.getElem?_drop, Nat.add_zero] at h3
  rw [h3, h2]
  simp [uv, List.getD, List.getElem?_eq_getElem hki]

theorem gFirst : Tryd.prog.globalNamed "ledger/ledgerref1.first" = some 1 := by kernel_rfl
theorem gConsts : Tryd.prog.globalNamed "ledger/ledgerref1.consts" = some 3 := by kernel_rfl
theorem gBegin : Tryd.prog.globalNamed "ledger/digest.begin" = some 0 := by kernel_rfl
theorem gRound : Tryd.prog.globalNamed "ledger/digest.round" = some 2 := by kernel_rfl
theorem tFirst : (Tryd.prog.globals[1]?).map (·.type) = some 83 := by kernel_rfl
theorem tConsts : (Tryd.prog.globals[3]?).map (·.type) = some 93 := by kernel_rfl
theorem tBegin : (Tryd.prog.globals[0]?).map (·.type) = some 83 := by kernel_rfl
theorem tRound : (Tryd.prog.globals[2]?).map (·.type) = some 93 := by kernel_rfl
def laid4 {H : Type} : List (String × DataW H) := [("ledger/ledgerref1.first", Rows.laid_ledger_ledgerref1_first), ("ledger/ledgerref1.consts", Rows.laid_ledger_ledgerref1_consts), ("ledger/digest.begin", Rows.laid_ledger_digest_begin), ("ledger/digest.round", Rows.laid_ledger_digest_round)]
theorem first_words {H : Type} : (Rows.laid_ledger_ledgerref1_first : DataW H) = .agg (beginT.map fun k => .lit (.int .u32 (k.toNat : Int))) := by kernel_rfl
theorem consts_words {H : Type} : (Rows.laid_ledger_ledgerref1_consts : DataW H) = .agg (roundT.map fun k => .lit (.int .u32 (k.toNat : Int))) := by kernel_rfl
theorem begin_words {H : Type} : (Rows.laid_ledger_digest_begin : DataW H) = .agg (beginT.map fun k => .lit (.int .u32 (k.toNat : Int))) := by kernel_rfl
theorem round_words {H : Type} : (Rows.laid_ledger_digest_round : DataW H) = .agg (roundT.map fun k => .lit (.int .u32 (k.toNat : Int))) := by kernel_rfl

/-- The reference's tables lie in a world. -/
def LaidR (S : S8) (K : List UInt32) (w : World) : Prop :=
  (∀ i, i < 8 → w.cell? ⟨1, i, none⟩ = some (uv (S.list.getD i 0))) ∧ (∀ i, i < 64 → w.cell? ⟨3, i, none⟩ = some (uv (K.getD i 0)))

theorem of_laid4 {W : World} (h : laidMetH Tryd.prog laid4 W) : Laid begin8 roundT W ∧ LaidR begin8 roundT W := by
  rw [MakeChecks.laidMetH_plain _ _ _ (by kernel_rfl)] at h
  obtain ⟨ps, ⟨g0, t0, cs0, f0, p0, q0, hg0, ht0, hv0, hd0, ⟨g1, t1, cs1, f1, p1, q1, hg1, ht1, hv1, hd1, ⟨g2, t2, cs2, f2, p2, q2, hg2, ht2, hv2, hd2, ⟨g3, t3, cs3, f3, p3, q3, hg3, ht3, hv3, hd3, _, _⟩, _⟩, _⟩, _⟩, _, _⟩ := h
  obtain rfl := Option.some.inj (gFirst.symm.trans hg0)
  obtain rfl := Option.some.inj (gConsts.symm.trans hg1)
  obtain rfl := Option.some.inj (gBegin.symm.trans hg2)
  obtain rfl := Option.some.inj (gRound.symm.trans hg3)
  obtain rfl := Option.some.inj (tFirst.symm.trans ht0)
  obtain rfl := Option.some.inj (tConsts.symm.trans ht1)
  obtain rfl := Option.some.inj (tBegin.symm.trans ht2)
  obtain rfl := Option.some.inj (tRound.symm.trans ht3)
  rw [first_words] at hd0
  rw [consts_words] at hd1
  rw [begin_words] at hd2
  rw [round_words] at hd3
  have c5 : Tryd.prog.cellsOf 82 = 1 := by kernel_rfl
  have h0 := cells_of_words 8 beginT Tryd.underlying83 Tryd.underlying82 c5 (by kernel_rfl) hd0
  have h1 := cells_of_words 64 roundT Tryd.underlying93 Tryd.underlying82 c5 (by kernel_rfl) hd1
  have h2 := cells_of_words 8 beginT Tryd.underlying83 Tryd.underlying82 c5 (by kernel_rfl) hd2
  have h3 := cells_of_words 64 roundT Tryd.underlying93 Tryd.underlying82 c5 (by kernel_rfl) hd3
  have cell : ∀ {name : String} {g : Nat} {cs : Array Value}, Tryd.prog.globalNamed name = some g → W.var? Tryd.prog name = some cs → ∀ (i : Nat) (v : Value), cs.toList[i]? = some v → W.cell? ⟨g, i, none⟩ = some v := fun hg hv i v h => by
    rw [World.var?_cell hg hv i, ← Array.getElem?_toList]; exact h
  have e8 : begin8.list = beginT := by kernel_rfl
  refine ⟨⟨by kernel_rfl, fun i hi => ?_, fun i hi => ?_⟩, fun i hi => ?_, fun i hi => ?_⟩
  · rw [e8]; exact cell hg2 hv2 i _ (h2 i hi)
  · exact cell hg3 hv3 i _ (h3 i hi)
  · rw [e8]; exact cell hg0 hv0 i _ (h0 i hi)
  · exact cell hg1 hv1 i _ (h1 i hi)
/-- The door's own heap meets the condition. -/
theorem door_met (os : Os) (args : Array Value) : laidMetH Tryd.prog laid4 ((World.doorLaid Tryd.prog 800 os).forCall (fun _ _ => 0) ⟨#[], args, []⟩).memory :=
  laidMetH_of_parts3 (fuel := 8) (laidMet_of_run' 8 (by kernel_rfl) (by kernel_rfl)) (by kernel_rfl) (by kernel_rfl)
end Go.Proofs.YteiepenanffhcaaDoor
