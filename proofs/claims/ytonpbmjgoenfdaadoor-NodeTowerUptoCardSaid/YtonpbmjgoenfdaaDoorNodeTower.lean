/- The statement NodeTower holds in its second form, as a tied card: for every input of bulk at most 1048576 the Go function returns true and hands its arguments back as they were. -/
import Derived.Test.YtonpbmjgoenfdaaDoorRows
import Derived.Test.YtonpbmjgoenfdaaDoorOpen
import Derived.Test.YtonpbmjgoenfdaaDoorKernT
import Derived.WalkKit
import Derived.ProofKit
import Derived.OpenShut
import Derived.SizedLaws
import Derived.Carry
import Derived.Test.YtonpbmjgoenfdaaDoorTabs
import Derived.Test.YtonpbmjgoenfdaaDoorTie
import Derived.Test.YtonpbmjgoenfdaaDoorCards
import Derived.Test.YtonpbmjgoenfdaaDoorBulk
import Derived.Deep.DeepHandedRow
namespace Go.Proofs.YtonpbmjgoenfdaaDoor.nodeTower
open Go Go.ChangeShapes Go.WideShapes Go.ChangeAt Go.RowKit
open Go.Proofs.YtonpbmjgoenfdaaDoor
set_option linter.unusedVariables false

theorem own : ownKnob Tryd.prog.godebug = none := by kernel_rfl
theorem laidOut : laidOutB Tryd.prog = true := by kernel_rfl

theorem cells3 : Tryd.prog.cellsOf 3 = 1 := by kernel_rfl
theorem bytes3 : Tryd.prog.bytesOf 3 = 8 := by kernel_rfl

set_option maxRecDepth 100000 in
theorem reads (os : Os) {H : Type} (enc : TypeId × Value → H) : ∃ places, DataW.whole enc Tryd.prog ((World.doorLaid Tryd.prog 400 os).forCall (fun _ _ => 0) ⟨#[], #[(.int .i64 0), (.slice none 0 0)], []⟩).memory Tryd.f3.params.toList Rows.nodeTowerSpec.vars false #[(.int .i64 0), (.slice none 0 0)].toList 8 = some ([.lit (.int .i64 0), .nil], [], places) :=
  ⟨[], by kernel_rfl⟩
theorem laid_met (os : Os) (args : Array Value) : laidMet Tryd.prog Rows.nodeTowerUptoRow.laid ((World.doorLaid Tryd.prog 400 os).forCall (fun _ _ => 0) ⟨#[], args, []⟩).memory :=
  laidMet_of_run' 8 (by kernel_rfl) (by kernel_rfl)
set_option maxRecDepth 100000 in
theorem lifted (os : Os) (started : os.Started) (H : Type) (enc : TypeId × Value → H) (F : Stop.Interp) :
    ReturnsInHanded {} Tryd.checked os 3 .any ((Rows.OpenSpec.upto Rows.nodeTowerSpec).preRow enc Tryd.prog Tryd.f3 Rows.nodeTowerUptoRow.domain false Rows.nodeTowerUptoRow.laid) (((Rows.OpenSpec.upto Rows.nodeTowerSpec).at F).post enc Tryd.prog Tryd.f3 false true false false) := by
  obtain ⟨places, hx⟩ := reads os enc
  refine returnsInHanded_of_row (C := Tryd.checked) (s := Rows.OpenSpec.upto Rows.nodeTowerSpec) own started (by kernel_rfl) Tryd.func3
    (witness_row_at (enc := enc) (C := Tryd.checked) false (World.doorLaid Tryd.prog 400 os) #[(.int .i64 0), (.slice none 0 0)] rfl (by kernel_rfl) (by kernel_rfl) (by kernel_rfl)
      (OpenSpec.preRow_of_cond 8 hx (by kernel_rfl) (fun k hk => by cases hk; kernel_rfl) (by kernel_rfl) (laid_met os _))) ?_
  intro W base args ds gs before hval0 hW hcnd hcond0 hsz0 hX _ _
  have hL := of_laid hX
  have hcond := bulk_bound (hcond0 _ rfl)
  have hval : ∀ (j : Nat) t v, Tryd.f3.params[j]? = some t → args[j]? = some v → Value.okWide Tryd.prog W .any base t v := hval0
  have hsz : (DataW.weightsEach Tryd.prog (Tryd.f3.params.toList ++ Rows.nodeTowerSpec.plain.varTypes Tryd.prog) (ds ++ gs)).all (· ≤ reachBytes) = true := hsz0
  have hW' := hW
  obtain ⟨p, q, hA0, hV, rfl, hfz, hnd⟩ := hW
  have hA : DataW.TrodAll enc Tryd.prog W 0 (fun _ => true) true Tryd.f3.params.toList args.toList ds p := hA0
  rw [Tryd.params3] at hA hval hsz
  obtain ⟨v0, vs0, d0, ds0, p0, q0, hargs, rfl, rfl, h0, r0⟩ := trodAll_cons hA
  obtain ⟨v1, vs1, d1, ds1, p1, q1, rfl, rfl, rfl, h1, r1⟩ := trodAll_cons r0
  obtain ⟨rfl, rfl, rfl⟩ := trodAll_nil r1
  obtain rfl : args = #[v0, v1] := by cases args; simp_all
  obtain ⟨rfl, rfl⟩ := trodVars_none hV
  have k0 := h0
  have lt0 : ∀ x ∈ p0, x.block < W.heap.size := by obtain ⟨m, hm⟩ := k0; exact DataW.trod_lt m _ _ _ hm
  have k1 := h1
  have lt1 : ∀ x ∈ p1, x.block < W.heap.size := by obtain ⟨m, hm⟩ := k1; exact DataW.trod_lt m _ _ _ hm
  obtain ⟨a0, rfl, hd0, hp0, w0⟩ := open_int Tryd.underlying3 (hval 0 3 v0 rfl rfl) h0
  have bd0 := bounds_i64 w0
  obtain ⟨ao1, n1, c1, l1, rfl, row1, mx1, le1, hd1⟩ := open_i64s (fun _ => rfl) Tryd.underlying22 Tryd.underlying3 cells3 (hval 1 22 v1 rfl rfl) h1
  have few1 : c1 ≤ 1048576 := by
    rcases hd1 with ⟨_, _, h⟩ | ⟨es, ss, h, hl⟩
    · omega
    · subst h
      have h1 := bulk_slice es ss
      have h2 : Rows.uptoBulk (.slice es ss) ≤ 1048576 := Nat.le_trans (bulk_mem (by simp)) hcond
      omega
  clear hA0 hval0
  refine (tower_walk empty_first empty_last a0 ao1 n1 c1 l1 W hL row1 le1 (by omega) (fun h => Nat.eq_zero_of_not_pos (fun h0 => by obtain ⟨b, o, e⟩ := row1.at0 h0; rw [h] at e; cases e))).mono fun e W' ⟨he, bel⟩ => ?_
  subst he
  exact ⟨_, rfl, _, _, _, [], _, [], hW', trodAll_mk1 (shut_bool Tryd.underlying4 _), (trodAll_cons_mk (Below.trod laidOut (by kernel_rfl) (of_decide_eq_true (by kernel_rfl)) k0 bel lt0) (trodAll_cons_mk (Below.trod laidOut (by kernel_rfl) (of_decide_eq_true (by kernel_rfl)) k1 bel lt1) trodAll_mk0)), rfl, bel.frame _, fun h => by cases h⟩

theorem over : Rows.nodeTowerUptoRow.holds Tryd.pinned (Rows.OpenSpec.upto Rows.nodeTowerSpec) :=
  OpenClaim.holds_of_cond 3 Tryd.f3 rfl rfl rfl rfl rfl rfl rfl ⟨rfl, rfl, rfl, rfl, rfl⟩ rfl rfl rfl rfl rfl (by kernel_rfl) Tryd.func3 (by kernel_rfl)
    (of_decide_eq_true (by kernel_rfl)) (by unfold Func.isWrapper; first | (rw [if_pos (by decide +kernel)]; kernel_rfl) | (rw [if_neg (by decide +kernel)]; exact ⟨rfl, rfl⟩))
    (fun os started H enc _ F => by rw [OpenClaim.pre_eq_preRow]; exact lifted os started H enc F)

/-- THE TIED CARD. -/
theorem proved : Rows.NodeTowerUptoCardSaid :=
  Claim7.holds_tied_plain_at .later [] [.data, .data] true (true, "c673ed37669b636930357cd1a41b6f89d88111053e2131b100b68989d10b76c7") false
    over (fun _ h => by cases h) (by kernel_rfl) (fun _ h => by cases h) nodeTowerUpto_row_tie rfl ⟨rfl, rfl⟩ (by kernel_rfl) rfl
    (fun f fn hf hfn => by
      obtain rfl : f = 3 := Option.some.inj ((show Tryd.prog.funcNamed "ledger/ledgerlaw9.NodeTower" = some 3 by kernel_rfl).symm.trans hf) |>.symm
      obtain rfl : fn = Tryd.f3 := (Option.some.inj (Tryd.func3.symm.trans hfn)).symm
      exact ⟨by kernel_rfl, fun j t ht => by
        rw [Tryd.params3] at ht
        have hm : t ∈ [3, 22] := by simpa using Array.mem_of_getElem? ht
        have hall : ([3, 22].all fun u => !Tryd.prog.wantsStandIn u) = true := by kernel_rfl
        exact (show Tryd.prog.wantsStandIn t = false by simpa using List.all_eq_true.1 hall t hm)⟩)
    (by kernel_rfl)
#print axioms proved
end Go.Proofs.YtonpbmjgoenfdaaDoor.nodeTower
