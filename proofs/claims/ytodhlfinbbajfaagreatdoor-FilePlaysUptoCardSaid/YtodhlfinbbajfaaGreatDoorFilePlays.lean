/- The statement FilePlays holds in its second form, as a tied card: for every script of bulk at most 1048576 the Go function returns true and hands its argument back as it was. -/
import Derived.Test.YtodhlfinbbajfaaGreatDoorRows
import Derived.Test.YtodhlfinbbajfaaGreatDoorGPlays
import Derived.WalkKit
import Derived.ProofKit
import Derived.OpenShut
import Derived.SizedLaws
import Derived.Carry
import Derived.Test.YtodhlfinbbajfaaGreatDoorTie
import Derived.Test.YtodhlfinbbajfaaGreatDoorCards
import Derived.Test.YtodhlfinbbajfaaGreatDoorGF21
import Derived.Deep.DeepHandedRow
namespace Go.Proofs.YtodhlfinbbajfaaGreatDoor.filePlays
open Go Go.ChangeShapes Go.WideShapes Go.ChangeAt Go.RowKit
open Go.Proofs.YtodhlfinbbajfaaGreatDoor
set_option linter.unusedVariables false
theorem own : ownKnob Tryz.prog.godebug = none := by kernel_rfl
theorem laidOut : laidOutB Tryz.prog = true := by kernel_rfl
set_option maxRecDepth 100000 in
theorem reads (os : Os) {H : Type} (enc : TypeId × Value → H) : ∃ places, DataW.whole enc Tryz.prog ((World.doorLaid Tryz.prog 400 os).forCall (fun _ _ => 0) ⟨#[], #[(.agg #[.int .i64 0, .slice none 0 0, .int .i64 0, .slice none 0 0, .slice none 0 0])], []⟩).memory Tryz.f10.params.toList Rows.filePlaysSpec.vars false #[(.agg #[.int .i64 0, .slice none 0 0, .int .i64 0, .slice none 0 0, .slice none 0 0])].toList 8 = some ([(.agg [.agg [.lit (.int .i64 0), .nil], .agg [.lit (.int .i64 0), .nil], .nil])], [], places) :=
  ⟨[], by kernel_rfl⟩
theorem laid_met (os : Os) (args : Array Value) : laidMet Tryz.prog Rows.filePlaysUptoRow.laid ((World.doorLaid Tryz.prog 400 os).forCall (fun _ _ => 0) ⟨#[], args, []⟩).memory :=
  laidMet_of_run' 8 (by kernel_rfl) (by kernel_rfl)
set_option maxRecDepth 100000 in
theorem lifted (os : Os) (started : os.Started) (H : Type) (enc : TypeId × Value → H) (F : Stop.Interp) :
    ReturnsInHanded {} Tryz.checked os 10 .any ((Rows.OpenSpec.upto Rows.filePlaysSpec).preRow enc Tryz.prog Tryz.f10 Rows.filePlaysUptoRow.domain false Rows.filePlaysUptoRow.laid) (((Rows.OpenSpec.upto Rows.filePlaysSpec).at F).post enc Tryz.prog Tryz.f10 false true false false) := by
 obtain ⟨places, hx⟩ := reads os enc
 refine returnsInHanded_of_row (C := Tryz.checked) (s := Rows.OpenSpec.upto Rows.filePlaysSpec) own started (by kernel_rfl) Tryz.func10
   (witness_row_at (enc := enc) (C := Tryz.checked) false (World.doorLaid Tryz.prog 400 os) #[(.agg #[.int .i64 0, .slice none 0 0, .int .i64 0, .slice none 0 0, .slice none 0 0])] rfl (by kernel_rfl) (by kernel_rfl) (by kernel_rfl)
     (OpenSpec.preRow_of_cond 8 hx (by kernel_rfl) (fun k hk => by cases hk; kernel_rfl) (by kernel_rfl) (laid_met os _))) ?_
 intro W base args ds gs before hval0 hW hcnd hcond0 hsz0 hX _ _;have hL := Jw8 hX;have hcond := Jrm (hcond0 _ rfl);have hval : ∀ (j : Nat) t v, Tryz.f10.params[j]? = some t → args[j]? = some v → Value.okWide Tryz.prog W .any base t v := hval0;have hsz : (DataW.weightsEach Tryz.prog (Tryz.f10.params.toList ++ Rows.filePlaysSpec.plain.varTypes Tryz.prog) (ds ++ gs)).all (· ≤ reachBytes) = true := hsz0;have hW' := hW;obtain ⟨p, q, hA0, hV, rfl, hfz, hnd⟩ := hW;have hA : DataW.TrodAll enc Tryz.prog W 0 (fun _ => true) true Tryz.f10.params.toList args.toList ds p := hA0;rw [Tryz.params10] at hA hval hsz;obtain ⟨v0, vs0, d0, ds0, p0, q0, hargs, rfl, rfl, h0, r0⟩ := trodAll_cons hA;obtain ⟨rfl, rfl, rfl⟩ := trodAll_nil r0;obtain rfl : args = #[v0] := by cases args; simp_all
 obtain ⟨rfl, rfl⟩ := trodVars_none hV;have k0 := h0;have lt0 : ∀ x ∈ p0, x.block < W.heap.size := by obtain ⟨m, hm⟩ := k0; exact DataW.trod_lt m _ _ _ hm
 obtain ⟨sa, sb, oo, on, oc, os', rfl, ha, hb, hl, hok, _, _, hmx⟩ := Jp2 (fun _ => rfl) (hval 0 27 v0 rfl rfl) h0 (Jt3 hsz (j := 0) rfl rfl) (Nat.le_trans (Jh5 (by simp)) hcond);clear hA0 hval0;refine (go_FilePlays sa sb oo on oc os' hL ha hb hl hok hmx).mono fun e W' ⟨he, bel⟩ => ?_;subst he;exact ⟨_, rfl, _, _, _, [], _, [], hW', trodAll_mk1 (shut_bool Tryz.underlying4 _), (trodAll_cons_mk (Below.trod laidOut (by kernel_rfl) (of_decide_eq_true (by kernel_rfl)) k0 bel lt0) trodAll_mk0), rfl, bel.frame _, fun h => by cases h⟩
theorem over : Rows.filePlaysUptoRow.holds Tryz.pinned (Rows.OpenSpec.upto Rows.filePlaysSpec) :=
  OpenClaim.holds_of_cond 10 Tryz.f10 rfl rfl rfl rfl rfl rfl rfl ⟨rfl, rfl, rfl, rfl, rfl⟩ rfl rfl rfl rfl rfl (by kernel_rfl) Tryz.func10 (by kernel_rfl)
    (of_decide_eq_true (by kernel_rfl)) (by unfold Func.isWrapper; first | (rw [if_pos (by decide +kernel)]; kernel_rfl) | (rw [if_neg (by decide +kernel)]; exact ⟨rfl, rfl⟩))
    (fun os started H enc _ F => by rw [OpenClaim.pre_eq_preRow]; exact lifted os started H enc F)
theorem proved : Rows.FilePlaysUptoCardSaid :=
  Claim7.holds_tied_plain_at .later [] [.data] true (true, "439881f6fb7d334923f05a01dd1eaf06b0cbd93efacf45af5eea2d3dbedd06d5") false
    over (fun _ h => by cases h) (by kernel_rfl) (fun _ h => by cases h) filePlaysUpto_row_tie rfl ⟨rfl, rfl⟩ (by kernel_rfl) rfl
    (fun f fn hf hfn => by
      obtain rfl : f = 10 := Option.some.inj ((show Tryz.prog.funcNamed "ledger/ledgerlaw6.FilePlays" = some 10 by kernel_rfl).symm.trans hf) |>.symm
      obtain rfl : fn = Tryz.f10 := (Option.some.inj (Tryz.func10.symm.trans hfn)).symm
      exact ⟨by kernel_rfl, fun j t ht => by
        rw [Tryz.params10] at ht
        have hm : t ∈ [27] := by simpa using Array.mem_of_getElem? ht
        have hall : ([27].all fun u => !Tryz.prog.wantsStandIn u) = true := by kernel_rfl
        exact (show Tryz.prog.wantsStandIn t = false by simpa using List.all_eq_true.1 hall t hm)⟩)
    (by kernel_rfl)
#print axioms proved
end Go.Proofs.YtodhlfinbbajfaaGreatDoor.filePlays
