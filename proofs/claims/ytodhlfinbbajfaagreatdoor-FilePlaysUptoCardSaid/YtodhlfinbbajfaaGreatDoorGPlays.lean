/- Texts joined. -/
import Derived.Test.YtodhlfinbbajfaaGreatDoorGF03
import Derived.Test.YtodhlfinbbajfaaGreatDoorGF21
import Derived.Test.YtodhlfinbbajfaaGreatDoorRows
import Derived.ProofKit
import Derived.LaidMore
import Derived.OpenShut
import Derived.Stop.Joined
namespace Go.Proofs.YtodhlfinbbajfaaGreatDoor
open Go Go.RowKit
set_option linter.unusedVariables false
set_option linter.unusedSimpArgs false
set_option linter.unusedSectionVars false
set_option maxRecDepth 100000
set_option maxHeartbeats 40000000
section
variable {gT0 : TypeId}
theorem Jiq.on {α : Type} {cC : α → List Value} {k : Nat} {w0 w : World} {F : List Nat} {L : List Asn} {oo : Option Addr} {on : Nat} {os : List α} (h : Jiq cC k w0 oo on os) (hog : ∀ g x, oo = some ⟨g, x, none⟩ → 0 < on → g ∉ F) (M : Mem w0 F w L) : Jiq cC k w oo on os :=
  ⟨h.1, fun i o hi => by
    obtain ⟨b, off, e, hr⟩ := h.2 i o hi
    have := (List.getElem?_eq_some_iff.1 hi).1
    exact ⟨b, off, e, M.range hr (hog b off e (by have := h.1; omega))⟩⟩
theorem walk_FilePlays (a b : StV) (oo : Option Addr) (on oc : Nat) (os : List OpV) {w : World} (hM : zM w [blk 0 gT0 (bvs Jaa)]) (ha : StOk w a) (hb : StOk w b) (hao : OffZ (Jag [blk 0 gT0 (bvs Jaa)]) a.ao a.rn a.l) (hbo : OffZ (Jag [blk 0 gT0 (bvs Jaa)]) b.ao b.rn b.l) (hL : Jiq opC 8 w oo on os) (hmax : on ≤ 1048576) (hog : ∀ g x, oo = some ⟨g, x, none⟩ → 0 < on → g ∉ Jag [blk 0 gT0 (bvs Jaa)]) (hok : ∀ o ∈ os, OpZ w (Jag [blk 0 gT0 (bvs Jaa)]) o) : zC 10 [.agg ((scC a b oo on oc)).toArray] w fun e w' => e = .returned (.bool true) ∧ zD w [blk 0 gT0 (bvs Jaa)] w' [blk 0 gT0 (bvs Jaa)] := by
 have M := hM;clear hM;go_enter Tryz.func10, Tryz.ntmps10;refine zk fun _ hK1 => zr ?_;refine zbx M (scC a b oo on oc) rfl fun gsc w2 M2 => ?_;clear M;simp only[Za,Zb,Zc];refine zp 1 rfl (zw (hK1 _ _ (zk fun _ hK3 => zr (zo M2 (zlb 0 rfl zu27 rfl Jlw) ?_))));simp only[Za,Zb,Zc];have hX4 := M2.pk [1, 0];simp only[Y3,Y4,Y1,Y2]at hX4;replace hX4 := hX4.s1;have hCH4 := Jxa a b oo on oc os (1) (21) (Mem.here hX4) (ha.onz hao M2 (M2.all (blk 0 gT0 (bvs Jaa)) (by simp))) (hb.onz hbo M2 (M2.all (blk 0 gT0 (bvs Jaa)) (by simp))) hao hbo (hL.on hog M2) hmax hog (fun o ho => (hok o ho).subl hX4 (M2.all (blk 0 gT0 (bvs Jaa)) (by simp)));refine zca 11 _ rfl Tryz.call11 (hCH4) ?_;rintro e w4 ⟨rfl, H4⟩;have M4 := Mem.frame hX4 H4;simp only[Y1,Y2]at M4;refine ⟨_, rfl, ?_⟩;simp only[Za,Zb,Zc];refine zp 1 rfl ?_;simp only[Za,Zb,Zc];refine zw (hK3 _ _ (zrt ?_));(try simp only[zi,zj]);refine zR (res1 rfl rfl) rfl ?_;exact ⟨rfl, M4.arr [0] (by decide)⟩
end
section
open Go.ChangeShapes Go.WideShapes Go.ChangeAt Go.WideMaps Go.WideElems
def laid1 {H : Type} : List (String × DataW H) := [("ledger/ledgerref2.divisor", Rows.laid_ledger_ledgerref2_divisor)]
theorem gDiv : Tryz.prog.globalNamed "ledger/ledgerref2.divisor" = some 0 := by kernel_rfl
theorem tDiv : (Tryz.prog.globals[0]?).map (·.type) = some 173 := by kernel_rfl
theorem Jvc {H : Type} : (Rows.laid_ledger_ledgerref2_divisor : DataW H) = .agg (Jaa.map fun k => .lit (.int .u8 (k.toNat : Int))) := by kernel_rfl
theorem Jl7 {H : Type} {enc : TypeId × Value → H} {P : Program} {W : World} {base : Nat} {spare : TypeId → Bool} {held : Bool} {fuel : Nat} {t e : TypeId} {cs : List Value} {q : List MemPlace} (n : Nat) (ks : List UInt8)
    (ht : P.underlying t = some (.array n e)) (he : P.underlying e = some (.int .u8)) (hc : P.cellsOf e = 1) (hct : P.cellsOf t = n) (hks : ks.length = n)
    (h : DataW.trod enc P W base spare held fuel t cs = some (.agg (ks.map fun k => .lit (.int .u8 (k.toNat : Int))), q)) : cs = bvs ks := by
 obtain ⟨xs, m, rfl, hx, hlen, hn, hel⟩ := DataW.trod_array ht h;rw [hct] at hlen
 have hmap : xs.map (·.1) = ks.map fun k => .lit (.int .u8 (k.toNat : Int)) := by
   simp only [Prod.mk.injEq, DataW.agg.injEq] at hx;exact hx.1.symm
 refine List.ext_getElem? fun i => ?_;rw [Jbw];by_cases hi : i < n
 ·have h1 := hel i hi;rw [hc, Nat.mul_one] at h1;have hlx : i < xs.length := by omega
  rw [List.getElem?_eq_getElem hlx] at h1;obtain ⟨k, e1, e2, _⟩ := DataW.trod_int he h1;have hki : i < ks.length := by omega
  have h2 : (xs.map (·.1))[i]? = (ks.map fun k => (DataW.lit (.int .u8 (k.toNat : Int)) : DataW H))[i]? := by rw [hmap]
  rw [List.getElem?_map, List.getElem?_map, List.getElem?_eq_getElem hlx, List.getElem?_eq_getElem hki, e2] at h2;simp only [Option.map_some, Option.some.injEq, DataW.lit.injEq, Lit.int.injEq, true_and] at h2;have h3 : ((cs.drop i).take 1)[0]? = some (.int .u8 k) := by rw [e1]; rfl
  rw [List.getElem?_take, if_pos (by omega), List.getElem?_drop, Nat.add_zero] at h3;rw [h3, h2, List.getElem?_eq_getElem hki];rfl
 ·rw [List.getElem?_eq_none (by omega), List.getElem?_eq_none (by omega)];rfl
theorem Jw8 {W : World} (h : laidMetH Tryz.prog laid1 W) : ∃ T, (blk 0 T (bvs Jaa)).holds W := by
 rw [MakeChecks.laidMetH_plain _ _ _ (by kernel_rfl)] at h;obtain ⟨ps, ⟨g0, t0, cs0, f0, p0, q0, hg0, ht0, hv0, hd0, _, hps⟩, _, hfr⟩ := h;obtain rfl := Option.some.inj (gDiv.symm.trans hg0);obtain rfl := Option.some.inj (tDiv.symm.trans ht0);rw [Jvc] at hd0;have h0 := Jl7 33 Jaa Tryz.underlying173 Tryz.underlying5 (by kernel_rfl) (by kernel_rfl) (by kernel_rfl) hd0;have hsz : cs0.size = 33 := by rw [← Array.length_toList, h0, Jam]; kernel_rfl
 obtain ⟨⟨c, t, hc⟩, _⟩ := hfr 0 0 (by rw [hps, hsz]; simp [MemPlace.row]);refine ⟨t, ?_⟩
 have hv : some c = some cs0 := by
   simp only [World.var?, hg0, Option.bind_some, hc] at hv0;exact hv0
 cases hv
 show W.heap[0]? = _;rw [hc, ← h0]
end
theorem Jrg {W : World} {T : TypeId} (h : (blk 0 T (bvs Jaa)).holds W) (off : Nat) : W.cell? ⟨0, off, none⟩ = (bvs Jaa)[off]? := by
 have h' : W.heap[0]? = some (.cells (bvs Jaa).toArray T (0, 0)) := h;rw [cell_of_row W 0 off _ _ _ h', ← Array.getElem?_toList]
theorem Jqr {W : World} {T : TypeId} (h : (blk 0 T (bvs Jaa)).holds W) {ao : Option Addr} {n : Nat} {l : List UInt8} (hr : Row W ao n l) : OffZ (Jag [blk 0 T (bvs Jaa)]) ao n l := fun b x e hn hb => by
  obtain rfl : b = 0 := by simpa [Jag, blk] using hb
  refine ⟨rfl, fun i hi => ?_⟩
  have hil : i < l.length := by have := hr.1; omega
  obtain ⟨b', o', e', hc⟩ := hr.2 i hil
  rw [e] at e'
  cases e'
  rw [Jrg h, Jbw] at hc
  rw [List.getElem?_eq_getElem hil]
  cases hq : Jaa[x + i]? with
  | none => rw [hq] at hc; cases hc
  | some u =>
    rw [hq] at hc
    simp only [Option.map_some, Option.some.injEq] at hc
    rw [Jy4 (show bv u = bv l[i] from hc)]
theorem Jyx {W : World} {T : TypeId} (h : (blk 0 T (bvs Jaa)).holds W) {oo : Option Addr} {on : Nat} {os : List OpV} (hL : Jiq opC 8 W oo on os) : ∀ g x, oo = some ⟨g, x, none⟩ → 0 < on → g ∉ Jag [blk 0 T (bvs Jaa)] := fun g x e hn hb => by
  obtain rfl : g = 0 := by simpa [Jag, blk] using hb
  have hil : 0 < os.length := by have := hL.1; omega
  obtain ⟨b', o', e', hr⟩ := hL.2 0 _ (List.getElem?_eq_getElem hil)
  rw [e] at e'
  cases e'
  have h1 := hr 0 (.int .i64 os[0].k) rfl
  rw [Jrg h, Jbw] at h1
  cases hq : Jaa[x + 0 * 8 + 0]? with
  | none => rw [hq] at h1; cases h1
  | some u => rw [hq] at h1; simp only [Option.map_some, Option.some.injEq] at h1; cases h1
theorem Jzu {W : World} {s : StV} (h : StIn W s) : StOk W s := ⟨h.1, h.2.1, by have := h.2.2.2.2; omega⟩
theorem op_in {W : World} {T : TypeId} (hD : (blk 0 T (bvs Jaa)).holds W) {o : OpV} (h : OpIn W o) : OpZ W (Jag [blk 0 T (bvs Jaa)]) o := ⟨h.1.1, Jqr hD h.1.1, h.1.2.1, by have := h.1.2.2.2.2; omega, h.2, ⟨h.1.2.2.1, by have := h.1.2.2.2.1; omega⟩⟩
theorem Jzv {W : World} {T : TypeId} (hD : (blk 0 T (bvs Jaa)).holds W) : Mem W (Jag [blk 0 T (bvs Jaa)]) W [blk 0 T (bvs Jaa)] :=
  ⟨Grew.refl _ _, fun A hA => by obtain rfl : A = _ := by simpa using hA
                                 exact hD, by simp [Jag, blk], fun b hb => .inl hb⟩
theorem go_FilePlays (a b : StV) (oo : Option Addr) (on oc : Nat) (os : List OpV) {W : World} (hD : ∃ T, (blk 0 T (bvs Jaa)).holds W) (ha : StIn W a) (hb : StIn W b) (hL : Jiq opC 8 W oo on os) (hok : ∀ o ∈ os, OpIn W o) (hmax : on ≤ 1048576) :
    Calls Tryz.prog 10 #[.agg (scC a b oo on oc).toArray] W fun e W' => e = .returned (.bool true) ∧ Below W.heap.size W W' := by
 obtain ⟨T, hD⟩ := hD;exact (walk_FilePlays a b oo on oc os (Jzv hD) (Jzu ha) (Jzu hb) (Jqr hD ha.1) (Jqr hD hb.1) hL hmax (Jyx hD hL) (fun o ho => op_in hD (hok o ho))).mono fun e W' h => ⟨h.1, Mem.below0 hD h.2⟩
end Go.Proofs.YtodhlfinbbajfaaGreatDoor
