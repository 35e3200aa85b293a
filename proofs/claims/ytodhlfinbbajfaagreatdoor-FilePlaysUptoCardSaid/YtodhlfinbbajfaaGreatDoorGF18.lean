/- Texts joined. -/
import Derived.Test.YtodhlfinbbajfaaGreatDoorGF03
import Derived.Test.YtodhlfinbbajfaaGreatDoorGF17
namespace Go.Proofs.YtodhlfinbbajfaaGreatDoor
open Go Go.RowKit
set_option linter.unusedVariables false
set_option linter.unusedSimpArgs false
set_option linter.unusedSectionVars false
set_option maxRecDepth 100000
set_option maxHeartbeats 40000000
section
variable {gT0 : TypeId}
theorem OpOk.sub {w w' : World} {F F' : List Nat} {L : List Asn} {o : OpV} (h : OpOk w F o) (hM : Mem w F w' L) (hF : ∀ b ∈ F', b ∈ Jag L) : OpOk w' F' o where
  row := hM.row h.row h.off
  off b x e hn hb := by
    rcases hM.new b (hF b hb) with h1 | h1
    · exact h.off b x e hn h1
    · have := h.row.blk_lt2 hn b x e; omega
  nil := h.nil
  len := h.len
  nI := h.nI
  cap := h.cap
theorem Je0 {L : List Asn} {ix : List Nat} : ∀ b ∈ Jag (ix.filterMap (L[·]?)), b ∈ Jag L := fun b hb => by
  obtain ⟨A, hA, hb⟩ := Jde.1 hb
  obtain ⟨i, _, hi⟩ := List.mem_filterMap.1 hA
  exact Jde.2 ⟨A, List.mem_of_getElem? hi, hb⟩
theorem Je9 {i : Int} : (i.tmod 2 < 0 → i.tmod 2 + 2 = i % 2) ∧ (¬ i.tmod 2 < 0 → i.tmod 2 = i % 2) := by
 rcases Int.lt_or_le i 0 with h | h
 ·have e : i.tmod 2 = -((-i) % 2) := by
    have := Int.neg_tmod (a := -i) (b := 2);rw [Int.neg_neg] at this;rw [this, Int.tmod_eq_emod_of_nonneg (by omega)]
  rw [e]; omega
 ·rw [Int.tmod_eq_emod_of_nonneg h]; omega
theorem Jfa {i : Int} : (i.tmod 3 < 0 → i.tmod 3 + 3 = i % 3) ∧ (¬ i.tmod 3 < 0 → i.tmod 3 = i % 3) := by
 rcases Int.lt_or_le i 0 with h | h
 ·have e : i.tmod 3 = -((-i) % 3) := by
    have := Int.neg_tmod (a := -i) (b := 3);rw [Int.neg_neg] at this;rw [this, Int.tmod_eq_emod_of_nonneg (by omega)]
  rw [e]; omega
 ·rw [Int.tmod_eq_emod_of_nonneg h]; omega
theorem Jqh (i : Int) (w : World) : zC 20 [zI i, zI 2] w fun e w' => e = .returned (zI (i % 2)) ∧ Mem w [] w' [] := by
 have M := Mem.nil w;go_enter Tryz.func20, Tryz.ntmps20;refine zk fun _ hK1 => zr ?_;refine zp 1 rfl (zw (hK1 _ _ (zk fun _ hK2 => zr ?_)));simp only[Za,Zb,Zc];refine zp 2 rfl (zo M (Jgy (r := i.tmod 2) rfl rfl rfl rfl (by omega) (rfl)) (zp 1 rfl (zw (hK2 _ _ (zk fun _ hK3 => zk fun _ hK4 => zr ?_)))));simp only[Za,Zb,Zc];refine zp 1 rfl ?_;simp only[Za,Zb,Zc];rcases zem (i.tmod 2 < 0) with h5 | h5
 ·refine zo M (zlss rfl (zT h5)) (zw (hK4 _ _ (zct rfl (zr ?_))));simp only[Za,Zb,Zc];refine zp 2 rfl (zo M (Ja0 (r := i.tmod 2 + 2) rfl rfl rfl rfl (rfl) (by have := (Je9 (i := i)).1; omega)) (zp 1 rfl (zw (hK3 _ _ (zk fun _ hK6 => zr ?_)))));simp only[Za,Zb,Zc];refine zp 2 rfl ?_;simp only[Za,Zb,Zc];refine zw (hK6 _ _ (zrt ?_));(try simp only[zi,zj]);refine zR (v := zI (i.tmod 2 + 2)) (res1 rfl rfl) rfl ?_;have e1 := (Je9 (i := i)).1 h5;rw [e1];exact ⟨rfl, M⟩
 ·refine zo M (zlss rfl (zF h5)) ?_;simp only[Za,Zb,Zc];refine zw (hK4 _ _ (zcf rfl (zsk (hK3 _ _ (zk fun _ hK7 => ?_)))));refine zr ?_;refine zp 2 rfl ?_;simp only[Za,Zb,Zc];refine zw (hK7 _ _ (zrt ?_));(try simp only[zi,zj]);refine zR (v := zI (i.tmod 2)) (res1 rfl rfl) rfl ?_;have e1 := (Je9 (i := i)).2 h5;rw [e1];exact ⟨rfl, M⟩
theorem Jqi (i : Int) (w : World) : zC 20 [zI i, zI 3] w fun e w' => e = .returned (zI (i % 3)) ∧ Mem w [] w' [] := by
 have M := Mem.nil w;go_enter Tryz.func20, Tryz.ntmps20;refine zk fun _ hK1 => zr ?_;refine zp 1 rfl (zw (hK1 _ _ (zk fun _ hK2 => zr ?_)));simp only[Za,Zb,Zc];refine zp 2 rfl (zo M (Jgy (r := i.tmod 3) rfl rfl rfl rfl (by omega) (rfl)) (zp 1 rfl (zw (hK2 _ _ (zk fun _ hK3 => zk fun _ hK4 => zr ?_)))));simp only[Za,Zb,Zc];refine zp 1 rfl ?_;simp only[Za,Zb,Zc];rcases zem (i.tmod 3 < 0) with h5 | h5
 ·refine zo M (zlss rfl (zT h5)) (zw (hK4 _ _ (zct rfl (zr ?_))));simp only[Za,Zb,Zc];refine zp 2 rfl (zo M (Ja0 (r := i.tmod 3 + 3) rfl rfl rfl rfl (rfl) (by have := (Jfa (i := i)).1; omega)) (zp 1 rfl (zw (hK3 _ _ (zk fun _ hK6 => zr ?_)))));simp only[Za,Zb,Zc];refine zp 2 rfl ?_;simp only[Za,Zb,Zc];refine zw (hK6 _ _ (zrt ?_));(try simp only[zi,zj]);refine zR (v := zI (i.tmod 3 + 3)) (res1 rfl rfl) rfl ?_;have e1 := (Jfa (i := i)).1 h5;rw [e1];exact ⟨rfl, M⟩
 ·refine zo M (zlss rfl (zF h5)) ?_;simp only[Za,Zb,Zc];refine zw (hK4 _ _ (zcf rfl (zsk (hK3 _ _ (zk fun _ hK7 => ?_)))));refine zr ?_;refine zp 2 rfl ?_;simp only[Za,Zb,Zc];refine zw (hK7 _ _ (zrt ?_));(try simp only[zi,zj]);refine zR (v := zI (i.tmod 3)) (res1 rfl rfl) rfl ?_;have e1 := (Jfa (i := i)).2 h5;rw [e1];exact ⟨rfl, M⟩
theorem Jqj (i : Int) (w : World) : zC 16 [zI i, zI 2] w fun e w' => e = .returned (zI (i % 2)) ∧ Mem w [] w' [] := by
 have M := Mem.nil w;go_enter Tryz.func16, Tryz.ntmps16;refine zk fun _ hK1 => zr ?_;refine zp 1 rfl (zw (hK1 _ _ (zk fun _ hK2 => zr ?_)));simp only[Za,Zb,Zc];refine zp 2 rfl (zo M (Jgy (r := i.tmod 2) rfl rfl rfl rfl (by omega) (rfl)) (zp 1 rfl (zw (hK2 _ _ (zk fun _ hK3 => zk fun _ hK4 => zr ?_)))));simp only[Za,Zb,Zc];refine zp 1 rfl ?_;simp only[Za,Zb,Zc];rcases zem (i.tmod 2 < 0) with h5 | h5
 ·refine zo M (zlss rfl (zT h5)) (zw (hK4 _ _ (zct rfl (zr ?_))));simp only[Za,Zb,Zc];refine zp 2 rfl (zo M (Ja0 (r := i.tmod 2 + 2) rfl rfl rfl rfl (rfl) (by have := (Je9 (i := i)).1; omega)) (zp 1 rfl (zw (hK3 _ _ (zk fun _ hK6 => zr ?_)))));simp only[Za,Zb,Zc];refine zp 2 rfl ?_;simp only[Za,Zb,Zc];refine zw (hK6 _ _ (zrt ?_));(try simp only[zi,zj]);refine zR (v := zI (i.tmod 2 + 2)) (res1 rfl rfl) rfl ?_;have e1 := (Je9 (i := i)).1 h5;rw [e1];exact ⟨rfl, M⟩
 ·refine zo M (zlss rfl (zF h5)) ?_;simp only[Za,Zb,Zc];refine zw (hK4 _ _ (zcf rfl (zsk (hK3 _ _ (zk fun _ hK7 => ?_)))));refine zr ?_;refine zp 2 rfl ?_;simp only[Za,Zb,Zc];refine zw (hK7 _ _ (zrt ?_));(try simp only[zi,zj]);refine zR (v := zI (i.tmod 2)) (res1 rfl rfl) rfl ?_;have e1 := (Je9 (i := i)).2 h5;rw [e1];exact ⟨rfl, M⟩
theorem Jfk (i : Int) (w : World) : zC 16 [zI i, zI 3] w fun e w' => e = .returned (zI (i % 3)) ∧ Mem w [] w' [] := by
 have M := Mem.nil w;go_enter Tryz.func16, Tryz.ntmps16;refine zk fun _ hK1 => zr ?_;refine zp 1 rfl (zw (hK1 _ _ (zk fun _ hK2 => zr ?_)));simp only[Za,Zb,Zc];refine zp 2 rfl (zo M (Jgy (r := i.tmod 3) rfl rfl rfl rfl (by omega) (rfl)) (zp 1 rfl (zw (hK2 _ _ (zk fun _ hK3 => zk fun _ hK4 => zr ?_)))));simp only[Za,Zb,Zc];refine zp 1 rfl ?_;simp only[Za,Zb,Zc];rcases zem (i.tmod 3 < 0) with h5 | h5
 ·refine zo M (zlss rfl (zT h5)) (zw (hK4 _ _ (zct rfl (zr ?_))));simp only[Za,Zb,Zc];refine zp 2 rfl (zo M (Ja0 (r := i.tmod 3 + 3) rfl rfl rfl rfl (rfl) (by have := (Jfa (i := i)).1; omega)) (zp 1 rfl (zw (hK3 _ _ (zk fun _ hK6 => zr ?_)))));simp only[Za,Zb,Zc];refine zp 2 rfl ?_;simp only[Za,Zb,Zc];refine zw (hK6 _ _ (zrt ?_));(try simp only[zi,zj]);refine zR (v := zI (i.tmod 3 + 3)) (res1 rfl rfl) rfl ?_;have e1 := (Jfa (i := i)).1 h5;rw [e1];exact ⟨rfl, M⟩
 ·refine zo M (zlss rfl (zF h5)) ?_;simp only[Za,Zb,Zc];refine zw (hK4 _ _ (zcf rfl (zsk (hK3 _ _ (zk fun _ hK7 => ?_)))));refine zr ?_;refine zp 2 rfl ?_;simp only[Za,Zb,Zc];refine zw (hK7 _ _ (zrt ?_));(try simp only[zi,zj]);refine zR (v := zI (i.tmod 3)) (res1 rfl rfl) rfl ?_;have e1 := (Jfa (i := i)).2 h5;rw [e1];exact ⟨rfl, M⟩
theorem OpZ.sub {w w' : World} {F F' : List Nat} {L : List Asn} {T : TypeId} {o : OpV} (h : OpZ w F o) (hM : Mem w F w' L) (hg : (blk 0 T (bvs Jaa)).holds w') (hF : ∀ b ∈ F', b ∈ Jag L) : OpZ w' F' o where
  row := hM.rowg h.row h.offz hg
  offz b x e hn hb := by
    rcases hM.new b (hF b hb) with h1 | h1
    · exact h.offz b x e hn h1
    · have := h.row.blk_lt2 hn b x e; omega
  nil := h.nil
  len := h.len
  nI := h.nI
  cap := h.cap
theorem Jhy {a : AnsV} {rv : Value} (h : ∃ x n c, rv = .slice x n c) : (ansC a rv).toArray.all (·.oneCell') = true := by
 obtain ⟨x, n, c, rfl⟩ := h;exact Jak _ rfl
theorem Jhz {e : TypeId} {k : Nat} {v : Value} {n : Nat} {xs : List Value} {w : World} (h : (lst e k v n xs).holds w) : ∃ x n c, v = .slice x n c := by
 obtain ⟨a, c, rfl⟩ := Jcj h;exact ⟨a, n, c, rfl⟩
theorem Jbn : (∀ {rw rds rfs cd cf : Nat} {CD CF : List Value} {w : World} (hM : zM w [blk 0 gT0 (bvs Jaa), blk rw 51 ([zS rds 2 cd, zS rfs 3 cf]), blk rds 54 CD, blk rfs 47 CF]) (o : OpV) (kd ja : Nat) (hkd : o.dk % 2 = (kd : Int)) (hja : o.fl % 3 = (ja : Int)) (dv : Value) (fv : Value) (hC : CD[kd]? = some (dv)) (hF : CF[ja]? = some (fv)) (hk : o.k < 1), zC 14 [zP rw 0, .agg ((opC o)).toArray] w fun e w' => ∃ rv, e = .returned (.agg (ansC Jay rv).toArray) ∧ zD w [blk 0 gT0 (bvs Jaa), blk rw 51 ([zS rds 2 cd, zS rfs 3 cf]), blk rds 54 CD, blk rfs 47 CF] w' [blk 0 gT0 (bvs Jaa), blk rw 51 ([zS rds 2 cd, zS rfs 3 cf]), blk rds 54 CD, blk rfs 47 CF, lst 5 1 rv (Jay).raw.length (bvs (Jay).raw)]) ∧ (∀ {rw rds rfs cd cf : Nat} {CD CF : List Value} {w : World} (hM : zM w [blk 0 gT0 (bvs Jaa), blk rw 51 ([zS rds 2 cd, zS rfs 3 cf]), blk rds 54 CD, blk rfs 47 CF]) (o : OpV) (kd ja : Nat) (hkd : o.dk % 2 = (kd : Int)) (hja : o.fl % 3 = (ja : Int)) (dv : Value) (fv : Value) (hC : CD[kd]? = some (dv)) (hF : CF[ja]? = some (fv)) (hk : 21 < o.k), zC 14 [zP rw 0, .agg ((opC o)).toArray] w fun e w' => ∃ rv, e = .returned (.agg (ansC Jay rv).toArray) ∧ zD w [blk 0 gT0 (bvs Jaa), blk rw 51 ([zS rds 2 cd, zS rfs 3 cf]), blk rds 54 CD, blk rfs 47 CF] w' [blk 0 gT0 (bvs Jaa), blk rw 51 ([zS rds 2 cd, zS rfs 3 cf]), blk rds 54 CD, blk rfs 47 CF, lst 5 1 rv (Jay).raw.length (bvs (Jay).raw)]) ∧ (∀ {rw rds rfs cd cf : Nat} {CD CF : List Value}{D : DV} {r : Nat} {X : RX}  {w : World} (hM : Mem w (Jag [blk 0 gT0 (bvs Jaa), blk rw 51 ([zS rds 2 cd, zS rfs 3 cf]), blk rds 54 CD, blk rfs 47 CF, Jai D r X]) w [blk 0 gT0 (bvs Jaa), blk rw 51 ([zS rds 2 cd, zS rfs 3 cf]), blk rds 54 CD, blk rfs 47 CF, Jai D r X]) (o : OpV) (kd ja : Nat) (hkd : o.dk % 2 = (kd : Int)) (hja : o.fl % 3 = (ja : Int)) (fv : Value) (hC : CD[kd]? = some (zP r 0)) (hF : CF[ja]? = some (fv)) (hk : o.k = 21) (hown : o.own = false) (ho : OpZ w (Jag [blk 0 gT0 (bvs Jaa), blk rw 51 ([zS rds 2 cd, zS rfs 3 cf]), blk rds 54 CD, blk rfs 47 CF, Jai D r X]) o) (hlen : X.log.length ≤ 1099511627000), zC 14 [zP rw 0, .agg ((opC o)).toArray] w fun e w' => ∃ X' rv, e = .returned (.agg (ansC ((diskOp D o).2) rv).toArray) ∧ zD w [blk 0 gT0 (bvs Jaa), blk rw 51 ([zS rds 2 cd, zS rfs 3 cf]), blk rds 54 CD, blk rfs 47 CF, Jai D r X] w' [blk 0 gT0 (bvs Jaa), blk rw 51 ([zS rds 2 cd, zS rfs 3 cf]), blk rds 54 CD, blk rfs 47 CF, Jai ((diskOp D o).1) r X', lst 5 1 rv ((diskOp D o).2).raw.length (bvs ((diskOp D o).2).raw)] ∧ X'.log.length ≤ X.log.length + 1) ∧ (∀ {rw rds rfs cd cf : Nat} {CD CF : List Value} {w : World} (hM : zM w [blk 0 gT0 (bvs Jaa), blk rw 51 ([zS rds 2 cd, zS rfs 3 cf]), blk rds 54 CD, blk rfs 47 CF]) (o : OpV) (kd ja : Nat) (hkd : o.dk % 2 = (kd : Int)) (hja : o.fl % 3 = (ja : Int)) (fv : Value) (hC : CD[kd]? = some (.pointer none)) (hF : CF[ja]? = some (fv)) (hk : o.k = 21) (hown : o.own = false), zC 14 [zP rw 0, .agg ((opC o)).toArray] w fun e w' => ∃ rv, e = .returned (.agg (ansC Jay rv).toArray) ∧ zD w [blk 0 gT0 (bvs Jaa), blk rw 51 ([zS rds 2 cd, zS rfs 3 cf]), blk rds 54 CD, blk rfs 47 CF] w' [blk 0 gT0 (bvs Jaa), blk rw 51 ([zS rds 2 cd, zS rfs 3 cf]), blk rds 54 CD, blk rfs 47 CF, lst 5 1 rv (Jay).raw.length (bvs (Jay).raw)]) ∧ (∀ {rw rds rfs cd cf : Nat} {CD CF : List Value}{D : DV} {V : FV} {r f : Nat} {X : RX}  {w : World} (hM : Mem w (Jag [blk 0 gT0 (bvs Jaa), blk rw 51 ([zS rds 2 cd, zS rfs 3 cf]), blk rds 54 CD, blk rfs 47 CF, Jai D r X, blk f 67 (fC V r)]) w [blk 0 gT0 (bvs Jaa), blk rw 51 ([zS rds 2 cd, zS rfs 3 cf]), blk rds 54 CD, blk rfs 47 CF, Jai D r X, blk f 67 (fC V r)]) (o : OpV) (kd ja : Nat) (hkd : o.dk % 2 = (kd : Int)) (hja : o.fl % 3 = (ja : Int)) (dv : Value) (hC : CD[kd]? = some (dv)) (hF : CF[ja]? = some (zP f 0)) (hk : 10 ≤ o.k ∧ o.k < 21) (hown : o.own = false) (ho : OpZ w (Jag [blk 0 gT0 (bvs Jaa), blk rw 51 ([zS rds 2 cd, zS rfs 3 cf]), blk rds 54 CD, blk rfs 47 CF, Jai D r X, blk f 67 (fC V r)]) o) (hlen : X.log.length ≤ 1099511627000), zC 14 [zP rw 0, .agg ((opC o)).toArray] w fun e w' => ∃ X' rv, e = .returned (.agg (ansC ((diskOp D o).2) rv).toArray) ∧ zD w [blk 0 gT0 (bvs Jaa), blk rw 51 ([zS rds 2 cd, zS rfs 3 cf]), blk rds 54 CD, blk rfs 47 CF, Jai D r X, blk f 67 (fC V r)] w' [blk 0 gT0 (bvs Jaa), blk rw 51 ([zS rds 2 cd, zS rfs 3 cf]), blk rds 54 CD, blk rfs 47 CF, Jai ((diskOp D o).1) r X', blk f 67 (fC V r), lst 5 1 rv ((diskOp D o).2).raw.length (bvs ((diskOp D o).2).raw)] ∧ X'.log.length ≤ X.log.length + 1) ∧ (∀ {rw rds rfs cd cf : Nat} {CD CF : List Value} {w : World} (hM : zM w [blk 0 gT0 (bvs Jaa), blk rw 51 ([zS rds 2 cd, zS rfs 3 cf]), blk rds 54 CD, blk rfs 47 CF]) (o : OpV) (kd ja : Nat) (hkd : o.dk % 2 = (kd : Int)) (hja : o.fl % 3 = (ja : Int)) (dv : Value) (hC : CD[kd]? = some (dv)) (hF : CF[ja]? = some (.pointer none)) (hk : 10 ≤ o.k ∧ o.k < 21) (hown : o.own = false), zC 14 [zP rw 0, .agg ((opC o)).toArray] w fun e w' => ∃ rv, e = .returned (.agg (ansC Jay rv).toArray) ∧ zD w [blk 0 gT0 (bvs Jaa), blk rw 51 ([zS rds 2 cd, zS rfs 3 cf]), blk rds 54 CD, blk rfs 47 CF] w' [blk 0 gT0 (bvs Jaa), blk rw 51 ([zS rds 2 cd, zS rfs 3 cf]), blk rds 54 CD, blk rfs 47 CF, lst 5 1 rv (Jay).raw.length (bvs (Jay).raw)]) ∧ (∀ {rw rds rfs cd cf : Nat} {CD CF : List Value}{D : DV} {r : Nat} {X : RX}  {w : World} (hM : Mem w (Jag [blk 0 gT0 (bvs Jaa), blk rw 51 ([zS rds 2 cd, zS rfs 3 cf]), blk rds 54 CD, blk rfs 47 CF, Jai D r X]) w [blk 0 gT0 (bvs Jaa), blk rw 51 ([zS rds 2 cd, zS rfs 3 cf]), blk rds 54 CD, blk rfs 47 CF, Jai D r X]) (o : OpV) (kd ja : Nat) (hkd : o.dk % 2 = (kd : Int)) (hja : o.fl % 3 = (ja : Int)) (fv : Value) (hC : CD[kd]? = some (zP r 0)) (hF : CF[ja]? = some (fv)) (hk : 10 ≤ o.k ∧ o.k ≤ 21) (hown : o.own = true) (ho : OpZ w (Jag [blk 0 gT0 (bvs Jaa), blk rw 51 ([zS rds 2 cd, zS rfs 3 cf]), blk rds 54 CD, blk rfs 47 CF, Jai D r X]) o) (hlen : X.log.length ≤ 1099511627000), zC 14 [zP rw 0, .agg ((opC o)).toArray] w fun e w' => ∃ X' rv, e = .returned (.agg (ansC ((diskOp D o).2) rv).toArray) ∧ zD w [blk 0 gT0 (bvs Jaa), blk rw 51 ([zS rds 2 cd, zS rfs 3 cf]), blk rds 54 CD, blk rfs 47 CF, Jai D r X] w' [blk 0 gT0 (bvs Jaa), blk rw 51 ([zS rds 2 cd, zS rfs 3 cf]), blk rds 54 CD, blk rfs 47 CF, Jai ((diskOp D o).1) r X', lst 5 1 rv ((diskOp D o).2).raw.length (bvs ((diskOp D o).2).raw)] ∧ X'.log.length ≤ X.log.length + 1) ∧ (∀ {rw rds rfs cd cf : Nat} {CD CF : List Value} {w : World} (hM : zM w [blk 0 gT0 (bvs Jaa), blk rw 51 ([zS rds 2 cd, zS rfs 3 cf]), blk rds 54 CD, blk rfs 47 CF]) (o : OpV) (kd ja : Nat) (hkd : o.dk % 2 = (kd : Int)) (hja : o.fl % 3 = (ja : Int)) (fv : Value) (hC : CD[kd]? = some (.pointer none)) (hF : CF[ja]? = some (fv)) (hk : 10 ≤ o.k ∧ o.k ≤ 21) (hown : o.own = true), zC 14 [zP rw 0, .agg ((opC o)).toArray] w fun e w' => ∃ rv, e = .returned (.agg (ansC Jay rv).toArray) ∧ zD w [blk 0 gT0 (bvs Jaa), blk rw 51 ([zS rds 2 cd, zS rfs 3 cf]), blk rds 54 CD, blk rfs 47 CF] w' [blk 0 gT0 (bvs Jaa), blk rw 51 ([zS rds 2 cd, zS rfs 3 cf]), blk rds 54 CD, blk rfs 47 CF, lst 5 1 rv (Jay).raw.length (bvs (Jay).raw)]) ∧ (∀ {rw rds rfs cd cf : Nat} {CD CF : List Value}{D : DV} {V : FV} {r f : Nat} {X : RX}  {w : World} (hM : Mem w (Jag [blk 0 gT0 (bvs Jaa), blk rw 51 ([zS rds 2 cd, zS rfs 3 cf]), blk rds 54 CD, blk rfs 47 CF, Jai D r X, blk f 67 (fC V r)]) w [blk 0 gT0 (bvs Jaa), blk rw 51 ([zS rds 2 cd, zS rfs 3 cf]), blk rds 54 CD, blk rfs 47 CF, Jai D r X, blk f 67 (fC V r)]) (o : OpV) (kd ja : Nat) (hkd : o.dk % 2 = (kd : Int)) (hja : o.fl % 3 = (ja : Int)) (dv : Value) (hC : CD[kd]? = some (dv)) (hF : CF[ja]? = some (zP f 0)) (hk : 3 ≤ o.k ∧ o.k ≤ 9) (ho : OpZ w (Jag [blk 0 gT0 (bvs Jaa), blk rw 51 ([zS rds 2 cd, zS rfs 3 cf]), blk rds 54 CD, blk rfs 47 CF, Jai D r X, blk f 67 (fC V r)]) o) (hV : FOk D V) (hlen : X.log.length ≤ 1099511627000), zC 14 [zP rw 0, .agg ((opC o)).toArray] w fun e w' => ∃ X' rv, e = .returned (.agg (ansC ((fileOp D V o).2.2) rv).toArray) ∧ zD w [blk 0 gT0 (bvs Jaa), blk rw 51 ([zS rds 2 cd, zS rfs 3 cf]), blk rds 54 CD, blk rfs 47 CF, Jai D r X, blk f 67 (fC V r)] w' [blk 0 gT0 (bvs Jaa), blk rw 51 ([zS rds 2 cd, zS rfs 3 cf]), blk rds 54 CD, blk rfs 47 CF, Jai ((fileOp D V o).1) r X', blk f 67 (fC ((fileOp D V o).2.1) r), lst 5 1 rv ((fileOp D V o).2.2).raw.length (bvs ((fileOp D V o).2.2).raw)] ∧ X'.log.length ≤ X.log.length + 3) ∧ (∀ {rw rds rfs cd cf : Nat} {CD CF : List Value} {w : World} (hM : zM w [blk 0 gT0 (bvs Jaa), blk rw 51 ([zS rds 2 cd, zS rfs 3 cf]), blk rds 54 CD, blk rfs 47 CF]) (o : OpV) (kd ja : Nat) (hkd : o.dk % 2 = (kd : Int)) (hja : o.fl % 3 = (ja : Int)) (dv : Value) (hC : CD[kd]? = some (dv)) (hF : CF[ja]? = some (.pointer none)) (hk : 3 ≤ o.k ∧ o.k ≤ 9), zC 14 [zP rw 0, .agg ((opC o)).toArray] w fun e w' => ∃ rv, e = .returned (.agg (ansC Jay rv).toArray) ∧ zD w [blk 0 gT0 (bvs Jaa), blk rw 51 ([zS rds 2 cd, zS rfs 3 cf]), blk rds 54 CD, blk rfs 47 CF] w' [blk 0 gT0 (bvs Jaa), blk rw 51 ([zS rds 2 cd, zS rfs 3 cf]), blk rds 54 CD, blk rfs 47 CF, lst 5 1 rv (Jay).raw.length (bvs (Jay).raw)]) ∧ (∀ {rw rds rfs cd cf : Nat} {CD CF : List Value}{D : DV} {r : Nat} {X : RX}  {w : World} (hM : Mem w (Jag [blk 0 gT0 (bvs Jaa), blk rw 51 ([zS rds 2 cd, zS rfs 3 cf]), blk rds 54 CD, blk rfs 47 CF, Jai D r X]) w [blk 0 gT0 (bvs Jaa), blk rw 51 ([zS rds 2 cd, zS rfs 3 cf]), blk rds 54 CD, blk rfs 47 CF, Jai D r X]) (o : OpV) (kd ja : Nat) (hkd : o.dk % 2 = (kd : Int)) (hja : o.fl % 3 = (ja : Int)) (fv : Value) (hC : CD[kd]? = some (zP r 0)) (hF : CF[ja]? = some (fv)) (hk : o.k = 2) (hO : Jbx D = 0) (hlen : X.log.length ≤ 1099511627000), zC 14 [zP rw 0, .agg ((opC o)).toArray] w fun e w' => ∃ f rv, e = .returned (.agg (ansC ({ Jay with e := 0 } : AnsV) rv).toArray) ∧ zD w [blk 0 gT0 (bvs Jaa), blk rw 51 ([zS rds 2 cd, zS rfs 3 cf]), blk rds 54 CD, blk rfs 47 CF, Jai D r X] w' [blk 0 gT0 (bvs Jaa), blk rw 51 ([zS rds 2 cd, zS rfs 3 cf]), blk rds 54 CD, blk rfs 47 (CF.set ja (zP f 0)), Jai (Jce D) r X, blk f 67 (fC (Jd5 D) r), lst 5 1 rv (({ Jay with e := 0 } : AnsV)).raw.length (bvs (({ Jay with e := 0 } : AnsV)).raw)]) ∧ (∀ {rw rds rfs cd cf : Nat} {CD CF : List Value}{D : DV} {r : Nat} {X : RX}  {w : World} (hM : Mem w (Jag [blk 0 gT0 (bvs Jaa), blk rw 51 ([zS rds 2 cd, zS rfs 3 cf]), blk rds 54 CD, blk rfs 47 CF, Jai D r X]) w [blk 0 gT0 (bvs Jaa), blk rw 51 ([zS rds 2 cd, zS rfs 3 cf]), blk rds 54 CD, blk rfs 47 CF, Jai D r X]) (o : OpV) (kd ja : Nat) (hkd : o.dk % 2 = (kd : Int)) (hja : o.fl % 3 = (ja : Int)) (fv : Value) (hC : CD[kd]? = some (zP r 0)) (hF : CF[ja]? = some (fv)) (hk : o.k = 2) (hO : Jbx D ≠ 0) (hlen : X.log.length ≤ 1099511627000), zC 14 [zP rw 0, .agg ((opC o)).toArray] w fun e w' => ∃ rv, e = .returned (.agg (ansC ({ Jay with e := Jbx D } : AnsV) rv).toArray) ∧ zD w [blk 0 gT0 (bvs Jaa), blk rw 51 ([zS rds 2 cd, zS rfs 3 cf]), blk rds 54 CD, blk rfs 47 CF, Jai D r X] w' [blk 0 gT0 (bvs Jaa), blk rw 51 ([zS rds 2 cd, zS rfs 3 cf]), blk rds 54 CD, blk rfs 47 CF, Jai (Jce D) r X, lst 5 1 rv (({ Jay with e := Jbx D } : AnsV)).raw.length (bvs (({ Jay with e := Jbx D } : AnsV)).raw)]) ∧ (∀ {rw rds rfs cd cf : Nat} {CD CF : List Value} {w : World} (hM : zM w [blk 0 gT0 (bvs Jaa), blk rw 51 ([zS rds 2 cd, zS rfs 3 cf]), blk rds 54 CD, blk rfs 47 CF]) (o : OpV) (kd ja : Nat) (hkd : o.dk % 2 = (kd : Int)) (hja : o.fl % 3 = (ja : Int)) (fv : Value) (hC : CD[kd]? = some (.pointer none)) (hF : CF[ja]? = some (fv)) (hk : o.k = 2), zC 14 [zP rw 0, .agg ((opC o)).toArray] w fun e w' => ∃ rv, e = .returned (.agg (ansC ({ Jay with e := 1 } : AnsV) rv).toArray) ∧ zD w [blk 0 gT0 (bvs Jaa), blk rw 51 ([zS rds 2 cd, zS rfs 3 cf]), blk rds 54 CD, blk rfs 47 CF] w' [blk 0 gT0 (bvs Jaa), blk rw 51 ([zS rds 2 cd, zS rfs 3 cf]), blk rds 54 CD, blk rfs 47 CF, lst 5 1 rv (({ Jay with e := 1 } : AnsV)).raw.length (bvs (({ Jay with e := 1 } : AnsV)).raw)]) ∧ (∀ {rw rds rfs cd cf : Nat} {CD CF : List Value}{D : DV} {r : Nat} {X : RX}  {w : World} (hM : Mem w (Jag [blk 0 gT0 (bvs Jaa), blk rw 51 ([zS rds 2 cd, zS rfs 3 cf]), blk rds 54 CD, blk rfs 47 CF, Jai D r X]) w [blk 0 gT0 (bvs Jaa), blk rw 51 ([zS rds 2 cd, zS rfs 3 cf]), blk rds 54 CD, blk rfs 47 CF, Jai D r X]) (o : OpV) (kd ja : Nat) (hkd : o.dk % 2 = (kd : Int)) (hja : o.fl % 3 = (ja : Int)) (fv : Value) (hC : CD[kd]? = some (zP r 0)) (hF : CF[ja]? = some (fv)) (hk : o.k = 1) (hlen : X.log.length ≤ 1099511627000), zC 14 [zP rw 0, .agg ((opC o)).toArray] w fun e w' => ∃ X' rv, e = .returned (.agg (ansC ({ Jay with e := (Jat D o.n).2 } : AnsV) rv).toArray) ∧ zD w [blk 0 gT0 (bvs Jaa), blk rw 51 ([zS rds 2 cd, zS rfs 3 cf]), blk rds 54 CD, blk rfs 47 CF, Jai D r X] w' [blk 0 gT0 (bvs Jaa), blk rw 51 ([zS rds 2 cd, zS rfs 3 cf]), blk rds 54 CD, blk rfs 47 CF, Jai ((Jat D o.n).1) r X', lst 5 1 rv (({ Jay with e := (Jat D o.n).2 } : AnsV)).raw.length (bvs (({ Jay with e := (Jat D o.n).2 } : AnsV)).raw)] ∧ X'.log.length ≤ X.log.length + 4) ∧ (∀ {rw rds rfs cd cf : Nat} {CD CF : List Value} {w : World} (hM : zM w [blk 0 gT0 (bvs Jaa), blk rw 51 ([zS rds 2 cd, zS rfs 3 cf]), blk rds 54 CD, blk rfs 47 CF]) (o : OpV) (kd ja : Nat) (hkd : o.dk % 2 = (kd : Int)) (hja : o.fl % 3 = (ja : Int)) (fv : Value) (hC : CD[kd]? = some (.pointer none)) (hF : CF[ja]? = some (fv)) (hk : o.k = 1), zC 14 [zP rw 0, .agg ((opC o)).toArray] w fun e w' => ∃ rv, e = .returned (.agg (ansC ({ Jay with e := 1 } : AnsV) rv).toArray) ∧ zD w [blk 0 gT0 (bvs Jaa), blk rw 51 ([zS rds 2 cd, zS rfs 3 cf]), blk rds 54 CD, blk rfs 47 CF] w' [blk 0 gT0 (bvs Jaa), blk rw 51 ([zS rds 2 cd, zS rfs 3 cf]), blk rds 54 CD, blk rfs 47 CF, lst 5 1 rv (({ Jay with e := 1 } : AnsV)).raw.length (bvs (({ Jay with e := 1 } : AnsV)).raw)]) := by
 refine ⟨@fun rw rds rfs cd cf CD CF w hM o kd ja hkd hja dv fv hC hF hk => ?_, @fun rw rds rfs cd cf CD CF w hM o kd ja hkd hja dv fv hC hF hk => ?_, @fun rw rds rfs cd cf CD CF D r X w hM o kd ja hkd hja fv hC hF hk hown ho hlen => ?_, @fun rw rds rfs cd cf CD CF w hM o kd ja hkd hja fv hC hF hk hown => ?_, @fun rw rds rfs cd cf CD CF D V r f X w hM o kd ja hkd hja dv hC hF hk hown ho hlen => ?_, @fun rw rds rfs cd cf CD CF w hM o kd ja hkd hja dv hC hF hk hown => ?_, @fun rw rds rfs cd cf CD CF D r X w hM o kd ja hkd hja fv hC hF hk hown ho hlen => ?_, @fun rw rds rfs cd cf CD CF w hM o kd ja hkd hja fv hC hF hk hown => ?_, @fun rw rds rfs cd cf CD CF D V r f X w hM o kd ja hkd hja dv hC hF hk ho hV hlen => ?_, @fun rw rds rfs cd cf CD CF w hM o kd ja hkd hja dv hC hF hk => ?_, @fun rw rds rfs cd cf CD CF D r X w hM o kd ja hkd hja fv hC hF hk hO hlen => ?_, @fun rw rds rfs cd cf CD CF D r X w hM o kd ja hkd hja fv hC hF hk hO hlen => ?_, @fun rw rds rfs cd cf CD CF w hM o kd ja hkd hja fv hC hF hk => ?_, @fun rw rds rfs cd cf CD CF D r X w hM o kd ja hkd hja fv hC hF hk hlen => ?_, @fun rw rds rfs cd cf CD CF w hM o kd ja hkd hja fv hC hF hk => ?_⟩
 all_goals (have M := hM;clear hM;go_enter Tryz.func14, Tryz.ntmps14;refine zk fun _ hK1 => zr ?_;refine zbx M (opC o) rfl fun go w2 M2 => ?_;clear M;simp only[Za,Zb,Zc];refine zal M2 ([zI 0, zI 0, zN, zI 0, zI 0, zI 0, zI 0, zI 0, zI 0, zI 0, zI 0, zI 0]) rfl Jdi fun ga w3 M3 => ?_;simp only[Za,Zb,Zc];refine zw (hK1 _ _ (zk fun _ hK4 => ?_));have M5 := M3.drew;refine zhb M5 (by kernel_rfl) fun hS => ?_;refine zt 0 rfl (zy rfl) hS (zt 1 rfl (zy rfl) hS (zt 2 rfl (zf 0 zu51 rfl zz48) hS (zt 3 rfl (zl 3 rfl zg48) hS ?_)));simp only[Za,Zb,Zc];refine zt 4 rfl (zf 1 zu37 rfl zz3) hS (zt 5 rfl (zl 1 rfl zg3) hS ?_);simp only[Za,Zb,Zc];have hP2 := Jqh (o.dk) (w3.drew);rw [hkd] at hP2;refine Jae 6 (by kernel_rfl) rfl (by rfl) (fun K hK => ?_);refine Jap 20 [zI o.dk, zI 2] rfl rfl Tryz.call20 (hP2) ?_;rintro e w6 ⟨rfl, H6⟩;have M6 := M5.st0 H6;refine ⟨_, rfl, ?_⟩;refine hK.out _ _ M6 (fun hS => ?_);simp only[Ze,Zb,Zc,Zd];refine zt 7 rfl (Jbc (r := kd) rfl rfl rfl rfl zu48 zz54 (by omega) (by omega)) hS (zt 8 rfl (zm 4 rfl zg54 (hC)) hS (zt 9 rfl (zy rfl) hS ?_));simp only[Za,Zb,Zc];refine Jao (by kernel_rfl) (hK4 _ _ ?_) _;refine zk fun _ hK7 => zr ?_;refine zfl M6 2 zu37 rfl zz3 1 rfl zg3 ?_;simp only[Za,Zb,Zc];have hP3 := Jqi (o.fl) (w6);rw [hja] at hP3;refine zcl M6 20 _ rfl Tryz.call20 (hP3) fun w8 M8 => ?_;simp only[Za,Zb,Zc];refine zp 1 rfl (zw (hK7 _ _ (zk fun _ hK9 => zr ?_)));simp only[Za,Zb,Zc];refine zp 2 rfl (zfl M8 1 zu51 rfl zz49 3 rfl zg49 ?_);simp only[Za,Zb,Zc];refine zp 1 rfl (zo M8 (Jbc (r := ja) rfl rfl rfl rfl zu49 zz47 (by omega) (by omega)) (zo M8 (zm 5 rfl zg47 (hF)) (zp 1 rfl (zw (hK9 _ _ (zk fun _ hK10 => zbl (zk fun _ hK11 => zr ?_)))))));simp only[Za,Zb,Zc])
 iterate 13 (refine zfl M8 0 zu37 rfl zz3 1 rfl zg3 (zo M8 (zeql rfl (zF (by omega))) (zp 1 rfl (zw (hK11 _ _ (zcf rfl (zk fun _ hK12 => zr ?_))))));simp only[Za,Zb,Zc];rotate_left)
 rotate_right 13
 iterate 10 (refine zfl M8 0 zu37 rfl zz3 1 rfl zg3 (zo M8 (zeql rfl (zF (by omega))) (zp 1 rfl (zw (hK12 _ _ (zcf rfl (zk fun _ hK13 => zr ?_))))));simp only[Za,Zb,Zc];rotate_left)
 rotate_right 10
 ·refine zfl M8 0 zu37 rfl zz3 1 rfl zg3 (zo M8 (zgeq rfl (zF (by omega))) (zp 1 rfl ?_));simp only[Za,Zb,Zc];refine zp 4 rfl ?_;simp only[Za,Zb,Zc];refine zp 1 rfl (zw (hK13 _ _ (zcf rfl (zk fun _ hK14 => zr ?_))));simp only[Za,Zb,Zc];refine zfl M8 0 zu37 rfl zz3 1 rfl zg3 (zo M8 (zgeq rfl (zF (by omega))) (zp 1 rfl ?_));simp only[Za,Zb,Zc];refine zp 4 rfl ?_;simp only[Za,Zb,Zc];refine zp 1 rfl ?_;simp only[Za,Zb,Zc];refine zw (hK14 _ _ (zcf rfl (zsk (hK10 _ _ (zk fun _ hK15 => ?_)))));refine zr ?_;refine zo M8 (Jaf (ps := []) (pv := []) (cs := [zI 0, zI 0, zN, zI 0, zI 0, zI 0, zI 0, zI 0, zI 0, zI 0, zI 0, zI 0]) rfl rfl rfl (by kernel_rfl)) ?_;simp only[Za,Zb,Zc];refine zsw M8 0 rfl Jad (Jak _ rfl) rfl fun w16 M16 => ?_;simp only[Zg,Zh]at M16;simp only[Zv];refine zw (hK15 _ _ (zrt ?_));(try simp only[zi,zj]);refine zR (Jbu _ rfl rfl rfl (M16.get 0 rfl) zu43 Jad) rfl ?_;exact ⟨_, rfl, ((M16.nilst 5 1).arr [3, 4, 5, 6, 0] (by decide))⟩
 iterate 9 (refine zfl M8 0 zu37 rfl zz3 1 rfl zg3 (zo M8 (zgeq rfl (zT (by omega))) (zp 1 rfl ?_));simp only[Za,Zb,Zc];rotate_left)
 rotate_right 9
 iterate 7 (refine zfl M8 0 zu37 rfl zz3 1 rfl zg3 (zo M8 (zleq rfl (zF (by omega))) (zp 1 rfl ?_));simp only[Za,Zb,Zc];refine zp 1 rfl (zw (hK13 _ _ (zcf rfl (zk fun _ hK14 => zr ?_))));simp only[Za,Zb,Zc];refine zfl M8 0 zu37 rfl zz3 1 rfl zg3 (zo M8 (zgeq rfl (zT (by omega))) (zp 1 rfl ?_));simp only[Za,Zb,Zc];rotate_left)
 rotate_right 7
 ·refine zfl M8 0 zu37 rfl zz3 1 rfl zg3 (zo M8 (zleq rfl (zF (by omega))) (zp 1 rfl ?_));simp only[Za,Zb,Zc];refine zp 1 rfl ?_;simp only[Za,Zb,Zc];refine zw (hK14 _ _ (zcf rfl (zsk (hK10 _ _ (zk fun _ hK15 => ?_)))));refine zr ?_;refine zo M8 (Jaf (ps := []) (pv := []) (cs := [zI 0, zI 0, zN, zI 0, zI 0, zI 0, zI 0, zI 0, zI 0, zI 0, zI 0, zI 0]) rfl rfl rfl (by kernel_rfl)) ?_;simp only[Za,Zb,Zc];refine zsw M8 0 rfl Jad (Jak _ rfl) rfl fun w16 M16 => ?_;simp only[Zg,Zh]at M16;simp only[Zv];refine zw (hK15 _ _ (zrt ?_));(try simp only[zi,zj]);refine zR (Jbu _ rfl rfl rfl (M16.get 0 rfl) zu43 Jad) rfl ?_;exact ⟨_, rfl, ((M16.nilst 5 1).arr [3, 4, 5, 6, 0] (by decide))⟩
 iterate 6 (refine zfl M8 0 zu37 rfl zz3 1 rfl zg3 (zo M8 (zleq rfl (zT (by omega))) (zp 1 rfl ?_));simp only[Za,Zb,Zc];refine zp 1 rfl (zw (hK14 _ _ (zct rfl (zk fun _ hK15 => zk fun _ hK16 => zr ?_))));simp only[Za,Zb,Zc];refine zo M8 (zf 3 zu37 rfl zz4) (zo M8 (zm 1 rfl zg4 (congrArg (fun b => some (Value.bool b)) hown)) (zp 2 rfl ?_));simp only[Za,Zb,Zc];rotate_left)
 rotate_right 6
 iterate 2 (refine zfl M8 0 zu37 rfl zz3 1 rfl zg3 (zo M8 (zneq (b := false) rfl (by rw [decide_eq_true (by omega)]; rfl)) (zp 1 rfl ?_));simp only[Za,Zb,Zc];refine zw (hK16 _ _ (zcf rfl (zsk (hK15 _ _ (zk fun _ hK17 => ?_)))));refine zk fun _ hK18 => zr ?_;rotate_left)
 rotate_right 2
 ·refine zp 1 rfl (zo M8 (Ja9 (r := false) rfl rfl rfl rfl zu54 rfl) ?_);simp only[Za,Zb,Zc];refine zw (hK18 _ _ (zcf rfl (zsk (hK17 _ _ (zk fun _ hK19 => ?_)))));refine zr ?_;refine zp 1 rfl (zo M8 (zlb 1 rfl zu37 rfl Jek) ?_);simp only[Za,Zb,Zc];have h0f : 0 ∉ Jag [Jai D r X] := Mem.zero_off (M8.arr [2, 6] (by decide));have ho2 : OpOk w8 (Jag [Jai D r X]) o := (show OpZ w8 (Jag [Jai D r X]) o from OpZ.sub ho M8 (M8.all (blk 0 gT0 (bvs Jaa)) (by simp)) (Je0 (L := [blk ga 43 ([zI 0, zI 0, zN, zI 0, zI 0, zI 0, zI 0, zI 0, zI 0, zI 0, zI 0, zI 0]), blk go 37 (opC o), blk 0 gT0 (bvs Jaa), blk rw 51 ([zS rds 2 cd, zS rfs 3 cf]), blk rds 54 CD, blk rfs 47 CF, Jai D r X]) (ix := [6]))).toOk h0f;have hX20 := M8.pk [6, 0, 1, 2, 3, 4, 5];simp only[Y3,Y4,Y1,Y2]at hX20;have hCH20 := Ji2 hX20.h1 o ho2 hlen;refine zca 24 _ rfl Tryz.call24 (hCH20) ?_;rintro e w20 ⟨X2, rv, rfl, H20, hl2⟩;have M20 := hX20.f1 H20;simp only[Y1,Y2]at M20;refine ⟨_, rfl, ?_⟩;simp only[Za,Zb,Zc];have hrv := Jhz (M20.get 1 rfl);refine zsw M20 2 rfl Jad (Jhy hrv) rfl fun w21 M21 => ?_;simp only[Zg,Zh]at M21;simp only[Zv];refine zw (hK19 _ _ (zrt ?_));(try simp only[zi,zj]);refine zR (Jbu _ rfl rfl rfl (M21.get 2 rfl) zu43 Jad) rfl ?_;exact ⟨_, _, rfl, M21.arr [4, 5, 6, 7, 0, 1] (by decide), hl2⟩
 ·refine zp 1 rfl (zo M8 (Ja9 (r := true) rfl rfl rfl rfl zu54 rfl) (zw (hK18 _ _ (zct rfl (zk fun _ hK19 => zr (zo M8 (Jaf (ps := []) (pv := []) (cs := [zI 0, zI 0, zN, zI 0, zI 0, zI 0, zI 0, zI 0, zI 0, zI 0, zI 0, zI 0]) rfl rfl rfl (by kernel_rfl)) ?_))))));simp only[Za,Zb,Zc];refine zsw M8 0 rfl Jad (Jak _ rfl) rfl fun w20 M20 => ?_;simp only[Zg,Zh]at M20;simp only[Zv];refine zw (hK19 _ _ (zrt ?_));(try simp only[zi,zj]);refine zR (Jbu _ rfl rfl rfl (M20.get 0 rfl) zu43 Jad) rfl ?_;exact ⟨_, rfl, ((M20.nilst 5 1).arr [3, 4, 5, 6, 0] (by decide))⟩
 iterate 2 (refine zfl M8 0 zu37 rfl zz3 1 rfl zg3 (zo M8 (zneq (b := true) rfl (by rw [decide_eq_false (by omega)]; rfl)) (zp 1 rfl (zw (hK16 _ _ (zct rfl (zk fun _ hK17 => zk fun _ hK18 => zr ?_))))));simp only[Za,Zb,Zc];rotate_left)
 rotate_right 2
 ·refine zp 1 rfl (zo M8 (Ja9 (r := false) rfl rfl rfl rfl zu47 rfl) (zw (hK18 _ _ (zcf rfl (zsk (hK17 _ _ (zr ?_)))))));simp only[Za,Zb,Zc];refine zp 2 rfl (zfl M8 0 zu67 rfl zz54 7 rfl zg54 ?_);simp only[Za,Zb,Zc];refine zp 1 rfl (zw (hK15 _ _ (zk fun _ hK19 => zk fun _ hK20 => zr (zp 1 rfl (zo M8 (Ja9 (r := false) rfl rfl rfl rfl zu54 rfl) ?_)))));simp only[Za,Zb,Zc];refine zw (hK20 _ _ (zcf rfl (zsk (hK19 _ _ (zk fun _ hK21 => ?_)))));refine zr ?_;refine zp 1 rfl (zo M8 (zlb 1 rfl zu37 rfl Jek) ?_);simp only[Za,Zb,Zc];have h0f : 0 ∉ Jag [Jai D r X] := Mem.zero_off (M8.arr [2, 6] (by decide));have ho2 : OpOk w8 (Jag [Jai D r X]) o := (show OpZ w8 (Jag [Jai D r X]) o from OpZ.sub ho M8 (M8.all (blk 0 gT0 (bvs Jaa)) (by simp)) (Je0 (L := [blk ga 43 ([zI 0, zI 0, zN, zI 0, zI 0, zI 0, zI 0, zI 0, zI 0, zI 0, zI 0, zI 0]), blk go 37 (opC o), blk 0 gT0 (bvs Jaa), blk rw 51 ([zS rds 2 cd, zS rfs 3 cf]), blk rds 54 CD, blk rfs 47 CF, Jai D r X, blk f 67 (fC V r)]) (ix := [6]))).toOk h0f;have hX22 := M8.pk [6, 0, 1, 2, 3, 4, 5, 7];simp only[Y3,Y4,Y1,Y2]at hX22;have hCH22 := Ji2 hX22.h1 o ho2 hlen;refine zca 24 _ rfl Tryz.call24 (hCH22) ?_;rintro e w22 ⟨X2, rv, rfl, H22, hl2⟩;have M22 := hX22.f1 H22;simp only[Y1,Y2]at M22;refine ⟨_, rfl, ?_⟩;simp only[Za,Zb,Zc];have hrv := Jhz (M22.get 1 rfl);refine zsw M22 2 rfl Jad (Jhy hrv) rfl fun w23 M23 => ?_;simp only[Zg,Zh]at M23;simp only[Zv];refine zw (hK21 _ _ (zrt ?_));(try simp only[zi,zj]);refine zR (Jbu _ rfl rfl rfl (M23.get 2 rfl) zu43 Jad) rfl ?_;exact ⟨_, _, rfl, M23.arr [4, 5, 6, 7, 0, 8, 1] (by decide), hl2⟩
 ·refine zp 1 rfl (zo M8 (Ja9 (r := true) rfl rfl rfl rfl zu47 rfl) (zw (hK18 _ _ (zct rfl (zk fun _ hK19 => zr (zo M8 (Jaf (ps := []) (pv := []) (cs := [zI 0, zI 0, zN, zI 0, zI 0, zI 0, zI 0, zI 0, zI 0, zI 0, zI 0, zI 0]) rfl rfl rfl (by kernel_rfl)) ?_))))));simp only[Za,Zb,Zc];refine zsw M8 0 rfl Jad (Jak _ rfl) rfl fun w20 M20 => ?_;simp only[Zg,Zh]at M20;simp only[Zv];refine zw (hK19 _ _ (zrt ?_));(try simp only[zi,zj]);refine zR (Jbu _ rfl rfl rfl (M20.get 0 rfl) zu43 Jad) rfl ?_;exact ⟨_, rfl, ((M20.nilst 5 1).arr [3, 4, 5, 6, 0] (by decide))⟩
 iterate 2 (refine zp 4 rfl ?_;simp only[Za,Zb,Zc];refine zw (hK16 _ _ (zcf rfl (zsk (hK15 _ _ (zk fun _ hK17 => ?_)))));refine zk fun _ hK18 => zr ?_;rotate_left)
 rotate_right 2
 ·refine zp 1 rfl (zo M8 (Ja9 (r := false) rfl rfl rfl rfl zu54 rfl) ?_);simp only[Za,Zb,Zc];refine zw (hK18 _ _ (zcf rfl (zsk (hK17 _ _ (zk fun _ hK19 => ?_)))));refine zr ?_;refine zp 1 rfl (zo M8 (zlb 1 rfl zu37 rfl Jek) ?_);simp only[Za,Zb,Zc];have h0f : 0 ∉ Jag [Jai D r X] := Mem.zero_off (M8.arr [2, 6] (by decide));have ho2 : OpOk w8 (Jag [Jai D r X]) o := (show OpZ w8 (Jag [Jai D r X]) o from OpZ.sub ho M8 (M8.all (blk 0 gT0 (bvs Jaa)) (by simp)) (Je0 (L := [blk ga 43 ([zI 0, zI 0, zN, zI 0, zI 0, zI 0, zI 0, zI 0, zI 0, zI 0, zI 0, zI 0]), blk go 37 (opC o), blk 0 gT0 (bvs Jaa), blk rw 51 ([zS rds 2 cd, zS rfs 3 cf]), blk rds 54 CD, blk rfs 47 CF, Jai D r X]) (ix := [6]))).toOk h0f;have hX20 := M8.pk [6, 0, 1, 2, 3, 4, 5];simp only[Y3,Y4,Y1,Y2]at hX20;have hCH20 := Ji2 hX20.h1 o ho2 hlen;refine zca 24 _ rfl Tryz.call24 (hCH20) ?_;rintro e w20 ⟨X2, rv, rfl, H20, hl2⟩;have M20 := hX20.f1 H20;simp only[Y1,Y2]at M20;refine ⟨_, rfl, ?_⟩;simp only[Za,Zb,Zc];have hrv := Jhz (M20.get 1 rfl);refine zsw M20 2 rfl Jad (Jhy hrv) rfl fun w21 M21 => ?_;simp only[Zg,Zh]at M21;simp only[Zv];refine zw (hK19 _ _ (zrt ?_));(try simp only[zi,zj]);refine zR (Jbu _ rfl rfl rfl (M21.get 2 rfl) zu43 Jad) rfl ?_;exact ⟨_, _, rfl, M21.arr [4, 5, 6, 7, 0, 1] (by decide), hl2⟩
 ·refine zp 1 rfl (zo M8 (Ja9 (r := true) rfl rfl rfl rfl zu54 rfl) (zw (hK18 _ _ (zct rfl (zk fun _ hK19 => zr (zo M8 (Jaf (ps := []) (pv := []) (cs := [zI 0, zI 0, zN, zI 0, zI 0, zI 0, zI 0, zI 0, zI 0, zI 0, zI 0, zI 0]) rfl rfl rfl (by kernel_rfl)) ?_))))));simp only[Za,Zb,Zc];refine zsw M8 0 rfl Jad (Jak _ rfl) rfl fun w20 M20 => ?_;simp only[Zg,Zh]at M20;simp only[Zv];refine zw (hK19 _ _ (zrt ?_));(try simp only[zi,zj]);refine zR (Jbu _ rfl rfl rfl (M20.get 0 rfl) zu43 Jad) rfl ?_;exact ⟨_, rfl, ((M20.nilst 5 1).arr [3, 4, 5, 6, 0] (by decide))⟩
 iterate 2 (refine zfl M8 0 zu37 rfl zz3 1 rfl zg3 (zo M8 (zleq rfl (zT (by omega))) (zp 1 rfl ?_));simp only[Za,Zb,Zc];rotate_left)
 rotate_right 2
 ·refine zp 1 rfl (zw (hK13 _ _ (zct rfl (zk fun _ hK14 => zk fun _ hK15 => zr (zp 1 rfl (zo M8 (Ja9 (r := false) rfl rfl rfl rfl zu47 rfl) ?_))))));simp only[Za,Zb,Zc];refine zw (hK15 _ _ (zcf rfl (zsk (hK14 _ _ (zk fun _ hK16 => ?_)))));refine zr ?_;refine zp 1 rfl (zo M8 (zlb 1 rfl zu37 rfl Jek) ?_);simp only[Za,Zb,Zc];have ho2 : OpZ w8 (Jag [blk 0 gT0 (bvs Jaa), Jai D r X, blk f 67 (fC V r)]) o := OpZ.sub ho M8 (M8.all (blk 0 gT0 (bvs Jaa)) (by simp)) (Je0 (L := [blk ga 43 ([zI 0, zI 0, zN, zI 0, zI 0, zI 0, zI 0, zI 0, zI 0, zI 0, zI 0, zI 0]), blk go 37 (opC o), blk 0 gT0 (bvs Jaa), blk rw 51 ([zS rds 2 cd, zS rfs 3 cf]), blk rds 54 CD, blk rfs 47 CF, Jai D r X, blk f 67 (fC V r)]) (ix := [2, 6, 7]));have hX17 := M8.pk [2, 6, 7, 0, 1, 3, 4, 5];simp only[Y3,Y4,Y1,Y2]at hX17;have hCH17 := Jqf hX17.h3 o ho2 hV hlen;refine zca 23 _ rfl Tryz.call23 (hCH17) ?_;rintro e w17 ⟨X2, rv, rfl, H17, hl2⟩;have M17 := hX17.f3 H17;simp only[Y1,Y2]at M17;refine ⟨_, rfl, ?_⟩;simp only[Za,Zb,Zc];have hrv := Jhz (M17.get 3 rfl);refine zsw M17 4 rfl Jad (Jhy hrv) rfl fun w18 M18 => ?_;simp only[Zg,Zh]at M18;simp only[Zv];refine zw (hK16 _ _ (zrt ?_));(try simp only[zi,zj]);refine zR (Jbu _ rfl rfl rfl (M18.get 4 rfl) zu43 Jad) rfl ?_;exact ⟨_, _, rfl, M18.arr [0, 6, 7, 8, 1, 2, 3] (by decide), hl2⟩
 ·refine zp 1 rfl (zw (hK13 _ _ (zct rfl (zk fun _ hK14 => zk fun _ hK15 => zr (zp 1 rfl (zo M8 (Ja9 (r := true) rfl rfl rfl rfl zu47 rfl) (zw (hK15 _ _ (zct rfl (zk fun _ hK16 => zr (zo M8 (Jaf (ps := []) (pv := []) (cs := [zI 0, zI 0, zN, zI 0, zI 0, zI 0, zI 0, zI 0, zI 0, zI 0, zI 0, zI 0]) rfl rfl rfl (by kernel_rfl)) ?_)))))))))));simp only[Za,Zb,Zc];refine zsw M8 0 rfl Jad (Jak _ rfl) rfl fun w17 M17 => ?_;simp only[Zg,Zh]at M17;simp only[Zv];refine zw (hK16 _ _ (zrt ?_));(try simp only[zi,zj]);refine zR (Jbu _ rfl rfl rfl (M17.get 0 rfl) zu43 Jad) rfl ?_;exact ⟨_, rfl, ((M17.nilst 5 1).arr [3, 4, 5, 6, 0] (by decide))⟩
 iterate 3 (refine zfl M8 0 zu37 rfl zz3 1 rfl zg3 (zo M8 (zeql rfl (zT (by omega))) (zp 1 rfl (zw (hK12 _ _ (zct rfl (zk fun _ hK13 => zr ?_))))));simp only[Za,Zb,Zc];refine zp 1 rfl ?_;simp only[Za,Zb,Zc];rotate_left)
 rotate_right 3
 iterate 2 (have hX14 := M8.pk [2, 6, 0, 1, 3, 4, 5];simp only[Y3,Y4,Y1,Y2]at hX14;rotate_left)
 rotate_right 2
 ·have hCH14 := (Jmx hX14.h2 hlen).mono (fun e w' h => h.resolve_left (fun h => h.1 hO));refine zca 22 _ rfl Tryz.call22 (hCH14) ?_;rintro e w14 ⟨_, f, rfl, H14⟩;have M14 := hX14.f2 H14;simp only[Y1,Y2]at M14;refine ⟨_, rfl, ?_⟩;simp only[Za,Zb,Zc];refine zp 4 rfl ?_;simp only[Za,Zb,Zc];refine zp 1 rfl (zw (hK13 _ _ (zk fun _ hK15 => zk fun _ hK16 => zr (zp 1 rfl (zo M14 (zeql rfl (zT (by decide))) (zw (hK16 _ _ (zct rfl (zr ?_)))))))));simp only[Za,Zb,Zc];refine zp 2 rfl (zfl M14 1 zu51 rfl zz49 5 rfl zg49 ?_);simp only[Za,Zb,Zc];refine zp 2 rfl (zo M14 (Jbc (r := ja) rfl rfl rfl rfl zu49 zz47 (by omega) (by omega)) ?_);simp only[Za,Zb,Zc];refine zso M14 7 (v := zP f 0) rfl rfl zz47 ((List.getElem?_eq_some_iff.1 hF).1) ?_;intro w17 (M17 : Mem w _ w17 [blk 0 gT0 (bvs Jaa), Jai (Jce D) r X, blk f 67 (fC (Jd5 D) r), blk ga 43 ([zI 0, zI 0, zN, zI 0, zI 0, zI 0, zI 0, zI 0, zI 0, zI 0, zI 0, zI 0]), blk go 37 (opC o), blk rw 51 ([zS rds 2 cd, zS rfs 3 cf]), blk rds 54 CD, blk rfs 47 (CF.set ja (zP f 0))]);simp only[Zv];refine zw (hK15 _ _ (zk fun _ hK18 => zr ?_));refine zp 1 rfl (zo M17 (Jaf (ps := [(0, .tmp 58)]) (pv := [(0, zI 0)]) (cs := [zI 0, zI 0, zN, zI 0, zI 0, zI 0, zI 0, zI 0, zI 0, zI 0, zI 0, zI 0]) rfl rfl rfl (by kernel_rfl)) ?_);simp only[Za,Zb,Zc];refine zsw M17 3 rfl Jad (Jak _ rfl) rfl fun w19 M19 => ?_;simp only[Zg,Zh]at M19;simp only[Zv];refine zw (hK18 _ _ (zrt ?_));(try simp only[zi,zj]);refine zR (Jbu _ rfl rfl rfl (M19.get 3 rfl) zu43 Jad) rfl ?_;exact ⟨_, _, rfl, ((M19.nilst 5 1).arr [1, 6, 7, 8, 2, 3, 0] (by decide))⟩
 ·have hCH14 := (Jmx hX14.h2 hlen).mono (fun e w' h => h.resolve_right (fun h => hO h.1));refine zca 22 _ rfl Tryz.call22 (hCH14) ?_;rintro e w14 ⟨_, rfl, H14⟩;have M14 := hX14.f2 H14;simp only[Y1,Y2]at M14;refine ⟨_, rfl, ?_⟩;simp only[Za,Zb,Zc];refine zp 4 rfl ?_;simp only[Za,Zb,Zc];refine zp 1 rfl (zw (hK13 _ _ (zk fun _ hK15 => zk fun _ hK16 => zr (zp 1 rfl (zo M14 (zeql rfl (zF hO)) ?_)))));simp only[Za,Zb,Zc];refine zw (hK16 _ _ (zcf rfl (zsk (hK15 _ _ (zk fun _ hK17 => ?_)))));refine zr ?_;refine zp 1 rfl (zo M14 (Jaf (ps := [(0, .tmp 58)]) (pv := [(0, zI (Jbx D))]) (cs := [zI (Jbx D), zI 0, zN, zI 0, zI 0, zI 0, zI 0, zI 0, zI 0, zI 0, zI 0, zI 0]) rfl rfl rfl (by kernel_rfl)) ?_);simp only[Za,Zb,Zc];refine zsw M14 2 rfl Jad (Jak _ rfl) rfl fun w18 M18 => ?_;simp only[Zg,Zh]at M18;simp only[Zv];refine zw (hK17 _ _ (zrt ?_));(try simp only[zi,zj]);refine zR (Jbu _ rfl rfl rfl (M18.get 2 rfl) zu43 Jad) rfl ?_;exact ⟨_, rfl, ((M18.nilst 5 1).arr [1, 5, 6, 7, 2, 0] (by decide))⟩
 ·refine zcl M8 22 _ rfl Tryz.call22 (Jsd _) fun w14 M14 => ?_;simp only[Za,Zb,Zc];refine zp 4 rfl ?_;simp only[Za,Zb,Zc];refine zp 1 rfl (zw (hK13 _ _ (zk fun _ hK15 => zk fun _ hK16 => zr (zp 1 rfl (zo M14 (zeql rfl (zF (by decide))) ?_)))));simp only[Za,Zb,Zc];refine zw (hK16 _ _ (zcf rfl (zsk (hK15 _ _ (zk fun _ hK17 => ?_)))));refine zr ?_;refine zp 1 rfl (zo M14 (Jaf (ps := [(0, .tmp 58)]) (pv := [(0, zI 1)]) (cs := [zI 1, zI 0, zN, zI 0, zI 0, zI 0, zI 0, zI 0, zI 0, zI 0, zI 0, zI 0]) rfl rfl rfl (by kernel_rfl)) ?_);simp only[Za,Zb,Zc];refine zsw M14 0 rfl Jad (Jak _ rfl) rfl fun w18 M18 => ?_;simp only[Zg,Zh]at M18;simp only[Zv];refine zw (hK17 _ _ (zrt ?_));(try simp only[zi,zj]);refine zR (Jbu _ rfl rfl rfl (M18.get 0 rfl) zu43 Jad) rfl ?_;exact ⟨_, rfl, ((M18.nilst 5 1).arr [3, 4, 5, 6, 0] (by decide))⟩
 all_goals (refine zfl M8 0 zu37 rfl zz3 1 rfl zg3 (zo M8 (zeql rfl (zT (by omega))) (zp 1 rfl (zw (hK11 _ _ (zct rfl (zk fun _ hK12 => zr ?_))))));simp only[Za,Zb,Zc];refine zp 1 rfl (zfl M8 4 zu37 rfl zz3 1 rfl zg3 ?_);simp only[Za,Zb,Zc])
 ·have hX13 := M8.pk [2, 6, 0, 1, 3, 4, 5];simp only[Y3,Y4,Y1,Y2]at hX13;have hCH13 := Jp7 hX13.h2 o.n hlen;refine zca 21 _ rfl Tryz.call21 (hCH13) ?_;rintro e w13 ⟨X2, rfl, H13, hl2⟩;have M13 := hX13.f2 H13;simp only[Y1,Y2]at M13;refine ⟨_, rfl, ?_⟩;simp only[Za,Zb,Zc];refine zp 1 rfl (zw (hK12 _ _ (zk fun _ hK14 => zr (zp 1 rfl (zo M13 (Jaf (ps := [(0, .tmp 38)]) (pv := [(0, zI ((Jat D o.n).2))]) (cs := [zI ((Jat D o.n).2), zI 0, zN, zI 0, zI 0, zI 0, zI 0, zI 0, zI 0, zI 0, zI 0, zI 0]) rfl rfl rfl (by kernel_rfl)) ?_)))));simp only[Za,Zb,Zc];refine zsw M13 2 rfl Jad (Jak _ rfl) rfl fun w15 M15 => ?_;simp only[Zg,Zh]at M15;simp only[Zv];refine zw (hK14 _ _ (zrt ?_));(try simp only[zi,zj]);refine zR (Jbu _ rfl rfl rfl (M15.get 2 rfl) zu43 Jad) rfl ?_;exact ⟨_, _, rfl, ((M15.nilst 5 1).arr [1, 5, 6, 7, 2, 0] (by decide)), hl2⟩
 ·refine zcl M8 21 _ rfl Tryz.call21 (Jp9 o.n _) fun w13 M13 => ?_;simp only[Za,Zb,Zc];refine zp 1 rfl (zw (hK12 _ _ (zk fun _ hK14 => zr (zp 1 rfl (zo M13 (Jaf (ps := [(0, .tmp 38)]) (pv := [(0, zI 1)]) (cs := [zI 1, zI 0, zN, zI 0, zI 0, zI 0, zI 0, zI 0, zI 0, zI 0, zI 0, zI 0]) rfl rfl rfl (by kernel_rfl)) ?_)))));simp only[Za,Zb,Zc];refine zsw M13 0 rfl Jad (Jak _ rfl) rfl fun w15 M15 => ?_;simp only[Zg,Zh]at M15;simp only[Zv];refine zw (hK14 _ _ (zrt ?_));(try simp only[zi,zj]);refine zR (Jbu _ rfl rfl rfl (M15.get 0 rfl) zu43 Jad) rfl ?_;exact ⟨_, rfl, ((M15.nilst 5 1).arr [3, 4, 5, 6, 0] (by decide))⟩
end
theorem Jqk (width : Int) (w : World) : zC 25 [.pointer none, zI width] w fun e w' => e = .returned (zI 1) ∧ Mem w [] w' [] := by
 have M := Mem.nil w;go_enter Tryz.func25, Tryz.ntmps25;refine zk fun _ hK1 => zr ?_;refine zp 1 rfl (zw (hK1 _ _ (zk fun _ hK2 => zk fun _ hK3 => zr (zp 1 rfl (zo M (Ja9 (r := true) rfl rfl rfl rfl zu60 rfl) (zw (hK3 _ _ (zct rfl (zk fun _ hK4 => zr (zp 1 rfl ?_))))))))));simp only[Za,Zb,Zc];refine zw (hK4 _ _ (zrt ?_));(try simp only[zi,zj]);refine zR (res1 rfl rfl) rfl ?_;exact ⟨rfl, M⟩
theorem Juu  (w : World) : zC 26 [.pointer none] w fun e w' => e = .returned (.tuple #[.pointer none, zI 1]) ∧ Mem w [] w' [] := by
 have M := Mem.nil w;go_enter Tryz.func26, Tryz.ntmps26;refine zk fun _ hK1 => zr ?_;refine zp 2 rfl (zw (hK1 _ _ (zk fun _ hK2 => zk fun _ hK3 => zr (zp 1 rfl (zo M (Ja9 (r := true) rfl rfl rfl rfl zu60 rfl) (zw (hK3 _ _ (zct rfl (zk fun _ hK4 => zr ?_)))))))));simp only[Za,Zb,Zc];refine zp 2 rfl ?_;simp only[Za,Zb,Zc];refine zw (hK4 _ _ (zrt ?_));(try simp only[zi,zj]);refine zR (res2 rfl rfl rfl) rfl ?_;exact ⟨rfl, M⟩
theorem Jbi : (∀ {wb rm pds pfs cd cf : Nat} {R : List UInt8} {CD CF : List Value} {w : World} (hM : zM w [blk wb 59 ([zS pds 2 cd, zS pfs 3 cf, zS rm R.length R.length]), blk rm 5 (bvs R), blk pds 60 CD, blk pfs 69 CF]) (o : OpV) (kd ja : Nat) (hkd : o.dk % 2 = (kd : Int)) (hja : o.fl % 3 = (ja : Int)) (dv : Value) (fv : Value) (had : Bool) (hC : CD[kd]? = some (dv)) (hF : CF[ja]? = some (fv)) (hk : o.k < 1), zC 15 [zP wb 0, .agg ((opC o)).toArray, .bool had] w fun e w' => ∃ rv, e = .returned (.tuple #[.agg (ansC Jay rv).toArray, .bool true]) ∧ zD w [blk wb 59 ([zS pds 2 cd, zS pfs 3 cf, zS rm R.length R.length]), blk rm 5 (bvs R), blk pds 60 CD, blk pfs 69 CF] w' [blk wb 59 ([zS pds 2 cd, zS pfs 3 cf, zS rm R.length R.length]), blk rm 5 (bvs R), blk pds 60 CD, blk pfs 69 CF, lst 5 1 rv (Jay).raw.length (bvs (Jay).raw)]) ∧ (∀ {wb rm pds pfs cd cf : Nat} {R : List UInt8} {CD CF : List Value} {w : World} (hM : zM w [blk wb 59 ([zS pds 2 cd, zS pfs 3 cf, zS rm R.length R.length]), blk rm 5 (bvs R), blk pds 60 CD, blk pfs 69 CF]) (o : OpV) (kd ja : Nat) (hkd : o.dk % 2 = (kd : Int)) (hja : o.fl % 3 = (ja : Int)) (dv : Value) (fv : Value) (had : Bool) (hC : CD[kd]? = some (dv)) (hF : CF[ja]? = some (fv)) (hk : 21 < o.k), zC 15 [zP wb 0, .agg ((opC o)).toArray, .bool had] w fun e w' => ∃ rv, e = .returned (.tuple #[.agg (ansC Jay rv).toArray, .bool true]) ∧ zD w [blk wb 59 ([zS pds 2 cd, zS pfs 3 cf, zS rm R.length R.length]), blk rm 5 (bvs R), blk pds 60 CD, blk pfs 69 CF] w' [blk wb 59 ([zS pds 2 cd, zS pfs 3 cf, zS rm R.length R.length]), blk rm 5 (bvs R), blk pds 60 CD, blk pfs 69 CF, lst 5 1 rv (Jay).raw.length (bvs (Jay).raw)]) ∧ (∀ {wb rm pds pfs cd cf : Nat} {R : List UInt8} {CD CF : List Value} {D : DV} {p pg mb : Nat} {qv : Value}  {w : World} (hM : Mem w (Jag [blk wb 59 ([zS pds 2 cd, zS pfs 3 cf, zS rm R.length R.length]), blk rm 5 (bvs R), blk pds 60 CD, blk pfs 69 CF, disk D p pg mb qv]) w [blk wb 59 ([zS pds 2 cd, zS pfs 3 cf, zS rm R.length R.length]), blk rm 5 (bvs R), blk pds 60 CD, blk pfs 69 CF, disk D p pg mb qv]) (o : OpV) (kd ja : Nat) (hkd : o.dk % 2 = (kd : Int)) (hja : o.fl % 3 = (ja : Int)) (fv : Value) (had : Bool) (hC : CD[kd]? = some (zP p 0)) (hF : CF[ja]? = some (fv)) (hk : o.k = 21) (hown : o.own = false) (ho : OpOk w (Jag [blk wb 59 ([zS pds 2 cd, zS pfs 3 cf, zS rm R.length R.length]), blk rm 5 (bvs R), blk pds 60 CD, blk pfs 69 CF, disk D p pg mb qv]) o) (hq : D.q.length ≤ 400000000000), zC 15 [zP wb 0, .agg ((opC o)).toArray, .bool had] w fun e w' => ∃ qv' rv, e = .returned (.tuple #[.agg (ansC ((diskOp D o).2) rv).toArray, .bool true]) ∧ zD w [blk wb 59 ([zS pds 2 cd, zS pfs 3 cf, zS rm R.length R.length]), blk rm 5 (bvs R), blk pds 60 CD, blk pfs 69 CF, disk D p pg mb qv] w' [blk wb 59 ([zS pds 2 cd, zS pfs 3 cf, zS rm R.length R.length]), blk rm 5 (bvs R), blk pds 60 CD, blk pfs 69 CF, disk ((diskOp D o).1) p pg mb qv', lst 5 1 rv ((diskOp D o).2).raw.length (bvs ((diskOp D o).2).raw)]) ∧ (∀ {wb rm pds pfs cd cf : Nat} {R : List UInt8} {CD CF : List Value} {w : World} (hM : zM w [blk wb 59 ([zS pds 2 cd, zS pfs 3 cf, zS rm R.length R.length]), blk rm 5 (bvs R), blk pds 60 CD, blk pfs 69 CF]) (o : OpV) (kd ja : Nat) (hkd : o.dk % 2 = (kd : Int)) (hja : o.fl % 3 = (ja : Int)) (fv : Value) (had : Bool) (hC : CD[kd]? = some (.pointer none)) (hF : CF[ja]? = some (fv)) (hk : o.k = 21) (hown : o.own = false), zC 15 [zP wb 0, .agg ((opC o)).toArray, .bool had] w fun e w' => ∃ rv, e = .returned (.tuple #[.agg (ansC Jay rv).toArray, .bool true]) ∧ zD w [blk wb 59 ([zS pds 2 cd, zS pfs 3 cf, zS rm R.length R.length]), blk rm 5 (bvs R), blk pds 60 CD, blk pfs 69 CF] w' [blk wb 59 ([zS pds 2 cd, zS pfs 3 cf, zS rm R.length R.length]), blk rm 5 (bvs R), blk pds 60 CD, blk pfs 69 CF, lst 5 1 rv (Jay).raw.length (bvs (Jay).raw)]) ∧ (∀ {wb rm pds pfs cd cf : Nat} {R : List UInt8} {CD CF : List Value} {D : DV} {V : FV} {p pg mb f : Nat} {qv : Value}  {w : World} (hM : Mem w (Jag [blk wb 59 ([zS pds 2 cd, zS pfs 3 cf, zS rm R.length R.length]), blk rm 5 (bvs R), blk pds 60 CD, blk pfs 69 CF, disk D p pg mb qv, blk f 113 (fC V p)]) w [blk wb 59 ([zS pds 2 cd, zS pfs 3 cf, zS rm R.length R.length]), blk rm 5 (bvs R), blk pds 60 CD, blk pfs 69 CF, disk D p pg mb qv, blk f 113 (fC V p)]) (o : OpV) (kd ja : Nat) (hkd : o.dk % 2 = (kd : Int)) (hja : o.fl % 3 = (ja : Int)) (dv : Value) (had : Bool) (hC : CD[kd]? = some (dv)) (hF : CF[ja]? = some (zP f 0)) (hk : 10 ≤ o.k ∧ o.k < 21) (hown : o.own = false) (ho : OpOk w (Jag [blk wb 59 ([zS pds 2 cd, zS pfs 3 cf, zS rm R.length R.length]), blk rm 5 (bvs R), blk pds 60 CD, blk pfs 69 CF, disk D p pg mb qv, blk f 113 (fC V p)]) o) (hq : D.q.length ≤ 400000000000), zC 15 [zP wb 0, .agg ((opC o)).toArray, .bool had] w fun e w' => ∃ qv' rv, e = .returned (.tuple #[.agg (ansC ((diskOp D o).2) rv).toArray, .bool true]) ∧ zD w [blk wb 59 ([zS pds 2 cd, zS pfs 3 cf, zS rm R.length R.length]), blk rm 5 (bvs R), blk pds 60 CD, blk pfs 69 CF, disk D p pg mb qv, blk f 113 (fC V p)] w' [blk wb 59 ([zS pds 2 cd, zS pfs 3 cf, zS rm R.length R.length]), blk rm 5 (bvs R), blk pds 60 CD, blk pfs 69 CF, disk ((diskOp D o).1) p pg mb qv', blk f 113 (fC V p), lst 5 1 rv ((diskOp D o).2).raw.length (bvs ((diskOp D o).2).raw)]) ∧ (∀ {wb rm pds pfs cd cf : Nat} {R : List UInt8} {CD CF : List Value} {w : World} (hM : zM w [blk wb 59 ([zS pds 2 cd, zS pfs 3 cf, zS rm R.length R.length]), blk rm 5 (bvs R), blk pds 60 CD, blk pfs 69 CF]) (o : OpV) (kd ja : Nat) (hkd : o.dk % 2 = (kd : Int)) (hja : o.fl % 3 = (ja : Int)) (dv : Value) (had : Bool) (hC : CD[kd]? = some (dv)) (hF : CF[ja]? = some (.pointer none)) (hk : 10 ≤ o.k ∧ o.k < 21) (hown : o.own = false), zC 15 [zP wb 0, .agg ((opC o)).toArray, .bool had] w fun e w' => ∃ rv, e = .returned (.tuple #[.agg (ansC Jay rv).toArray, .bool true]) ∧ zD w [blk wb 59 ([zS pds 2 cd, zS pfs 3 cf, zS rm R.length R.length]), blk rm 5 (bvs R), blk pds 60 CD, blk pfs 69 CF] w' [blk wb 59 ([zS pds 2 cd, zS pfs 3 cf, zS rm R.length R.length]), blk rm 5 (bvs R), blk pds 60 CD, blk pfs 69 CF, lst 5 1 rv (Jay).raw.length (bvs (Jay).raw)]) ∧ (∀ {wb rm pds pfs cd cf : Nat} {R : List UInt8} {CD CF : List Value} {D : DV} {p pg mb : Nat} {qv : Value}  {w : World} (hM : Mem w (Jag [blk wb 59 ([zS pds 2 cd, zS pfs 3 cf, zS rm R.length R.length]), blk rm 5 (bvs R), blk pds 60 CD, blk pfs 69 CF, disk D p pg mb qv]) w [blk wb 59 ([zS pds 2 cd, zS pfs 3 cf, zS rm R.length R.length]), blk rm 5 (bvs R), blk pds 60 CD, blk pfs 69 CF, disk D p pg mb qv]) (o : OpV) (kd ja : Nat) (hkd : o.dk % 2 = (kd : Int)) (hja : o.fl % 3 = (ja : Int)) (fv : Value) (had : Bool) (hC : CD[kd]? = some (zP p 0)) (hF : CF[ja]? = some (fv)) (hk : 10 ≤ o.k ∧ o.k ≤ 21) (hown : o.own = true) (ho : OpOk w (Jag [blk wb 59 ([zS pds 2 cd, zS pfs 3 cf, zS rm R.length R.length]), blk rm 5 (bvs R), blk pds 60 CD, blk pfs 69 CF, disk D p pg mb qv]) o) (hq : D.q.length ≤ 400000000000), zC 15 [zP wb 0, .agg ((opC o)).toArray, .bool had] w fun e w' => ∃ qv' rv, e = .returned (.tuple #[.agg (ansC ((diskOp D o).2) rv).toArray, .bool true]) ∧ zD w [blk wb 59 ([zS pds 2 cd, zS pfs 3 cf, zS rm R.length R.length]), blk rm 5 (bvs R), blk pds 60 CD, blk pfs 69 CF, disk D p pg mb qv] w' [blk wb 59 ([zS pds 2 cd, zS pfs 3 cf, zS rm R.length R.length]), blk rm 5 (bvs R), blk pds 60 CD, blk pfs 69 CF, disk ((diskOp D o).1) p pg mb qv', lst 5 1 rv ((diskOp D o).2).raw.length (bvs ((diskOp D o).2).raw)]) ∧ (∀ {wb rm pds pfs cd cf : Nat} {R : List UInt8} {CD CF : List Value} {w : World} (hM : zM w [blk wb 59 ([zS pds 2 cd, zS pfs 3 cf, zS rm R.length R.length]), blk rm 5 (bvs R), blk pds 60 CD, blk pfs 69 CF]) (o : OpV) (kd ja : Nat) (hkd : o.dk % 2 = (kd : Int)) (hja : o.fl % 3 = (ja : Int)) (fv : Value) (had : Bool) (hC : CD[kd]? = some (.pointer none)) (hF : CF[ja]? = some (fv)) (hk : 10 ≤ o.k ∧ o.k ≤ 21) (hown : o.own = true), zC 15 [zP wb 0, .agg ((opC o)).toArray, .bool had] w fun e w' => ∃ rv, e = .returned (.tuple #[.agg (ansC Jay rv).toArray, .bool true]) ∧ zD w [blk wb 59 ([zS pds 2 cd, zS pfs 3 cf, zS rm R.length R.length]), blk rm 5 (bvs R), blk pds 60 CD, blk pfs 69 CF] w' [blk wb 59 ([zS pds 2 cd, zS pfs 3 cf, zS rm R.length R.length]), blk rm 5 (bvs R), blk pds 60 CD, blk pfs 69 CF, lst 5 1 rv (Jay).raw.length (bvs (Jay).raw)]) ∧ (∀ {wb rm pds pfs cd cf : Nat} {R : List UInt8} {CD CF : List Value} {D : DV} {V : FV} {p pg mb f : Nat} {qv : Value}  {w : World} (hM : Mem w (Jag [blk wb 59 ([zS pds 2 cd, zS pfs 3 cf, zS rm R.length R.length]), blk rm 5 (bvs R), blk pds 60 CD, blk pfs 69 CF, disk D p pg mb qv, blk f 113 (fC V p)]) w [blk wb 59 ([zS pds 2 cd, zS pfs 3 cf, zS rm R.length R.length]), blk rm 5 (bvs R), blk pds 60 CD, blk pfs 69 CF, disk D p pg mb qv, blk f 113 (fC V p)]) (o : OpV) (kd ja : Nat) (hkd : o.dk % 2 = (kd : Int)) (hja : o.fl % 3 = (ja : Int)) (dv : Value) (had : Bool) (hC : CD[kd]? = some (dv)) (hF : CF[ja]? = some (zP f 0)) (hk : 3 ≤ o.k ∧ o.k ≤ 9) (ho : OpOk w (Jag [blk wb 59 ([zS pds 2 cd, zS pfs 3 cf, zS rm R.length R.length]), blk rm 5 (bvs R), blk pds 60 CD, blk pfs 69 CF, disk D p pg mb qv, blk f 113 (fC V p)]) o) (hV : FOk D V) (hq : D.q.length ≤ 400000000000) (hR : R.length ≤ 2199023255900), zC 15 [zP wb 0, .agg ((opC o)).toArray, .bool had] w fun e w' => ∃ qv' rm' R' rv, e = .returned (.tuple #[.agg (ansC ((fileOp D V o).2.2) rv).toArray, .bool true]) ∧ zD w [blk wb 59 ([zS pds 2 cd, zS pfs 3 cf, zS rm R.length R.length]), blk rm 5 (bvs R), blk pds 60 CD, blk pfs 69 CF, disk D p pg mb qv, blk f 113 (fC V p)] w' [blk wb 59 ([zS pds 2 cd, zS pfs 3 cf, .slice (some ⟨rm', 0, none⟩) R'.length R'.length]), blk rm' 5 (bvs R'), blk pds 60 CD, blk pfs 69 CF, disk ((fileOp D V o).1) p pg mb qv', blk f 113 (fC ((fileOp D V o).2.1) p), lst 5 1 rv ((fileOp D V o).2.2).raw.length (bvs ((fileOp D V o).2.2).raw)] ∧ R'.length ≤ 2199023255900) ∧ (∀ {wb rm pds pfs cd cf : Nat} {R : List UInt8} {CD CF : List Value} {w : World} (hM : zM w [blk wb 59 ([zS pds 2 cd, zS pfs 3 cf, zS rm R.length R.length]), blk rm 5 (bvs R), blk pds 60 CD, blk pfs 69 CF]) (o : OpV) (kd ja : Nat) (hkd : o.dk % 2 = (kd : Int)) (hja : o.fl % 3 = (ja : Int)) (dv : Value) (had : Bool) (hC : CD[kd]? = some (dv)) (hF : CF[ja]? = some (.pointer none)) (hk : 3 ≤ o.k ∧ o.k ≤ 9), zC 15 [zP wb 0, .agg ((opC o)).toArray, .bool had] w fun e w' => ∃ rv, e = .returned (.tuple #[.agg (ansC Jay rv).toArray, .bool true]) ∧ zD w [blk wb 59 ([zS pds 2 cd, zS pfs 3 cf, zS rm R.length R.length]), blk rm 5 (bvs R), blk pds 60 CD, blk pfs 69 CF] w' [blk wb 59 ([zS pds 2 cd, zS pfs 3 cf, zS rm R.length R.length]), blk rm 5 (bvs R), blk pds 60 CD, blk pfs 69 CF, lst 5 1 rv (Jay).raw.length (bvs (Jay).raw)]) ∧ (∀ {wb rm pds pfs cd cf : Nat} {R : List UInt8} {CD CF : List Value} {D : DV} {p pg mb : Nat} {qv : Value}  {w : World} (hM : Mem w (Jag [blk wb 59 ([zS pds 2 cd, zS pfs 3 cf, zS rm R.length R.length]), blk rm 5 (bvs R), blk pds 60 CD, blk pfs 69 CF, disk D p pg mb qv]) w [blk wb 59 ([zS pds 2 cd, zS pfs 3 cf, zS rm R.length R.length]), blk rm 5 (bvs R), blk pds 60 CD, blk pfs 69 CF, disk D p pg mb qv]) (o : OpV) (kd ja : Nat) (hkd : o.dk % 2 = (kd : Int)) (hja : o.fl % 3 = (ja : Int)) (fv : Value) (hC : CD[kd]? = some (zP p 0)) (hF : CF[ja]? = some (fv)) (hk : o.k = 2) (hO : Jbx D = 0), zC 15 [zP wb 0, .agg ((opC o)).toArray, .bool true] w fun e w' => ∃ f rv, e = .returned (.tuple #[.agg (ansC ({ Jay with e := 0 } : AnsV) rv).toArray, .bool true]) ∧ zD w [blk wb 59 ([zS pds 2 cd, zS pfs 3 cf, zS rm R.length R.length]), blk rm 5 (bvs R), blk pds 60 CD, blk pfs 69 CF, disk D p pg mb qv] w' [blk wb 59 ([zS pds 2 cd, zS pfs 3 cf, zS rm R.length R.length]), blk rm 5 (bvs R), blk pds 60 CD, blk pfs 69 (CF.set ja (zP f 0)), disk (Jce D) p pg mb qv, blk f 113 (fC (Jd5 D) p), lst 5 1 rv (({ Jay with e := 0 } : AnsV)).raw.length (bvs (({ Jay with e := 0 } : AnsV)).raw)]) ∧ (∀ {wb rm pds pfs cd cf : Nat} {R : List UInt8} {CD CF : List Value} {D : DV} {p pg mb : Nat} {qv : Value}  {w : World} (hM : Mem w (Jag [blk wb 59 ([zS pds 2 cd, zS pfs 3 cf, zS rm R.length R.length]), blk rm 5 (bvs R), blk pds 60 CD, blk pfs 69 CF, disk D p pg mb qv]) w [blk wb 59 ([zS pds 2 cd, zS pfs 3 cf, zS rm R.length R.length]), blk rm 5 (bvs R), blk pds 60 CD, blk pfs 69 CF, disk D p pg mb qv]) (o : OpV) (kd ja : Nat) (hkd : o.dk % 2 = (kd : Int)) (hja : o.fl % 3 = (ja : Int)) (hC : CD[kd]? = some (zP p 0)) (hF : CF[ja]? = some (.pointer none)) (hk : o.k = 2) (hO : Jbx D ≠ 0), zC 15 [zP wb 0, .agg ((opC o)).toArray, .bool false] w fun e w' => ∃ rv, e = .returned (.tuple #[.agg (ansC ({ Jay with e := Jbx D } : AnsV) rv).toArray, .bool true]) ∧ zD w [blk wb 59 ([zS pds 2 cd, zS pfs 3 cf, zS rm R.length R.length]), blk rm 5 (bvs R), blk pds 60 CD, blk pfs 69 CF, disk D p pg mb qv] w' [blk wb 59 ([zS pds 2 cd, zS pfs 3 cf, zS rm R.length R.length]), blk rm 5 (bvs R), blk pds 60 CD, blk pfs 69 CF, disk (Jce D) p pg mb qv, lst 5 1 rv (({ Jay with e := Jbx D } : AnsV)).raw.length (bvs (({ Jay with e := Jbx D } : AnsV)).raw)]) ∧ (∀ {wb rm pds pfs cd cf : Nat} {R : List UInt8} {CD CF : List Value} {D : DV} {p pg mb : Nat} {qv : Value}  {w : World} (hM : Mem w (Jag [blk wb 59 ([zS pds 2 cd, zS pfs 3 cf, zS rm R.length R.length]), blk rm 5 (bvs R), blk pds 60 CD, blk pfs 69 CF, disk D p pg mb qv]) w [blk wb 59 ([zS pds 2 cd, zS pfs 3 cf, zS rm R.length R.length]), blk rm 5 (bvs R), blk pds 60 CD, blk pfs 69 CF, disk D p pg mb qv]) (o : OpV) (kd ja : Nat) (hkd : o.dk % 2 = (kd : Int)) (hja : o.fl % 3 = (ja : Int)) (fx : Nat) (hC : CD[kd]? = some (zP p 0)) (hF : CF[ja]? = some (zP fx 0)) (hk : o.k = 2) (hO : Jbx D ≠ 0), zC 15 [zP wb 0, .agg ((opC o)).toArray, .bool true] w fun e w' => ∃ rv, e = .returned (.tuple #[.agg (ansC ({ Jay with e := Jbx D } : AnsV) rv).toArray, .bool true]) ∧ zD w [blk wb 59 ([zS pds 2 cd, zS pfs 3 cf, zS rm R.length R.length]), blk rm 5 (bvs R), blk pds 60 CD, blk pfs 69 CF, disk D p pg mb qv] w' [blk wb 59 ([zS pds 2 cd, zS pfs 3 cf, zS rm R.length R.length]), blk rm 5 (bvs R), blk pds 60 CD, blk pfs 69 CF, disk (Jce D) p pg mb qv, lst 5 1 rv (({ Jay with e := Jbx D } : AnsV)).raw.length (bvs (({ Jay with e := Jbx D } : AnsV)).raw)]) ∧ (∀ {wb rm pds pfs cd cf : Nat} {R : List UInt8} {CD CF : List Value} {w : World} (hM : zM w [blk wb 59 ([zS pds 2 cd, zS pfs 3 cf, zS rm R.length R.length]), blk rm 5 (bvs R), blk pds 60 CD, blk pfs 69 CF]) (o : OpV) (kd ja : Nat) (hkd : o.dk % 2 = (kd : Int)) (hja : o.fl % 3 = (ja : Int)) (hC : CD[kd]? = some (.pointer none)) (hF : CF[ja]? = some (.pointer none)) (hk : o.k = 2), zC 15 [zP wb 0, .agg ((opC o)).toArray, .bool false] w fun e w' => ∃ rv, e = .returned (.tuple #[.agg (ansC ({ Jay with e := 1 } : AnsV) rv).toArray, .bool true]) ∧ zD w [blk wb 59 ([zS pds 2 cd, zS pfs 3 cf, zS rm R.length R.length]), blk rm 5 (bvs R), blk pds 60 CD, blk pfs 69 CF] w' [blk wb 59 ([zS pds 2 cd, zS pfs 3 cf, zS rm R.length R.length]), blk rm 5 (bvs R), blk pds 60 CD, blk pfs 69 CF, lst 5 1 rv (({ Jay with e := 1 } : AnsV)).raw.length (bvs (({ Jay with e := 1 } : AnsV)).raw)]) ∧ (∀ {wb rm pds pfs cd cf : Nat} {R : List UInt8} {CD CF : List Value} {w : World} (hM : zM w [blk wb 59 ([zS pds 2 cd, zS pfs 3 cf, zS rm R.length R.length]), blk rm 5 (bvs R), blk pds 60 CD, blk pfs 69 CF]) (o : OpV) (kd ja : Nat) (hkd : o.dk % 2 = (kd : Int)) (hja : o.fl % 3 = (ja : Int)) (fx : Nat) (hC : CD[kd]? = some (.pointer none)) (hF : CF[ja]? = some (zP fx 0)) (hk : o.k = 2), zC 15 [zP wb 0, .agg ((opC o)).toArray, .bool true] w fun e w' => ∃ rv, e = .returned (.tuple #[.agg (ansC ({ Jay with e := 1 } : AnsV) rv).toArray, .bool true]) ∧ zD w [blk wb 59 ([zS pds 2 cd, zS pfs 3 cf, zS rm R.length R.length]), blk rm 5 (bvs R), blk pds 60 CD, blk pfs 69 CF] w' [blk wb 59 ([zS pds 2 cd, zS pfs 3 cf, zS rm R.length R.length]), blk rm 5 (bvs R), blk pds 60 CD, blk pfs 69 CF, lst 5 1 rv (({ Jay with e := 1 } : AnsV)).raw.length (bvs (({ Jay with e := 1 } : AnsV)).raw)]) ∧ (∀ {wb rm pds pfs cd cf : Nat} {R : List UInt8} {CD CF : List Value} {D : DV} {p pg mb : Nat} {qv : Value}  {w : World} (hM : Mem w (Jag [blk wb 59 ([zS pds 2 cd, zS pfs 3 cf, zS rm R.length R.length]), blk rm 5 (bvs R), blk pds 60 CD, blk pfs 69 CF, disk D p pg mb qv]) w [blk wb 59 ([zS pds 2 cd, zS pfs 3 cf, zS rm R.length R.length]), blk rm 5 (bvs R), blk pds 60 CD, blk pfs 69 CF, disk D p pg mb qv]) (o : OpV) (kd ja : Nat) (hkd : o.dk % 2 = (kd : Int)) (hja : o.fl % 3 = (ja : Int)) (fv : Value) (had : Bool) (hC : CD[kd]? = some (zP p 0)) (hF : CF[ja]? = some (fv)) (hk : o.k = 1) (hq : D.q.length ≤ 400000000000), zC 15 [zP wb 0, .agg ((opC o)).toArray, .bool had] w fun e w' => ∃ qv' rv, e = .returned (.tuple #[.agg (ansC ({ Jay with e := (Jat D o.n).2 } : AnsV) rv).toArray, .bool true]) ∧ zD w [blk wb 59 ([zS pds 2 cd, zS pfs 3 cf, zS rm R.length R.length]), blk rm 5 (bvs R), blk pds 60 CD, blk pfs 69 CF, disk D p pg mb qv] w' [blk wb 59 ([zS pds 2 cd, zS pfs 3 cf, zS rm R.length R.length]), blk rm 5 (bvs R), blk pds 60 CD, blk pfs 69 CF, disk ((Jat D o.n).1) p pg mb qv', lst 5 1 rv (({ Jay with e := (Jat D o.n).2 } : AnsV)).raw.length (bvs (({ Jay with e := (Jat D o.n).2 } : AnsV)).raw)]) ∧ (∀ {wb rm pds pfs cd cf : Nat} {R : List UInt8} {CD CF : List Value} {w : World} (hM : zM w [blk wb 59 ([zS pds 2 cd, zS pfs 3 cf, zS rm R.length R.length]), blk rm 5 (bvs R), blk pds 60 CD, blk pfs 69 CF]) (o : OpV) (kd ja : Nat) (hkd : o.dk % 2 = (kd : Int)) (hja : o.fl % 3 = (ja : Int)) (fv : Value) (had : Bool) (hC : CD[kd]? = some (.pointer none)) (hF : CF[ja]? = some (fv)) (hk : o.k = 1), zC 15 [zP wb 0, .agg ((opC o)).toArray, .bool had] w fun e w' => ∃ rv, e = .returned (.tuple #[.agg (ansC ({ Jay with e := 1 } : AnsV) rv).toArray, .bool true]) ∧ zD w [blk wb 59 ([zS pds 2 cd, zS pfs 3 cf, zS rm R.length R.length]), blk rm 5 (bvs R), blk pds 60 CD, blk pfs 69 CF] w' [blk wb 59 ([zS pds 2 cd, zS pfs 3 cf, zS rm R.length R.length]), blk rm 5 (bvs R), blk pds 60 CD, blk pfs 69 CF, lst 5 1 rv (({ Jay with e := 1 } : AnsV)).raw.length (bvs (({ Jay with e := 1 } : AnsV)).raw)]) := by
 refine ⟨@fun wb rm pds pfs cd cf R CD CF w hM o kd ja hkd hja dv fv had hC hF hk => ?_, @fun wb rm pds pfs cd cf R CD CF w hM o kd ja hkd hja dv fv had hC hF hk => ?_, @fun wb rm pds pfs cd cf R CD CF D p pg mb qv w hM o kd ja hkd hja fv had hC hF hk hown ho hq => ?_, @fun wb rm pds pfs cd cf R CD CF w hM o kd ja hkd hja fv had hC hF hk hown => ?_, @fun wb rm pds pfs cd cf R CD CF D V p pg mb f qv w hM o kd ja hkd hja dv had hC hF hk hown ho hq => ?_, @fun wb rm pds pfs cd cf R CD CF w hM o kd ja hkd hja dv had hC hF hk hown => ?_, @fun wb rm pds pfs cd cf R CD CF D p pg mb qv w hM o kd ja hkd hja fv had hC hF hk hown ho hq => ?_, @fun wb rm pds pfs cd cf R CD CF w hM o kd ja hkd hja fv had hC hF hk hown => ?_, @fun wb rm pds pfs cd cf R CD CF D V p pg mb f qv w hM o kd ja hkd hja dv had hC hF hk ho hV hq hR => ?_, @fun wb rm pds pfs cd cf R CD CF w hM o kd ja hkd hja dv had hC hF hk => ?_, @fun wb rm pds pfs cd cf R CD CF D p pg mb qv w hM o kd ja hkd hja fv hC hF hk hO => ?_, @fun wb rm pds pfs cd cf R CD CF D p pg mb qv w hM o kd ja hkd hja hC hF hk hO => ?_, @fun wb rm pds pfs cd cf R CD CF D p pg mb qv w hM o kd ja hkd hja fx hC hF hk hO => ?_, @fun wb rm pds pfs cd cf R CD CF w hM o kd ja hkd hja hC hF hk => ?_, @fun wb rm pds pfs cd cf R CD CF w hM o kd ja hkd hja fx hC hF hk => ?_, @fun wb rm pds pfs cd cf R CD CF D p pg mb qv w hM o kd ja hkd hja fv had hC hF hk hq => ?_, @fun wb rm pds pfs cd cf R CD CF w hM o kd ja hkd hja fv had hC hF hk => ?_⟩
 all_goals (have M := hM;clear hM;go_enter Tryz.func15, Tryz.ntmps15;refine zk fun _ hK1 => zr ?_;refine zbx M (opC o) rfl fun go w2 M2 => ?_;clear M;simp only[Za,Zb,Zc];refine zal M2 ([zI 0, zI 0, zN, zI 0, zI 0, zI 0, zI 0, zI 0, zI 0, zI 0, zI 0, zI 0]) rfl Jdi fun ga w3 M3 => ?_;simp only[Za,Zb,Zc];refine zp 1 rfl ?_;simp only[Za,Zb,Zc];refine zw (hK1 _ _ (zk fun _ hK4 => ?_));have M5 := M3.drew;refine zhb M5 (by kernel_rfl) fun hS => ?_;refine zt 0 rfl (zy rfl) hS (zt 1 rfl (zy rfl) hS (zt 2 rfl (zf 0 zu59 rfl zz56) hS (zt 3 rfl (zl 2 rfl zg56) hS ?_)));simp only[Za,Zb,Zc];refine zt 4 rfl (zf 1 zu37 rfl zz3) hS (zt 5 rfl (zl 1 rfl zg3) hS ?_);simp only[Za,Zb,Zc];have hP2 := Jqj (o.dk) (w3.drew);rw [hkd] at hP2;refine Jae 6 (by kernel_rfl) rfl (by rfl) (fun K hK => ?_);refine Jap 16 [zI o.dk, zI 2] rfl rfl zc16 (hP2) ?_;rintro e w6 ⟨rfl, H6⟩;have M6 := M5.st0 H6;refine ⟨_, rfl, ?_⟩;refine hK.out _ _ M6 (fun hS => ?_);simp only[Ze,Zb,Zc,Zd];refine zt 7 rfl (Jbc (r := kd) rfl rfl rfl rfl zu56 zz60 (by omega) (by omega)) hS (zt 8 rfl (zm 4 rfl zg60 (hC)) hS (zt 9 rfl (zy rfl) hS ?_));simp only[Za,Zb,Zc];refine Jao (by kernel_rfl) (hK4 _ _ ?_) _;refine zk fun _ hK7 => zr ?_;refine zfl M6 2 zu37 rfl zz3 1 rfl zg3 ?_;simp only[Za,Zb,Zc];have hP3 := Jfk (o.fl) (w6);rw [hja] at hP3;refine zcl M6 16 _ rfl zc16 (hP3) fun w8 M8 => ?_;simp only[Za,Zb,Zc];refine zp 1 rfl (zw (hK7 _ _ (zk fun _ hK9 => zr ?_)));simp only[Za,Zb,Zc];refine zp 2 rfl (zfl M8 1 zu59 rfl zz57 2 rfl zg57 ?_);simp only[Za,Zb,Zc];refine zp 1 rfl (zo M8 (Jbc (r := ja) rfl rfl rfl rfl zu57 zz69 (by omega) (by omega)) (zo M8 (zm 5 rfl zg69 (hF)) (zp 1 rfl (zw (hK9 _ _ (zk fun _ hK10 => zbl (zk fun _ hK11 => zr ?_)))))));simp only[Za,Zb,Zc])
 iterate 15 (refine zfl M8 0 zu37 rfl zz3 1 rfl zg3 (zo M8 (zeql rfl (zF (by omega))) (zp 1 rfl (zw (hK11 _ _ (zcf rfl (zk fun _ hK12 => zr ?_))))));simp only[Za,Zb,Zc];rotate_left)
 rotate_right 15
 iterate 10 (refine zfl M8 0 zu37 rfl zz3 1 rfl zg3 (zo M8 (zeql rfl (zF (by omega))) (zp 1 rfl (zw (hK12 _ _ (zcf rfl (zk fun _ hK13 => zr ?_))))));simp only[Za,Zb,Zc];rotate_left)
 rotate_right 10
 ·refine zfl M8 0 zu37 rfl zz3 1 rfl zg3 (zo M8 (zgeq rfl (zF (by omega))) (zp 1 rfl ?_));simp only[Za,Zb,Zc];refine zp 4 rfl ?_;simp only[Za,Zb,Zc];refine zp 1 rfl (zw (hK13 _ _ (zcf rfl (zk fun _ hK14 => zr ?_))));simp only[Za,Zb,Zc];refine zfl M8 0 zu37 rfl zz3 1 rfl zg3 (zo M8 (zgeq rfl (zF (by omega))) (zp 1 rfl ?_));simp only[Za,Zb,Zc];refine zp 4 rfl ?_;simp only[Za,Zb,Zc];refine zp 1 rfl ?_;simp only[Za,Zb,Zc];refine zw (hK14 _ _ (zcf rfl (zsk (hK10 _ _ (zk fun _ hK15 => ?_)))));refine zr ?_;refine zo M8 (Jaf (ps := []) (pv := []) (cs := [zI 0, zI 0, zN, zI 0, zI 0, zI 0, zI 0, zI 0, zI 0, zI 0, zI 0, zI 0]) rfl rfl rfl (by kernel_rfl)) ?_;simp only[Za,Zb,Zc];refine zsw M8 0 rfl Jad (Jak _ rfl) rfl fun w16 M16 => ?_;simp only[Zg,Zh]at M16;simp only[Zv];refine zp 1 rfl ?_;simp only[Za,Zb,Zc];refine zw (hK15 _ _ (zrt ?_));(try simp only[zi,zj]);refine zR (Jbb _ rfl rfl rfl (M16.get 0 rfl) zu43 Jad rfl) rfl ?_;exact ⟨_, rfl, ((M16.nilst 5 1).arr [3, 4, 5, 6, 0] (by decide))⟩
 iterate 9 (refine zfl M8 0 zu37 rfl zz3 1 rfl zg3 (zo M8 (zgeq rfl (zT (by omega))) (zp 1 rfl ?_));simp only[Za,Zb,Zc];rotate_left)
 rotate_right 9
 iterate 7 (refine zfl M8 0 zu37 rfl zz3 1 rfl zg3 (zo M8 (zleq rfl (zF (by omega))) (zp 1 rfl ?_));simp only[Za,Zb,Zc];refine zp 1 rfl (zw (hK13 _ _ (zcf rfl (zk fun _ hK14 => zr ?_))));simp only[Za,Zb,Zc];refine zfl M8 0 zu37 rfl zz3 1 rfl zg3 (zo M8 (zgeq rfl (zT (by omega))) (zp 1 rfl ?_));simp only[Za,Zb,Zc];rotate_left)
 rotate_right 7
 ·refine zfl M8 0 zu37 rfl zz3 1 rfl zg3 (zo M8 (zleq rfl (zF (by omega))) (zp 1 rfl ?_));simp only[Za,Zb,Zc];refine zp 1 rfl ?_;simp only[Za,Zb,Zc];refine zw (hK14 _ _ (zcf rfl (zsk (hK10 _ _ (zk fun _ hK15 => ?_)))));refine zr ?_;refine zo M8 (Jaf (ps := []) (pv := []) (cs := [zI 0, zI 0, zN, zI 0, zI 0, zI 0, zI 0, zI 0, zI 0, zI 0, zI 0, zI 0]) rfl rfl rfl (by kernel_rfl)) ?_;simp only[Za,Zb,Zc];refine zsw M8 0 rfl Jad (Jak _ rfl) rfl fun w16 M16 => ?_;simp only[Zg,Zh]at M16;simp only[Zv];refine zp 1 rfl ?_;simp only[Za,Zb,Zc];refine zw (hK15 _ _ (zrt ?_));(try simp only[zi,zj]);refine zR (Jbb _ rfl rfl rfl (M16.get 0 rfl) zu43 Jad rfl) rfl ?_;exact ⟨_, rfl, ((M16.nilst 5 1).arr [3, 4, 5, 6, 0] (by decide))⟩
 iterate 6 (refine zfl M8 0 zu37 rfl zz3 1 rfl zg3 (zo M8 (zleq rfl (zT (by omega))) (zp 1 rfl ?_));simp only[Za,Zb,Zc];refine zp 1 rfl (zw (hK14 _ _ (zct rfl (zk fun _ hK15 => zk fun _ hK16 => zr ?_))));simp only[Za,Zb,Zc];refine zo M8 (zf 3 zu37 rfl zz4) (zo M8 (zm 1 rfl zg4 (congrArg (fun b => some (Value.bool b)) hown)) (zp 2 rfl ?_));simp only[Za,Zb,Zc];rotate_left)
 rotate_right 6
 iterate 2 (refine zfl M8 0 zu37 rfl zz3 1 rfl zg3 (zo M8 (zneq (b := false) rfl (by rw [decide_eq_true (by omega)]; rfl)) (zp 1 rfl ?_));simp only[Za,Zb,Zc];refine zw (hK16 _ _ (zcf rfl (zsk (hK15 _ _ (zk fun _ hK17 => ?_)))));refine zk fun _ hK18 => zr ?_;rotate_left)
 rotate_right 2
 ·refine zp 1 rfl (zo M8 (Ja9 (r := false) rfl rfl rfl rfl zu60 rfl) ?_);simp only[Za,Zb,Zc];refine zw (hK18 _ _ (zcf rfl (zsk (hK17 _ _ (zk fun _ hK19 => ?_)))));refine zr ?_;refine zp 1 rfl (zo M8 (zlb 1 rfl zu37 rfl Jek) ?_);simp only[Za,Zb,Zc];have ho2 : OpOk w8 (Jag [disk D p pg mb qv]) o := ho.sub M8 (Je0 (L := [blk ga 43 ([zI 0, zI 0, zN, zI 0, zI 0, zI 0, zI 0, zI 0, zI 0, zI 0, zI 0, zI 0]), blk go 37 (opC o), blk wb 59 ([zS pds 2 cd, zS pfs 3 cf, zS rm R.length R.length]), blk rm 5 (bvs R), blk pds 60 CD, blk pfs 69 CF, disk D p pg mb qv]) (ix := [6]));have hX20 := M8.pk [6, 0, 1, 2, 3, 4, 5];simp only[Y3,Y4,Y1,Y2]at hX20;have hCH20 := Jlq hX20.h1 o ho2 hq;refine zca 29 _ rfl Tryz.call29 (hCH20) ?_;rintro e w20 ⟨qv2, rv, rfl, H20⟩;have M20 := hX20.f1 H20;simp only[Y1,Y2]at M20;refine ⟨_, rfl, ?_⟩;simp only[Za,Zb,Zc];have hrv := Jhz (M20.get 1 rfl);refine zsw M20 2 rfl Jad (Jhy hrv) rfl fun w21 M21 => ?_;simp only[Zg,Zh]at M21;simp only[Zv];refine zp 1 rfl ?_;simp only[Za,Zb,Zc];refine zw (hK19 _ _ (zrt ?_));(try simp only[zi,zj]);refine zR (Jbb _ rfl rfl rfl (M21.get 2 rfl) zu43 Jad rfl) rfl ?_;exact ⟨_, _, rfl, M21.arr [4, 5, 6, 7, 0, 1] (by decide)⟩
 ·refine zp 1 rfl (zo M8 (Ja9 (r := true) rfl rfl rfl rfl zu60 rfl) (zw (hK18 _ _ (zct rfl (zk fun _ hK19 => zr (zo M8 (Jaf (ps := []) (pv := []) (cs := [zI 0, zI 0, zN, zI 0, zI 0, zI 0, zI 0, zI 0, zI 0, zI 0, zI 0, zI 0]) rfl rfl rfl (by kernel_rfl)) ?_))))));simp only[Za,Zb,Zc];refine zsw M8 0 rfl Jad (Jak _ rfl) rfl fun w20 M20 => ?_;simp only[Zg,Zh]at M20;simp only[Zv];refine zp 1 rfl ?_;simp only[Za,Zb,Zc];refine zw (hK19 _ _ (zrt ?_));(try simp only[zi,zj]);refine zR (Jbb _ rfl rfl rfl (M20.get 0 rfl) zu43 Jad rfl) rfl ?_;exact ⟨_, rfl, ((M20.nilst 5 1).arr [3, 4, 5, 6, 0] (by decide))⟩
 iterate 2 (refine zfl M8 0 zu37 rfl zz3 1 rfl zg3 (zo M8 (zneq (b := true) rfl (by rw [decide_eq_false (by omega)]; rfl)) (zp 1 rfl (zw (hK16 _ _ (zct rfl (zk fun _ hK17 => zk fun _ hK18 => zr ?_))))));simp only[Za,Zb,Zc];rotate_left)
 rotate_right 2
 ·refine zp 1 rfl (zo M8 (Ja9 (r := false) rfl rfl rfl rfl zu69 rfl) ?_);simp only[Za,Zb,Zc];refine zw (hK18 _ _ (zcf rfl (zsk (hK17 _ _ (zk fun _ hK19 => ?_)))));refine zr ?_;refine zp 1 rfl (zo M8 (zlb 1 rfl zu37 rfl Jek) ?_);simp only[Za,Zb,Zc];have ho2 : OpOk w8 (Jag [disk D p pg mb qv, blk f 113 (fC V p)]) o := ho.sub M8 (Je0 (L := [blk ga 43 ([zI 0, zI 0, zN, zI 0, zI 0, zI 0, zI 0, zI 0, zI 0, zI 0, zI 0, zI 0]), blk go 37 (opC o), blk wb 59 ([zS pds 2 cd, zS pfs 3 cf, zS rm R.length R.length]), blk rm 5 (bvs R), blk pds 60 CD, blk pfs 69 CF, disk D p pg mb qv, blk f 113 (fC V p)]) (ix := [6, 7]));have hX20 := M8.pk [6, 7, 0, 1, 2, 3, 4, 5];simp only[Y3,Y4,Y1,Y2]at hX20;have hCH20 := Jqg hX20.h2 o ho2 (by omega) hq;refine zca 28 _ rfl Tryz.call28 (hCH20) ?_;rintro e w20 ⟨qv2, rv, rfl, H20⟩;have M20 := hX20.f2 H20;simp only[Y1,Y2]at M20;refine ⟨_, rfl, ?_⟩;simp only[Za,Zb,Zc];have hrv := Jhz (M20.get 2 rfl);refine zsw M20 3 rfl Jad (Jhy hrv) rfl fun w21 M21 => ?_;simp only[Zg,Zh]at M21;simp only[Zv];refine zp 1 rfl ?_;simp only[Za,Zb,Zc];refine zw (hK19 _ _ (zrt ?_));(try simp only[zi,zj]);refine zR (Jbb _ rfl rfl rfl (M21.get 3 rfl) zu43 Jad rfl) rfl ?_;exact ⟨_, _, rfl, M21.arr [5, 6, 7, 8, 0, 1, 2] (by decide)⟩
 ·refine zp 1 rfl (zo M8 (Ja9 (r := true) rfl rfl rfl rfl zu69 rfl) (zw (hK18 _ _ (zct rfl (zk fun _ hK19 => zr (zo M8 (Jaf (ps := []) (pv := []) (cs := [zI 0, zI 0, zN, zI 0, zI 0, zI 0, zI 0, zI 0, zI 0, zI 0, zI 0, zI 0]) rfl rfl rfl (by kernel_rfl)) ?_))))));simp only[Za,Zb,Zc];refine zsw M8 0 rfl Jad (Jak _ rfl) rfl fun w20 M20 => ?_;simp only[Zg,Zh]at M20;simp only[Zv];refine zp 1 rfl ?_;simp only[Za,Zb,Zc];refine zw (hK19 _ _ (zrt ?_));(try simp only[zi,zj]);refine zR (Jbb _ rfl rfl rfl (M20.get 0 rfl) zu43 Jad rfl) rfl ?_;exact ⟨_, rfl, ((M20.nilst 5 1).arr [3, 4, 5, 6, 0] (by decide))⟩
 iterate 2 (refine zp 4 rfl ?_;simp only[Za,Zb,Zc];refine zw (hK16 _ _ (zcf rfl (zsk (hK15 _ _ (zk fun _ hK17 => ?_)))));refine zk fun _ hK18 => zr ?_;rotate_left)
 rotate_right 2
 ·refine zp 1 rfl (zo M8 (Ja9 (r := false) rfl rfl rfl rfl zu60 rfl) ?_);simp only[Za,Zb,Zc];refine zw (hK18 _ _ (zcf rfl (zsk (hK17 _ _ (zk fun _ hK19 => ?_)))));refine zr ?_;refine zp 1 rfl (zo M8 (zlb 1 rfl zu37 rfl Jek) ?_);simp only[Za,Zb,Zc];have ho2 : OpOk w8 (Jag [disk D p pg mb qv]) o := ho.sub M8 (Je0 (L := [blk ga 43 ([zI 0, zI 0, zN, zI 0, zI 0, zI 0, zI 0, zI 0, zI 0, zI 0, zI 0, zI 0]), blk go 37 (opC o), blk wb 59 ([zS pds 2 cd, zS pfs 3 cf, zS rm R.length R.length]), blk rm 5 (bvs R), blk pds 60 CD, blk pfs 69 CF, disk D p pg mb qv]) (ix := [6]));have hX20 := M8.pk [6, 0, 1, 2, 3, 4, 5];simp only[Y3,Y4,Y1,Y2]at hX20;have hCH20 := Jlq hX20.h1 o ho2 hq;refine zca 29 _ rfl Tryz.call29 (hCH20) ?_;rintro e w20 ⟨qv2, rv, rfl, H20⟩;have M20 := hX20.f1 H20;simp only[Y1,Y2]at M20;refine ⟨_, rfl, ?_⟩;simp only[Za,Zb,Zc];have hrv := Jhz (M20.get 1 rfl);refine zsw M20 2 rfl Jad (Jhy hrv) rfl fun w21 M21 => ?_;simp only[Zg,Zh]at M21;simp only[Zv];refine zp 1 rfl ?_;simp only[Za,Zb,Zc];refine zw (hK19 _ _ (zrt ?_));(try simp only[zi,zj]);refine zR (Jbb _ rfl rfl rfl (M21.get 2 rfl) zu43 Jad rfl) rfl ?_;exact ⟨_, _, rfl, M21.arr [4, 5, 6, 7, 0, 1] (by decide)⟩
 ·refine zp 1 rfl (zo M8 (Ja9 (r := true) rfl rfl rfl rfl zu60 rfl) (zw (hK18 _ _ (zct rfl (zk fun _ hK19 => zr (zo M8 (Jaf (ps := []) (pv := []) (cs := [zI 0, zI 0, zN, zI 0, zI 0, zI 0, zI 0, zI 0, zI 0, zI 0, zI 0, zI 0]) rfl rfl rfl (by kernel_rfl)) ?_))))));simp only[Za,Zb,Zc];refine zsw M8 0 rfl Jad (Jak _ rfl) rfl fun w20 M20 => ?_;simp only[Zg,Zh]at M20;simp only[Zv];refine zp 1 rfl ?_;simp only[Za,Zb,Zc];refine zw (hK19 _ _ (zrt ?_));(try simp only[zi,zj]);refine zR (Jbb _ rfl rfl rfl (M20.get 0 rfl) zu43 Jad rfl) rfl ?_;exact ⟨_, rfl, ((M20.nilst 5 1).arr [3, 4, 5, 6, 0] (by decide))⟩
 iterate 2 (refine zfl M8 0 zu37 rfl zz3 1 rfl zg3 (zo M8 (zleq rfl (zT (by omega))) (zp 1 rfl ?_));simp only[Za,Zb,Zc];rotate_left)
 rotate_right 2
 ·refine zp 1 rfl (zw (hK13 _ _ (zct rfl (zk fun _ hK14 => zk fun _ hK15 => zr (zp 1 rfl (zo M8 (Ja9 (r := false) rfl rfl rfl rfl zu69 rfl) ?_))))));simp only[Za,Zb,Zc];refine zw (hK15 _ _ (zcf rfl (zsk (hK14 _ _ (zk fun _ hK16 => ?_)))));refine zr ?_;refine zp 2 rfl (zo M8 (zlb 1 rfl zu37 rfl Jek) ?_);simp only[Za,Zb,Zc];have ho2 : OpOk w8 (Jag [blk wb 59 ([zS pds 2 cd, zS pfs 3 cf, zS rm R.length R.length]), blk rm 5 (bvs R), disk D p pg mb qv, blk f 113 (fC V p)]) o := ho.sub M8 (Je0 (L := [blk ga 43 ([zI 0, zI 0, zN, zI 0, zI 0, zI 0, zI 0, zI 0, zI 0, zI 0, zI 0, zI 0]), blk go 37 (opC o), blk wb 59 ([zS pds 2 cd, zS pfs 3 cf, zS rm R.length R.length]), blk rm 5 (bvs R), blk pds 60 CD, blk pfs 69 CF, disk D p pg mb qv, blk f 113 (fC V p)]) (ix := [2, 3, 6, 7]));have hX17 := M8.pk [2, 3, 6, 7, 0, 1, 4, 5];simp only[Y3,Y4,Y1,Y2]at hX17;have hCH17 := Jyl hX17.h4 o ho2 hV hq hR;refine zca 27 _ rfl Tryz.call27 (hCH17) ?_;rintro e w17 ⟨qv2, rv, rm2, R2, rfl, H17, hR2⟩;have M17 := hX17.f4 H17;simp only[Y1,Y2]at M17;refine ⟨_, rfl, ?_⟩;simp only[Za,Zb,Zc];refine zp 2 rfl ?_;simp only[Za,Zb,Zc];have hrv := Jhz (M17.get 4 rfl);refine zsw M17 5 rfl Jad (Jhy hrv) rfl fun w18 M18 => ?_;simp only[Zg,Zh]at M18;simp only[Zv];refine zp 1 rfl ?_;simp only[Za,Zb,Zc];refine zw (hK16 _ _ (zrt ?_));(try simp only[zi,zj]);refine zR (Jbb _ rfl rfl rfl (M18.get 5 rfl) zu43 Jad rfl) rfl ?_;exact ⟨_, _, _, _, rfl, M18.arr [0, 1, 7, 8, 2, 3, 4] (by decide), hR2⟩
 ·refine zp 1 rfl (zw (hK13 _ _ (zct rfl (zk fun _ hK14 => zk fun _ hK15 => zr (zp 1 rfl (zo M8 (Ja9 (r := true) rfl rfl rfl rfl zu69 rfl) (zw (hK15 _ _ (zct rfl (zk fun _ hK16 => zr (zo M8 (Jaf (ps := []) (pv := []) (cs := [zI 0, zI 0, zN, zI 0, zI 0, zI 0, zI 0, zI 0, zI 0, zI 0, zI 0, zI 0]) rfl rfl rfl (by kernel_rfl)) ?_)))))))))));simp only[Za,Zb,Zc];refine zsw M8 0 rfl Jad (Jak _ rfl) rfl fun w17 M17 => ?_;simp only[Zg,Zh]at M17;simp only[Zv];refine zp 1 rfl ?_;simp only[Za,Zb,Zc];refine zw (hK16 _ _ (zrt ?_));(try simp only[zi,zj]);refine zR (Jbb _ rfl rfl rfl (M17.get 0 rfl) zu43 Jad rfl) rfl ?_;exact ⟨_, rfl, ((M17.nilst 5 1).arr [3, 4, 5, 6, 0] (by decide))⟩
 iterate 5 (refine zfl M8 0 zu37 rfl zz3 1 rfl zg3 (zo M8 (zeql rfl (zT (by omega))) (zp 1 rfl (zw (hK12 _ _ (zct rfl (zk fun _ hK13 => zr ?_))))));simp only[Za,Zb,Zc];refine zp 1 rfl ?_;simp only[Za,Zb,Zc];rotate_left)
 rotate_right 5
 iterate 3 (have hX14 := M8.pk [6, 0, 1, 2, 3, 4, 5];simp only[Y3,Y4,Y1,Y2]at hX14;rotate_left)
 rotate_right 3
 ·have hCH14 := (Jq4 hX14.h1).mono (fun e w' h => h.resolve_left (fun h => h.1 hO));refine zca 26 _ rfl Tryz.call26 (hCH14) ?_;rintro e w14 ⟨_, f, rfl, H14⟩;have M14 := hX14.f1 H14;simp only[Y1,Y2]at M14;refine ⟨_, rfl, ?_⟩;simp only[Za,Zb,Zc];refine zp 4 rfl ?_;simp only[Za,Zb,Zc];refine zp 1 rfl (zw (hK13 _ _ (zk fun _ hK15 => zk fun _ hK16 => zr ?_)));simp only[Za,Zb,Zc];refine zp 1 rfl (zo M14 (zeql rfl (zT (by decide))) (zp 1 rfl (zo M14 (Jd0 (r := true) rfl rfl rfl rfl zu69 rfl) ?_)));simp only[Za,Zb,Zc];refine zo M14 (Jyd (r := false) rfl rfl rfl rfl zu4 rfl) ?_;simp only[Za,Zb,Zc];refine zw (hK16 _ _ (zcf rfl (zsk (hK15 _ _ (zk fun _ hK17 => ?_)))));refine zk fun _ hK18 => zr ?_;refine zp 1 rfl (zo M14 (Jd0 (r := true) rfl rfl rfl rfl zu69 rfl) (zw (hK18 _ _ (zct rfl (zr ?_)))));simp only[Za,Zb,Zc];refine zp 2 rfl (zfl M14 1 zu59 rfl zz57 4 rfl zg57 ?_);simp only[Za,Zb,Zc];refine zp 2 rfl (zo M14 (Jbc (r := ja) rfl rfl rfl rfl zu57 zz69 (by omega) (by omega)) ?_);simp only[Za,Zb,Zc];refine zso M14 7 (v := zP f 0) rfl rfl zz69 ((List.getElem?_eq_some_iff.1 hF).1) ?_;intro w19 (M19 : Mem w _ w19 [disk (Jce D) p pg mb qv, blk f 113 (fC (Jd5 D) p), blk ga 43 ([zI 0, zI 0, zN, zI 0, zI 0, zI 0, zI 0, zI 0, zI 0, zI 0, zI 0, zI 0]), blk go 37 (opC o), blk wb 59 ([zS pds 2 cd, zS pfs 3 cf, zS rm R.length R.length]), blk rm 5 (bvs R), blk pds 60 CD, blk pfs 69 (CF.set ja (zP f 0))]);simp only[Zv];refine zw (hK17 _ _ (zk fun _ hK20 => ?_));have M21 := M19.drew;have hzM21 := M21.pk [4, 7];simp only[Y3,Y4,Y1,Y2]at hzM21;refine zhb hzM21 (by kernel_rfl) fun hS => ?_;refine zt 0 rfl (zy rfl) hS ?_;simp only[Za,Zb,Zc];refine zt 1 rfl (Jaf (ps := [(0, .tmp 66)]) (pv := [(0, zI 0)]) (cs := [zI 0, zI 0, zN, zI 0, zI 0, zI 0, zI 0, zI 0, zI 0, zI 0, zI 0, zI 0]) rfl rfl rfl (by kernel_rfl)) hS (zt 2 rfl (zy rfl) hS (zt 3 rfl (zy rfl) hS (zt 4 rfl (zf 1 zu59 rfl zz57) hS ?_)));simp only[Za,Zb,Zc];refine zt 5 rfl (zl 0 rfl zg57) hS (zt 6 rfl (zy rfl) hS ?_);simp only[Za,Zb,Zc];refine zt 7 rfl (Jbc (r := ja) rfl rfl rfl rfl zu57 zz69 (by omega) (by omega)) hS (zt 8 rfl (zm 1 rfl zg69 (List.getElem?_set_self (List.getElem?_eq_some_iff.1 hF).1)) hS ?_);simp only[Za,Zb,Zc];refine zt 9 rfl (Jd0 (r := true) rfl rfl rfl rfl zu69 rfl) hS (zt 10 rfl (zy rfl) hS ?_);simp only[Za,Zb,Zc];refine zt 11 rfl (Jj5 (r := true) rfl rfl rfl rfl zu4 rfl) hS ?_;simp only[Za,Zb,Zc];refine Jae 12 (by kernel_rfl) rfl (by rfl) (fun K hK => ?_);refine Jbj M21 2 rfl rfl rfl rfl Jad (Jak _ rfl) rfl (rfl) ?_;intro w22 M22;simp only[Zg,Zh]at M22;refine hK.out _ _ (M22.arr [4, 7] (by decide)) (fun hS => ?_);simp only[Ze,Zb,Zc,Zd];refine zt 13 rfl (zy rfl) hS ?_;simp only[Za,Zb,Zc];refine Jao (by kernel_rfl) (hK20 _ _ ?_) _;refine zrt ?_;(try simp only[zi,zj]);refine zR (Jbb _ rfl rfl rfl (M22.get 2 rfl) zu43 Jad rfl) rfl ?_;exact ⟨_, _, rfl, ((M22.nilst 5 1).arr [5, 6, 7, 8, 1, 2, 0] (by decide))⟩
 iterate 2 (have hCH14 := (Jq4 hX14.h1).mono (fun e w' h => h.resolve_right (fun h => hO h.1));refine zca 26 _ rfl Tryz.call26 (hCH14) ?_;rintro e w14 ⟨_, rfl, H14⟩;have M14 := hX14.f1 H14;simp only[Y1,Y2]at M14;refine ⟨_, rfl, ?_⟩;simp only[Za,Zb,Zc];refine zp 4 rfl ?_;simp only[Za,Zb,Zc];refine zp 1 rfl (zw (hK13 _ _ (zk fun _ hK15 => zk fun _ hK16 => zr ?_)));simp only[Za,Zb,Zc];refine zp 1 rfl (zo M14 (zeql rfl (zF hO)) (zp 1 rfl (zo M14 (Jd0 (r := false) rfl rfl rfl rfl zu69 rfl) ?_)));simp only[Za,Zb,Zc];refine zo M14 (Jyd (r := false) rfl rfl rfl rfl zu4 rfl) ?_;simp only[Za,Zb,Zc];refine zw (hK16 _ _ (zcf rfl (zsk (hK15 _ _ (zk fun _ hK17 => ?_)))));refine zk fun _ hK18 => zr ?_;refine zp 1 rfl (zo M14 (Jd0 (r := false) rfl rfl rfl rfl zu69 rfl) ?_);simp only[Za,Zb,Zc];refine zw (hK18 _ _ (zcf rfl (zsk (hK17 _ _ (zk fun _ hK19 => ?_)))));have M20 := M14.drew;have hzM20 := M20.pk [3, 6];simp only[Y3,Y4,Y1,Y2]at hzM20;refine zhb hzM20 (by kernel_rfl) fun hS => ?_;refine zt 0 rfl (zy rfl) hS ?_;simp only[Za,Zb,Zc];refine zt 1 rfl (Jaf (ps := [(0, .tmp 66)]) (pv := [(0, zI (Jbx D))]) (cs := [zI (Jbx D), zI 0, zN, zI 0, zI 0, zI 0, zI 0, zI 0, zI 0, zI 0, zI 0, zI 0]) rfl rfl rfl (by kernel_rfl)) hS (zt 2 rfl (zy rfl) hS (zt 3 rfl (zy rfl) hS (zt 4 rfl (zf 1 zu59 rfl zz57) hS ?_)));simp only[Za,Zb,Zc];refine zt 5 rfl (zl 0 rfl zg57) hS (zt 6 rfl (zy rfl) hS ?_);simp only[Za,Zb,Zc];refine zt 7 rfl (Jbc (r := ja) rfl rfl rfl rfl zu57 zz69 (by omega) (by omega)) hS (zt 8 rfl (zm 1 rfl zg69 (hF)) hS ?_);simp only[Za,Zb,Zc];rotate_left)
 rotate_right 2
 ·refine zt 9 rfl (Jd0 (r := false) rfl rfl rfl rfl zu69 rfl) hS (zt 10 rfl (zy rfl) hS ?_);simp only[Za,Zb,Zc];refine zt 11 rfl (Jj5 (r := true) rfl rfl rfl rfl zu4 rfl) hS ?_;simp only[Za,Zb,Zc];refine Jae 12 (by kernel_rfl) rfl (by rfl) (fun K hK => ?_);refine Jbj M20 1 rfl rfl rfl rfl Jad (Jak _ rfl) rfl (rfl) ?_;intro w21 M21;simp only[Zg,Zh]at M21;refine hK.out _ _ (M21.arr [3, 6] (by decide)) (fun hS => ?_);simp only[Ze,Zb,Zc,Zd];refine zt 13 rfl (zy rfl) hS ?_;simp only[Za,Zb,Zc];refine Jao (by kernel_rfl) (hK19 _ _ ?_) _;refine zrt ?_;(try simp only[zi,zj]);refine zR (Jbb _ rfl rfl rfl (M21.get 1 rfl) zu43 Jad rfl) rfl ?_;exact ⟨_, rfl, ((M21.nilst 5 1).arr [4, 5, 6, 7, 1, 0] (by decide))⟩
 ·refine zt 9 rfl (Jd0 (r := true) rfl rfl rfl rfl zu69 rfl) hS (zt 10 rfl (zy rfl) hS ?_);simp only[Za,Zb,Zc];refine zt 11 rfl (Jj5 (r := true) rfl rfl rfl rfl zu4 rfl) hS ?_;simp only[Za,Zb,Zc];refine Jae 12 (by kernel_rfl) rfl (by rfl) (fun K hK => ?_);refine Jbj M20 1 rfl rfl rfl rfl Jad (Jak _ rfl) rfl (rfl) ?_;intro w21 M21;simp only[Zg,Zh]at M21;refine hK.out _ _ (M21.arr [3, 6] (by decide)) (fun hS => ?_);simp only[Ze,Zb,Zc,Zd];refine zt 13 rfl (zy rfl) hS ?_;simp only[Za,Zb,Zc];refine Jao (by kernel_rfl) (hK19 _ _ ?_) _;refine zrt ?_;(try simp only[zi,zj]);refine zR (Jbb _ rfl rfl rfl (M21.get 1 rfl) zu43 Jad rfl) rfl ?_;exact ⟨_, rfl, ((M21.nilst 5 1).arr [4, 5, 6, 7, 1, 0] (by decide))⟩
 iterate 2 (refine zcl M8 26 _ rfl Tryz.call26 (Juu _) fun w14 M14 => ?_;simp only[Za,Zb,Zc];refine zp 4 rfl ?_;simp only[Za,Zb,Zc];refine zp 1 rfl (zw (hK13 _ _ (zk fun _ hK15 => zk fun _ hK16 => zr ?_)));simp only[Za,Zb,Zc];refine zp 1 rfl (zo M14 (zeql rfl (zF (by decide))) (zp 1 rfl (zo M14 (Jd0 (r := false) rfl rfl rfl rfl zu69 rfl) ?_)));simp only[Za,Zb,Zc];refine zo M14 (Jyd (r := false) rfl rfl rfl rfl zu4 rfl) ?_;simp only[Za,Zb,Zc];refine zw (hK16 _ _ (zcf rfl (zsk (hK15 _ _ (zk fun _ hK17 => ?_)))));refine zk fun _ hK18 => zr ?_;refine zp 1 rfl (zo M14 (Jd0 (r := false) rfl rfl rfl rfl zu69 rfl) ?_);simp only[Za,Zb,Zc];refine zw (hK18 _ _ (zcf rfl (zsk (hK17 _ _ (zk fun _ hK19 => ?_)))));have M20 := M14.drew;have hzM20 := M20.pk [2, 5];simp only[Y3,Y4,Y1,Y2]at hzM20;refine zhb hzM20 (by kernel_rfl) fun hS => ?_;refine zt 0 rfl (zy rfl) hS ?_;simp only[Za,Zb,Zc];refine zt 1 rfl (Jaf (ps := [(0, .tmp 66)]) (pv := [(0, zI 1)]) (cs := [zI 1, zI 0, zN, zI 0, zI 0, zI 0, zI 0, zI 0, zI 0, zI 0, zI 0, zI 0]) rfl rfl rfl (by kernel_rfl)) hS (zt 2 rfl (zy rfl) hS (zt 3 rfl (zy rfl) hS (zt 4 rfl (zf 1 zu59 rfl zz57) hS ?_)));simp only[Za,Zb,Zc];refine zt 5 rfl (zl 0 rfl zg57) hS (zt 6 rfl (zy rfl) hS ?_);simp only[Za,Zb,Zc];refine zt 7 rfl (Jbc (r := ja) rfl rfl rfl rfl zu57 zz69 (by omega) (by omega)) hS (zt 8 rfl (zm 1 rfl zg69 (hF)) hS ?_);simp only[Za,Zb,Zc];rotate_left)
 rotate_right 2
 ·refine zt 9 rfl (Jd0 (r := false) rfl rfl rfl rfl zu69 rfl) hS (zt 10 rfl (zy rfl) hS ?_);simp only[Za,Zb,Zc];refine zt 11 rfl (Jj5 (r := true) rfl rfl rfl rfl zu4 rfl) hS ?_;simp only[Za,Zb,Zc];refine Jae 12 (by kernel_rfl) rfl (by rfl) (fun K hK => ?_);refine Jbj M20 0 rfl rfl rfl rfl Jad (Jak _ rfl) rfl (rfl) ?_;intro w21 M21;simp only[Zg,Zh]at M21;refine hK.out _ _ (M21.arr [2, 5] (by decide)) (fun hS => ?_);simp only[Ze,Zb,Zc,Zd];refine zt 13 rfl (zy rfl) hS ?_;simp only[Za,Zb,Zc];refine Jao (by kernel_rfl) (hK19 _ _ ?_) _;refine zrt ?_;(try simp only[zi,zj]);refine zR (Jbb _ rfl rfl rfl (M21.get 0 rfl) zu43 Jad rfl) rfl ?_;exact ⟨_, rfl, ((M21.nilst 5 1).arr [3, 4, 5, 6, 0] (by decide))⟩
 ·refine zt 9 rfl (Jd0 (r := true) rfl rfl rfl rfl zu69 rfl) hS (zt 10 rfl (zy rfl) hS ?_);simp only[Za,Zb,Zc];refine zt 11 rfl (Jj5 (r := true) rfl rfl rfl rfl zu4 rfl) hS ?_;simp only[Za,Zb,Zc];refine Jae 12 (by kernel_rfl) rfl (by rfl) (fun K hK => ?_);refine Jbj M20 0 rfl rfl rfl rfl Jad (Jak _ rfl) rfl (rfl) ?_;intro w21 M21;simp only[Zg,Zh]at M21;refine hK.out _ _ (M21.arr [2, 5] (by decide)) (fun hS => ?_);simp only[Ze,Zb,Zc,Zd];refine zt 13 rfl (zy rfl) hS ?_;simp only[Za,Zb,Zc];refine Jao (by kernel_rfl) (hK19 _ _ ?_) _;refine zrt ?_;(try simp only[zi,zj]);refine zR (Jbb _ rfl rfl rfl (M21.get 0 rfl) zu43 Jad rfl) rfl ?_;exact ⟨_, rfl, ((M21.nilst 5 1).arr [3, 4, 5, 6, 0] (by decide))⟩
 all_goals (refine zfl M8 0 zu37 rfl zz3 1 rfl zg3 (zo M8 (zeql rfl (zT (by omega))) (zp 1 rfl (zw (hK11 _ _ (zct rfl (zk fun _ hK12 => zr ?_))))));simp only[Za,Zb,Zc];refine zp 1 rfl (zfl M8 4 zu37 rfl zz3 1 rfl zg3 ?_);simp only[Za,Zb,Zc])
 ·have hX13 := M8.pk [6, 0, 1, 2, 3, 4, 5];simp only[Y3,Y4,Y1,Y2]at hX13;have hCH13 := Jrz hX13.h1 o.n hq;refine zca 25 _ rfl Tryz.call25 (hCH13) ?_;rintro e w13 ⟨qv2, rfl, H13⟩;have M13 := hX13.f1 H13;simp only[Y1,Y2]at M13;refine ⟨_, rfl, ?_⟩;simp only[Za,Zb,Zc];refine zo M13 (Jaf (ps := [(0, .tmp 39)]) (pv := [(0, zI ((Jat D o.n).2))]) (cs := [zI ((Jat D o.n).2), zI 0, zN, zI 0, zI 0, zI 0, zI 0, zI 0, zI 0, zI 0, zI 0, zI 0]) rfl rfl rfl (by kernel_rfl)) ?_;simp only[Za,Zb,Zc];refine zsw M13 1 rfl Jad (Jak _ rfl) rfl fun w14 M14 => ?_;simp only[Zg,Zh]at M14;simp only[Zv];refine zp 1 rfl ?_;simp only[Za,Zb,Zc];refine zw (hK12 _ _ (zrt ?_));(try simp only[zi,zj]);refine zR (Jbb _ rfl rfl rfl (M14.get 1 rfl) zu43 Jad rfl) rfl ?_;exact ⟨_, _, rfl, ((M14.nilst 5 1).arr [4, 5, 6, 7, 1, 0] (by decide))⟩
 ·refine zcl M8 25 _ rfl Tryz.call25 (Jqk o.n _) fun w13 M13 => ?_;simp only[Za,Zb,Zc];refine zo M13 (Jaf (ps := [(0, .tmp 39)]) (pv := [(0, zI 1)]) (cs := [zI 1, zI 0, zN, zI 0, zI 0, zI 0, zI 0, zI 0, zI 0, zI 0, zI 0, zI 0]) rfl rfl rfl (by kernel_rfl)) ?_;simp only[Za,Zb,Zc];refine zsw M13 0 rfl Jad (Jak _ rfl) rfl fun w14 M14 => ?_;simp only[Zg,Zh]at M14;simp only[Zv];refine zp 1 rfl ?_;simp only[Za,Zb,Zc];refine zw (hK12 _ _ (zrt ?_));(try simp only[zi,zj]);refine zR (Jbb _ rfl rfl rfl (M14.get 0 rfl) zu43 Jad rfl) rfl ?_;exact ⟨_, rfl, ((M14.nilst 5 1).arr [3, 4, 5, 6, 0] (by decide))⟩
abbrev Ds := List (Option DV)
abbrev Fs := List (Option (FV × Nat))
def kdOf (o : OpV) : Nat := (o.dk % 2).toNat
def jaOf (o : OpV) : Nat := (o.fl % 3).toNat
theorem Jzp (o : OpV) : kdOf o < 2 ∧ o.dk % 2 = (kdOf o : Int) := by unfold kdOf; omega
theorem Jyq (o : OpV) : jaOf o < 3 ∧ o.fl % 3 = (jaOf o : Int) := by unfold jaOf; omega
def onDisk (sd : Ds) (bs : Fs) (k : Nat) (f : DV → DV × AnsV) (no : AnsV) : Ds × Fs × AnsV :=
  match sd[k]? with
  | some (some D) => (sd.set k (some (f D).1), bs, (f D).2)
  | _ => (sd, bs, no)
def Jas (sd : Ds) (bs : Fs) (o : OpV) : Ds × Fs × AnsV :=
  if o.k = 1 then onDisk sd bs (kdOf o) (fun D => ((Jat D o.n).1, { Jay with e := (Jat D o.n).2 })) { Jay with e := 1 }
  else if o.k = 2 then
    match sd[kdOf o]? with
    | some (some D) => (sd.set (kdOf o) (some (Jce D)), (if Jbx D = 0 then bs.set (jaOf o) (some (Jd5 D, kdOf o)) else bs), { Jay with e := Jbx D })
    | _ => (sd, bs, { Jay with e := 1 })
  else if 3 ≤ o.k ∧ o.k ≤ 9 then
    match bs[jaOf o]? with
    | some (some (V, d)) =>
      match sd[d]? with
      | some (some D) => (sd.set d (some (fileOp D V o).1), bs.set (jaOf o) (some ((fileOp D V o).2.1, d)), (fileOp D V o).2.2)
      | _ => (sd, bs, Jay)
    | _ => (sd, bs, Jay)
  else if 10 ≤ o.k ∧ o.k ≤ 21 then
    if o.own = false ∧ o.k < 21 then
      match bs[jaOf o]? with
      | some (some (V, d)) => onDisk sd bs d (fun D => diskOp D o) Jay
      | _ => (sd, bs, Jay)
    else onDisk sd bs (kdOf o) (fun D => diskOp D o) Jay
  else (sd, bs, Jay)
structure AInv (sd : Ds) (bs : Fs) (n : Nat) : Prop where
  al : sd.length = 2
  bl : bs.length = 3
  dk : ∀ D, some D ∈ sd → DOk D ∧ D.q.length ≤ n
  fl : ∀ V d, some (V, d) ∈ bs → ∃ D, sd[d]? = some (some D) ∧ FOk D V
theorem Juy (D : DV) : (actD D).q.length = D.q.length := by rw [(Jez D).2.1]
theorem Juz (D : DV) (p : Int) (d : List UInt8) : (Jax D p d).q.length ≤ D.q.length + 1 := by
 unfold Jax;split
 ·omega
 ·split
  ·split
   ·rw [Juy]; simp [Jeg]
   ·omega
  ·omega
theorem Jw2 (D : DV) : (Jbo D).q.length ≤ D.q.length := by
 unfold Jbo;split
 ·exact Nat.le_refl _
 ·split
  ·rw [Juy]; exact Nat.le_refl _
  ·simp [Jin]
theorem Jsk {D : DV} (h : DOk D) (p : Int) (d : List UInt8) : DOk (Jax D p d) := by
 unfold Jax;split
 ·exact h
 ·split
  ·rename_i hp;split
   ·rename_i hl;obtain ⟨k, rfl⟩ := Int.eq_ofNat_of_zero_le hp.1;exact Jlj (Jfq h (by have := hp.2; omega) hl)
   ·exact h
  ·exact h
theorem Ju0 {D : DV} (h : DOk D) : DOk (Jbo D) := by
 unfold Jbo;split
 ·exact h
 ·split
  ·exact Jlj h
  ·exact Jqz (Jlj h) _
structure Chg (D E : DV) (k : Nat) : Prop where
  ok : DOk D → DOk E
  pl : E.pages.length = D.pages.length
  ql : E.q.length ≤ D.q.length + k
theorem Chg.refl (D : DV) (k : Nat) : Chg D D k := ⟨id, rfl, by omega⟩
theorem Chg.trans {A B C : DV} {j k : Nat} (h : Chg A B j) (h' : Chg B C k) : Chg A C (j + k) := ⟨fun x => h'.ok (h.ok x), h'.pl.trans h.pl, by have := h.ql; have := h'.ql; omega⟩
theorem Chg.le {A B : DV} {j k : Nat} (h : Chg A B j) (hk : j ≤ k) : Chg A B k := ⟨h.ok, h.pl, by have := h.ql; omega⟩
theorem Chg.write (D : DV) (p : Int) (d : List UInt8) : Chg D (Jax D p d) 1 := ⟨fun h => Jsk h p d, by rw [Jki], Juz D p d⟩
theorem Chg.sync (D : DV) : Chg D (Jbo D) 0 := ⟨Ju0, Jrc, Jw2 D⟩
theorem Jmy (D : DV) (p : Int) : (Jby D p).pages = D.pages ∧ (Jby D p).q = D.q := by
 unfold Jby;split
 ·exact ⟨rfl, rfl⟩
 ·split <;> exact ⟨rfl, rfl⟩
theorem Chg.read (D : DV) (p : Int) : Chg D (Jby D p) 0 := ⟨fun h => Jen h p, by rw [(Jmy D p).1], by rw [(Jmy D p).2]; omega⟩
theorem Chg.slots (D : DV) : Chg D (Jbm D) 0 := by
 unfold Jbm;split
 ·exact Chg.refl _ _
 ·exact (Chg.read D 0).trans (Chg.read _ 1)
theorem Chg.runS : ∀ (fs : List (DV → DV × Int)), (∀ f ∈ fs, ∀ E, Chg E (f E).1 1) → ∀ D, Chg D (runS fs D).1 fs.length
  | [], _, D => Chg.refl D 0
  | f :: fs, h, D => by
    rw [Jbl]
    have h1 := h f (List.mem_cons_self ..) D
    split
    · exact (h1.trans (Chg.runS fs (fun g hg => h g (List.mem_cons_of_mem _ hg)) _)).le (by simp; omega)
    · exact h1.le (by simp)
theorem Chg.wS (s : SupV) (E : DV) : Chg E (wS s E).1 1 := Chg.write _ _ _
theorem Chg.yS (E : DV) : Chg E (yS E).1 1 := (Chg.sync E).le (by decide)
theorem Chg.format (D : DV) (width : Int) : Chg D (Jat D width).1 4 := by
 unfold Jat;split
 ·exact Chg.refl _ _
 ·split
  ·exact Chg.refl _ _
  ·split
   ·exact (Chg.slots D).le (by decide)
   ·refine ((Chg.slots D).trans (Chg.runS _ ?_ _)).le (by simp);intro f hf E;simp only [List.mem_cons, List.not_mem_nil, or_false] at hf;rcases hf with rfl | rfl | rfl | rfl
    ·exact Chg.wS _ _
    ·exact Chg.yS _
    ·exact Chg.wS _ _
    ·exact Chg.yS _
theorem Chg.claim (D : DV) : Chg D (Jcs D) 0 := ⟨Jnd, rfl, Nat.le_refl _⟩
theorem Chg.open (D : DV) : Chg D (Jce D) 0 := by
 unfold Jce;split
 ·exact (Chg.slots D).trans (Chg.claim _)
 ·exact Chg.slots D
theorem Chg.app (D : DV) (V : FV) (k : Int) (l : List UInt8) : Chg D (appD D V k l) 1 := by
 unfold appD;split
 ·exact Chg.refl _ _
 ·exact Chg.write _ _ _
theorem Chg.fread (D : DV) (V : FV) (p : Int) : Chg D (Jdk D V p) 0 := by
 unfold Jdk;split
 ·exact Chg.refl _ _
 ·exact Chg.read _ _
theorem Chg.pub (D : DV) (V : FV) (h : Int) : Chg D (pubR D V h).1 3 := by
 unfold pubR;split
 ·exact Chg.refl _ _
 ·split
  ·exact Chg.refl _ _
  ·split
   ·exact Chg.refl _ _
   ·refine (Chg.runS _ ?_ _).le (by simp);intro f hf E;simp only [List.mem_cons, List.not_mem_nil, or_false] at hf;rcases hf with rfl | rfl | rfl
    ·exact Chg.yS _
    ·exact Chg.wS _ _
    ·exact Chg.yS _
theorem Chg.arm (D : DV) {n : Int} (hn : inI n) : Chg D (armD D n) 0 := by
 unfold armD;split
 ·exact Chg.refl _ _
 ·exact ⟨fun h => Js8 h hn.2, rfl, Nat.le_refl _⟩
theorem Chg.crash (D : DV) (l : List UInt8) : Chg D (Jcz D l) 0 := ⟨fun h => Jgt h l, Jca _ _, by show (0 : Nat) ≤ _; exact Nat.zero_le _⟩
theorem Chg.flip (D : DV) (p b : Int) (x : UInt32) : Chg D (Jdr D p b x) 0 := by
 unfold Jdr;split
 ·rename_i hp;split
  ·refine ⟨fun h => Jkx h _ _ ?_, List.length_set .., Nat.le_refl _⟩;rw [Jje];exact Jb6 h.len (by have := hp.2; have := hp.1; omega)
  ·exact Chg.refl _ _
 ·exact Chg.refl _ _
theorem Chg.diskOp (D : DV) (o : OpV) (hn : inI o.n) : Chg D (diskOp D o).1 1 := by
 unfold Go.Proofs.YtodhlfinbbajfaaGreatDoor.diskOp;by_cases c10 : o.k = 10
 ·rw [if_pos c10]; exact Chg.refl _ _
 rw [if_neg c10];by_cases c11 : o.k = 11
 ·rw [if_pos c11]; exact Chg.refl _ _
 rw [if_neg c11];by_cases c12 : o.k = 12
 ·rw [if_pos c12]; exact Chg.refl _ _
 rw [if_neg c12];by_cases c13 : o.k = 13
 ·rw [if_pos c13]; exact Chg.refl _ _
 rw [if_neg c13];by_cases c14 : o.k = 14
 ·rw [if_pos c14]; exact Chg.refl _ _
 rw [if_neg c14];by_cases c15 : o.k = 15
 ·rw [if_pos c15]; exact (Chg.sync D).le (Nat.zero_le _)
 rw [if_neg c15];by_cases c16 : o.k = 16
 ·rw [if_pos c16]; exact Chg.write _ _ _
 rw [if_neg c16];by_cases c17 : o.k = 17
 ·rw [if_pos c17]; exact (Chg.arm D hn).le (Nat.zero_le _)
 rw [if_neg c17];by_cases c18 : o.k = 18
 ·rw [if_pos c18]; exact (Chg.crash _ _).le (Nat.zero_le _)
 rw [if_neg c18];by_cases c19 : o.k = 19
 ·rw [if_pos c19]; exact (Chg.flip _ _ _ _).le (Nat.zero_le _)
 rw [if_neg c19];by_cases c20 : o.k = 20
 ·rw [if_pos c20]; exact (Chg.claim _).le (Nat.zero_le _)
 rw [if_neg c20];by_cases c21 : o.k = 21
 ·rw [if_pos c21]; exact (Chg.read _ _).le (Nat.zero_le _)
 rw [if_neg c21];exact Chg.refl _ _
theorem Chg.fileOp (D : DV) (V : FV) (o : OpV) : Chg D (fileOp D V o).1 3 := by
 unfold Go.Proofs.YtodhlfinbbajfaaGreatDoor.fileOp;by_cases c3 : o.k = 3
 ·rw [if_pos c3]; exact Chg.refl _ _
 rw [if_neg c3];by_cases c4 : o.k = 4
 ·rw [if_pos c4]; exact Chg.refl _ _
 rw [if_neg c4];by_cases c5 : o.k = 5
 ·rw [if_pos c5]; exact Chg.refl _ _
 rw [if_neg c5];by_cases c6 : o.k = 6
 ·rw [if_pos c6]; exact Chg.refl _ _
 rw [if_neg c6];by_cases c7 : o.k = 7
 ·rw [if_pos c7]; exact (Chg.app _ _ _ _).le (by decide)
 rw [if_neg c7];by_cases c8 : o.k = 8
 ·rw [if_pos c8]; exact (Chg.fread _ _ _).le (by decide)
 rw [if_neg c8];by_cases c9 : o.k = 9
 ·rw [if_pos c9]; exact Chg.pub _ _ _
 rw [if_neg c9];exact Chg.refl _ _
theorem FOk.chg {D E : DV} {V : FV} {k : Nat} (h : FOk D V) (hc : Chg D E k) : FOk E V := ⟨h.valid, by rw [hc.pl]; exact h.pages, h.lo, h.hi, h.mark⟩
theorem FOk.fileOp {D : DV} {V : FV} (h : FOk D V) (o : OpV) : FOk D (fileOp D V o).2.1 := by
 have hm := h.valid.2.2.2.2.2.2.1;have h1 : FOk D { V with next := V.s.mark } := ⟨h.valid, h.pages, by show 2 ≤ V.s.mark; have := h.valid.2.2.2.2.2.2.1; omega, by show V.s.mark ≤ V.s.pages; exact h.valid.2.2.2.2.2.2.2.1, by show V.s.mark ≤ V.s.mark; omega⟩
 have h2 : FOk D (appV D V o.n o.l) := by
   unfold appV;split
   ·rename_i he
    have hx : V.next < (D.pages.length : Int) := by
      unfold appE at he;split at he
      ·rename_i hL; exact absurd he hL
      ·split at he
       ·cases he
       ·split at he
        ·cases he
        ·split at he
         ·cases he
         ·omega
    have := h.lo;have := h.mark;have := h.pages;exact ⟨h.valid, h.pages, by show 2 ≤ V.next + 1; omega, by show V.next + 1 ≤ V.s.pages; omega, by show V.s.mark ≤ V.next + 1; omega⟩
   ·exact h
 have h3 : FOk D (pubV D V o.n) := by
   unfold pubV;split
   ·rename_i he
    have hg : V.s.gen < 1099511627776 ∧ (o.n = 0 ∨ (2 ≤ o.n ∧ o.n < V.next)) := by
      unfold pubR at he;split at he
      ·rename_i hL; exact absurd he hL
      ·split at he
       ·cases he
       ·split at he
        ·cases he
        ·omega
    exact ⟨Jia h hg.1 hg.2, h.pages, h.lo, h.hi, Int.le_refl _⟩
   ·exact h
 unfold Go.Proofs.YtodhlfinbbajfaaGreatDoor.fileOp;by_cases c3 : o.k = 3
 ·rw [if_pos c3]; exact h
 rw [if_neg c3];by_cases c4 : o.k = 4
 ·rw [if_pos c4]; exact h
 rw [if_neg c4];by_cases c5 : o.k = 5
 ·rw [if_pos c5]; exact h
 rw [if_neg c5];by_cases c6 : o.k = 6
 ·rw [if_pos c6]; exact h1
 rw [if_neg c6];by_cases c7 : o.k = 7
 ·rw [if_pos c7]; exact h2
 rw [if_neg c7];by_cases c8 : o.k = 8
 ·rw [if_pos c8]; exact h
 rw [if_neg c8];by_cases c9 : o.k = 9
 ·rw [if_pos c9]; exact h3
 rw [if_neg c9];exact h
theorem Jnt {a b : List UInt8} (h : Jbh a b = 0) : Jbq (Jb8 a b) := by
 unfold Jbh at h;unfold Jb8;split at h
 ·rename_i hu;rw [if_pos hu];obtain ⟨c1, c2, c3, c4⟩ := Jbf (unpS a) (unpS b);by_cases hr : NewR (unpS a) (unpS b)
  ·by_cases h1 : NewA (unpS a) (unpS b)
   ·rw [(c3 hr h1).2]; exact Jgi hu.1
   ·by_cases h2 : NewA (unpS b) (unpS a)
    ·rw [(c4 hr h2).2]; exact Jgi hu.2
    ·rw [(c2 hr h1 h2).1] at h; cases h
  ·rw [(c1 hr).1] at h; cases h
 ·split at h
  ·cases h
  ·split at h <;> cases h
theorem FOk.open {D : DV} (h : Jbx D = 0) : FOk (Jce D) (Jd5 D) := by
 have hs : Jcx D = 0 := by
   unfold Jbx at h;split at h
   ·rename_i hn; exact absurd h hn
   ·rename_i hn; exact Decidable.of_not_not hn
 have hp : (Jc7 D).pages = (D.pages.length : Int) := by
   unfold Jbx at h;rw [if_neg (fun x => x hs)] at h;split at h
   ·cases h
   ·rename_i hn; exact Decidable.of_not_not hn
 have hd : ¬ D.dead = true := fun hd => by
   unfold Jcx at hs;rw [if_pos hd] at hs; cases hs
 have hv : Jbq (Jc7 D) := by
   unfold Jcx at hs;unfold Jc7;rw [if_neg hd] at hs ⊢;exact Jnt hs
 exact ⟨hv, by rw [(Chg.open D).pl]; exact hp, hv.2.2.2.2.2.2.1, hv.2.2.2.2.2.2.2.1, Int.le_refl _⟩
theorem Jlr {α : Type} {l : List α} {k : Nat} {x y : α} (h : y ∈ l.set k x) : y = x ∨ y ∈ l := by
 rcases List.mem_or_eq_of_mem_set h with h | h
 ·exact .inr h
 ·exact .inl h
theorem AInv.setD {sd : Ds} {bs : Fs} {n k d : Nat} (h : AInv sd bs n) {D E : DV} (hd : sd[d]? = some (some D)) (hc : Chg D E k) (hk : k ≤ 4) : AInv (sd.set d (some E)) bs (n + 4) where
  al := by rw [List.length_set]; exact h.al
  bl := h.bl
  dk D' hD := by
    rcases Jlr hD with h1 | h1
    · cases h1
      have := h.dk D (List.mem_of_getElem? hd)
      exact ⟨hc.ok this.1, by have := hc.ql; omega⟩
    · have := h.dk D' h1
      exact ⟨this.1, by omega⟩
  fl V d' hV := by
    obtain ⟨D', h1, h2⟩ := h.fl V d' hV
    by_cases hdd : d = d'
    · subst hdd
      rw [hd] at h1
      obtain rfl : D = D' := by simpa using h1
      exact ⟨E, List.getElem?_set_self (List.getElem?_eq_some_iff.1 hd).1, h2.chg hc⟩
    · exact ⟨D', by rw [List.getElem?_set_ne hdd]; exact h1, h2⟩
theorem AInv.more {sd : Ds} {bs : Fs} {n m : Nat} (h : AInv sd bs n) (hm : n ≤ m) : AInv sd bs m := ⟨h.al, h.bl, fun D hD => ⟨(h.dk D hD).1, by have := (h.dk D hD).2; omega⟩, h.fl⟩
theorem AInv.setF {sd : Ds} {bs : Fs} {n j d : Nat} (h : AInv sd bs n) {V : FV} {D : DV} (hd : sd[d]? = some (some D)) (hV : FOk D V) : AInv sd (bs.set j (some (V, d))) n where
  al := h.al
  bl := by rw [List.length_set]; exact h.bl
  dk := h.dk
  fl V' d' hV' := by
    rcases Jlr hV' with h1 | h1
    · cases h1; exact ⟨D, hd, hV⟩
    · exact h.fl V' d' h1
theorem AInv.onDisk {sd : Ds} {bs : Fs} {n k : Nat} (h : AInv sd bs n) (f : DV → DV × AnsV) (no : AnsV) (hf : ∀ D, Chg D (f D).1 4) : AInv (onDisk sd bs k f no).1 (onDisk sd bs k f no).2.1 (n + 4) := by
 unfold Go.Proofs.YtodhlfinbbajfaaGreatDoor.onDisk;split
 ·rename_i D hd;exact h.setD hd (hf D) (Nat.le_refl _)
 ·exact h.more (by omega)
theorem AInv.step {sd : Ds} {bs : Fs} {n : Nat} (h : AInv sd bs n) (o : OpV) (hn : inI o.n) : AInv (Jas sd bs o).1 (Jas sd bs o).2.1 (n + 4) := by
 unfold Jas;split
 ·exact h.onDisk _ _ fun D => Chg.format D o.n
 ·split
  ·split
   ·rename_i D hd;have h1 := h.setD hd ((Chg.open D).le (Nat.zero_le 4)) (Nat.le_refl _);simp only;split
    ·rename_i he;exact h1.setF (List.getElem?_set_self (List.getElem?_eq_some_iff.1 hd).1) (FOk.open he)
    ·exact h1
   ·exact h.more (by omega)
  ·split
   ·split
    ·rename_i V d hb;split
     ·rename_i D hd;obtain ⟨D', h1, h2⟩ := h.fl V d (List.mem_of_getElem? hb);rw [hd] at h1;obtain rfl : D = D' := by simpa using h1
      have h3 := h.setD hd (Chg.fileOp D V o) (by decide);exact h3.setF (List.getElem?_set_self (List.getElem?_eq_some_iff.1 hd).1) ((h2.fileOp o).chg (Chg.fileOp D V o))
     ·exact h.more (by omega)
    ·exact h.more (by omega)
   ·split
    ·split
     ·split
      ·exact h.onDisk _ _ fun D => (Chg.diskOp D o hn).le (by decide)
      ·exact h.more (by omega)
     ·exact h.onDisk _ _ fun D => (Chg.diskOp D o hn).le (by decide)
    ·exact h.more (by omega)
section
variable {gT0 : TypeId}
section focus
variable {w0 w : World} {F : List Nat} {H T : List Asn}
theorem Mem.focus0 (h : Mem w0 F w (H ++ T)) : Mem w (Jag H) w H ∧ ∀ {w' : World} {H' N : List Asn}, Mem w (Jag H) w' (H' ++ N) → Mem w0 F w' (N ++ (H' ++ T)) := by
 refine ⟨h.here, fun {w' H' N} h' => ?_⟩;have h2 := Mem.frame (Pre := H) (Post := H' ++ N) (R := T) h h';refine h2.perm ?_;rw [List.append_assoc];refine (List.perm_append_comm_assoc H' N T)
theorem Mem.focus1 (h : Mem w0 F w (H ++ T)) (i : Nat) {A : Asn} (hi : T[i]? = some A) : Mem w (Jag (H ++ [A])) w (H ++ [A]) ∧ ∀ {w' : World} {H' N : List Asn} {B : Asn}, Mem w (Jag (H ++ [A])) w' (H' ++ B :: N) → Mem w0 F w' (N ++ (H' ++ T.set i B)) := by
 obtain ⟨X, h1, h2⟩ := Jii T i A hi;have h3 : Mem w0 F w ((H ++ [A]) ++ X) := h.perm (by rw [List.append_assoc]; exact List.Perm.append_left H h1);refine ⟨h3.here, fun {w' H' N B} h' => ?_⟩;have h4 := Mem.frame (Pre := H ++ [A]) (Post := H' ++ B :: N) (R := X) h3 h';refine h4.perm ?_;have e : (H' ++ B :: N) ++ X = H' ++ ([B] ++ (N ++ X)) := by simp
 rw [e];have p1 : (H' ++ ([B] ++ (N ++ X))).Perm (H' ++ (N ++ ([B] ++ X))) := List.Perm.append_left H' (List.perm_append_comm_assoc [B] N X);have p2 : (H' ++ (N ++ ([B] ++ X))).Perm (N ++ (H' ++ ([B] ++ X))) := List.perm_append_comm_assoc H' N _;exact (p1.trans p2).trans (List.Perm.append_left N (List.Perm.append_left H' (h2 B).symm))
theorem Mem.focus2 (h : Mem w0 F w (H ++ T)) (i j : Nat) (hij : i ≠ j) {A A2 : Asn} (hi : T[i]? = some A) (hj : T[j]? = some A2) : Mem w (Jag (H ++ [A, A2])) w (H ++ [A, A2]) ∧ ∀ {w' : World} {H' N : List Asn} {B B2 : Asn}, Mem w (Jag (H ++ [A, A2])) w' (H' ++ B :: B2 :: N) → Mem w0 F w' (N ++ (H' ++ (T.set i B).set j B2)) := by
 obtain ⟨X, h1, h2⟩ := Jvd T i j A A2 hij hi hj;have h3 : Mem w0 F w ((H ++ [A, A2]) ++ X) := h.perm (by rw [List.append_assoc]; exact List.Perm.append_left H h1);refine ⟨h3.here, fun {w' H' N B B2} h' => ?_⟩;have h4 := Mem.frame (Pre := H ++ [A, A2]) (Post := H' ++ B :: B2 :: N) (R := X) h3 h';refine h4.perm ?_;have e : (H' ++ B :: B2 :: N) ++ X = H' ++ ([B, B2] ++ (N ++ X)) := by simp
 rw [e];have p1 : (H' ++ ([B, B2] ++ (N ++ X))).Perm (H' ++ (N ++ ([B, B2] ++ X))) := List.Perm.append_left H' (List.perm_append_comm_assoc [B, B2] N X);have p2 : (H' ++ (N ++ ([B, B2] ++ X))).Perm (N ++ (H' ++ ([B, B2] ++ X))) := List.perm_append_comm_assoc H' N _;exact (p1.trans p2).trans (List.Perm.append_left N (List.Perm.append_left H' (h2 B B2).symm))
theorem Mem.instead {N : List Asn} {B : Asn} (h : Mem w0 F w (B :: (N ++ (H ++ T)))) (i : Nat) {A : Asn} (hi : T[i]? = some A) : Mem w0 F w (N ++ (H ++ T.set i B)) := by
 obtain ⟨X, h1, h2⟩ := Jii T i A hi
 have p : (B :: (N ++ (H ++ T))).Perm (A :: (N ++ (H ++ T.set i B))) := by
   have q1 : (B :: (N ++ (H ++ T))).Perm (B :: (N ++ (H ++ (A :: X)))) := List.Perm.cons B (List.Perm.append_left N (List.Perm.append_left H h1));have q2 : (B :: (N ++ (H ++ (A :: X)))).Perm (B :: A :: (N ++ (H ++ X))) := List.Perm.cons B (by rw [← List.append_assoc, ← List.append_assoc]; exact List.perm_middle);have q3 : (A :: (N ++ (H ++ T.set i B))).Perm (A :: B :: (N ++ (H ++ X))) := List.Perm.cons A ((List.Perm.append_left N (List.Perm.append_left H (h2 B))).trans (by rw [← List.append_assoc, ← List.append_assoc]; exact List.perm_middle));exact (q1.trans q2).trans ((List.Perm.swap A B _).trans q3.symm)
 exact (h.perm p).sub (List.sublist_cons_self _ _)
end focus
theorem Jf1 {α β : Type} (f : α → β) (l : List α) (k : Nat) {x y : α} (h : l[k]? = some x) (hf : f y = f x) : (l.set k y).map f = l.map f := by
 rw [List.map_set, hf];obtain ⟨h1, rfl⟩ := List.getElem?_eq_some_iff.1 h;apply List.ext_getElem?;intro i;rw [List.getElem?_set];split
 ·rename_i e; subst e; simp [h1]
 ·rfl
structure RDs where
  D : DV
  r : Nat
  X : RX
structure RFs where
  V : FV
  f : Nat
  d : Nat
  r : Nat
def rdA : Option RDs → Asn
  | none => star True []
  | some s => Jai s.D s.r s.X
def rfA : Option RFs → Asn
  | none => star True []
  | some t => blk t.f 67 (fC t.V t.r)
def rdP : Option RDs → Value
  | none => .pointer none
  | some s => .pointer (some ⟨s.r, 0, none⟩)
def rfP : Option RFs → Value
  | none => .pointer none
  | some t => .pointer (some ⟨t.f, 0, none⟩)
structure RW where
  bd : Nat
  bf : Nat
  cd : Nat
  cf : Nat
  eD : List Value
  eF : List Value
  ds : List (Option RDs)
  fs : List (Option RFs)
def rH (gT0 : TypeId) (rw : Nat) (S : RW) : List Asn := [blk 0 gT0 (bvs Jaa), blk rw 51 [.slice (some ⟨S.bd, 0, none⟩) 2 S.cd, .slice (some ⟨S.bf, 0, none⟩) 3 S.cf], blk S.bd 54 (S.ds.map rdP ++ S.eD), blk S.bf 47 (S.fs.map rfP ++ S.eF)]
def rT (S : RW) : List Asn := S.ds.map rdA ++ S.fs.map rfA
structure RInv (S : RW) (sd : Ds) (bs : Fs) (n : Nat) : Prop where
  dl : S.ds.length = 2
  fl : S.fs.length = 3
  dm : S.ds.map (Option.map RDs.D) = sd
  fm : S.fs.map (Option.map fun t => (t.V, t.d)) = bs
  ln : ∀ s, some s ∈ S.ds → s.X.log.length ≤ n
  pt : ∀ t, some t ∈ S.fs → ∃ s, S.ds[t.d]? = some (some s) ∧ s.r = t.r
def Jcy (gT0 : TypeId) (rw : Nat) (S : RW) (sd : Ds) (bs : Fs) (n : Nat) : Asn := star (RInv S sd bs n) (rH gT0 rw S ++ rT S)
section
variable {S : RW} {sd : Ds} {bs : Fs} {n k j : Nat}
theorem RInv.getD (h : RInv S sd bs n) {x : Option DV} (hk : sd[k]? = some x) : ∃ y, S.ds[k]? = some y ∧ y.map RDs.D = x := by
 rw [← h.dm, List.getElem?_map] at hk;cases hy : S.ds[k]? with
 | none => rw [hy] at hk; cases hk;| some y => rw [hy] at hk; exact ⟨y, rfl, by simpa using hk⟩
theorem RInv.setD (h : RInv S sd bs n) {s s' : RDs} (hk : S.ds[k]? = some (some s)) (hr : s'.r = s.r) (hl : s'.X.log.length ≤ s.X.log.length + 4) : RInv { S with ds := S.ds.set k (some s') } (sd.set k (some s'.D)) bs (n + 4) where
  dl := by show (S.ds.set k _).length = 2; rw [List.length_set]; exact h.dl
  fl := h.fl
  dm := by show (S.ds.set k _).map _ = _; rw [List.map_set, h.dm]; rfl
  fm := h.fm
  ln := fun q hq => by
    rcases Jlr hq with h1 | h1
    · cases h1; have := h.ln s (List.mem_of_getElem? hk); omega
    · have := h.ln q h1; omega
  pt t ht := by
    obtain ⟨q, h1, h2⟩ := h.pt t ht
    show ∃ s, (S.ds.set k (some s'))[t.d]? = some (some s) ∧ _
    by_cases e : k = t.d
    · subst e
      rw [hk] at h1
      obtain rfl : s = q := by simpa using h1
      exact ⟨s', List.getElem?_set_self (List.getElem?_eq_some_iff.1 hk).1, hr.trans h2⟩
    · exact ⟨q, by rw [List.getElem?_set_ne e]; exact h1, h2⟩
theorem RInv.setF (h : RInv S sd bs n) {t : RFs} (ht : ∃ s, S.ds[t.d]? = some (some s) ∧ s.r = t.r) : RInv { S with fs := S.fs.set j (some t) } sd (bs.set j (some (t.V, t.d))) n where
  dl := h.dl
  fl := by show (S.fs.set j _).length = 3; rw [List.length_set]; exact h.fl
  dm := h.dm
  fm := by show (S.fs.set j _).map _ = _; rw [List.map_set, h.fm]; rfl
  ln := h.ln
  pt q hq := by
    rcases Jlr hq with h1 | h1
    · cases h1; exact ht
    · exact h.pt q h1
theorem RInv.more (h : RInv S sd bs n) {m : Nat} (hm : n ≤ m) : RInv S sd bs m := ⟨h.dl, h.fl, h.dm, h.fm, fun s hs => by have := h.ln s hs; omega, h.pt⟩
theorem rT_d (h : RInv S sd bs n) {x : Option RDs} (hk : S.ds[k]? = some x) : (rT S)[k]? = some (rdA x) := by
 have hl := (List.getElem?_eq_some_iff.1 hk).1;unfold rT;rw [List.getElem?_append_left (by rw [List.length_map]; exact hl), List.getElem?_map, hk]; rfl
theorem rT_f (h : RInv S sd bs n) {x : Option RFs} (hk : S.fs[j]? = some x) : (rT S)[2 + j]? = some (rfA x) := by
 unfold rT;rw [List.getElem?_append_right (by rw [List.length_map, h.dl]; omega), List.length_map, h.dl, show 2 + j - 2 = j by omega, List.getElem?_map, hk]; rfl
theorem Ji3 (h : RInv S sd bs n) (hk : k < 2) (x : Option RDs) : (rT S).set k (rdA x) = rT { S with ds := S.ds.set k x } := by
 unfold rT;rw [List.set_append_left _ _ (by rw [List.length_map, h.dl]; exact hk), ← List.map_set]
theorem Jql (h : RInv S sd bs n) (x : Option RFs) : (rT S).set (2 + j) (rfA x) = rT { S with fs := S.fs.set j x } := by
 unfold rT;rw [List.set_append_right _ _ (by rw [List.length_map, h.dl]; omega), List.length_map, h.dl, show 2 + j - 2 = j by omega, ← List.map_set]
theorem Juv (h : RInv S sd bs n) {x : Option RDs} (hk : S.ds[k]? = some x) : (S.ds.map rdP ++ S.eD)[k]? = some (rdP x) := by
 have hl := (List.getElem?_eq_some_iff.1 hk).1;rw [List.getElem?_append_left (by rw [List.length_map]; exact hl), List.getElem?_map, hk]; rfl
theorem Jxl (h : RInv S sd bs n) {x : Option RFs} (hk : S.fs[j]? = some x) : (S.fs.map rfP ++ S.eF)[j]? = some (rfP x) := by
 have hl := (List.getElem?_eq_some_iff.1 hk).1;rw [List.getElem?_append_left (by rw [List.length_map]; exact hl), List.getElem?_map, hk]; rfl
theorem Ji4 {rw : Nat} {s s' : RDs} (hk : S.ds[k]? = some (some s)) (hr : s'.r = s.r) : rH gT0 rw { S with ds := S.ds.set k (some s') } = rH gT0 rw S := by
 have e : (S.ds.set k (some s')).map rdP = S.ds.map rdP := Jf1 rdP S.ds k hk (by show Value.pointer _ = Value.pointer _; rw [hr]);unfold rH;simp only [e]
theorem Jym {rw : Nat} {t t' : RFs} (hk : S.fs[j]? = some (some t)) (hr : t'.f = t.f) : rH gT0 rw { S with fs := S.fs.set j (some t') } = rH gT0 rw S := by
 have e : (S.fs.set j (some t')).map rfP = S.fs.map rfP := Jf1 rfP S.fs j hk (by show Value.pointer _ = Value.pointer _; rw [hr]);unfold rH;simp only [e]
end
structure PDs where
  D : DV
  p : Nat
  pg : Nat
  mb : Nat
  qv : Value
structure PFs where
  V : FV
  f : Nat
  d : Nat
  r : Nat
def pdA : Option PDs → Asn
  | none => star True []
  | some s => disk s.D s.p s.pg s.mb s.qv
def pfA : Option PFs → Asn
  | none => star True []
  | some t => blk t.f 113 (fC t.V t.r)
def pdP : Option PDs → Value
  | none => .pointer none
  | some s => .pointer (some ⟨s.p, 0, none⟩)
def pfP : Option PFs → Value
  | none => .pointer none
  | some t => .pointer (some ⟨t.f, 0, none⟩)
structure PW where
  bd : Nat
  bf : Nat
  cd : Nat
  cf : Nat
  eD : List Value
  eF : List Value
  ds : List (Option PDs)
  fs : List (Option PFs)
  rm : Nat
  R : List UInt8
def pH (rw : Nat) (S : PW) : List Asn := [blk rw 59 [.slice (some ⟨S.bd, 0, none⟩) 2 S.cd, .slice (some ⟨S.bf, 0, none⟩) 3 S.cf, .slice (some ⟨S.rm, 0, none⟩) S.R.length S.R.length], blk S.rm 5 (bvs S.R), blk S.bd 60 (S.ds.map pdP ++ S.eD), blk S.bf 69 (S.fs.map pfP ++ S.eF)]
def pT (S : PW) : List Asn := S.ds.map pdA ++ S.fs.map pfA
structure PInv (S : PW) (sd : Ds) (bs : Fs) (n : Nat) : Prop where
  dl : S.ds.length = 2
  fl : S.fs.length = 3
  dm : S.ds.map (Option.map PDs.D) = sd
  fm : S.fs.map (Option.map fun t => (t.V, t.d)) = bs
  ln : S.R.length ≤ 2199023255900
  pt : ∀ t, some t ∈ S.fs → ∃ s, S.ds[t.d]? = some (some s) ∧ s.p = t.r
def Jdy (rw : Nat) (S : PW) (sd : Ds) (bs : Fs) (n : Nat) : Asn := star (PInv S sd bs n) (pH rw S ++ pT S)
section
variable {S : PW} {sd : Ds} {bs : Fs} {n k j : Nat}
theorem PInv.setD (h : PInv S sd bs n) {s s' : PDs} (hk : S.ds[k]? = some (some s)) (hr : s'.p = s.p) : PInv { S with ds := S.ds.set k (some s') } (sd.set k (some s'.D)) bs (n + 4) where
  dl := by show (S.ds.set k _).length = 2; rw [List.length_set]; exact h.dl
  fl := h.fl
  dm := by show (S.ds.set k _).map _ = _; rw [List.map_set, h.dm]; rfl
  fm := h.fm
  ln := h.ln
  pt t ht := by
    obtain ⟨q, h1, h2⟩ := h.pt t ht
    show ∃ s, (S.ds.set k (some s'))[t.d]? = some (some s) ∧ _
    by_cases e : k = t.d
    · subst e
      rw [hk] at h1
      obtain rfl : s = q := by simpa using h1
      exact ⟨s', List.getElem?_set_self (List.getElem?_eq_some_iff.1 hk).1, hr.trans h2⟩
    · exact ⟨q, by rw [List.getElem?_set_ne e]; exact h1, h2⟩
theorem PInv.setF (h : PInv S sd bs n) {t : PFs} (ht : ∃ s, S.ds[t.d]? = some (some s) ∧ s.p = t.r) : PInv { S with fs := S.fs.set j (some t) } sd (bs.set j (some (t.V, t.d))) n where
  dl := h.dl
  fl := by show (S.fs.set j _).length = 3; rw [List.length_set]; exact h.fl
  dm := h.dm
  fm := by show (S.fs.set j _).map _ = _; rw [List.map_set, h.fm]; rfl
  ln := h.ln
  pt q hq := by
    rcases Jlr hq with h1 | h1
    · cases h1; exact ht
    · exact h.pt q h1
theorem PInv.more (h : PInv S sd bs n) {m : Nat} (hm : n ≤ m) : PInv S sd bs m := ⟨h.dl, h.fl, h.dm, h.fm, h.ln, h.pt⟩
theorem pT_d (h : PInv S sd bs n) {x : Option PDs} (hk : S.ds[k]? = some x) : (pT S)[k]? = some (pdA x) := by
 have hl := (List.getElem?_eq_some_iff.1 hk).1;unfold pT;rw [List.getElem?_append_left (by rw [List.length_map]; exact hl), List.getElem?_map, hk]; rfl
theorem pT_f (h : PInv S sd bs n) {x : Option PFs} (hk : S.fs[j]? = some x) : (pT S)[2 + j]? = some (pfA x) := by
 unfold pT;rw [List.getElem?_append_right (by rw [List.length_map, h.dl]; omega), List.length_map, h.dl, show 2 + j - 2 = j by omega, List.getElem?_map, hk]; rfl
theorem Jh0 (h : PInv S sd bs n) (hk : k < 2) (x : Option PDs) : (pT S).set k (pdA x) = pT { S with ds := S.ds.set k x } := by
 unfold pT;rw [List.set_append_left _ _ (by rw [List.length_map, h.dl]; exact hk), ← List.map_set]
theorem Jqm (h : PInv S sd bs n) (x : Option PFs) : (pT S).set (2 + j) (pfA x) = pT { S with fs := S.fs.set j x } := by
 unfold pT;rw [List.set_append_right _ _ (by rw [List.length_map, h.dl]; omega), List.length_map, h.dl, show 2 + j - 2 = j by omega, ← List.map_set]
theorem Jzn (h : PInv S sd bs n) {x : Option PDs} (hk : S.ds[k]? = some x) : (S.ds.map pdP ++ S.eD)[k]? = some (pdP x) := by
 have hl := (List.getElem?_eq_some_iff.1 hk).1;rw [List.getElem?_append_left (by rw [List.length_map]; exact hl), List.getElem?_map, hk]; rfl
theorem Jzo (h : PInv S sd bs n) {x : Option PFs} (hk : S.fs[j]? = some x) : (S.fs.map pfP ++ S.eF)[j]? = some (pfP x) := by
 have hl := (List.getElem?_eq_some_iff.1 hk).1;rw [List.getElem?_append_left (by rw [List.length_map]; exact hl), List.getElem?_map, hk]; rfl
theorem Jh1 {rw : Nat} {s s' : PDs} (hk : S.ds[k]? = some (some s)) (hr : s'.p = s.p) : pH rw { S with ds := S.ds.set k (some s') } = pH rw S := by
 have e : (S.ds.set k (some s')).map pdP = S.ds.map pdP := Jf1 pdP S.ds k hk (by show Value.pointer _ = Value.pointer _; rw [hr]);unfold pH;simp only [e]
theorem Jyn {rw : Nat} {t t' : PFs} (hk : S.fs[j]? = some (some t)) (hr : t'.f = t.f) : pH rw { S with fs := S.fs.set j (some t') } = pH rw S := by
 have e : (S.fs.set j (some t')).map pfP = S.fs.map pfP := Jf1 pfP S.fs j hk (by show Value.pointer _ = Value.pointer _; rw [hr]);unfold pH;simp only [e]
end
end
end Go.Proofs.YtodhlfinbbajfaaGreatDoor
