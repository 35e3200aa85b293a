/- Texts joined: Disk6, Disk7, Disk8, Disk9. -/
import Derived.Test.YtfbamkgmnbobeaaDoorSY04
import Derived.Test.YtfbamkgmnbobeaaDoorSY10
import Derived.Test.YtfbamkgmnbobeaaDoorSY07
import Derived.Test.YtfbamkgmnbobeaaDoorSY09
/- The program's disk: Sync. -/
namespace Go.Proofs.YtfbamkgmnbobeaaDoor
set_option linter.unusedSectionVars false
open Go Go.RowKit
set_option maxRecDepth 100000
set_option maxHeartbeats 40000000
set_option linter.unusedVariables false
set_option linter.unusedSimpArgs false
theorem act_run {D : DV} (h : DOk D) (hd : D.dead = false) (h1 : D.armed ≠ 1) : ∃ m, (0 ≤ m ∧ m ≤ 9223372036854775807) ∧ actD D = { D with armed := m } ∧ actE D = 0 := by
  have ha := h.arm
  have he : actE D = 0 := by unfold actE; rw [if_neg h1]
  by_cases h0 : D.armed = 0
  · exact ⟨D.armed, ha, by unfold actD; rw [if_pos h0], he⟩
  · refine ⟨D.armed - 1, ⟨by omega, by omega⟩, ?_, he⟩
    unfold actD
    rw [if_neg h0, decide_eq_false h1, ← hd]
theorem act_any2 {D E : DV} {v : Int} {p pg mb : Nat} {qv : Value} {w : World} (h : actD D = E) (h2 : actE D = v) (hM : Mem w (foots [disk D p pg mb qv]) w [disk D p pg mb qv]) : Calls Tryd.prog 67 #[.pointer (some ⟨p, 0, none⟩)] w fun e w' => e = .returned (.int .i64 v) ∧ Mem w (foots [disk D p pg mb qv]) w' [disk E p pg mb qv] := by
  have := act_any hM
  rwa [h, h2] at this
theorem armed_ok {D : DV} (h : DOk D) {m : Int} (hm : 0 ≤ m ∧ m ≤ 9223372036854775807) : DOk { D with armed := m } := ⟨h.lo, h.hi, h.len, h.qs, hm, h.ep⟩
theorem pages_put (ps : List (List UInt8)) (i : Nat) (d : List UInt8) (h : ∀ p ∈ ps, p.length = 256) (hi : i < ps.length) (hd : d.length = 256) : splice (pagesC ps) (256 * i) (bvs d) = pagesC (ps.set i d) := by
  have h2 := flat_upd bvs 256 ps i (ps.getD i []) d 0 (bvs d) (fun y hy => by rw [length_bvs]; exact h y hy) (by rw [List.getD_eq_getElem?_getD, List.getElem?_eq_getElem hi]; rfl) (by rw [length_bvs, hd]; decide) (by rw [splice_all _ _ (by rw [length_bvs, length_bvs, hd]; exact pages_get h hi)])
  exact h2
theorem applyQ_take {ps : List (List UInt8)} {q : List Wr} {k : Nat} {x : Wr} (hx : q[k]? = some x) : applyQ ps (q.take (k + 1)) = (applyQ ps (q.take k)).set x.1 x.2 := by
  obtain ⟨hk, rfl⟩ := List.getElem?_eq_some_iff.1 hx
  rw [List.take_succ_eq_append_getElem hk, applyQ_snoc]
theorem flush_ok {D : DV} (h : DOk D) (s : Int) : DOk { D with pages := applyQ D.pages D.q, q := [], syncs := s } :=
  ⟨by rw [applyQ_len]; exact h.lo, by rw [applyQ_len]; exact h.hi, applyQ_each h.len D.q fun x hx => (h.qs x hx).2, by simp, h.arm, h.ep⟩
theorem flush_ok2 {D : DV} (h : DOk D) (s : Int) : DOk { D with pages := applyQ D.pages D.q, syncs := s } :=
  ⟨by rw [applyQ_len]; exact h.lo, by rw [applyQ_len]; exact h.hi, applyQ_each h.len D.q fun x hx => (h.qs x hx).2, fun x hx => ⟨by rw [applyQ_len]; exact (h.qs x hx).1, (h.qs x hx).2⟩, h.arm, h.ep⟩
theorem pagesC_len {ps : List (List UInt8)} (h : ∀ p ∈ ps, p.length = 256) : (pagesC ps).length = 256 * ps.length := flat_len bvs 256 ps fun y hy => by rw [length_bvs]; exact h y hy
theorem applyQ_take_each {D : DV} (h : DOk D) (k : Nat) : ∀ p ∈ applyQ D.pages (D.q.take k), p.length = 256 := applyQ_each h.len _ fun x hx => (h.qs x (List.mem_of_mem_take hx)).2
theorem sync_dead {D : DV} {p pg mb : Nat} {qv : Value} {w : World} (hM : zM w [disk D p pg mb qv]) (hd : D.dead = true) : zC 50 [zP p 0] w fun e w' => ∃ qv', e = .returned (zI (syncE D)) ∧ zD w [disk D p pg mb qv] w' [disk (syncD D) p pg mb qv'] := by
 obtain ⟨hok, M⟩ := disk_open hM;clear hM;go_enter Tryd.func50, Tryd.ntmps50;refine zin ?_;refine zk fun K1 hK1 => zr ?_;refine zp 1 rfl ?_;refine zw (hK1 _ _ (zk fun K2 hK2 => zk fun K3 hK3 => zr ?_));refine zp 2 rfl (zo M (zf 8 zu47 rfl zz4) (zo M (zm 0 rfl zg4 (congrArg (fun b => some (Value.bool b)) hd)) ?_));refine zw (hK3 _ _ (zct rfl (zk fun K4 hK4 => zr ?_)));refine zp 1 rfl ?_;refine zw (hK4 _ _ (zrt ?_));(try simp only[zi,zj]);refine zR (v := zI 2) (res1 rfl (zgd rfl)) (zdf _) ?_;have e1 : syncE D = 2 := if_pos hd;have e2 : syncD D = D := if_pos hd;rw [e1, e2];exact ⟨_, rfl, disk_close hok M⟩
theorem sync_down {D : DV} {p pg mb : Nat} {qv : Value} {w : World} (hM : zM w [disk D p pg mb qv]) (hd : D.dead = false) (h1 : D.armed = 1) : zC 50 [zP p 0] w fun e w' => ∃ qv', e = .returned (zI (syncE D)) ∧ zD w [disk D p pg mb qv] w' [disk (syncD D) p pg mb qv'] := by
 obtain ⟨hok, M⟩ := disk_open hM;clear hM;have he : actE D = 2 := if_pos h1;go_enter Tryd.func50, Tryd.ntmps50;refine zin ?_;refine zk fun K1 hK1 => zr ?_;refine zp 1 rfl ?_;refine zw (hK1 _ _ (zk fun K2 hK2 => zk fun K3 hK3 => zr ?_));refine zp 2 rfl (zo M (zf 8 zu47 rfl zz4) (zo M (zm 0 rfl zg4 (congrArg (fun b => some (Value.bool b)) hd)) ?_));refine zw (hK3 _ _ (zcf rfl (zsk (hK2 _ _ (zk fun K4 hK4 => ?_)))));refine zk fun K5 hK5 => zr ?_;refine zp 1 rfl ?_;refine zca 67 [zP p 0] rfl zc67 (act_any2 (rfl : actD D = actD D) he (Mem.h1 (disk_close hok M)) ) ?_;rintro e w6 ⟨rfl, H6⟩;have M6 : zD w [disk D p pg mb qv] w6 [disk (actD D) p pg mb qv] := (Mem.f1 (disk_close hok M) H6);refine ⟨_, rfl, ?_⟩;refine zp 1 rfl ?_;refine zw (hK5 _ _ (zk fun K7 hK7 => zr ?_));refine zp 1 rfl (zo M6 (zneq (b := true) rfl (by rw [decide_eq_false (by decide)]; rfl)) ?_);refine zw (hK7 _ _ (zct rfl (zk fun K8 hK8 => zr ?_)));refine zp 2 rfl ?_;refine zw (hK8 _ _ (zrt ?_));(try simp only[zi,zj]);refine zR (v := zI 2) (res1 rfl (zgd rfl)) (zdf _) ?_;have hd' : ¬ D.dead = true := by rw [hd]; decide
 have e1 : syncE D = 2 := by unfold syncE; rw [if_neg hd']; exact he
 have e2 : syncD D = actD D := by unfold syncD; rw [if_neg hd', if_pos h1]
 rw [e1, e2];exact ⟨_, rfl, M6⟩
theorem queue_wr {q : List Wr} (hq : ∀ x ∈ q, x.2.length = 256) {i : Nat} {x : Wr} (hi : q[i]? = some x) : ((qC q).drop (257 * i)).take (wC x).length = wC x := by
  have hl : (wC x).length = 257 := by simp [wC, hq x (List.mem_of_getElem? hi)]
  rw [hl]
  exact flat_get wC 257 q i x (fun y hy => by simp [wC, hq y hy]) hi
theorem sync_some {D : DV} {p pg mb : Nat} {qv : Value} {w : World} (hM : zM w [disk D p pg mb qv]) (hd : D.dead = false) (h1 : D.armed ≠ 1) (gq cq : Nat) (hqv : qv = zS gq D.q.length cq) (hqm : D.q.length ≤ maxLen) : zC 50 [zP p 0] w fun e w' => ∃ qv', e = .returned (zI (syncE D)) ∧ zD w [disk D p pg mb qv] w' [disk (syncD D) p pg mb qv'] := by
 obtain ⟨hok, M⟩ := disk_open hM;clear hM;subst hqv;have hhi := hok.hi;unfold maxLen at hqm;have hq : ∀ y ∈ D.q, y.2.length = 256 := fun y hy => (hok.qs y hy).2;obtain ⟨m, hm, hE, he⟩ := act_run hok hd h1;go_enter Tryd.func50, Tryd.ntmps50;refine zin ?_;refine zk fun K1 hK1 => zr ?_;refine zp 1 rfl ?_;refine zw (hK1 _ _ (zk fun K2 hK2 => zk fun K3 hK3 => zr ?_));refine zp 2 rfl (zo M (zf 8 zu47 rfl zz4) (zo M (zm 0 rfl zg4 (congrArg (fun b => some (Value.bool b)) hd)) ?_));refine zw (hK3 _ _ (zcf rfl (zsk (hK2 _ _ (zk fun K4 hK4 => ?_)))));refine zk fun K5 hK5 => zr ?_;refine zp 1 rfl ?_;refine zca 67 [zP p 0] rfl zc67 (act_any2 hE he (Mem.h1 (disk_close hok M)) ) ?_;rintro e w6 ⟨rfl, H6⟩;have M6 := (disk_open (Mem.f1 (disk_close hok M) H6)).2;(try simp only[Y1,Y2]at M6);refine ⟨_, rfl, ?_⟩;refine zp 1 rfl ?_;refine zw (hK5 _ _ (zk fun K7 hK7 => zr ?_));refine zp 1 rfl (zo M6 (zneq (b := false) rfl (by rw [decide_eq_true (by decide)]; rfl)) ?_);refine zw (hK7 _ _ (zcf rfl (zsk (hK4 _ _ (zk fun K8 hK8 => ?_)))));refine zk fun K9 hK9 => zr ?_;refine zp 2 rfl (zo M6 (zf 5 zu47 rfl zz44) (zo M6 (zl 0 rfl zg44) (zo M6 (y_len (zwn rfl) rfl (zev rfl) zu44) (zp 1 rfl ?_))));refine zw (hK9 _ _ (zbl ?_));refine zlp (fun n' a' w' => ∃ (k : Nat) (us10 : List Value), n' = (D.q.length - ((k : Int)).toNat) ∧ a' = (⟨#[zP p 0, undef, zI 0, zI 0, undef, (zU us10 0), zP p 0, zP p 0, zP p 8, .bool false, zP p 0, zI 0, zI 0, .bool false, undef, zP p 0, zP p 0, zP p 5, zS gq D.q.length cq, zI (D.q.length : Int), zI (k : Int), (zU us10 1), (zU us10 2), (zU us10 3), (zU us10 4), (zU us10 5), (zU us10 6), (zU us10 7), (zU us10 8), (zU us10 9), (zU us10 10), (zU us10 11), (zU us10 12), (zU us10 13), undef, undef, undef, undef, undef, undef, undef, undef, undef, undef, undef], []⟩ : Act) ∧ (k ≤ D.q.length) ∧ zD w [disk D p pg mb (zS gq D.q.length cq)] w' [blk p 47 (dC ({ D with armed := m } : DV) pg mb (zS gq D.q.length cq)), blk pg 64 (pagesC (applyQ D.pages (D.q.take k))), lst 116 257 (zS gq D.q.length cq) (({ D with armed := m } : DV).q.length) (qC ({ D with armed := m } : DV).q), mapq mb (({ D with armed := m } : DV).q)]) _ ⟨0, [undef, undef, undef, undef, undef, undef, undef, undef, undef, undef, undef, undef, undef, undef], rfl, (zmk (by kernel_rfl)), Nat.zero_le _, M6⟩ ?_;rintro n' a' w12 ⟨k, us10, rfl, rfl, f11, M12⟩;refine zin ?_;refine zk fun K13 hK13 => zr ?_;rcases zem ((k : Int) < (D.q.length : Int)) with h14 | h14
 ·have hkl : k < D.q.length := by omega
  obtain ⟨x, hx⟩ : ∃ x, D.q[k]? = some x := ⟨_, List.getElem?_eq_getElem hkl⟩;have hxp := hok.qs x (List.mem_of_getElem? hx);have hxl : x.2.length = 256 := hxp.2;have hps := applyQ_take_each hok k;have hpl : (applyQ D.pages (D.q.take k)).length = D.pages.length := applyQ_len _ _;refine zo M12 (zlss rfl (zT h14)) ?_;refine zw (hK13 _ _ (zk fun K15 hK15 => zct rfl (zsk (hK15 _ _ ?_))));refine zk fun K16 hK16 => zbl (zk fun K17 hK17 => zr ?_);refine zo M12 (y_ias (r := 257 * k) (zwn rfl) rfl (zev rfl) (zev rfl) zu44 zz116 (by first | omega | (dsimp only; omega)) (by first | omega | (dsimp only; omega))) (zo M12 (y_loadr (cs := (wC x)) (zwn rfl) rfl (zev rfl) zu116 rfl (size_write _ hxl) (fun W hW => lst_range (hW.get 2 rfl) (257 * k) (queue_wr hq hx))) ?_);refine zal M12 (wC (0, zeroPage)) rfl zero_write ?_;intro gw w18 (M18 : zD w [disk D p pg mb (zS gq D.q.length cq)] w18 [blk gw 116 (wC (0, zeroPage)), blk p 47 (dC ({ D with armed := m } : DV) pg mb (zS gq D.q.length cq)), blk pg 64 (pagesC (applyQ D.pages (D.q.take k))), lst 116 257 (zS gq D.q.length cq) (({ D with armed := m } : DV).q.length) (qC ({ D with armed := m } : DV).q), mapq mb (({ D with armed := m } : DV).q)]);refine zsw M18 0 rfl (size_write _ hxl) (wC_all _) (by simp [wC, hxl, zeroPage_len]) fun w19 M19 => ?_;simp only[Zg,Zh]at M19;refine zw (hK17 _ _ ?_);have M20 : zD w [disk D p pg mb (zS gq D.q.length cq)] w19.drew [blk gw 116 (wC x), blk p 47 (dC ({ D with armed := m } : DV) pg mb (zS gq D.q.length cq)), blk pg 64 (pagesC (applyQ D.pages (D.q.take k))), lst 116 257 (zS gq D.q.length cq) (({ D with armed := m } : DV).q.length) (qC ({ D with armed := m } : DV).q), mapq mb (({ D with armed := m } : DV).q)] := M19.drew;refine wp_region_tail 9 (by kernel_rfl) (by kernel_rfl) ?_;simp only [List.take_succ_cons, List.take_zero, List.drop_succ_cons, List.drop_zero];refine Zs 2 rfl (zq M20 (zf 4 zu47 rfl zz43) (zq M20 (zl 1 rfl zg43) (zq M20 (zf 0 zu116 rfl zz3) (zq M20 (zl 0 rfl zg3) (zq M20 (zf 1 zu116 rfl zz64) (zq M20 (y_loadb (cs := (bvs x.2)) (zwn rfl) rfl (zev rfl) zu64 rfl (size_page _ hxl) (fun W hW => hW.get 0 rfl) (by rw [show (wC x).drop 1 = bvs x.2 from rfl, List.take_length])) ?_))))));refine zq M20 (y_ias (r := 256 * x.1) (zwn rfl) rfl (zev rfl) (zev rfl) zu43 zz64 (by first | omega | (dsimp only; omega)) (by first | omega | (dsimp only; omega))) ?_;refine wpStill_nil ?_;refine pe (zwn rfl) fun K hK => e_storer M20 2 (cs := (bvs x.2)) rfl rfl (zev rfl) (zev rfl) (size_page _ hxl) (bvs_all _) rfl (by rw [length_bvs, pagesC_len hps, hxl, hpl]; omega) ?_;intro w21 M21;replace M21 : zD w [disk D p pg mb (zS gq D.q.length cq)] w21 [blk gw 116 (wC x), blk p 47 (dC ({ D with armed := m } : DV) pg mb (zS gq D.q.length cq)), blk pg 64 (pagesC (applyQ D.pages (D.q.take (k + 1)))), lst 116 257 (zS gq D.q.length cq) (({ D with armed := m } : DV).q.length) (qC ({ D with armed := m } : DV).q), mapq mb (({ D with armed := m } : DV).q)] := by rw [pages_put _ _ _ hps (by omega) hxl, ← applyQ_take hx] at M21; exact M21
  have M22 := M21.pk [1, 2, 3, 4];simp only[Y3,Y4,Y1,Y2]at M22;refine hK.out _ _ (zpu ?_);refine zw (hK16 _ _ (zr ?_));refine zo M22 (y_add (r := (k : Int) + 1) (zwn rfl) rfl (zev rfl) (zev rfl) (rfl) (by omega)) (zp 1 rfl ?_);refine zw ?_;refine ⟨_, ?_, ⟨k + 1, [zP gw 0, .bool true, zP gq (257 * k), .agg ((wC x)).toArray, zP p 0, zP p 0, zP p 4, zS pg (({ D with armed := m } : DV).pages.length) (({ D with armed := m } : DV).pages.length), zP gw 0, zI (x.1 : Int), zP gw 1, .agg ((bvs x.2)).toArray, zP pg (256 * x.1), zI ((k : Int) + 1)], rfl, (zmk (by kernel_rfl)), by omega, M22⟩⟩;simp [intOf]; omega
 ·obtain rfl : k = D.q.length := by omega
  have hta : D.q.take D.q.length = D.q := List.take_length;rw [hta] at M12;refine zo M12 (zlss rfl (zF h14)) ?_;refine zw (hK13 _ _ (zk fun K23 hK23 => zcf rfl (zx (hK8 _ _ ?_))));refine zk fun K24 hK24 => zr ?_;refine zp 2 rfl (zo M12 (zf 0 zu47 rfl zz42) (zo M12 (zf 2 zu42 rfl zz3) (zo M12 (zl 0 rfl zg3) (zo M12 (y_addw (zwn rfl) rfl (zev rfl) (zev rfl)) (zp 1 rfl (zo M12 (zf 0 zu47 rfl zz42) ?_))))));refine zo M12 (zf 2 zu42 rfl zz3) ?_;refine zso M12 0 (v := zI (wrap64 (({ D with armed := m } : DV).syncs + 1))) rfl rfl zz3 (show (2 : Nat) < 10 by decide) ?_;intro w25 (M25 : zD w [disk D p pg mb (zS gq D.q.length cq)] w25 [blk p 47 ([zI (({ D with armed := m } : DV).reads), zI (({ D with armed := m } : DV).writes), zI (wrap64 (({ D with armed := m } : DV).syncs + 1)), zI (({ D with armed := m } : DV).q.length : Int), zS pg (({ D with armed := m } : DV).pages.length) (({ D with armed := m } : DV).pages.length), zS gq D.q.length cq, .map (some mb), zI (({ D with armed := m } : DV).armed), .bool (({ D with armed := m } : DV).dead), zI (({ D with armed := m } : DV).epoch)]), blk pg 64 (pagesC (applyQ D.pages D.q)), lst 116 257 (zS gq D.q.length cq) (({ D with armed := m } : DV).q.length) (qC ({ D with armed := m } : DV).q), mapq mb (({ D with armed := m } : DV).q)]);refine zw (hK24 _ _ (zk fun K26 hK26 => zr ?_));refine zp 1 rfl ?_;have M27 : zD w [disk D p pg mb (zS gq D.q.length cq)] w25 [blk p 47 ([zI (({ D with armed := m } : DV).reads), zI (({ D with armed := m } : DV).writes), zI (wrap64 (({ D with armed := m } : DV).syncs + 1)), zI (({ D with armed := m } : DV).q.length : Int), zS pg ((applyQ D.pages D.q).length) ((applyQ D.pages D.q).length), zS gq D.q.length cq, .map (some mb), zI (({ D with armed := m } : DV).armed), .bool (({ D with armed := m } : DV).dead), zI (({ D with armed := m } : DV).epoch)]), blk pg 64 (pagesC (applyQ D.pages D.q)), lst 116 257 (zS gq D.q.length cq) (({ D with armed := m } : DV).q.length) (qC ({ D with armed := m } : DV).q), mapq mb (({ D with armed := m } : DV).q)] := by rw [applyQ_len]; exact M25
  refine zca 68 [zP p 0] rfl Tryd.call68 (close_any (Mem.h1 (disk_close (flush_ok2 (armed_ok hok hm) _) M27)) ) ?_;rintro e w28 ⟨rfl, H28⟩;have M28 : zD w [disk D p pg mb (zS gq D.q.length cq)] w28 [disk ({ ({ D with armed := m, pages := applyQ D.pages D.q, syncs := wrap64 (D.syncs + 1) } : DV) with q := [] }) p pg mb (zN)] := (Mem.f1 (disk_close (flush_ok2 (armed_ok hok hm) _) M27) H28);refine ⟨_, rfl, ?_⟩;refine zw (hK26 _ _ (zk fun K29 hK29 => zr ?_));refine zp 1 rfl ?_;refine zw (hK29 _ _ (zrt ?_));(try simp only[zi,zj]);refine zR (v := zI 0) (res1 rfl (zgd rfl)) (zdf _) ?_;have hd' : ¬ D.dead = true := by rw [hd]; decide
  have e1 : syncE D = 0 := by unfold syncE; rw [if_neg hd']; exact he
  have e2 : syncD D = { D with armed := m, pages := applyQ D.pages D.q, q := [], syncs := wrap64 (D.syncs + 1) } := by unfold syncD; rw [if_neg hd', if_neg h1, hE]; rfl
  rw [e1, e2];exact ⟨_, rfl, M28⟩
theorem sync_nil {D : DV} {p pg mb : Nat} {qv : Value} {w : World} (hM : zM w [disk D p pg mb qv]) (hd : D.dead = false) (h1 : D.armed ≠ 1) (hqv : qv = zN) (h0 : D.q = []) : zC 50 [zP p 0] w fun e w' => ∃ qv', e = .returned (zI (syncE D)) ∧ zD w [disk D p pg mb qv] w' [disk (syncD D) p pg mb qv'] := by
 obtain ⟨hok, M⟩ := disk_open hM;clear hM;subst hqv;have hap : applyQ D.pages D.q = D.pages := by rw [h0]; rfl
 obtain ⟨m, hm, hE, he⟩ := act_run hok hd h1;go_enter Tryd.func50, Tryd.ntmps50;refine zin ?_;refine zk fun K1 hK1 => zr ?_;refine zp 1 rfl ?_;refine zw (hK1 _ _ (zk fun K2 hK2 => zk fun K3 hK3 => zr ?_));refine zp 2 rfl (zo M (zf 8 zu47 rfl zz4) (zo M (zm 0 rfl zg4 (congrArg (fun b => some (Value.bool b)) hd)) ?_));refine zw (hK3 _ _ (zcf rfl (zsk (hK2 _ _ (zk fun K4 hK4 => ?_)))));refine zk fun K5 hK5 => zr ?_;refine zp 1 rfl ?_;refine zca 67 [zP p 0] rfl zc67 (act_any2 hE he (Mem.h1 (disk_close hok M)) ) ?_;rintro e w6 ⟨rfl, H6⟩;have M6 := (disk_open (Mem.f1 (disk_close hok M) H6)).2;(try simp only[Y1,Y2]at M6);refine ⟨_, rfl, ?_⟩;refine zp 1 rfl ?_;refine zw (hK5 _ _ (zk fun K7 hK7 => zr ?_));refine zp 1 rfl (zo M6 (zneq (b := false) rfl (by rw [decide_eq_true (by decide)]; rfl)) ?_);refine zw (hK7 _ _ (zcf rfl (zsk (hK4 _ _ (zk fun K8 hK8 => ?_)))));refine zk fun K9 hK9 => zr ?_;refine zp 2 rfl (zo M6 (zf 5 zu47 rfl zz44) (zo M6 (zl 0 rfl zg44) (zo M6 (y_len (zwn rfl) rfl (zev rfl) zu44) (zp 1 rfl ?_))));refine zw (hK9 _ _ (zbl ?_));refine zlp (fun n' a' w' => ∃  (us10 : List Value), n' = (0) ∧ a' = (⟨#[zP p 0, undef, zI 0, zI 0, undef, (zU us10 0), zP p 0, zP p 0, zP p 8, .bool false, zP p 0, zI 0, zI 0, .bool false, undef, zP p 0, zP p 0, zP p 5, zN, zI 0, zI 0, (zU us10 1), (zU us10 2), (zU us10 3), (zU us10 4), (zU us10 5), (zU us10 6), (zU us10 7), (zU us10 8), (zU us10 9), (zU us10 10), (zU us10 11), (zU us10 12), (zU us10 13), undef, undef, undef, undef, undef, undef, undef, undef, undef, undef, undef], []⟩ : Act) ∧ zD w [disk D p pg mb (zN)] w' [blk p 47 (dC ({ D with armed := m } : DV) pg mb (zN)), blk pg 64 (pagesC ({ D with armed := m } : DV).pages), lst 116 257 (zN) (({ D with armed := m } : DV).q.length) (qC ({ D with armed := m } : DV).q), mapq mb (({ D with armed := m } : DV).q)]) _ ⟨[undef, undef, undef, undef, undef, undef, undef, undef, undef, undef, undef, undef, undef, undef], rfl, (zmk (by kernel_rfl)), M6⟩ ?_;rintro n' a' w11 ⟨us10, rfl, rfl, M11⟩;refine zin ?_;refine zk fun K12 hK12 => zr ?_;refine zo M11 (zlss rfl (zF (by decide))) ?_;refine zw (hK12 _ _ (zk fun K13 hK13 => zcf rfl (zx (hK8 _ _ ?_))));refine zk fun K14 hK14 => zr ?_;refine zp 2 rfl (zo M11 (zf 0 zu47 rfl zz42) (zo M11 (zf 2 zu42 rfl zz3) (zo M11 (zl 0 rfl zg3) (zo M11 (y_addw (zwn rfl) rfl (zev rfl) (zev rfl)) (zp 1 rfl (zo M11 (zf 0 zu47 rfl zz42) ?_))))));refine zo M11 (zf 2 zu42 rfl zz3) ?_;refine zso M11 0 (v := zI (wrap64 (({ D with armed := m } : DV).syncs + 1))) rfl rfl zz3 (show (2 : Nat) < 10 by decide) ?_;intro w15 (M15 : zD w [disk D p pg mb (zN)] w15 [blk p 47 ([zI (({ D with armed := m } : DV).reads), zI (({ D with armed := m } : DV).writes), zI (wrap64 (({ D with armed := m } : DV).syncs + 1)), zI (({ D with armed := m } : DV).q.length : Int), zS pg (({ D with armed := m } : DV).pages.length) (({ D with armed := m } : DV).pages.length), zN, .map (some mb), zI (({ D with armed := m } : DV).armed), .bool (({ D with armed := m } : DV).dead), zI (({ D with armed := m } : DV).epoch)]), blk pg 64 (pagesC ({ D with armed := m } : DV).pages), lst 116 257 (zN) (({ D with armed := m } : DV).q.length) (qC ({ D with armed := m } : DV).q), mapq mb (({ D with armed := m } : DV).q)]);refine zw (hK14 _ _ (zk fun K16 hK16 => zr ?_));refine zp 1 rfl ?_;have M17 : zD w [disk D p pg mb (zN)] w15 [blk p 47 ([zI (({ D with armed := m } : DV).reads), zI (({ D with armed := m } : DV).writes), zI (wrap64 (({ D with armed := m } : DV).syncs + 1)), zI (({ D with armed := m } : DV).q.length : Int), zS pg ((applyQ D.pages D.q).length) ((applyQ D.pages D.q).length), zN, .map (some mb), zI (({ D with armed := m } : DV).armed), .bool (({ D with armed := m } : DV).dead), zI (({ D with armed := m } : DV).epoch)]), blk pg 64 (pagesC (applyQ D.pages D.q)), lst 116 257 (zN) (({ D with armed := m } : DV).q.length) (qC ({ D with armed := m } : DV).q), mapq mb (({ D with armed := m } : DV).q)] := by rw [hap]; exact M15
 refine zca 68 [zP p 0] rfl Tryd.call68 (close_any (Mem.h1 (disk_close (flush_ok2 (armed_ok hok hm) _) M17)) ) ?_;rintro e w18 ⟨rfl, H18⟩;have M18 : zD w [disk D p pg mb (zN)] w18 [disk ({ ({ D with armed := m, pages := applyQ D.pages D.q, syncs := wrap64 (D.syncs + 1) } : DV) with q := [] }) p pg mb (zN)] := (Mem.f1 (disk_close (flush_ok2 (armed_ok hok hm) _) M17) H18);refine ⟨_, rfl, ?_⟩;refine zw (hK16 _ _ (zk fun K19 hK19 => zr ?_));refine zp 1 rfl ?_;refine zw (hK19 _ _ (zrt ?_));(try simp only[zi,zj]);refine zR (v := zI 0) (res1 rfl (zgd rfl)) (zdf _) ?_;have hd' : ¬ D.dead = true := by rw [hd]; decide
 have e1 : syncE D = 0 := by unfold syncE; rw [if_neg hd']; exact he
 have e2 : syncD D = { D with armed := m, pages := applyQ D.pages D.q, q := [], syncs := wrap64 (D.syncs + 1) } := by unfold syncD; rw [if_neg hd', if_neg h1, hE]; rfl
 rw [e1, e2];exact ⟨_, rfl, M18⟩
theorem sync_any {D : DV} {p pg mb : Nat} {qv : Value} {w : World} (hM : Mem w (foots [disk D p pg mb qv]) w [disk D p pg mb qv]) : Calls Tryd.prog 50 #[.pointer (some ⟨p, 0, none⟩)] w fun e w' => ∃ qv', e = .returned (.int .i64 (syncE D)) ∧ Mem w (foots [disk D p pg mb qv]) w' [disk (syncD D) p pg mb qv'] := by
  cases hd : D.dead with
  | true => exact sync_dead hM hd
  | false =>
    by_cases h1 : D.armed = 1
    · exact sync_down hM hd h1
    · rcases lst_at ((disk_open hM).2.get 2 rfl) with ⟨hv, h0, _⟩ | ⟨g, c, hv, hc, hm⟩
      · exact sync_nil hM hd h1 hv (List.eq_nil_of_length_eq_zero h0)
      · exact sync_some hM hd h1 g c hv (by omega)
end Go.Proofs.YtfbamkgmnbobeaaDoor

/- The program's disk: New, Counts. -/
namespace Go.Proofs.YtfbamkgmnbobeaaDoor
set_option linter.unusedSectionVars false
open Go Go.RowKit
set_option maxRecDepth 100000
set_option maxHeartbeats 40000000
set_option linter.unusedVariables false
set_option linter.unusedSimpArgs false
theorem pages_zero (n : Nat) : madeCells (Value.agg (bvs zeroPage).toArray).cells (n * 256) = (pagesC (List.replicate n zeroPage)).toArray := by
  have hz : (bvs zeroPage).length = 256 := by rw [length_bvs, zeroPage_len]
  have hb : ∀ (i : Nat), i < 256 → (bvs zeroPage)[i]? = some (Value.int .u8 0) := fun i hi => by
    rw [bvs_getElem?, zeroPage, List.getElem?_replicate, if_pos hi]; rfl
  have hz2 : bvs zeroPage = List.replicate 256 (Value.int .u8 0) := by
    apply List.ext_getElem?
    intro i
    rcases Nat.lt_or_ge i 256 with h | h
    · rw [hb i h, List.getElem?_replicate, if_pos h]
    · rw [List.getElem?_eq_none (by omega), List.getElem?_eq_none (by rw [List.length_replicate]; omega)]
  have hp : ∀ n, pagesC (List.replicate n zeroPage) = List.replicate (n * 256) (Value.int .u8 0) := by
    intro n
    induction n with
    | zero => rfl
    | succ n ih =>
      rw [List.replicate_succ, show pagesC (zeroPage :: List.replicate n zeroPage) = bvs zeroPage ++ pagesC (List.replicate n zeroPage) from rfl, ih, Nat.add_mul, Nat.one_mul, Nat.add_comm, ← List.replicate_append_replicate]
      rw [hz2]
  rw [hp]
  apply Array.ext'
  unfold madeCells
  rw [Array.toList_map, Array.toList_range]
  apply List.ext_getElem
  · simp
  · intro i h1 h2
    simp only [List.getElem_map, List.getElem_range, List.getElem_replicate]
    have hs : (Value.agg (bvs zeroPage).toArray).cells.size = 256 := by simp [Value.cells, hz]
    rw [hs]
    have hm : i % 256 < 256 := Nat.mod_lt _ (by decide)
    have := hb (i % 256) hm
    show (bvs zeroPage).toArray[i % 256]! = _
    rw [getElem!_def]
    simp [this]
theorem new_low (n : Int) (hn : n < 3) (w : World) : zC 26 [zI n] w fun e w' => (¬ (3 ≤ n ∧ n ≤ 4096) ∧ e = .returned (.tuple #[.pointer none, zI 40]) ∧ Mem w [] w' []) ∨ (3 ≤ n ∧ n ≤ 4096 ∧ ∃ p pg mb, e = .returned (.tuple #[zP p 0, zI 0]) ∧ Mem w [] w' [disk (newD n.toNat) p pg mb (zN)]) := by
 have M := Mem.nil w;go_enter Tryd.func26, Tryd.ntmps26;refine zin ?_;refine zk fun K1 hK1 => zr ?_;refine zp 2 rfl ?_;refine zw (hK1 _ _ (zk fun K2 hK2 => zk fun K3 hK3 => zr ?_));refine zp 1 rfl (zo M (zlss rfl (zT (by omega))) (zp 4 rfl ?_));refine zw (hK3 _ _ (zct rfl (zk fun K4 hK4 => zr ?_)));refine zp 2 rfl ?_;refine zw (hK4 _ _ (zrt ?_));(try simp only[zi,zj]);refine zR (v := .tuple #[.pointer none, zI 40]) (res2 rfl (zgd rfl) (zgd rfl)) (zdf _) ?_;exact Or.inl ⟨by omega, rfl, M⟩
theorem new_high (n : Int) (hn : 4096 < n) (w : World) : zC 26 [zI n] w fun e w' => (¬ (3 ≤ n ∧ n ≤ 4096) ∧ e = .returned (.tuple #[.pointer none, zI 40]) ∧ Mem w [] w' []) ∨ (3 ≤ n ∧ n ≤ 4096 ∧ ∃ p pg mb, e = .returned (.tuple #[zP p 0, zI 0]) ∧ Mem w [] w' [disk (newD n.toNat) p pg mb (zN)]) := by
 have M := Mem.nil w;go_enter Tryd.func26, Tryd.ntmps26;refine zin ?_;refine zk fun K1 hK1 => zr ?_;refine zp 2 rfl ?_;refine zw (hK1 _ _ (zk fun K2 hK2 => zk fun K3 hK3 => zr ?_));refine zp 1 rfl (zo M (zlss rfl (zF (by omega))) (zp 2 rfl (zo M (zgtr rfl (zT (by omega))) (zp 1 rfl ?_))));refine zw (hK3 _ _ (zct rfl (zk fun K4 hK4 => zr ?_)));refine zp 2 rfl ?_;refine zw (hK4 _ _ (zrt ?_));(try simp only[zi,zj]);refine zR (v := .tuple #[.pointer none, zI 40]) (res2 rfl (zgd rfl) (zgd rfl)) (zdf _) ?_;exact Or.inl ⟨by omega, rfl, M⟩
theorem new_ok (k : Nat) (hk : 3 ≤ k ∧ k ≤ 4096) (w : World) : zC 26 [zI (k : Int)] w fun e w' => (¬ (3 ≤ (k : Int) ∧ (k : Int) ≤ 4096) ∧ e = .returned (.tuple #[.pointer none, zI 40]) ∧ Mem w [] w' []) ∨ (3 ≤ (k : Int) ∧ (k : Int) ≤ 4096 ∧ ∃ p pg mb, e = .returned (.tuple #[zP p 0, zI 0]) ∧ Mem w [] w' [disk (newD k) p pg mb (zN)]) := by
 have M := Mem.nil w;go_enter Tryd.func26, Tryd.ntmps26;refine zin ?_;refine zk fun K1 hK1 => zr ?_;refine zp 2 rfl ?_;refine zw (hK1 _ _ (zk fun K2 hK2 => zk fun K3 hK3 => zr ?_));refine zp 1 rfl (zo M (zlss rfl (zF (by omega))) (zp 2 rfl (zo M (zgtr rfl (zF (by omega))) (zp 1 rfl ?_))));refine zw (hK3 _ _ (zcf rfl (zsk (hK2 _ _ (zk fun K4 hK4 => ?_)))));refine zr ?_;refine zp 1 rfl ?_;refine pe (zwn rfl) (fun K hK => ?_)
 refine e_make M pagesT (pagesC (List.replicate k zeroPage)) (n := k) (m := k) rfl (zev rfl) (zev rfl) (rfl) (rfl) (by omega) (by omega) (by omega) (fun z hz => by
   have e : z = Value.agg (bvs zeroPage).toArray := by
     have h2 : (Tryd.prog.info? 64).bind (·.zero) = some (.agg (bvs zeroPage).toArray) := by kernel_rfl
     rw [h2] at hz; exact (Option.some.inj hz).symm
   rw [e]; exact pages_zero k) ?_
 intro gpg w5 (M5 : Mem w [] w5 [blk gpg 64 (pagesC (List.replicate k zeroPage))]);clear M;refine hK.out _ _ (zpu ?_);refine pe (zwn rfl) fun K hK => e_makemap (kt := 3) (et := 3) M5 rfl ?_;intro g6 w7 (M7 : Mem w [] w7 [mapq g6 ([]), blk gpg 64 (pagesC (List.replicate k zeroPage))]);refine hK.out _ _ (zpu ?_);refine zo M7 (y_build (ps := [(1, .tmp 11), (3, .tmp 12)]) (pv := [(1, zS gpg k k), (3, .map (some g6))]) (cs := [zI 0, zI 0, zI 0, zI 0, zS gpg k k, zN, .map (some g6), zI 0, .bool false, zI 0]) (zwn rfl) rfl (zep rfl) (by kernel_rfl)) ?_;refine zbx M7 ([zI 0, zI 0, zI 0, zI 0, zS gpg k k, zN, .map (some g6), zI 0, .bool false, zI 0]) rfl fun g8 w9 M9 => ?_;refine zp 2 rfl ?_;refine zw (hK4 _ _ (zrt ?_));(try simp only[zi,zj]);refine zR (v := .tuple #[zP g8 0, zI 0]) (res2 rfl (zgd rfl) (zgd rfl)) (zdf _) ?_;have N := M9.nilst 116 257;have N2 := N.arr [1, 3, 0, 2] (by decide)
 exact Or.inr ⟨by omega, by omega, g8, gpg, g6, rfl, disk_close (D := newD k) (newD_ok (by omega) (by omega)) (by
   have hl : (newD k).pages.length = k := List.length_replicate;show Mem w [] w9 [blk g8 47 (dC (newD k) gpg g6 (zN)), blk gpg 64 (pagesC (newD k).pages), _, _];unfold dC;rw [hl];exact N2)⟩
theorem new_any (n : Int) (w : World) : Calls Tryd.prog 26 #[.int .i64 n] w fun e w' => (¬ (3 ≤ n ∧ n ≤ 4096) ∧ e = .returned (.tuple #[.pointer none, .int .i64 40]) ∧ Mem w [] w' []) ∨ (3 ≤ n ∧ n ≤ 4096 ∧ ∃ p pg mb, e = .returned (.tuple #[.pointer (some ⟨p, 0, none⟩), .int .i64 0]) ∧ Mem w [] w' [disk (newD n.toNat) p pg mb (.slice none 0 0)]) := by
  by_cases h1 : n < 3
  · exact new_low n h1 w
  · by_cases h2 : 4096 < n
    · exact new_high n h2 w
    · obtain ⟨k, rfl⟩ := Int.eq_ofNat_of_zero_le (show 0 ≤ n by omega)
      exact new_ok k ⟨by omega, by omega⟩ w
end Go.Proofs.YtfbamkgmnbobeaaDoor

/- The program's disk: Image, Flip. -/
namespace Go.Proofs.YtfbamkgmnbobeaaDoor
set_option linter.unusedSectionVars false
open Go Go.RowKit
set_option maxRecDepth 100000
set_option maxHeartbeats 40000000
set_option linter.unusedVariables false
set_option linter.unusedSimpArgs false
theorem pages_take {D : DV} {k : Nat} (hk : k < D.pages.length) : pagesC (D.pages.take k) ++ bvs (D.pg k) = pagesC (D.pages.take (k + 1)) := by
  have hg : D.pg k = D.pages[k] := by
    unfold DV.pg
    rw [List.getD_eq_getElem?_getD, List.getElem?_eq_getElem hk]; rfl
  rw [hg, List.take_succ_eq_append_getElem hk]
  unfold pagesC
  rw [List.flatMap_append]
  simp
theorem image_any {D : DV} {p pg mb : Nat} {qv : Value} {w : World} (hM : zM w [disk D p pg mb qv])  : zC 14 [zP p 0] w fun e w' => ∃ v, e = .returned v ∧ zD w [disk D p pg mb qv] w' [disk D p pg mb qv, lst 5 1 v (256 * D.pages.length) (bvs D.pages.flatten)] := by
 obtain ⟨hok, M⟩ := disk_open hM;clear hM;have hhi := hok.hi;go_enter Tryd.func14, Tryd.ntmps14;refine zin ?_;refine zk fun K1 hK1 => zr ?_;refine zp 1 rfl ?_;refine zw (hK1 _ _ (zk fun K2 hK2 => zr ?_));refine zp 1 rfl ?_;refine zw (hK2 _ _ (zk fun K3 hK3 => zk fun K4 hK4 => zr ?_));refine zp 2 rfl (zo M (zf 4 zu47 rfl zz43) (zo M (zl 0 rfl zg43) (zo M (y_len (zwn rfl) rfl (zev rfl) zu43) (zp 1 rfl ?_))));refine zw (hK4 _ _ (zbl ?_));refine zlp (fun n' a' w' => ∃ (k : Nat) (a : Option Addr) (c : Nat) (us5 : List Value), n' = (D.pages.length - ((k : Int)).toNat) ∧ a' = (⟨#[zP p 0, undef, zN, .slice a (256 * k) c, (zU us5 0), zP p 0, zP p 0, zP p 4, zS pg D.pages.length D.pages.length, zI (D.pages.length : Int), zI (k : Int), (zU us5 1), (zU us5 2), (zU us5 3), (zU us5 4), (zU us5 5), (zU us5 6), (zU us5 7), (zU us5 8), (zU us5 9), (zU us5 10), (zU us5 11), (zU us5 12), undef], []⟩ : Act) ∧ (k ≤ D.pages.length) ∧ zD w [disk D p pg mb qv] w' [lst 5 1 (.slice a (256 * k) c) (256 * k) (pagesC (D.pages.take k)), blk p 47 (dC D pg mb qv), blk pg 64 (pagesC D.pages), lst 116 257 qv D.q.length (qC D.q), mapq mb D.q]) _ ⟨0, none, 0, [undef, undef, undef, undef, undef, undef, undef, undef, undef, undef, undef, undef, undef], rfl, (zmk (by kernel_rfl)), Nat.zero_le _, (M.nilst 5 1)⟩ ?_;clear M;rintro n' a' w7 ⟨k, a, c, us5, rfl, rfl, f6, M7⟩;refine zin ?_;refine zk fun K8 hK8 => zr ?_;rcases zem ((k : Int) < (D.pages.length : Int)) with h9 | h9
 ·have hk : k < D.pages.length := by omega
  have hk1 : 256 * k + 256 = 256 * (k + 1) := by omega
  have hpl : (D.pg k).length = 256 := pages_get hok.len hk;refine zo M7 (zlss rfl (zT h9)) ?_;refine zw (hK8 _ _ (zk fun K10 hK10 => zct rfl (zsk (hK10 _ _ ?_))));refine zk fun K11 hK11 => zbl (zk fun K12 hK12 => zr ?_);refine zp 2 rfl ?_;refine zw (hK12 _ _ (zr ?_));refine zp 3 rfl (zo M7 (zf 4 zu47 rfl zz43) (zo M7 (zl 1 rfl zg43) (zp 1 rfl (zo M7 (y_ias (r := 256 * k) (zwn rfl) rfl (zev rfl) (zev rfl) zu43 zz64 (by first | omega | (dsimp only; omega)) (by first | omega | (dsimp only; omega))) (zo M7 (y_sla (l := 0) (h := 256) (r := 256 * k) (n' := 256) (c' := 256) (zwn rfl) rfl (zev rfl) (zeo rfl) (zeo rfl) zu64 zz5 (by exact ⟨rfl, rfl⟩) (by split <;> omega) (by omega) (by omega)) ?_)))));refine pe (zwn rfl) fun K hK => e_append M7 0 bytesT (by decide) (news := bvs (D.pg k)) rfl rfl (zev rfl) (zev rfl) (by rw [length_bvs, hpl]) (by intro h; cases h) (fun ad e j u hj => by cases e; rw [Addr_add]; exact range_of_block (M7.get 2 rfl) (pages_row hok hk) j u hj) (bvs_oneCell _) (⟨by unfold maxLen; omega, by omega⟩) ?_;intro v13 w13 M13;replace M13 : zD w [disk D p pg mb qv] w13 [lst 5 1 v13 (256 * (k + 1)) (pagesC (D.pages.take (k + 1))), blk p 47 (dC D pg mb qv), blk pg 64 (pagesC D.pages), lst 116 257 qv D.q.length (qC D.q), mapq mb D.q] := by rw [pages_take hk, hk1] at M13; exact M13
  obtain ⟨a13, c13, rfl⟩ := qv_at (M13.get 0 rfl);refine hK.out _ _ (zpu ?_);refine zp 1 rfl ?_;refine zw (hK11 _ _ (zr ?_));refine zo M13 (y_add (r := (k : Int) + 1) (zwn rfl) rfl (zev rfl) (zev rfl) (rfl) (by omega)) (zp 1 rfl ?_);refine zw ?_;refine ⟨_, ?_, ⟨k + 1, a13, c13, [zI (k : Int), .bool true, zI (k : Int), .slice a (256 * k) c, zP p 0, zP p 0, zP p 4, zS pg D.pages.length D.pages.length, zI (k : Int), zP pg (256 * k), .slice (some ⟨pg, 256 * k, none⟩) 256 256, .slice a13 (256 * (k + 1)) c13, zI ((k : Int) + 1)], rfl, (zmk (by kernel_rfl)), by omega, M13⟩⟩;simp [intOf]; omega
 ·obtain rfl : k = D.pages.length := by omega
  rw [List.take_length] at M7;refine zo M7 (zlss rfl (zF h9)) ?_;refine zw (hK8 _ _ (zk fun K14 hK14 => zcf rfl (zx (hK3 _ _ ?_))));refine zk fun K15 hK15 => zr ?_;refine zp 2 rfl ?_;refine zw (hK15 _ _ (zrt ?_));(try simp only[zi,zj]);refine zR (v := .slice a (256 * D.pages.length) c) (res1 rfl (zgd rfl)) (zdf _) ?_;rw [bvs_flatten];have N := M7.pk [1, 2, 3, 4, 0];simp only[Y3,Y4,Y1,Y2]at N;exact ⟨_, rfl, disk_close hok N⟩
end Go.Proofs.YtfbamkgmnbobeaaDoor

/- The program's disk: Crash. -/
namespace Go.Proofs.YtfbamkgmnbobeaaDoor
set_option linter.unusedSectionVars false
open Go Go.RowKit
set_option linter.unusedVariables false
set_option linter.unusedSimpArgs false
theorem Row.getD {w : World} {b o n : Nat} {l : List UInt8} (h : Row w (some ⟨b, o, none⟩) n l) (i : Nat) (hi : i < n) : w.cell? ⟨b, o + i, none⟩ = some (.int .u8 ((l.getD i 0).toNat : Int)) := by
  have hl : i < l.length := by rw [h.1]; exact hi
  rw [h.cell i hl, List.getD_eq_getElem?_getD, List.getElem?_eq_getElem hl]
  rfl
theorem zip_in {D : DV} (h : DOk D) (l : List UInt8) : ∀ x ∈ D.q.zip l, x.1.1 < D.pages.length ∧ x.1.2.length = 256 := fun x hx => h.qs x.1 (List.of_mem_zip (a := x.1) (b := x.2) hx).1
theorem crash_ok {D : DV} (h : DOk D) (l : List UInt8) : DOk (crashD D l) :=
  ⟨by show 3 ≤ (crashP _ _).length; rw [crashP_len]; exact h.lo, by show (crashP _ _).length ≤ _; rw [crashP_len]; exact h.hi, crashP_each h.len _ (zip_in h l), by simp [crashD], ⟨by show (0 : Int) ≤ 0; omega, by show (0 : Int) ≤ _; omega⟩, inI_wrap _⟩
end Go.Proofs.YtfbamkgmnbobeaaDoor
