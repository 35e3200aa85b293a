/- Texts joined. -/
import Derived.Test.YtodhlfinbbajfaaGreatDoorGF03
import Derived.Test.YtodhlfinbbajfaaGreatDoorGF07
import Derived.Test.YtodhlfinbbajfaaGreatDoorGF04
import Derived.Test.YtodhlfinbbajfaaGreatDoorGF06
namespace Go.Proofs.YtodhlfinbbajfaaGreatDoor
open Go Go.RowKit
set_option linter.unusedVariables false
set_option linter.unusedSimpArgs false
set_option linter.unusedSectionVars false
set_option maxRecDepth 100000
set_option maxHeartbeats 40000000
theorem Jtc {D : DV} (h : DOk D) (hd : D.dead = false) (h1 : D.armed ≠ 1) : ∃ m, (0 ≤ m ∧ m ≤ 9223372036854775807) ∧ actD D = { D with armed := m } ∧ actE D = 0 := by
 have ha := h.arm;have he : actE D = 0 := by unfold actE; rw [if_neg h1]
 by_cases h0 : D.armed = 0
 ·exact ⟨D.armed, ha, by unfold actD; rw [if_pos h0], he⟩
 ·refine ⟨D.armed - 1, ⟨by omega, by omega⟩, ?_, he⟩;unfold actD;rw [if_neg h0, decide_eq_false h1, ← hd]
theorem Jna {D E : DV} {v : Int} {p pg mb : Nat} {qv : Value} {w : World} (h : actD D = E) (h2 : actE D = v) (hM : Mem w (Jag [disk D p pg mb qv]) w [disk D p pg mb qv]) : Calls Tryz.prog 98 #[.pointer (some ⟨p, 0, none⟩)] w fun e w' => e = .returned (.int .i64 v) ∧ Mem w (Jag [disk D p pg mb qv]) w' [disk E p pg mb qv] := by
 have := Jpr hM;rwa [h, h2] at this
theorem Jh7 {D : DV} (h : DOk D) {m : Int} (hm : 0 ≤ m ∧ m ≤ 9223372036854775807) : DOk { D with armed := m } := ⟨h.lo, h.hi, h.len, h.qs, hm, h.ep⟩
theorem Jn6 (ps : List (List UInt8)) (i : Nat) (d : List UInt8) (h : ∀ p ∈ ps, p.length = 256) (hi : i < ps.length) (hd : d.length = 256) : splice (Jaw ps) (256 * i) (bvs d) = Jaw (ps.set i d) := by
 have h2 := Jkv bvs 256 ps i (ps.getD i []) d 0 (bvs d) (fun y hy => by rw [Jam]; exact h y hy) (by rw [List.getD_eq_getElem?_getD, List.getElem?_eq_getElem hi]; rfl) (by rw [Jam, hd]; decide) (by rw [Jrr _ _ (by rw [Jam, Jam, hd]; exact Jb6 h hi)]);exact h2
theorem Jps {ps : List (List UInt8)} {q : List Wr} {k : Nat} {x : Wr} (hx : q[k]? = some x) : Jcp ps (q.take (k + 1)) = (Jcp ps (q.take k)).set x.1 x.2 := by
 obtain ⟨hk, rfl⟩ := List.getElem?_eq_some_iff.1 hx;rw [List.take_succ_eq_append_getElem hk, Jgq]
theorem Jqz {D : DV} (h : DOk D) (s : Int) : DOk { D with pages := Jcp D.pages D.q, q := [], syncs := s } :=
  ⟨by rw [Jc0]; exact h.lo, by rw [Jc0]; exact h.hi, Jgr h.len D.q fun x hx => (h.qs x hx).2, by simp, h.arm, h.ep⟩
theorem Jjd {D : DV} (h : DOk D) (s : Int) : DOk { D with pages := Jcp D.pages D.q, syncs := s } :=
  ⟨by rw [Jc0]; exact h.lo, by rw [Jc0]; exact h.hi, Jgr h.len D.q fun x hx => (h.qs x hx).2, fun x hx => ⟨by rw [Jc0]; exact (h.qs x hx).1, (h.qs x hx).2⟩, h.arm, h.ep⟩
theorem Jga {ps : List (List UInt8)} (h : ∀ p ∈ ps, p.length = 256) : (Jaw ps).length = 256 * ps.length := Jm8 bvs 256 ps fun y hy => by rw [Jam]; exact h y hy
theorem Jkm {D : DV} (h : DOk D) (k : Nat) : ∀ p ∈ Jcp D.pages (D.q.take k), p.length = 256 := Jgr h.len _ fun x hx => (h.qs x (List.mem_of_mem_take hx)).2
theorem Jtd {D : DV} {p pg mb : Nat} {qv : Value} {w : World} (hM : zM w [disk D p pg mb qv]) (hd : D.dead = true) : zC 62 [zP p 0] w fun e w' => ∃ qv', e = .returned (zI (Jcd D)) ∧ zD w [disk D p pg mb qv] w' [disk (Jbo D) p pg mb qv'] := by
 obtain ⟨hok, M⟩ := Jal hM;clear hM;go_enter Tryz.func62, Tryz.ntmps62;refine zk fun _ hK1 => zr ?_;refine zp 1 rfl (zw (hK1 _ _ (zk fun _ hK2 => zk fun _ hK3 => zr ?_)));simp only[Za,Zb,Zc];refine zp 2 rfl (zo M (zf 8 Jbe rfl zz4) (zo M (zm 0 rfl zg4 (congrArg (fun b => some (Value.bool b)) hd)) (zw (hK3 _ _ (zct rfl (zk fun _ hK4 => zr ?_))))));simp only[Za,Zb,Zc];refine zp 1 rfl ?_;simp only[Za,Zb,Zc];refine zw (hK4 _ _ (zrt ?_));(try simp only[zi,zj]);refine zR (v := zI 2) (res1 rfl rfl) rfl ?_;have e1 : Jcd D = 2 := if_pos hd;have e2 : Jbo D = D := if_pos hd;rw [e1, e2];exact ⟨_, rfl, Jac hok M⟩
theorem Jte {D : DV} {p pg mb : Nat} {qv : Value} {w : World} (hM : zM w [disk D p pg mb qv]) (hd : D.dead = false) (h1 : D.armed = 1) : zC 62 [zP p 0] w fun e w' => ∃ qv', e = .returned (zI (Jcd D)) ∧ zD w [disk D p pg mb qv] w' [disk (Jbo D) p pg mb qv'] := by
 obtain ⟨hok, M⟩ := Jal hM;clear hM;have he : actE D = 2 := if_pos h1;go_enter Tryz.func62, Tryz.ntmps62;refine zk fun _ hK1 => zr ?_;refine zp 1 rfl (zw (hK1 _ _ (zk fun _ hK2 => zk fun _ hK3 => zr ?_)));simp only[Za,Zb,Zc];refine zp 2 rfl (zo M (zf 8 Jbe rfl zz4) (zo M (zm 0 rfl zg4 (congrArg (fun b => some (Value.bool b)) hd)) ?_));simp only[Za,Zb,Zc];refine zw (hK3 _ _ (zcf rfl (zsk (hK2 _ _ (zk fun _ hK4 => ?_)))));refine zk fun _ hK5 => zr ?_;refine zp 1 rfl ?_;simp only[Za,Zb,Zc];refine zca 98 _ rfl zc98 (Jna (rfl : actD D = actD D) he (Mem.h1 (Jac hok M)) ) ?_;rintro e w6 ⟨rfl, H6⟩;have M6 : Mem w _ w6 [disk (actD D) p pg mb qv] := (Mem.f1 (Jac hok M) H6);refine ⟨_, rfl, ?_⟩;simp only[Za,Zb,Zc];refine zp 1 rfl (zw (hK5 _ _ (zk fun _ hK7 => zr (zp 1 rfl (zo M6 (zneq (b := true) rfl (by rw [decide_eq_false (by decide)]; rfl)) (zw (hK7 _ _ (zct rfl (zk fun _ hK8 => zr ?_)))))))));simp only[Za,Zb,Zc];refine zp 2 rfl ?_;simp only[Za,Zb,Zc];refine zw (hK8 _ _ (zrt ?_));(try simp only[zi,zj]);refine zR (v := zI 2) (res1 rfl rfl) rfl ?_;have hd' : ¬ D.dead = true := by rw [hd]; decide
 have e1 : Jcd D = 2 := by unfold Jcd; rw [if_neg hd']; exact he
 have e2 : Jbo D = actD D := by unfold Jbo; rw [if_neg hd', if_pos h1]
 rw [e1, e2];exact ⟨_, rfl, M6⟩
theorem Jq0 {q : List Wr} (hq : ∀ x ∈ q, x.2.length = 256) {i : Nat} {x : Wr} (hi : q[i]? = some x) : ((qC q).drop (257 * i)).take (wC x).length = wC x := by
 have hl : (wC x).length = 257 := by simp [wC, hq x (List.mem_of_getElem? hi)]
 rw [hl];exact Jh6 wC 257 q i x (fun y hy => by simp [wC, hq y hy]) hi
theorem Jtf {D : DV} {p pg mb : Nat} {qv : Value} {w : World} (hM : zM w [disk D p pg mb qv]) (hd : D.dead = false) (h1 : D.armed ≠ 1) (gq cq : Nat) (hqv : qv = zS gq D.q.length cq) (hqm : D.q.length ≤ maxLen) : zC 62 [zP p 0] w fun e w' => ∃ qv', e = .returned (zI (Jcd D)) ∧ zD w [disk D p pg mb qv] w' [disk (Jbo D) p pg mb qv'] := by
 obtain ⟨hok, M⟩ := Jal hM;clear hM;subst hqv;have hhi := hok.hi;unfold maxLen at hqm;have hq : ∀ y ∈ D.q, y.2.length = 256 := fun y hy => (hok.qs y hy).2;obtain ⟨m, hm, hE, he⟩ := Jtc hok hd h1;go_enter Tryz.func62, Tryz.ntmps62;refine zk fun _ hK1 => zr ?_;refine zp 1 rfl (zw (hK1 _ _ (zk fun _ hK2 => zk fun _ hK3 => zr ?_)));simp only[Za,Zb,Zc];refine zp 2 rfl (zo M (zf 8 Jbe rfl zz4) (zo M (zm 0 rfl zg4 (congrArg (fun b => some (Value.bool b)) hd)) ?_));simp only[Za,Zb,Zc];refine zw (hK3 _ _ (zcf rfl (zsk (hK2 _ _ (zk fun _ hK4 => ?_)))));refine zk fun _ hK5 => zr ?_;refine zp 1 rfl ?_;simp only[Za,Zb,Zc];refine zca 98 _ rfl zc98 (Jna hE he (Mem.h1 (Jac hok M)) ) ?_;rintro e w6 ⟨rfl, H6⟩;have M6 := (Jal (Mem.f1 (Jac hok M) H6)).2;(try simp only[Y1,Y2]at M6);refine ⟨_, rfl, ?_⟩;simp only[Za,Zb,Zc];refine zp 1 rfl (zw (hK5 _ _ (zk fun _ hK7 => zr (zp 1 rfl (zo M6 (zneq (b := false) rfl (by rw [decide_eq_true (by decide)]; rfl)) ?_)))));simp only[Za,Zb,Zc];refine zw (hK7 _ _ (zcf rfl (zsk (hK4 _ _ (zk fun _ hK8 => ?_)))));refine zk fun _ hK9 => zr ?_;refine zp 2 rfl (zfl M6 5 Jbe rfl Jh4 0 rfl Jks ?_);simp only[Za,Zb,Zc];refine zo M6 (Jbp rfl rfl rfl Jh3) (zp 1 rfl ?_);simp only[Za,Zb,Zc];refine zw (hK9 _ _ (zbl ?_));refine wp_loop (fun a' w' => ∃ (k : Nat) (us10 : List Value), a' = (⟨#[zP p 0, undef, zI 0, zI 0, undef, (zU us10 0), zP p 0, zP p 0, zP p 8, .bool false, zP p 0, zI 0, zI 0, .bool false, undef, zP p 0, zP p 0, zP p 5, zS gq D.q.length cq, zI (D.q.length : Int), zI (k : Int), (zU us10 1), (zU us10 2), (zU us10 3), (zU us10 4), (zU us10 5), (zU us10 6), (zU us10 7), (zU us10 8), (zU us10 9), (zU us10 10), (zU us10 11), (zU us10 12), (zU us10 13), undef, undef, undef, undef, undef, undef, undef, undef, undef, undef, undef], []⟩ : Act) ∧ (k ≤ D.q.length) ∧ zD w [disk D p pg mb (zS gq D.q.length cq)] w' [blk p 127 (dC ({ D with armed := m } : DV) pg mb (zS gq D.q.length cq)), blk pg 135 (Jaw (Jcp D.pages (D.q.take k))), lst 150 257 (zS gq D.q.length cq) (({ D with armed := m } : DV).q.length) (qC ({ D with armed := m } : DV).q), mapq mb (({ D with armed := m } : DV).q)]) (fun a' _ => D.q.length - (intOf (a'.tmps.getD 20 undef)).toNat) ⟨0, [_,_,_,_,_,_,_,_,_,_,_,_,_,_], rfl, Nat.zero_le _, M6⟩ ?_;rintro a' w12 ⟨k, us10, rfl, f11, M12⟩;refine zk fun _ hK13 => zr ?_;rcases zem ((k : Int) < (D.q.length : Int)) with h14 | h14
 ·have hkl : k < D.q.length := by omega
  obtain ⟨x, hx⟩ : ∃ x, D.q[k]? = some x := ⟨_, List.getElem?_eq_getElem hkl⟩;have hxp := hok.qs x (List.mem_of_getElem? hx);have hxl : x.2.length = 256 := hxp.2;have hps := Jkm hok k;have hpl : (Jcp D.pages (D.q.take k)).length = D.pages.length := Jc0 _ _;refine zo M12 (zlss rfl (zT h14)) ?_;simp only[Za,Zb,Zc];refine zw (hK13 _ _ (zk fun _ hK15 => zct rfl (zsk (hK15 _ _ ?_))));refine zk fun _ hK16 => zbl (zk fun _ hK17 => zr ?_);refine zo M12 (Jbc (r := 257 * k) rfl rfl rfl rfl Jh3 Jpj (by omega) (by omega)) (zo M12 (Jiy (cs := (wC x)) rfl rfl rfl Jnx rfl (Je7 _ hxl) (fun W hW => Jgd (hW.get 2 rfl) (257 * k) (Jq0 hq hx))) ?_);simp only[Za,Zb,Zc];refine zal M12 (wC (0, Jaz)) rfl Jf9 ?_;intro gw w18 (M18 : Mem w _ w18 [blk gw 150 (wC (0, Jaz)), blk p 127 (dC ({ D with armed := m } : DV) pg mb (zS gq D.q.length cq)), blk pg 135 (Jaw (Jcp D.pages (D.q.take k))), lst 150 257 (zS gq D.q.length cq) (({ D with armed := m } : DV).q.length) (qC ({ D with armed := m } : DV).q), mapq mb (({ D with armed := m } : DV).q)]);simp only[Za,Zb,Zc];refine zsw M18 0 rfl (Je7 _ hxl) (Jtb _) (by simp [wC, hxl, Jb7]) fun w19 M19 => ?_;simp only[Zg,Zh]at M19;simp only[Zv];refine zw (hK17 _ _ ?_);have M20 : Mem w _ w19.drew [blk gw 150 (wC x), blk p 127 (dC ({ D with armed := m } : DV) pg mb (zS gq D.q.length cq)), blk pg 135 (Jaw (Jcp D.pages (D.q.take k))), lst 150 257 (zS gq D.q.length cq) (({ D with armed := m } : DV).q.length) (qC ({ D with armed := m } : DV).q), mapq mb (({ D with armed := m } : DV).q)] := M19.drew;refine Jar 9 (by kernel_rfl) (by kernel_rfl) ?_;simp only [List.take_succ_cons, List.take_zero, List.drop_succ_cons, List.drop_zero];refine Zs 2 rfl (zq M20 (zf 4 Jbe rfl Jl0) (zq M20 (zl 1 rfl Jly) ?_));simp only[Za,Zb,Zc];refine zq M20 (zf 0 Jnx rfl zz3) (zq M20 (zl 0 rfl zg3) (zq M20 (zf 1 Jnx rfl Jku) (zq M20 (Jdo (cs := (bvs x.2)) rfl rfl rfl Jke rfl (Jes _ hxl) (fun W hW => hW.get 0 rfl) (by rw [show (wC x).drop 1 = bvs x.2 from rfl, List.take_length])) ?_)));simp only[Za,Zb,Zc];refine zq M20 (Jbc (r := 256 * x.1) rfl rfl rfl rfl Jkt Jku (by omega) (by omega)) ?_;simp only[Za,Zb,Zc];refine wpStill_nil ?_;refine pe rfl fun K hK => Jh8 M20 2 (cs := (bvs x.2)) rfl rfl rfl rfl (Jes _ hxl) (Jk4 _) rfl (by rw [Jam, Jga hps, hxl, hpl]; omega) ?_;intro w21 M21;replace M21 : zD w [disk D p pg mb (zS gq D.q.length cq)] w21 [blk gw 150 (wC x), blk p 127 (dC ({ D with armed := m } : DV) pg mb (zS gq D.q.length cq)), blk pg 135 (Jaw (Jcp D.pages (D.q.take (k + 1)))), lst 150 257 (zS gq D.q.length cq) (({ D with armed := m } : DV).q.length) (qC ({ D with armed := m } : DV).q), mapq mb (({ D with armed := m } : DV).q)] := by rw [Jn6 _ _ _ hps (by omega) hxl, ← Jps hx] at M21; exact M21
  have M22 := M21.pk [1, 2, 3, 4];simp only[Y3,Y4,Y1,Y2]at M22;refine hK.out _ _ ?_;simp only[Ze,Zb,Zc,Zd];refine zw (hK16 _ _ (zr ?_));refine zo M22 (Ja0 (r := (k : Int) + 1) rfl rfl rfl rfl (rfl) (by omega)) (zp 1 rfl ?_);simp only[Za,Zb,Zc];refine zw ?_;refine ⟨⟨k + 1, [_,_,_,_,_,_,_,_,_,_,_,_,_,_], rfl, by omega, M22⟩, ?_⟩;simp [intOf]; omega
 ·obtain rfl : k = D.q.length := by omega
  have hta : D.q.take D.q.length = D.q := List.take_length;rw [hta] at M12;refine zo M12 (zlss rfl (zF h14)) ?_;simp only[Za,Zb,Zc];refine zw (hK13 _ _ (zk fun _ hK23 => zcf rfl (zx (hK8 _ _ ?_))));refine zk fun _ hK24 => zr ?_;refine zp 2 rfl (zo M12 (zf 0 Jbe rfl Jhb) (zo M12 (zf 2 Jf5 rfl zz3) ?_));simp only[Za,Zb,Zc];refine zo M12 (zl 0 rfl zg3) (zo M12 (Jea rfl rfl rfl rfl) (zp 1 rfl (zo M12 (zf 0 Jbe rfl Jhb) ?_)));simp only[Za,Zb,Zc];refine zo M12 (zf 2 Jf5 rfl zz3) ?_;simp only[Za,Zb,Zc];refine zso M12 0 (v := zI (wrap64 (({ D with armed := m } : DV).syncs + 1))) rfl rfl zz3 (show (2 : Nat) < 10 by decide) ?_;intro w25 (M25 : Mem w _ w25 [blk p 127 ([zI (({ D with armed := m } : DV).reads), zI (({ D with armed := m } : DV).writes), zI (wrap64 (({ D with armed := m } : DV).syncs + 1)), zI (({ D with armed := m } : DV).q.length : Int), zS pg (({ D with armed := m } : DV).pages.length) (({ D with armed := m } : DV).pages.length), zS gq D.q.length cq, .map (some mb), zI (({ D with armed := m } : DV).armed), .bool (({ D with armed := m } : DV).dead), zI (({ D with armed := m } : DV).epoch)]), blk pg 135 (Jaw (Jcp D.pages D.q)), lst 150 257 (zS gq D.q.length cq) (({ D with armed := m } : DV).q.length) (qC ({ D with armed := m } : DV).q), mapq mb (({ D with armed := m } : DV).q)]);simp only[Zv];refine zw (hK24 _ _ (zk fun _ hK26 => zr ?_));refine zp 1 rfl ?_;simp only[Za,Zb,Zc];have M27 : zD w [disk D p pg mb (zS gq D.q.length cq)] w25 [blk p 127 ([zI (({ D with armed := m } : DV).reads), zI (({ D with armed := m } : DV).writes), zI (wrap64 (({ D with armed := m } : DV).syncs + 1)), zI (({ D with armed := m } : DV).q.length : Int), zS pg ((Jcp D.pages D.q).length) ((Jcp D.pages D.q).length), zS gq D.q.length cq, .map (some mb), zI (({ D with armed := m } : DV).armed), .bool (({ D with armed := m } : DV).dead), zI (({ D with armed := m } : DV).epoch)]), blk pg 135 (Jaw (Jcp D.pages D.q)), lst 150 257 (zS gq D.q.length cq) (({ D with armed := m } : DV).q.length) (qC ({ D with armed := m } : DV).q), mapq mb (({ D with armed := m } : DV).q)] := by rw [Jc0]; exact M25
  refine zca 99 _ rfl zc99 (Jhg (Mem.h1 (Jac (Jjd (Jh7 hok hm) _) M27)) ) ?_;rintro e w28 ⟨rfl, H28⟩;have M28 : Mem w _ w28 [disk ({ ({ D with armed := m, pages := Jcp D.pages D.q, syncs := wrap64 (D.syncs + 1) } : DV) with q := [] }) p pg mb (zN)] := (Mem.f1 (Jac (Jjd (Jh7 hok hm) _) M27) H28);refine ⟨_, rfl, ?_⟩;simp only[Za,Zb,Zc];refine zw (hK26 _ _ (zk fun _ hK29 => zr ?_));refine zp 1 rfl ?_;simp only[Za,Zb,Zc];refine zw (hK29 _ _ (zrt ?_));(try simp only[zi,zj]);refine zR (v := zI 0) (res1 rfl rfl) rfl ?_;have hd' : ¬ D.dead = true := by rw [hd]; decide
  have e1 : Jcd D = 0 := by unfold Jcd; rw [if_neg hd']; exact he
  have e2 : Jbo D = { D with armed := m, pages := Jcp D.pages D.q, q := [], syncs := wrap64 (D.syncs + 1) } := by unfold Jbo; rw [if_neg hd', if_neg h1, hE]; rfl
  rw [e1, e2];exact ⟨_, rfl, M28⟩
theorem Jvq {D : DV} {p pg mb : Nat} {qv : Value} {w : World} (hM : zM w [disk D p pg mb qv]) (hd : D.dead = false) (h1 : D.armed ≠ 1) (hqv : qv = zN) (h0 : D.q = []) : zC 62 [zP p 0] w fun e w' => ∃ qv', e = .returned (zI (Jcd D)) ∧ zD w [disk D p pg mb qv] w' [disk (Jbo D) p pg mb qv'] := by
 obtain ⟨hok, M⟩ := Jal hM;clear hM;subst hqv;have hap : Jcp D.pages D.q = D.pages := by rw [h0]; rfl
 obtain ⟨m, hm, hE, he⟩ := Jtc hok hd h1;go_enter Tryz.func62, Tryz.ntmps62;refine zk fun _ hK1 => zr ?_;refine zp 1 rfl (zw (hK1 _ _ (zk fun _ hK2 => zk fun _ hK3 => zr ?_)));simp only[Za,Zb,Zc];refine zp 2 rfl (zo M (zf 8 Jbe rfl zz4) (zo M (zm 0 rfl zg4 (congrArg (fun b => some (Value.bool b)) hd)) ?_));simp only[Za,Zb,Zc];refine zw (hK3 _ _ (zcf rfl (zsk (hK2 _ _ (zk fun _ hK4 => ?_)))));refine zk fun _ hK5 => zr ?_;refine zp 1 rfl ?_;simp only[Za,Zb,Zc];refine zca 98 _ rfl zc98 (Jna hE he (Mem.h1 (Jac hok M)) ) ?_;rintro e w6 ⟨rfl, H6⟩;have M6 := (Jal (Mem.f1 (Jac hok M) H6)).2;(try simp only[Y1,Y2]at M6);refine ⟨_, rfl, ?_⟩;simp only[Za,Zb,Zc];refine zp 1 rfl (zw (hK5 _ _ (zk fun _ hK7 => zr (zp 1 rfl (zo M6 (zneq (b := false) rfl (by rw [decide_eq_true (by decide)]; rfl)) ?_)))));simp only[Za,Zb,Zc];refine zw (hK7 _ _ (zcf rfl (zsk (hK4 _ _ (zk fun _ hK8 => ?_)))));refine zk fun _ hK9 => zr ?_;refine zp 2 rfl (zfl M6 5 Jbe rfl Jh4 0 rfl Jks ?_);simp only[Za,Zb,Zc];refine zo M6 (Jbp rfl rfl rfl Jh3) (zp 1 rfl ?_);simp only[Za,Zb,Zc];refine zw (hK9 _ _ (zbl ?_));refine wp_loop (fun a' w' => ∃  (us10 : List Value), a' = (⟨#[zP p 0, undef, zI 0, zI 0, undef, (zU us10 0), zP p 0, zP p 0, zP p 8, .bool false, zP p 0, zI 0, zI 0, .bool false, undef, zP p 0, zP p 0, zP p 5, zN, zI 0, zI 0, (zU us10 1), (zU us10 2), (zU us10 3), (zU us10 4), (zU us10 5), (zU us10 6), (zU us10 7), (zU us10 8), (zU us10 9), (zU us10 10), (zU us10 11), (zU us10 12), (zU us10 13), undef, undef, undef, undef, undef, undef, undef, undef, undef, undef, undef], []⟩ : Act) ∧ zD w [disk D p pg mb (zN)] w' [blk p 127 (dC ({ D with armed := m } : DV) pg mb (zN)), blk pg 135 (Jaw ({ D with armed := m } : DV).pages), lst 150 257 (zN) (({ D with armed := m } : DV).q.length) (qC ({ D with armed := m } : DV).q), mapq mb (({ D with armed := m } : DV).q)]) (fun _ _ => 0) ⟨[_,_,_,_,_,_,_,_,_,_,_,_,_,_], rfl, M6⟩ ?_;rintro a' w11 ⟨us10, rfl, M11⟩;refine zk fun _ hK12 => zr ?_;refine zo M11 (zlss rfl (zF (by decide))) ?_;simp only[Za,Zb,Zc];refine zw (hK12 _ _ (zk fun _ hK13 => zcf rfl (zx (hK8 _ _ ?_))));refine zk fun _ hK14 => zr ?_;refine zp 2 rfl (zo M11 (zf 0 Jbe rfl Jhb) (zo M11 (zf 2 Jf5 rfl zz3) ?_));simp only[Za,Zb,Zc];refine zo M11 (zl 0 rfl zg3) (zo M11 (Jea rfl rfl rfl rfl) (zp 1 rfl (zo M11 (zf 0 Jbe rfl Jhb) ?_)));simp only[Za,Zb,Zc];refine zo M11 (zf 2 Jf5 rfl zz3) ?_;simp only[Za,Zb,Zc];refine zso M11 0 (v := zI (wrap64 (({ D with armed := m } : DV).syncs + 1))) rfl rfl zz3 (show (2 : Nat) < 10 by decide) ?_;intro w15 (M15 : Mem w _ w15 [blk p 127 ([zI (({ D with armed := m } : DV).reads), zI (({ D with armed := m } : DV).writes), zI (wrap64 (({ D with armed := m } : DV).syncs + 1)), zI (({ D with armed := m } : DV).q.length : Int), zS pg (({ D with armed := m } : DV).pages.length) (({ D with armed := m } : DV).pages.length), zN, .map (some mb), zI (({ D with armed := m } : DV).armed), .bool (({ D with armed := m } : DV).dead), zI (({ D with armed := m } : DV).epoch)]), blk pg 135 (Jaw ({ D with armed := m } : DV).pages), lst 150 257 (zN) (({ D with armed := m } : DV).q.length) (qC ({ D with armed := m } : DV).q), mapq mb (({ D with armed := m } : DV).q)]);simp only[Zv];refine zw (hK14 _ _ (zk fun _ hK16 => zr ?_));refine zp 1 rfl ?_;simp only[Za,Zb,Zc];have M17 : zD w [disk D p pg mb (zN)] w15 [blk p 127 ([zI (({ D with armed := m } : DV).reads), zI (({ D with armed := m } : DV).writes), zI (wrap64 (({ D with armed := m } : DV).syncs + 1)), zI (({ D with armed := m } : DV).q.length : Int), zS pg ((Jcp D.pages D.q).length) ((Jcp D.pages D.q).length), zN, .map (some mb), zI (({ D with armed := m } : DV).armed), .bool (({ D with armed := m } : DV).dead), zI (({ D with armed := m } : DV).epoch)]), blk pg 135 (Jaw (Jcp D.pages D.q)), lst 150 257 (zN) (({ D with armed := m } : DV).q.length) (qC ({ D with armed := m } : DV).q), mapq mb (({ D with armed := m } : DV).q)] := by rw [hap]; exact M15
 refine zca 99 _ rfl zc99 (Jhg (Mem.h1 (Jac (Jjd (Jh7 hok hm) _) M17)) ) ?_;rintro e w18 ⟨rfl, H18⟩;have M18 : Mem w _ w18 [disk ({ ({ D with armed := m, pages := Jcp D.pages D.q, syncs := wrap64 (D.syncs + 1) } : DV) with q := [] }) p pg mb (zN)] := (Mem.f1 (Jac (Jjd (Jh7 hok hm) _) M17) H18);refine ⟨_, rfl, ?_⟩;simp only[Za,Zb,Zc];refine zw (hK16 _ _ (zk fun _ hK19 => zr ?_));refine zp 1 rfl ?_;simp only[Za,Zb,Zc];refine zw (hK19 _ _ (zrt ?_));(try simp only[zi,zj]);refine zR (v := zI 0) (res1 rfl rfl) rfl ?_;have hd' : ¬ D.dead = true := by rw [hd]; decide
 have e1 : Jcd D = 0 := by unfold Jcd; rw [if_neg hd']; exact he
 have e2 : Jbo D = { D with armed := m, pages := Jcp D.pages D.q, q := [], syncs := wrap64 (D.syncs + 1) } := by unfold Jbo; rw [if_neg hd', if_neg h1, hE]; rfl
 rw [e1, e2];exact ⟨_, rfl, M18⟩
theorem Jnb {D : DV} {p pg mb : Nat} {qv : Value} {w : World} (hM : Mem w (Jag [disk D p pg mb qv]) w [disk D p pg mb qv]) : Calls Tryz.prog 62 #[.pointer (some ⟨p, 0, none⟩)] w fun e w' => ∃ qv', e = .returned (.int .i64 (Jcd D)) ∧ Mem w (Jag [disk D p pg mb qv]) w' [disk (Jbo D) p pg mb qv'] := by
 cases hd : D.dead with
 | true => exact Jtd hM hd
 | false =>
   by_cases h1 : D.armed = 1
   ·exact Jte hM hd h1
   ·rcases Jct ((Jal hM).2.get 2 rfl) with ⟨hv, h0, _⟩ | ⟨g, c, hv, hc, hm⟩
    ·exact Jvq hM hd h1 hv (List.eq_nil_of_length_eq_zero h0)
    ·exact Jtf hM hd h1 g c hv (by omega)
theorem Jq1 : Box ((Tryz.prog.info? 41).map (·.size) = some 4) := ⟨by kernel_rfl⟩
theorem Jru (n : Nat) : madeCells (Value.agg (bvs Jaz).toArray).cells (n * 256) = (Jaw (List.replicate n Jaz)).toArray := by
 have hz : (bvs Jaz).length = 256 := by rw [Jam, Jb7]
 have hb : ∀ (i : Nat), i < 256 → (bvs Jaz)[i]? = some (Value.int .u8 0) := fun i hi => by
   rw [Jbw, Jaz, List.getElem?_replicate, if_pos hi]; rfl
 have hz2 : bvs Jaz = List.replicate 256 (Value.int .u8 0) := by
   apply List.ext_getElem?;intro i;rcases Nat.lt_or_ge i 256 with h | h
   ·rw [hb i h, List.getElem?_replicate, if_pos h]
   ·rw [List.getElem?_eq_none (by omega), List.getElem?_eq_none (by rw [List.length_replicate]; omega)]
 have hp : ∀ n, Jaw (List.replicate n Jaz) = List.replicate (n * 256) (Value.int .u8 0) := by
   intro n;induction n with
   | zero => rfl
   | succ n ih =>
     rw [List.replicate_succ, show Jaw (Jaz :: List.replicate n Jaz) = bvs Jaz ++ Jaw (List.replicate n Jaz) from rfl, ih, Nat.add_mul, Nat.one_mul, Nat.add_comm, ← List.replicate_append_replicate];rw [hz2]
 rw [hp];apply Array.ext';unfold madeCells;rw [Array.toList_map, Array.toList_range];apply List.ext_getElem
 ·simp
 ·intro i h1 h2;simp only [List.getElem_map, List.getElem_range, List.getElem_replicate];have hs : (Value.agg (bvs Jaz).toArray).cells.size = 256 := by simp [Value.cells, hz]
  rw [hs];have hm : i % 256 < 256 := Nat.mod_lt _ (by decide);have := hb (i % 256) hm;show (bvs Jaz).toArray[i % 256]! = _;rw [getElem!_def];simp [this]
theorem Jxv (n : Int) (hn : n < 3) (w : World) : zC 35 [zI n] w fun e w' => (¬ (3 ≤ n ∧ n ≤ 4096) ∧ e = .returned (.tuple #[.pointer none, zI 40]) ∧ Mem w [] w' []) ∨ (3 ≤ n ∧ n ≤ 4096 ∧ ∃ p pg mb, e = .returned (.tuple #[zP p 0, zI 0]) ∧ Mem w [] w' [disk (newD n.toNat) p pg mb (zN)]) := by
 have M := Mem.nil w;go_enter Tryz.func35, Tryz.ntmps35;refine zk fun _ hK1 => zr ?_;refine zp 2 rfl (zw (hK1 _ _ (zk fun _ hK2 => zk fun _ hK3 => zr (zp 1 rfl (zo M (zlss rfl (zT (by omega))) (zp 4 rfl (zw (hK3 _ _ (zct rfl (zk fun _ hK4 => zr ?_))))))))));simp only[Za,Zb,Zc];refine zp 2 rfl ?_;simp only[Za,Zb,Zc];refine zw (hK4 _ _ (zrt ?_));(try simp only[zi,zj]);refine zR (v := .tuple #[.pointer none, zI 40]) (res2 rfl rfl rfl) rfl ?_;exact Or.inl ⟨by omega, rfl, M⟩
theorem Jvr (n : Int) (hn : 4096 < n) (w : World) : zC 35 [zI n] w fun e w' => (¬ (3 ≤ n ∧ n ≤ 4096) ∧ e = .returned (.tuple #[.pointer none, zI 40]) ∧ Mem w [] w' []) ∨ (3 ≤ n ∧ n ≤ 4096 ∧ ∃ p pg mb, e = .returned (.tuple #[zP p 0, zI 0]) ∧ Mem w [] w' [disk (newD n.toNat) p pg mb (zN)]) := by
 have M := Mem.nil w;go_enter Tryz.func35, Tryz.ntmps35;refine zk fun _ hK1 => zr ?_;refine zp 2 rfl (zw (hK1 _ _ (zk fun _ hK2 => zk fun _ hK3 => zr (zp 1 rfl (zo M (zlss rfl (zF (by omega))) (zp 2 rfl (zo M (zgtr rfl (zT (by omega))) (zp 1 rfl (zw (hK3 _ _ (zct rfl (zk fun _ hK4 => zr ?_))))))))))));simp only[Za,Zb,Zc];refine zp 2 rfl ?_;simp only[Za,Zb,Zc];refine zw (hK4 _ _ (zrt ?_));(try simp only[zi,zj]);refine zR (v := .tuple #[.pointer none, zI 40]) (res2 rfl rfl rfl) rfl ?_;exact Or.inl ⟨by omega, rfl, M⟩
theorem Jxf (k : Nat) (hk : 3 ≤ k ∧ k ≤ 4096) (w : World) : zC 35 [zI (k : Int)] w fun e w' => (¬ (3 ≤ (k : Int) ∧ (k : Int) ≤ 4096) ∧ e = .returned (.tuple #[.pointer none, zI 40]) ∧ Mem w [] w' []) ∨ (3 ≤ (k : Int) ∧ (k : Int) ≤ 4096 ∧ ∃ p pg mb, e = .returned (.tuple #[zP p 0, zI 0]) ∧ Mem w [] w' [disk (newD k) p pg mb (zN)]) := by
 have M := Mem.nil w;go_enter Tryz.func35, Tryz.ntmps35;refine zk fun _ hK1 => zr ?_;refine zp 2 rfl (zw (hK1 _ _ (zk fun _ hK2 => zk fun _ hK3 => zr (zp 1 rfl (zo M (zlss rfl (zF (by omega))) (zp 2 rfl (zo M (zgtr rfl (zF (by omega))) (zp 1 rfl ?_))))))));simp only[Za,Zb,Zc];refine zw (hK3 _ _ (zcf rfl (zsk (hK2 _ _ (zk fun _ hK4 => ?_)))));refine zr ?_;refine zp 1 rfl ?_;simp only[Za,Zb,Zc];refine pe rfl (fun K hK => ?_)
 refine Jq3 M Jy9 (Jaw (List.replicate k Jaz)) (n := k) (m := k) rfl rfl rfl (rfl) (rfl) (by omega) (by omega) (by omega) (fun z hz => by
   have e : z = Value.agg (bvs Jaz).toArray := by
     have h2 : (Tryz.prog.info? 135).bind (·.zero) = some (.agg (bvs Jaz).toArray) := by kernel_rfl
     rw [h2] at hz; exact (Option.some.inj hz).symm
   rw [e]; exact Jru k) ?_
 intro gpg w5 (M5 : Mem w [] w5 [blk gpg 135 (Jaw (List.replicate k Jaz))]);clear M;refine hK.out _ _ ?_;simp only[Ze,Zb,Zc,Zd];refine pe rfl fun K hK => Jtr (kt := 3) (et := 3) M5 rfl ?_;intro g6 w7 (M7 : Mem w [] w7 [mapq g6 ([]), blk gpg 135 (Jaw (List.replicate k Jaz))]);refine hK.out _ _ ?_;simp only[Ze,Zb,Zc,Zd];refine zo M7 (Jaf (ps := [(1, .tmp 11), (3, .tmp 12)]) (pv := [(1, zS gpg k k), (3, .map (some g6))]) (cs := [zI 0, zI 0, zI 0, zI 0, zS gpg k k, zN, .map (some g6), zI 0, .bool false, zI 0]) rfl rfl rfl (by kernel_rfl)) ?_;simp only[Za,Zb,Zc];refine zbx M7 ([zI 0, zI 0, zI 0, zI 0, zS gpg k k, zN, .map (some g6), zI 0, .bool false, zI 0]) rfl fun g8 w9 M9 => ?_;simp only[Za,Zb,Zc];refine zp 2 rfl ?_;simp only[Za,Zb,Zc];refine zw (hK4 _ _ (zrt ?_));(try simp only[zi,zj]);refine zR (v := .tuple #[zP g8 0, zI 0]) (res2 rfl rfl rfl) rfl ?_;have N := M9.nilst 150 257;have N2 := N.arr [1, 3, 0, 2] (by decide)
 exact Or.inr ⟨by omega, by omega, g8, gpg, g6, rfl, Jac (D := newD k) (Jpp (by omega) (by omega)) (by
   have hl : (newD k).pages.length = k := List.length_replicate;show Mem w [] w9 [blk g8 127 (dC (newD k) gpg g6 (zN)), blk gpg 135 (Jaw (newD k).pages), _, _];unfold dC;rw [hl];exact N2)⟩
theorem Jtg (n : Int) (w : World) : Calls Tryz.prog 35 #[.int .i64 n] w fun e w' => (¬ (3 ≤ n ∧ n ≤ 4096) ∧ e = .returned (.tuple #[.pointer none, .int .i64 40]) ∧ Mem w [] w' []) ∨ (3 ≤ n ∧ n ≤ 4096 ∧ ∃ p pg mb, e = .returned (.tuple #[.pointer (some ⟨p, 0, none⟩), .int .i64 0]) ∧ Mem w [] w' [disk (newD n.toNat) p pg mb (.slice none 0 0)]) := by
 by_cases h1 : n < 3
 ·exact Jxv n h1 w
 ·by_cases h2 : 4096 < n
  ·exact Jvr n h2 w
  ·obtain ⟨k, rfl⟩ := Int.eq_ofNat_of_zero_le (show 0 ≤ n by omega);exact Jxf k ⟨by omega, by omega⟩ w
theorem Jmb {D : DV} {p pg mb : Nat} {qv : Value} {w : World} (hM : zM w [disk D p pg mb qv])  : zC 75 [zP p 0] w fun e w' => e = .returned (.agg (cntC D).toArray) ∧ zD w [disk D p pg mb qv] w' [disk (D) p pg mb qv] := by
 obtain ⟨hok, M⟩ := Jal hM;clear hM;go_enter Tryz.func75, Tryz.ntmps75;refine zk fun _ hK1 => zr ?_;refine zal M ([zI 0, zI 0, zI 0, zI 0]) rfl Tryz.zeroValue41 ?_;intro gc w2 (M2 : Mem w _ w2 [blk gc 41 ([zI 0, zI 0, zI 0, zI 0]), blk p 127 (dC D pg mb qv), blk pg 135 (Jaw D.pages), lst 150 257 qv D.q.length (qC D.q), mapq mb D.q]);clear M;simp only[Za,Zb,Zc];refine zw (hK1 _ _ (zk fun _ hK3 => ?_));have M4 := M2.drew;refine Jar 17 (by kernel_rfl) (by kernel_rfl) ?_;simp only [List.take_succ_cons, List.take_zero, List.drop_succ_cons, List.drop_zero];refine Zs 2 rfl (zq M4 (zf 0 Jf5 rfl zz3) (zq M4 (zl 1 rfl zg3) (Zs 2 rfl (zq M4 (zf 1 Jf5 rfl zz3) (zq M4 (zl 1 rfl zg3) ?_)))));simp only[Za,Zb,Zc];refine Zs 2 rfl (zq M4 (zf 2 Jf5 rfl zz3) (zq M4 (zl 1 rfl zg3) (Zs 2 rfl (zq M4 (zf 3 Jf5 rfl zz3) (zq M4 (zl 1 rfl zg3) ?_)))));simp only[Za,Zb,Zc];refine zq M4 (Jaf (ps := [(0, .tmp 6), (1, .tmp 10), (2, .tmp 14), (3, .tmp 18)]) (pv := [(0, zI D.reads), (1, zI D.writes), (2, zI D.syncs), (3, zI (D.q.length : Int))]) (cs := (cntC D)) rfl rfl rfl (by kernel_rfl)) ?_;simp only[Za,Zb,Zc];refine wpStill_nil ?_;refine zsw M4 0 rfl Jq1 (Jak _ rfl) rfl fun w5 M5 => ?_;simp only[Zg,Zh]at M5;simp only[Zv];refine zw (hK3 _ _ (zrt ?_));(try simp only[zi,zj]);refine zR (v := .agg ((cntC D)).toArray) (Jbu _ rfl rfl rfl (M5.get 0 rfl) zu41 Jq1) rfl ?_;have N := M5.pk [1, 2, 3, 4];simp only[Y3,Y4,Y1,Y2]at N;exact ⟨rfl, Jac hok N⟩
structure SupV where
  width : Int
  gen : Int
  mark : Int
  head : Int
  pages : Int
deriving DecidableEq
def supC (s : SupV) : List Value := [.int .i64 s.width, .int .i64 s.gen, .int .i64 s.mark, .int .i64 s.head, .int .i64 s.pages]
def Jah : SupV := ⟨0, 0, 0, 0, 0⟩
def Jbq (s : SupV) : Prop := 1 ≤ s.width ∧ s.width ≤ 32 ∧ 0 ≤ s.gen ∧ s.gen ≤ 1099511627776 ∧ 3 ≤ s.pages ∧ s.pages ≤ 4096 ∧ 2 ≤ s.mark ∧ s.mark ≤ s.pages ∧ (s.head = 0 ∨ (2 ≤ s.head ∧ s.head < s.mark))
instance (s : SupV) : Decidable (Jbq s) := inferInstanceAs (Decidable (_ ∧ _))
def Jb0 (s : SupV) : Bool := decide (Jbq s)
def leN (v : Nat) : Nat → List UInt8
  | 0 => []
  | n + 1 => UInt8.ofNat v :: leN (v / 256) n
theorem Jav (n : Nat) : ∀ v, (leN v n).length = n := by
 induction n with
 | zero => intro v; rfl;| succ n ih => intro v; simp [leN, ih]
def decN : List UInt8 → Nat
  | [] => 0
  | x :: l => x.toNat + 256 * decN l
theorem Jne : ∀ l : List UInt8, decN l < 256 ^ l.length
  | [] => by simp [decN]
  | x :: l => by
    have := Jne l
    have := x.toNat_lt
    rw [List.length_cons, Nat.pow_succ]
    show x.toNat + 256 * decN l < _
    omega
theorem Jv2 (n : Nat) : ∀ v, leN v (n + 1) = leN v n ++ [UInt8.ofNat (v / 256 ^ n)] := by
 induction n with
 | zero => intro v; simp [leN]
 | succ n ih =>
   intro v;rw [leN, ih (v / 256), leN, Nat.div_div_eq_div_mul, Nat.pow_succ, Nat.mul_comm (256 ^ n)];rfl
def Jbk : List UInt8 := [76, 68, 71, 49]
def Jau (n : Nat) : List UInt8 := List.replicate n 0
def Jhk (s : SupV) : List UInt8 :=
  Jbk ++ (UInt8.ofNat s.width.toNat :: (Jau 3 ++ (leN s.gen.toNat 8 ++ (leN s.mark.toNat 4 ++ (leN s.head.toNat 4 ++ (leN s.pages.toNat 4 ++ Jau 32))))))
theorem Jc8 (s : SupV) : (Jhk s).length = 60 := by simp [Jhk, Jbk, Jau, Jav]
def Ja7 (s : SupV) : List UInt8 := Jer (Jhk s) ++ Jau 192
theorem Jnf (s : SupV) : (Ja7 s).length = 256 := by
 unfold Ja7 Jau;rw [List.length_append, Ja6, Jc8, List.length_replicate]
def Jc6 (b : List UInt8) : SupV := ⟨((b.getD 4 0).toNat : Int), (decN ((b.drop 8).take 7) : Int), (decN ((b.drop 16).take 4) : Int), (decN ((b.drop 20).take 4) : Int), (decN ((b.drop 24).take 4) : Int)⟩
def allZ (l : List UInt8) : Bool := decide (l = Jau l.length)
def Jgg (b : List UInt8) : Bool := eqB (b.take 4) Jbk && allZ ((b.drop 5).take 3) && allZ ((b.drop 28).take 32) && allZ ((b.drop 15).take 1)
def unpE (raw : List UInt8) : Int :=
  if raw.length ≠ 256 then 53 else if Jb9 (raw.take 64) = false then 52 else if Jgg (raw.take 64) = false then 53 else if Jb0 (Jc6 (raw.take 64)) = false then 53 else 0
def unpS (raw : List UInt8) : SupV := if unpE raw = 0 then Jc6 (raw.take 64) else Jah
def Jd9 (raw : List UInt8) : Bool := decide (raw.length = 256 ∧ raw.take 64 = Jau 64)
def Jiw (a b : SupV) : SupV := if a.gen < b.gen then b else a
def Jfv (a b : SupV) : SupV := if a.gen < b.gen then a else b
def Jei (a b : SupV) : Prop := a.gen % 2 = 0 ∧ b.gen % 2 = 1 ∧ Jiw a b = { Jfv a b with gen := (Jfv a b).gen + 1, mark := (Jiw a b).mark, head := (Jiw a b).head } ∧ (Jfv a b).mark ≤ (Jiw a b).mark
instance (a b : SupV) : Decidable (Jei a b) := inferInstanceAs (Decidable (_ ∧ _))
def Jdg (a b : SupV) : Int := if Jei a b then 0 else 4
def Jdh (a b : SupV) : SupV := if Jei a b then Jiw a b else Jah
def Jbh (a b : List UInt8) : Int :=
  if unpE a = 0 ∧ unpE b = 0 then Jdg (unpS a) (unpS b)
  else if Jd9 b = false then 4
  else if (unpE a = 0 ∧ (unpS a).gen = 0) ∨ Jd9 a = true then 55 else 4
def Jb8 (a b : List UInt8) : SupV := if unpE a = 0 ∧ unpE b = 0 then Jdh (unpS a) (unpS b) else Jah
theorem Jmc {D : DV} {k : Nat} (hk : k < D.pages.length) : Jaw (D.pages.take k) ++ bvs (D.pg k) = Jaw (D.pages.take (k + 1)) := by
 have hg : D.pg k = D.pages[k] := by
   unfold DV.pg;rw [List.getD_eq_getElem?_getD, List.getElem?_eq_getElem hk]; rfl
 rw [hg, List.take_succ_eq_append_getElem hk];unfold Jaw;rw [List.flatMap_append];simp
theorem Jth {D : DV} {p pg mb : Nat} {qv : Value} {w : World} (hM : zM w [disk D p pg mb qv])  : zC 73 [zP p 0] w fun e w' => ∃ v, e = .returned v ∧ zD w [disk D p pg mb qv] w' [disk D p pg mb qv, lst 5 1 v (256 * D.pages.length) (bvs D.pages.flatten)] := by
 obtain ⟨hok, M⟩ := Jal hM;clear hM;have hhi := hok.hi;go_enter Tryz.func73, Tryz.ntmps73;refine zk fun _ hK1 => zr ?_;refine zp 1 rfl (zw (hK1 _ _ (zk fun _ hK2 => zr (zp 1 rfl (zw (hK2 _ _ (zk fun _ hK3 => zk fun _ hK4 => zr (zp 2 rfl (zfl M 4 Jbe rfl Jl0 0 rfl Jly (zo M (Jbp rfl rfl rfl Jkt) (zp 1 rfl ?_)))))))))));simp only[Za,Zb,Zc];refine zw (hK4 _ _ (zbl ?_));refine wp_loop (fun a' w' => ∃ (k : Nat) (a : Option Addr) (c : Nat) (us5 : List Value), a' = (⟨#[zP p 0, undef, zN, .slice a (256 * k) c, (zU us5 0), zP p 0, zP p 0, zP p 4, zS pg D.pages.length D.pages.length, zI (D.pages.length : Int), zI (k : Int), (zU us5 1), (zU us5 2), (zU us5 3), (zU us5 4), (zU us5 5), (zU us5 6), (zU us5 7), (zU us5 8), (zU us5 9), (zU us5 10), (zU us5 11), (zU us5 12), undef], []⟩ : Act) ∧ (k ≤ D.pages.length) ∧ zD w [disk D p pg mb qv] w' [lst 5 1 (.slice a (256 * k) c) (256 * k) (Jaw (D.pages.take k)), blk p 127 (dC D pg mb qv), blk pg 135 (Jaw D.pages), lst 150 257 qv D.q.length (qC D.q), mapq mb D.q]) (fun a' _ => D.pages.length - (intOf (a'.tmps.getD 10 undef)).toNat) ⟨0, none, 0, [_,_,_,_,_,_,_,_,_,_,_,_,_], rfl, Nat.zero_le _, (M.nilst 5 1)⟩ ?_;clear M;rintro a' w7 ⟨k, a, c, us5, rfl, f6, M7⟩;refine zk fun _ hK8 => zr ?_;rcases zem ((k : Int) < (D.pages.length : Int)) with h9 | h9
 ·have hk : k < D.pages.length := by omega
  have hk1 : 256 * k + 256 = 256 * (k + 1) := by omega
  have hpl : (D.pg k).length = 256 := Jb6 hok.len hk;refine zo M7 (zlss rfl (zT h9)) ?_;simp only[Za,Zb,Zc];refine zw (hK8 _ _ (zk fun _ hK10 => zct rfl (zsk (hK10 _ _ ?_))));refine zk fun _ hK11 => zbl (zk fun _ hK12 => zr ?_);refine zp 2 rfl (zw (hK12 _ _ (zr ?_)));simp only[Za,Zb,Zc];refine zp 3 rfl (zfl M7 4 Jbe rfl Jl0 1 rfl Jly (zp 1 rfl (zo M7 (Jbc (r := 256 * k) rfl rfl rfl rfl Jkt Jku (by omega) (by omega)) (zo M7 (Je5 (l := 0) (h := 256) (r := 256 * k) (n' := 256) (c' := 256) rfl rfl rfl rfl rfl Jke zz5 (by exact ⟨rfl, rfl⟩) (by split <;> omega) (by omega) (by omega)) ?_))));simp only[Za,Zb,Zc];refine pe rfl fun K hK => Ja5 M7 0 Jd7 (by decide) (news := bvs (D.pg k)) rfl rfl rfl rfl (by rw [Jam, hpl]) (by intro h; cases h) (fun ad e j u hj => by cases e; rw [Jcv]; exact Jel (M7.get 2 rfl) (Jk8 hok hk) j u hj) (Jcc _) (⟨by unfold maxLen; omega, by omega⟩) ?_;intro v13 w13 M13;replace M13 : zD w [disk D p pg mb qv] w13 [lst 5 1 v13 (256 * (k + 1)) (Jaw (D.pages.take (k + 1))), blk p 127 (dC D pg mb qv), blk pg 135 (Jaw D.pages), lst 150 257 qv D.q.length (qC D.q), mapq mb D.q] := by rw [Jmc hk, hk1] at M13; exact M13
  obtain ⟨a13, c13, rfl⟩ := Jcj (M13.get 0 rfl);refine hK.out _ _ ?_;simp only[Ze,Zb,Zc,Zd];refine zp 1 rfl (zw (hK11 _ _ (zr (zo M13 (Ja0 (r := (k : Int) + 1) rfl rfl rfl rfl (rfl) (by omega)) (zp 1 rfl ?_)))));simp only[Za,Zb,Zc];refine zw ?_;refine ⟨⟨k + 1, a13, c13, [_,_,_,_,_,_,_,_,_,_,_,_,_], rfl, by omega, M13⟩, ?_⟩;simp [intOf]; omega
 ·obtain rfl : k = D.pages.length := by omega
  rw [List.take_length] at M7;refine zo M7 (zlss rfl (zF h9)) ?_;simp only[Za,Zb,Zc];refine zw (hK8 _ _ (zk fun _ hK14 => zcf rfl (zx (hK3 _ _ ?_))));refine zk fun _ hK15 => zr ?_;refine zp 2 rfl ?_;simp only[Za,Zb,Zc];refine zw (hK15 _ _ (zrt ?_));(try simp only[zi,zj]);refine zR (v := .slice a (256 * D.pages.length) c) (res1 rfl rfl) rfl ?_;rw [Jk7];have N := M7.pk [1, 2, 3, 4, 0];simp only[Y3,Y4,Y1,Y2]at N;exact ⟨_, rfl, Jac hok N⟩
def Jf2 : Nat → List UInt8 → Nat → UInt32 → List UInt8
  | 0, l, _, _ => l
  | n + 1, l, i, x => if x = 0 then l else Jf2 n (l.set (i / 8) (l.getD (i / 8) 0 ^^^ ((x &&& 1).toUInt8 <<< UInt8.ofNat (i % 8)))) (i + 1) (x >>> 1)
theorem Jje : ∀ (n : Nat) (l : List UInt8) (i : Nat) (x : UInt32), (Jf2 n l i x).length = l.length
  | 0, _, _, _ => rfl
  | n + 1, l, i, x => by
    unfold Jf2
    split
    · rfl
    · rw [Jje n]; simp
def Jc1 (D : DV) (page bit : Int) : Int := if D.has page then (if 0 ≤ bit ∧ bit < 2048 then 0 else 1) else 41
def Jdr (D : DV) (page bit : Int) (x : UInt32) : DV := if D.has page then (if 0 ≤ bit ∧ bit < 2048 then { D with pages := D.pages.set page.toNat (Jf2 (2048 - bit.toNat) (D.pg page.toNat) bit.toNat x) } else D) else D
theorem Jpt (n : Nat) : IntKind.u8.wrap (n : Int) = ((UInt8.ofNat n).toNat : Int) := Jee n
theorem Jvs {t : TypeId} (x : UInt8) (k : Nat) (hk : k < 8) : binOp .shl t (.int .u8 (x.toNat : Int)) (.int .i64 (k : Int)) = pure (.int .u8 ((x <<< UInt8.ofNat k).toNat : Int)) := by
 show Op.shift .shl .u8 (x.toNat : Int) .i64 (k : Int) = _;unfold Op.shift;rw [if_neg (by omega)];have hm : min ((k : Int).toNat) IntKind.u8.bits = k := by simp [IntKind.bits]; omega
 simp only [hm];congr 2;have e : (x.toNat : Int) * 2 ^ k = ((x.toNat * 2 ^ k : Nat) : Int) := by push_cast; rfl
 rw [e, Jpt, UInt8.toNat_shiftLeft, UInt8.toNat_ofNat', UInt8.toNat_ofNat', Nat.mod_eq_of_lt (show k < 256 by omega), Nat.mod_eq_of_lt hk, Nat.shiftLeft_eq]
theorem Jvt {t : TypeId} (x y : UInt8) : binOp .xor t (.int .u8 (x.toNat : Int)) (.int .u8 (y.toNat : Int)) = pure (.int .u8 ((x ^^^ y).toNat : Int)) := by
 show Op.intBits .xor .u8 (x.toNat : Int) (y.toNat : Int) = _;show (pure (Value.int .u8 (IntKind.u8.wrap (((BitVec.ofInt 8 (x.toNat : Int) ^^^ BitVec.ofInt 8 (y.toNat : Int)).toNat : Nat) : Int))) : Sem Value) = _;congr 2;rw [BitVec.toNat_xor, BitVec.toNat_ofInt, BitVec.toNat_ofInt];have hx := x.toNat_lt;have hy := y.toNat_lt;have e1 : ((x.toNat : Int) % (2 ^ 8 : Nat)).toNat = x.toNat := by omega
 have e2 : ((y.toNat : Int) % (2 ^ 8 : Nat)).toNat = y.toNat := by omega
 rw [e1, e2, Jpt, UInt8.toNat_ofNat', UInt8.toNat_xor, Nat.mod_eq_of_lt];exact Nat.xor_lt_two_pow (n := 8) hx hy
theorem Jti (x : UInt32) : IntKind.u8.wrap (x.toNat : Int) = (x.toUInt8.toNat : Int) := by
 rw [Jpt]; rfl
theorem Jxw {t : TypeId} (x : UInt32) : binOp .shr t (.int .u32 (x.toNat : Int)) (.int .u64 1) = pure (.int .u32 ((x >>> 1).toNat : Int)) := Jpg t x .u64 1 (by decide)
theorem Jxx {t : TypeId} (x : UInt32) : binOp .and t (.int .u32 (x.toNat : Int)) (.int .u32 1) = pure (.int .u32 ((x &&& 1).toNat : Int)) := Jxo t x 1
theorem Jmd (L : List Value) (o : Nat) (v : Value) (h : o < L.length) : L.set o v = splice L o [v] := by
 unfold splice;rw [List.set_eq_take_append_cons_drop, if_pos h]; rfl
theorem Jtj {D : DV} {ps : List (List UInt8)} (h : ∀ p ∈ ps, p.length = 256) {n j : Nat} (hn : n < ps.length) (hj : j < 256) (u : UInt8) : (Jaw ps).set (256 * n + j) (.int .u8 (u.toNat : Int)) = Jaw (ps.set n ((ps.getD n []).set j u)) := by
 have hl := Jga h;have hp := Jb6 h hn;rw [Jmd _ _ _ (by rw [hl]; omega)];refine Jkv bvs 256 ps n (ps.getD n []) _ j [bv u] (fun y hy => by rw [Jam]; exact h y hy) (by rw [List.getD_eq_getElem?_getD, List.getElem?_eq_getElem hn]; rfl) (by simp; omega) ?_;rw [← Jmd _ _ _ (by rw [Jam, hp]; exact hj), Jpl]
theorem Jtk {ps : List (List UInt8)} (h : ∀ p ∈ ps, p.length = 256) {n j : Nat} (hn : n < ps.length) (hj : j < 256) : (Jaw ps)[256 * n + j]? = some (.int .u8 (((ps.getD n []).getD j 0).toNat : Int)) := by
 have hp := Jb6 h hn;have h2 := Jh6 bvs 256 ps n (ps.getD n []) (fun y hy => by rw [Jam]; exact h y hy) (by rw [List.getD_eq_getElem?_getD, List.getElem?_eq_getElem hn]; rfl);have h3 : (((ps.flatMap bvs).drop (256 * n)).take 256)[j]? = (bvs (ps.getD n []))[j]? := by rw [h2]
 rw [List.getElem?_take, if_pos hj, List.getElem?_drop] at h3;show (ps.flatMap bvs)[256 * n + j]? = _;rw [h3, Jbw];generalize ps.getD n [] = l at *;rw [List.getElem?_eq_getElem (by omega), List.getD_eq_getElem?_getD, List.getElem?_eq_getElem (by omega)];rfl
theorem Jkx {D : DV} (h : DOk D) (n : Nat) (l : List UInt8) (hl : l.length = 256) : DOk { D with pages := D.pages.set n l } :=
  ⟨by rw [List.length_set]; exact h.lo, by rw [List.length_set]; exact h.hi, Jf6 h.len hl, fun x hx => ⟨by rw [List.length_set]; exact (h.qs x hx).1, (h.qs x hx).2⟩, h.arm, h.ep⟩
theorem Jfs : (∀ {D : DV} {p pg mb : Nat} {qv : Value} {w : World} (hM : zM w [disk D p pg mb qv]) (page bit : Int) (x : UInt32) (hh : ¬ D.has page), zC 80 [zP p 0, zI page, zI bit, .int .u32 (x.toNat : Int)] w fun e w' => e = .returned (zI (Jc1 D page bit)) ∧ zD w [disk D p pg mb qv] w' [disk (Jdr D page bit x) p pg mb qv]) ∧ (∀ {D : DV} {p pg mb : Nat} {qv : Value} {w : World} (hM : zM w [disk D p pg mb qv]) (page bit : Int) (x : UInt32) (hh : D.has page) (hb : 2048 ≤ bit), zC 80 [zP p 0, zI page, zI bit, .int .u32 (x.toNat : Int)] w fun e w' => e = .returned (zI (Jc1 D page bit)) ∧ zD w [disk D p pg mb qv] w' [disk (Jdr D page bit x) p pg mb qv]) ∧ (∀ {D : DV} {p pg mb : Nat} {qv : Value} {w : World} (hM : zM w [disk D p pg mb qv]) (page bit : Int) (x : UInt32) (hh : D.has page) (hb : bit < 0), zC 80 [zP p 0, zI page, zI bit, .int .u32 (x.toNat : Int)] w fun e w' => e = .returned (zI (Jc1 D page bit)) ∧ zD w [disk D p pg mb qv] w' [disk (Jdr D page bit x) p pg mb qv]) ∧ (∀ {D : DV} {p pg mb : Nat} {qv : Value} {w : World} (hM : zM w [disk D p pg mb qv]) (n b : Nat) (x : UInt32) (hn : n < D.pages.length) (hb : b < 2048), zC 80 [zP p 0, zI (n : Int), zI (b : Int), .int .u32 (x.toNat : Int)] w fun e w' => e = .returned (zI (Jc1 D n b)) ∧ zD w [disk D p pg mb qv] w' [disk (Jdr D n b x) p pg mb qv]) := by
 refine ⟨@fun D p pg mb qv w hM page bit x hh => ?_, @fun D p pg mb qv w hM page bit x hh hb => ?_, @fun D p pg mb qv w hM page bit x hh hb => ?_, @fun D p pg mb qv w hM n b x hn hb => ?_⟩
 all_goals (obtain ⟨hok, M⟩ := Jal hM;clear hM)
 iterate 3 (go_enter Tryz.func80, Tryz.ntmps80;refine zk fun _ hK1 => zr ?_;refine zp 1 rfl (zw (hK1 _ _ (zk fun _ hK2 => zk fun _ hK3 => zr (zp 2 rfl ?_))));simp only[Za,Zb,Zc];refine zca 102 _ rfl Jqu (Jiv (Mem.h1 (Jac hok M)) page) ?_;rintro e w4 ⟨rfl, H4⟩;have M4 := (Jal (Mem.f1 (Jac hok M) H4)).2;(try simp only[Y1,Y2]at M4);rotate_left)
 rotate_right 3
 ·rw [(decide_eq_false hh)];refine ⟨_, rfl, ?_⟩;simp only[Za,Zb,Zc];refine zp 1 rfl (zw (hK3 _ _ (zct rfl (zk fun _ hK5 => zr (zp 1 rfl ?_)))));simp only[Za,Zb,Zc];refine zw (hK5 _ _ (zrt ?_));(try simp only[zi,zj]);refine zR (v := zI 41) (res1 rfl rfl) rfl ?_;have e1 : Jc1 D page bit = 41 := if_neg hh;have e2 : Jdr D page bit x = D := if_neg hh;rw [e1, e2];exact ⟨rfl, Jac hok M4⟩
 iterate 2 (rw [(decide_eq_true hh)];refine ⟨_, rfl, ?_⟩;simp only[Za,Zb,Zc];refine zp 1 rfl ?_;simp only[Za,Zb,Zc];refine zw (hK3 _ _ (zcf rfl (zsk (hK2 _ _ (zk fun _ hK5 => ?_)))));refine zk fun _ hK6 => zr ?_;rotate_left)
 rotate_right 2
 ·refine zp 1 rfl (zo M4 (zlss rfl (zF (by omega))) (zp 2 rfl (zo M4 (zgeq rfl (zT (by omega))) (zp 1 rfl (zw (hK6 _ _ (zct rfl (zk fun _ hK7 => zr (zp 1 rfl ?_)))))))));simp only[Za,Zb,Zc];refine zw (hK7 _ _ (zrt ?_));(try simp only[zi,zj]);refine zR (v := zI 1) (res1 rfl rfl) rfl ?_;have e1 : Jc1 D page bit = 1 := by unfold Jc1; rw [if_pos hh, if_neg (by omega)]
  have e2 : Jdr D page bit x = D := by unfold Jdr; rw [if_pos hh, if_neg (by omega)]
  rw [e1, e2];exact ⟨rfl, Jac hok M4⟩
 ·refine zp 1 rfl (zo M4 (zlss rfl (zT (by omega))) (zp 4 rfl (zw (hK6 _ _ (zct rfl (zk fun _ hK7 => zr (zp 1 rfl ?_)))))));simp only[Za,Zb,Zc];refine zw (hK7 _ _ (zrt ?_));(try simp only[zi,zj]);refine zR (v := zI 1) (res1 rfl rfl) rfl ?_;have e1 : Jc1 D page bit = 1 := by unfold Jc1; rw [if_pos hh, if_neg (by omega)]
  have e2 : Jdr D page bit x = D := by unfold Jdr; rw [if_pos hh, if_neg (by omega)]
  rw [e1, e2];exact ⟨rfl, Jac hok M4⟩
 ·have hh : D.has n := ⟨by omega, by omega⟩;have hhi := hok.hi;have hpl : (D.pg n).length = 256 := Jb6 hok.len hn
  have hset : D.pages.set n (D.pg n) = D.pages := by
    unfold DV.pg;rw [List.getD_eq_getElem?_getD, List.getElem?_eq_getElem hn];exact List.set_getElem_self hn
  go_enter Tryz.func80, Tryz.ntmps80;refine zk fun _ hK1 => zr ?_;refine zp 1 rfl (zw (hK1 _ _ (zk fun _ hK2 => zk fun _ hK3 => zr (zp 2 rfl ?_))));simp only[Za,Zb,Zc];refine zca 102 _ rfl Jqu (Jiv (Mem.h1 (Jac hok M)) (n : Int)) ?_;rintro e w4 ⟨rfl, H4⟩;have M4 := (Jal (Mem.f1 (Jac hok M) H4)).2;(try simp only[Y1,Y2]at M4);rw [(decide_eq_true hh)];refine ⟨_, rfl, ?_⟩;simp only[Za,Zb,Zc];refine zp 1 rfl ?_;simp only[Za,Zb,Zc];refine zw (hK3 _ _ (zcf rfl (zsk (hK2 _ _ (zk fun _ hK5 => ?_)))));refine zk fun _ hK6 => zr ?_;refine zp 1 rfl (zo M4 (zlss rfl (zF (by omega))) (zp 2 rfl (zo M4 (zgeq rfl (zF (by omega))) (zp 1 rfl ?_))));simp only[Za,Zb,Zc];refine zw (hK6 _ _ (zcf rfl (zsk (hK5 _ _ (zk fun _ hK7 => ?_)))));refine zbl ?_;refine wp_loop (fun a' w' => ∃ (l : List UInt8) (i : Nat) (y : UInt32) (us8 : List Value), a' = (⟨#[zP p 0, zI (n : Int), zI (i : Int), .int .u32 (y.toNat : Int), undef, undef, undef, undef, zI 0, zP p 0, zI (n : Int), .bool true, .bool false, zI (b : Int), .bool false, .bool false, zI (b : Int), .bool false, .bool false, (zU us8 0), (zU us8 1), (zU us8 2), (zU us8 3), (zU us8 4), (zU us8 5), (zU us8 6), (zU us8 7), (zU us8 8), (zU us8 9), (zU us8 10), (zU us8 11), (zU us8 12), (zU us8 13), (zU us8 14), (zU us8 15), (zU us8 16), (zU us8 17), (zU us8 18), (zU us8 19), (zU us8 20), (zU us8 21), (zU us8 22), (zU us8 23), (zU us8 24), (zU us8 25), (zU us8 26), (zU us8 27), (zU us8 28)], []⟩ : Act) ∧ (i ≤ 2048) ∧ (l.length = 256) ∧ (Jf2 (2048 - i) l i y = Jf2 (2048 - b) (D.pg n) b x) ∧ zD w [disk D p pg mb qv] w' [blk p 127 (dC D pg mb qv), blk pg 135 (Jaw (D.pages.set n l)), lst 150 257 qv D.q.length (qC D.q), mapq mb D.q]) (fun a' _ => 2048 - (intOf (a'.tmps.getD 2 undef)).toNat) ⟨D.pg n, b, x, [_,_,_,_,_,_,_,_,_,_,_,_,_,_,_,_,_,_,_,_,_,_,_,_,_,_,_,_,_], rfl, by omega, hpl, rfl, (show zD w [disk D p pg mb qv] w4 [blk p 127 (dC D pg mb qv), blk pg 135 (Jaw (D.pages.set n (D.pg n))), lst 150 257 qv D.q.length (qC D.q), mapq mb D.q] from by rw [hset]; exact M4)⟩ ?_;rintro a' w10 ⟨l, i, y, us8, rfl, f9, hll, hfl, M10⟩;refine zk fun _ hK11 => zk fun _ hK12 => zr ?_;refine zp 1 rfl ?_;simp only[Za,Zb,Zc];rcases zem ((y.toNat : Int) = 0) with h13 | h13
  ·have hres : Jf2 (2048 - b) (D.pg n) b x = l := by
     have hy : y = 0 := UInt32.toNat_inj.1 (by simpa using h13);rw [← hfl];cases 2048 - i with
     | zero => rfl;| succ n => exact if_pos hy
   refine zo M10 (zneq (b := false) rfl (by rw [decide_eq_true h13]; rfl)) (zp 4 rfl ?_);simp only[Za,Zb,Zc];refine zw (hK12 _ _ (zcf rfl (zx (hK7 _ _ (zk fun _ hK14 => ?_)))));refine zr ?_;refine zp 1 rfl ?_;simp only[Za,Zb,Zc];refine zw (hK14 _ _ (zrt ?_));(try simp only[zi,zj]);refine zR (v := zI 0) (res1 rfl rfl) rfl ?_;have e1 : Jc1 D n b = 0 := by unfold Jc1; rw [if_pos hh, if_pos (by omega)]
   have e2 : Jdr D n b x = { D with pages := D.pages.set n l } := by unfold Jdr; rw [if_pos hh, if_pos (by omega), ← hres]; rfl
   rw [e1, e2];refine ⟨rfl, Jac (D := { D with pages := D.pages.set n l }) (Jkx hok n l hll) ?_⟩;show Mem w _ w10 [blk p 127 (dC { D with pages := D.pages.set n l } pg mb qv), _, _, _];unfold dC;rw [List.length_set];exact M10
  ·have H0 := h13;refine zo M10 (zneq (b := true) rfl (by rw [decide_eq_false h13]; rfl)) (zp 2 rfl ?_);simp only[Za,Zb,Zc];rcases zem ((i : Int) < 2048) with h15 | h15
   ·have hn0 : ¬ y = 0 := fun e => H0 (by rw [e]; rfl)
    have hfl2 : Jf2 (2048 - (i + 1)) (l.set (i / 8) (l.getD (i / 8) 0 ^^^ ((y &&& 1).toUInt8 <<< UInt8.ofNat (i % 8)))) (i + 1) (y >>> 1) = Jf2 (2048 - b) (D.pg n) b x := by
      rw [← hfl, show 2048 - i = (2048 - (i + 1)) + 1 by omega];exact (if_neg hn0).symm
    have hps : ∀ q ∈ D.pages.set n l, q.length = 256 := Jf6 hok.len hll;have hgd2 : (D.pages.set n l).getD n [] = l := by rw [List.getD_eq_getElem?_getD, List.getElem?_set_self hn]; rfl
    have hgd : ((D.pages.set n l).getD n []).getD (i / 8) 0 = l.getD (i / 8) 0 := by rw [hgd2]
    refine zo M10 (zlss rfl (zT h15)) (zp 1 rfl ?_);simp only[Za,Zb,Zc];refine zw (hK12 _ _ (zct rfl (zsk (hK11 _ _ (zk fun _ hK16 => ?_)))));refine zbl (zk fun _ hK17 => ?_);have M18 := M10.drew;refine Jar 19 (by kernel_rfl) (by kernel_rfl) ?_;simp only [List.take_succ_cons, List.take_zero, List.drop_succ_cons, List.drop_zero];refine Zs 2 rfl (zq M18 (zf 4 Jbe rfl Jl0) (zq M18 (zl 0 rfl Jly) (Zs 2 rfl (zq M18 (Jni (r := ((i / 8 : Nat) : Int)) rfl rfl rfl rfl (by omega) (by rw [Int.tdiv_eq_ediv_of_nonneg (by omega)]; omega) (by omega)) (zq M18 (Jbc (r := 256 * n) rfl rfl rfl rfl Jkt Jku (by omega) (by omega)) ?_)))));simp only[Za,Zb,Zc];refine zq M18 (Jpz (r := 256 * n + i / 8) rfl rfl rfl rfl Jke zz5 (by omega) (by omega)) (zq M18 (zm (v := .int .u8 ((((D.pages.set n l).getD n []).getD (i / 8) 0).toNat)) 1 rfl zg5 (Jtk hps (by rw [List.length_set]; exact hn) (by omega))) (Zs 1 rfl (zq M18 (Jfn (r := .int .u32 ((y &&& 1).toNat : Int)) rfl rfl rfl rfl (Jxx y)) (zq M18 (Jcq (r := ((y &&& 1).toUInt8.toNat : Int)) rfl rfl rfl zu35 zu5 (Jti _)) (Zs 1 rfl (zq M18 (Jgy (r := ((i % 8 : Nat) : Int)) rfl rfl rfl rfl (by omega) (by rw [Int.tmod_eq_emod_of_nonneg (by omega)]; omega)) (zq M18 (Jfn (r := .int .u8 (((y &&& 1).toUInt8 <<< UInt8.ofNat (i % 8)).toNat : Int)) rfl rfl rfl rfl (Jvs _ _ (by omega))) ?_)))))));simp only[Za,Zb,Zc];refine zq M18 (Jfn (r := .int .u8 ((l.getD (i / 8) 0 ^^^ ((y &&& 1).toUInt8 <<< UInt8.ofNat (i % 8))).toNat : Int)) rfl rfl rfl rfl (by rw [hgd]; exact Jvt _ _)) (zq M18 (Jbc (r := 256 * n) rfl rfl rfl rfl Jkt Jku (by omega) (by omega)) (zq M18 (Jpz (r := 256 * n + i / 8) rfl rfl rfl rfl Jke zz5 (by omega) (by omega)) ?_));simp only[Za,Zb,Zc];refine wpStill_nil ?_;refine pe rfl fun K hK => Jc9 M18 1 (v := .int .u8 ((l.getD (i / 8) 0 ^^^ ((y &&& 1).toUInt8 <<< UInt8.ofNat (i % 8))).toNat : Int)) rfl rfl rfl rfl rfl rfl zz5 rfl (by rw [Jga hps, List.length_set]; omega) ?_;intro w19 M19
    replace M19 : zD w [disk D p pg mb qv] w19 [blk p 127 (dC D pg mb qv), blk pg 135 (Jaw (D.pages.set n (l.set (i / 8) (l.getD (i / 8) 0 ^^^ ((y &&& 1).toUInt8 <<< UInt8.ofNat (i % 8)))))), lst 150 257 qv D.q.length (qC D.q), mapq mb D.q] := by
      have e := Jtj (D := D) hps (n := n) (j := i / 8) (by rw [List.length_set]; exact hn) (by omega) (l.getD (i / 8) 0 ^^^ ((y &&& 1).toUInt8 <<< UInt8.ofNat (i % 8)));rw [hgd2, List.set_set] at e;rw [← e]; exact M19
    refine hK.out _ _ ?_;simp only[Ze,Zb,Zc,Zd];refine zw (hK17 _ _ (zr ?_));refine zp 1 rfl (zo M19 (Jfn (r := .int .u32 ((y >>> 1).toNat : Int)) rfl rfl rfl rfl (Jxw y)) (zp 1 rfl (zw (hK16 _ _ (zr (zp 1 rfl (zo M19 (Ja0 (r := (i : Int) + 1) rfl rfl rfl rfl (rfl) (by omega)) (zp 1 rfl ?_))))))));simp only[Za,Zb,Zc];refine zw ?_;refine ⟨⟨_, i + 1, y >>> 1, [_,_,_,_,_,_,_,_,_,_,_,_,_,_,_,_,_,_,_,_,_,_,_,_,_,_,_,_,_], rfl, by omega, by rw [List.length_set]; exact hll, hfl2, M19⟩, ?_⟩;simp [intOf]; omega
   ·have hres : Jf2 (2048 - b) (D.pg n) b x = l := by rw [← hfl, show 2048 - i = 0 by omega]; rfl
    refine zo M10 (zlss rfl (zF h15)) (zp 1 rfl ?_);simp only[Za,Zb,Zc];refine zw (hK12 _ _ (zcf rfl (zx (hK7 _ _ (zk fun _ hK20 => ?_)))));refine zr ?_;refine zp 1 rfl ?_;simp only[Za,Zb,Zc];refine zw (hK20 _ _ (zrt ?_));(try simp only[zi,zj]);refine zR (v := zI 0) (res1 rfl rfl) rfl ?_;have e1 : Jc1 D n b = 0 := by unfold Jc1; rw [if_pos hh, if_pos (by omega)]
    have e2 : Jdr D n b x = { D with pages := D.pages.set n l } := by unfold Jdr; rw [if_pos hh, if_pos (by omega), ← hres]; rfl
    rw [e1, e2];refine ⟨rfl, Jac (D := { D with pages := D.pages.set n l }) (Jkx hok n l hll) ?_⟩;show Mem w _ w10 [blk p 127 (dC { D with pages := D.pages.set n l } pg mb qv), _, _, _];unfold dC;rw [List.length_set];exact M10
theorem Jq2 {D : DV} {p pg mb : Nat} {qv : Value} {w : World} (hM : Mem w (Jag [disk D p pg mb qv]) w [disk D p pg mb qv]) (page bit : Int) (x : UInt32) : Calls Tryz.prog 80 #[.pointer (some ⟨p, 0, none⟩), .int .i64 page, .int .i64 bit, .int .u32 (x.toNat : Int)] w fun e w' => e = .returned (.int .i64 (Jc1 D page bit)) ∧ Mem w (Jag [disk D p pg mb qv]) w' [disk (Jdr D page bit x) p pg mb qv] := by
 by_cases hh : D.has page
 ·rcases Int.lt_or_le bit 0 with h1 | h1
  ·exact Jfs.2.2.1 hM page bit x hh h1
  ·rcases Int.lt_or_le bit 2048 with h2 | h2
   ·obtain ⟨n, rfl⟩ := Int.eq_ofNat_of_zero_le hh.1;obtain ⟨b, rfl⟩ := Int.eq_ofNat_of_zero_le h1;exact Jfs.2.2.2 hM n b x (by have := hh.2; omega) (by omega)
   ·exact Jfs.2.1 hM page bit x hh h2
 ·exact Jfs.1 hM page bit x hh
end Go.Proofs.YtodhlfinbbajfaaGreatDoor
