/- Texts joined: Store6, Def, Store7, Store8. -/
import Derived.Test.YtfbamkgmnbobeaaSB04
import Derived.Test.YtfbamkgmnbobeaaSB16
import Derived.Test.YtfbamkgmnbobeaaSB03
import Derived.Test.YtfbamkgmnbobeaaSB07
import Derived.Defers
/- The store: Rewind. -/
namespace Go.Proofs.Ytfbamkgmnbobeaa
set_option linter.unusedSectionVars false
open Go Go.RowKit
set_option maxRecDepth 100000
set_option maxHeartbeats 40000000
set_option linter.unusedVariables false
set_option linter.unusedSimpArgs false
def rewE (D : DV) (V : FV) (C : CS) (next : Int) : Int := if liveE D V ≠ 0 then liveE D V else if next < V.s.mark ∨ V.s.mark + (C.kp.length : Int) < next then 1 else 0
def rewC (D : DV) (V : FV) (C : CS) (next : Int) : CS := if rewE D V C next = 0 then relS C (next - V.s.mark).toNat else C
theorem srew_dead {D : DV} {V : FV} {C : CS} {X : SX} {s f p pg mb : Nat} {qv : Value} {w : World} (hM : zM w [disk D p pg mb qv, blk f 117 (fC V p), sto C V.s.mark s f X]) (next : Int) (hL : liveE D V ≠ 0) : zC 47 [zP s 0, zI next] w fun e' w' => ∃ X', e' = .returned (zI (rewE D V C next)) ∧ X'.x.n = X.x.n ∧ zD w [disk D p pg mb qv, blk f 117 (fC V p), sto C V.s.mark s f X] w' [disk D p pg mb qv, blk f 117 (fC V p), sto (rewC D V C next) V.s.mark s f X'] := by
 have M := hM;clear hM;have hso := sto_ok (M.get 2 rfl);have hm2 := hso.mk2;have hkl := hso.kpl;go_enter Try.func47, Try.ntmps47;refine zin ?_;refine zk fun K1 hK1 => zr ?_;refine zp 1 rfl ?_;refine zw (hK1 _ _ (zk fun K2 hK2 => zk fun K3 hK3 => zr ?_));refine zp 1 rfl ?_;have hX4 : zD w [disk D p pg mb qv, blk f 117 (fC V p), sto C V.s.mark s f X] w ([disk D p pg mb qv, blk f 117 (fC V p), sto C V.s.mark s f X] ++ []) := M.arr [0, 1, 2] (by decide);refine zca 19 [zP s 0] rfl zc19 (slive_any (Mem.h3 hX4)) ?_;rintro e w4 ⟨rfl, H4⟩;have M4 : zD w [disk D p pg mb qv, blk f 117 (fC V p), sto C V.s.mark s f X] w4 [disk D p pg mb qv, blk f 117 (fC V p), sto C V.s.mark s f X] := Mem.f3 hX4 H4;refine ⟨_, rfl, ?_⟩;refine zp 1 rfl ?_;refine zw (hK3 _ _ (zk fun K5 hK5 => zr ?_));refine zp 1 rfl (zo M4 (zneq (b := true) rfl (by rw [decide_eq_false hL]; rfl)) ?_);refine zw (hK5 _ _ (zct rfl (zk fun K6 hK6 => zr ?_)));refine zp 2 rfl ?_;refine zw (hK6 _ _ (zrt ?_));(try simp only[zi,zj]);refine zR (v := zI (liveE D V)) (res1 rfl (zgd rfl)) (zdf _) ?_;have e0 : rewE D V C next = liveE D V := if_pos hL;have e1 : rewC D V C next = C := if_neg (by rw [e0]; exact hL);rw [e0];exact ⟨X, rfl, rfl, by rw [e1]; exact (M4.arr [0, 1, 2] (by decide))⟩
theorem srew_low {D : DV} {V : FV} {C : CS} {X : SX} {s f p pg mb : Nat} {qv : Value} {w : World} (hM : zM w [disk D p pg mb qv, blk f 117 (fC V p), sto C V.s.mark s f X]) (next : Int) (hL : liveE D V = 0) (h1 : next < V.s.mark) : zC 47 [zP s 0, zI next] w fun e' w' => ∃ X', e' = .returned (zI (rewE D V C next)) ∧ X'.x.n = X.x.n ∧ zD w [disk D p pg mb qv, blk f 117 (fC V p), sto C V.s.mark s f X] w' [disk D p pg mb qv, blk f 117 (fC V p), sto (rewC D V C next) V.s.mark s f X'] := by
 have M := hM;clear hM;have hso := sto_ok (M.get 2 rfl);have hm2 := hso.mk2;have hkl := hso.kpl;go_enter Try.func47, Try.ntmps47;refine zin ?_;refine zk fun K1 hK1 => zr ?_;refine zp 1 rfl ?_;refine zw (hK1 _ _ (zk fun K2 hK2 => zk fun K3 hK3 => zr ?_));refine zp 1 rfl ?_;have hX4 : zD w [disk D p pg mb qv, blk f 117 (fC V p), sto C V.s.mark s f X] w ([disk D p pg mb qv, blk f 117 (fC V p), sto C V.s.mark s f X] ++ []) := M.arr [0, 1, 2] (by decide);refine zca 19 [zP s 0] rfl zc19 (slive_any (Mem.h3 hX4)) ?_;rintro e w4 ⟨rfl, H4⟩;have M4 : zD w [disk D p pg mb qv, blk f 117 (fC V p), sto C V.s.mark s f X] w4 [disk D p pg mb qv, blk f 117 (fC V p), sto C V.s.mark s f X] := Mem.f3 hX4 H4;refine ⟨_, rfl, ?_⟩;refine zp 1 rfl ?_;refine zw (hK3 _ _ (zk fun K5 hK5 => zr ?_));refine zp 1 rfl (zo M4 (zneq (b := false) rfl (by rw [decide_eq_true hL]; rfl)) ?_);refine zw (hK5 _ _ (zcf rfl (zsk (hK2 _ _ (zk fun K6 hK6 => ?_)))));refine zr ?_;refine zp 1 rfl ?_;have hX7 : zD w [disk D p pg mb qv, blk f 117 (fC V p), sto C V.s.mark s f X] w4 ([disk D p pg mb qv, blk f 117 (fC V p), sto C V.s.mark s f X] ++ []) := M4.arr [0, 1, 2] (by decide);refine zca 16 [zP s 0] rfl zc16 (ssuper_any (Mem.h3 hX7)) ?_;rintro e w7 ⟨rfl, H7⟩;have M7 : zD w [disk D p pg mb qv, blk f 117 (fC V p), sto C V.s.mark s f X] w7 [disk D p pg mb qv, blk f 117 (fC V p), sto C V.s.mark s f X] := Mem.f3 hX7 H7;refine ⟨_, rfl, ?_⟩;refine zo M7 (y_field1 (v := zI V.s.mark) (zwn rfl) rfl (zev rfl) zu38 rfl zg3 rfl) (zp 1 rfl ?_);refine zw (hK6 _ _ (zk fun K8 hK8 => zk fun K9 hK9 => zr ?_));refine zp 2 rfl (zo M7 (zlss rfl (zT h1)) (zp 5 rfl ?_));refine zp 1 rfl ?_;refine zw (hK9 _ _ (zct rfl (zk fun K10 hK10 => zr ?_)));refine zp 1 rfl ?_;refine zw (hK10 _ _ (zrt ?_));(try simp only[zi,zj]);refine zR (v := zI 1) (res1 rfl (zgd rfl)) (zdf _) ?_;have e0 : rewE D V C next = 1 := by unfold rewE; rw [if_neg (fun h => h hL), if_pos (by omega)]
 have e1 : rewC D V C next = C := if_neg (by rw [e0]; decide);rw [e0];exact ⟨X, rfl, rfl, by rw [e1]; exact (M7.arr [0, 1, 2] (by decide))⟩
theorem srew_high {D : DV} {V : FV} {C : CS} {X : SX} {s f p pg mb : Nat} {qv : Value} {w : World} (hM : zM w [disk D p pg mb qv, blk f 117 (fC V p), sto C V.s.mark s f X]) (next : Int) (hL : liveE D V = 0) (h1 : ¬ next < V.s.mark) (h2 : V.s.mark + (C.kp.length : Int) < next) : zC 47 [zP s 0, zI next] w fun e' w' => ∃ X', e' = .returned (zI (rewE D V C next)) ∧ X'.x.n = X.x.n ∧ zD w [disk D p pg mb qv, blk f 117 (fC V p), sto C V.s.mark s f X] w' [disk D p pg mb qv, blk f 117 (fC V p), sto (rewC D V C next) V.s.mark s f X'] := by
 have M := hM;clear hM;have hso := sto_ok (M.get 2 rfl);have hm2 := hso.mk2;have hkl := hso.kpl;go_enter Try.func47, Try.ntmps47;refine zin ?_;refine zk fun K1 hK1 => zr ?_;refine zp 1 rfl ?_;refine zw (hK1 _ _ (zk fun K2 hK2 => zk fun K3 hK3 => zr ?_));refine zp 1 rfl ?_;have hX4 : zD w [disk D p pg mb qv, blk f 117 (fC V p), sto C V.s.mark s f X] w ([disk D p pg mb qv, blk f 117 (fC V p), sto C V.s.mark s f X] ++ []) := M.arr [0, 1, 2] (by decide);refine zca 19 [zP s 0] rfl zc19 (slive_any (Mem.h3 hX4)) ?_;rintro e w4 ⟨rfl, H4⟩;have M4 : zD w [disk D p pg mb qv, blk f 117 (fC V p), sto C V.s.mark s f X] w4 [disk D p pg mb qv, blk f 117 (fC V p), sto C V.s.mark s f X] := Mem.f3 hX4 H4;refine ⟨_, rfl, ?_⟩;refine zp 1 rfl ?_;refine zw (hK3 _ _ (zk fun K5 hK5 => zr ?_));refine zp 1 rfl (zo M4 (zneq (b := false) rfl (by rw [decide_eq_true hL]; rfl)) ?_);refine zw (hK5 _ _ (zcf rfl (zsk (hK2 _ _ (zk fun K6 hK6 => ?_)))));refine zr ?_;refine zp 1 rfl ?_;have hX7 : zD w [disk D p pg mb qv, blk f 117 (fC V p), sto C V.s.mark s f X] w4 ([disk D p pg mb qv, blk f 117 (fC V p), sto C V.s.mark s f X] ++ []) := M4.arr [0, 1, 2] (by decide);refine zca 16 [zP s 0] rfl zc16 (ssuper_any (Mem.h3 hX7)) ?_;rintro e w7 ⟨rfl, H7⟩;have M7 : zD w [disk D p pg mb qv, blk f 117 (fC V p), sto C V.s.mark s f X] w7 [disk D p pg mb qv, blk f 117 (fC V p), sto C V.s.mark s f X] := Mem.f3 hX7 H7;refine ⟨_, rfl, ?_⟩;refine zo M7 (y_field1 (v := zI V.s.mark) (zwn rfl) rfl (zev rfl) zu38 rfl zg3 rfl) (zp 1 rfl ?_);refine zw (hK6 _ _ (zk fun K8 hK8 => zk fun K9 hK9 => zr ?_));refine zp 2 rfl (zo M7 (zlss rfl (zF h1)) (zp 3 rfl ?_));have hX10 : zD w [disk D p pg mb qv, blk f 117 (fC V p), sto C V.s.mark s f X] w7 ([disk D p pg mb qv, blk f 117 (fC V p), sto C V.s.mark s f X] ++ []) := M7.arr [0, 1, 2] (by decide);refine zca 12 [zP s 0] rfl zc12 (snext_any (Mem.h3 hX10)) ?_;rintro e w10 ⟨rfl, H10⟩;have M10 : zD w [disk D p pg mb qv, blk f 117 (fC V p), sto C V.s.mark s f X] w10 [disk D p pg mb qv, blk f 117 (fC V p), sto C V.s.mark s f X] := Mem.f3 hX10 H10;refine ⟨_, rfl, ?_⟩;refine zo M10 (zgtr rfl (zT h2)) (zp 1 rfl ?_);refine zw (hK9 _ _ (zct rfl (zk fun K11 hK11 => zr ?_)));refine zp 1 rfl ?_;refine zw (hK11 _ _ (zrt ?_));(try simp only[zi,zj]);refine zR (v := zI 1) (res1 rfl (zgd rfl)) (zdf _) ?_;have e0 : rewE D V C next = 1 := by unfold rewE; rw [if_neg (fun h => h hL), if_pos (by omega)]
 have e1 : rewC D V C next = C := if_neg (by rw [e0]; decide);rw [e0];exact ⟨X, rfl, rfl, by rw [e1]; exact (M10.arr [0, 1, 2] (by decide))⟩
theorem lst_cap {e : TypeId} {k n c : Nat} {ao : Option Addr} {xs : List Value} {w : World} (h : (lst e k (.slice ao n c) n xs).holds w) : n ≤ c := by
  rcases lst_at h with ⟨e1, e2, _⟩ | ⟨g, c', e1, e2, _⟩
  · cases e1; omega
  · cases e1; exact e2
theorem srew_ok {D : DV} {V : FV} {C : CS} {X : SX} {s f p pg mb : Nat} {qv : Value} {w : World} (hM : zM w [disk D p pg mb qv, blk f 117 (fC V p), sto C V.s.mark s f X]) (k : Nat) (hL : liveE D V = 0) (hkk : k ≤ C.kp.length) : zC 47 [zP s 0, zI (V.s.mark + (k : Int))] w fun e' w' => ∃ X', e' = .returned (zI (rewE D V C (V.s.mark + (k : Int)))) ∧ X'.x.n = X.x.n ∧ zD w [disk D p pg mb qv, blk f 117 (fC V p), sto C V.s.mark s f X] w' [disk D p pg mb qv, blk f 117 (fC V p), sto (rewC D V C (V.s.mark + (k : Int))) V.s.mark s f X'] := by
 have M := hM;clear hM;have hso := sto_ok (M.get 2 rfl);have hm2 := hso.mk2;have hkl := hso.kpl;have hso9 := hso;go_enter Try.func47, Try.ntmps47;refine zin ?_;refine zk fun K1 hK1 => zr ?_;refine zp 1 rfl ?_;refine zw (hK1 _ _ (zk fun K2 hK2 => zk fun K3 hK3 => zr ?_));refine zp 1 rfl ?_;have hX4 : zD w [disk D p pg mb qv, blk f 117 (fC V p), sto C V.s.mark s f X] w ([disk D p pg mb qv, blk f 117 (fC V p), sto C V.s.mark s f X] ++ []) := M.arr [0, 1, 2] (by decide);refine zca 19 [zP s 0] rfl zc19 (slive_any (Mem.h3 hX4)) ?_;rintro e w4 ⟨rfl, H4⟩;have M4 : zD w [disk D p pg mb qv, blk f 117 (fC V p), sto C V.s.mark s f X] w4 [disk D p pg mb qv, blk f 117 (fC V p), sto C V.s.mark s f X] := Mem.f3 hX4 H4;refine ⟨_, rfl, ?_⟩;refine zp 1 rfl ?_;refine zw (hK3 _ _ (zk fun K5 hK5 => zr ?_));refine zp 1 rfl (zo M4 (zneq (b := false) rfl (by rw [decide_eq_true hL]; rfl)) ?_);refine zw (hK5 _ _ (zcf rfl (zsk (hK2 _ _ (zk fun K6 hK6 => ?_)))));refine zr ?_;refine zp 1 rfl ?_;have hX7 : zD w [disk D p pg mb qv, blk f 117 (fC V p), sto C V.s.mark s f X] w4 ([disk D p pg mb qv, blk f 117 (fC V p), sto C V.s.mark s f X] ++ []) := M4.arr [0, 1, 2] (by decide);refine zca 16 [zP s 0] rfl zc16 (ssuper_any (Mem.h3 hX7)) ?_;rintro e w7 ⟨rfl, H7⟩;have M7 : zD w [disk D p pg mb qv, blk f 117 (fC V p), sto C V.s.mark s f X] w7 [disk D p pg mb qv, blk f 117 (fC V p), sto C V.s.mark s f X] := Mem.f3 hX7 H7;refine ⟨_, rfl, ?_⟩;refine zo M7 (y_field1 (v := zI V.s.mark) (zwn rfl) rfl (zev rfl) zu38 rfl zg3 rfl) (zp 1 rfl ?_);refine zw (hK6 _ _ (zk fun K8 hK8 => zk fun K9 hK9 => zr ?_));refine zp 2 rfl (zo M7 (zlss rfl (zF (by omega))) (zp 3 rfl ?_));have hX10 : zD w [disk D p pg mb qv, blk f 117 (fC V p), sto C V.s.mark s f X] w7 ([disk D p pg mb qv, blk f 117 (fC V p), sto C V.s.mark s f X] ++ []) := M7.arr [0, 1, 2] (by decide);refine zca 12 [zP s 0] rfl zc12 (snext_any (Mem.h3 hX10)) ?_;rintro e w10 ⟨rfl, H10⟩;have M10 : zD w [disk D p pg mb qv, blk f 117 (fC V p), sto C V.s.mark s f X] w10 [disk D p pg mb qv, blk f 117 (fC V p), sto C V.s.mark s f X] := Mem.f3 hX10 H10;refine ⟨_, rfl, ?_⟩;refine zo M10 (zgtr rfl (zF (by omega))) (zp 1 rfl ?_);refine zw (hK9 _ _ (zcf rfl (zsk (hK8 _ _ (zk fun K11 hK11 => ?_)))));obtain ⟨hso, M12⟩ : _ ∧ zD w [disk D p pg mb qv, blk f 117 (fC V p), sto C V.s.mark s f X] w10 [blk s 99 ([zP f 0, .func (.func 58) #[zP f 0] #[], .pointer (some ⟨X.c, 0, none⟩), .slice X.sa C.kp.length X.sc]), cache C X.c X.mb X.x, lst 101 2 (.slice X.sa C.kp.length X.sc) C.kp.length (stC C.kp), vault X.V, disk D p pg mb qv, blk f 117 (fC V p)] := sto_open (M10.arr [2, 0, 1] (by decide));have hcap : C.kp.length ≤ X.sc := lst_cap (M12.get 2 rfl);refine zr ?_;refine zp 3 rfl (zo M12 (zf 3 zu99 rfl zz97) (zo M12 (zl 0 rfl zg97) (zp 2 rfl (zo M12 (y_sub (r := (k : Int)) (zwn rfl) rfl (zev rfl) (zev rfl) (by omega) (by omega)) ?_))));refine zo M12 (y_slt' (h := k) (zwn rfl) rfl (zev rfl) (zev rfl) zu97 zz101 (Nat.le_trans hkk hcap)) (zp 1 rfl (zo M12 (zf 3 zu99 rfl zz97) ?_));refine zso M12 0 (v := .slice X.sa k X.sc) rfl rfl zz97 (show (3 : Nat) < 4 by decide) ?_;intro w13 (M13 : zD w [disk D p pg mb qv, blk f 117 (fC V p), sto C V.s.mark s f X] w13 [blk s 99 ([zP f 0, .func (.func 58) #[zP f 0] #[], .pointer (some ⟨X.c, 0, none⟩), .slice X.sa k X.sc]), cache C X.c X.mb X.x, lst 101 2 (.slice X.sa C.kp.length X.sc) C.kp.length (stC C.kp), vault X.V, disk D p pg mb qv, blk f 117 (fC V p)]);refine zw (hK11 _ _ (zk fun K14 hK14 => zr ?_));refine zp 2 rfl (zo M13 (zf 2 zu99 rfl zz96) (zo M13 (zl 0 rfl zg96) (zp 2 rfl (zo M13 (y_sub (r := (k : Int)) (zwn rfl) rfl (zev rfl) (zev rfl) (by omega) (by omega)) ?_))));have hX15 : zD w [disk D p pg mb qv, blk f 117 (fC V p), sto C V.s.mark s f X] w13 ([cache C X.c X.mb X.x] ++ [blk s 99 ([zP f 0, .func (.func 58) #[zP f 0] #[], .pointer (some ⟨X.c, 0, none⟩), .slice X.sa k X.sc]), lst 101 2 (.slice X.sa C.kp.length X.sc) C.kp.length (stC C.kp), vault X.V, disk D p pg mb qv, blk f 117 (fC V p)]) := M13.arr [1, 0, 2, 3, 4, 5] (by decide);have hCH15 := crelease (Mem.h1 hX15) (by omega) k;refine zca 71 [.pointer (some ⟨X.c, 0, none⟩), zI (k : Int)] rfl Try.call71 (hCH15) ?_;rintro e w15 ⟨x2, rfl, hx2, H15⟩;have M15 : zD w [disk D p pg mb qv, blk f 117 (fC V p), sto C V.s.mark s f X] w15 [cache (relS C k) X.c X.mb x2, blk s 99 ([zP f 0, .func (.func 58) #[zP f 0] #[], .pointer (some ⟨X.c, 0, none⟩), .slice X.sa k X.sc]), lst 101 2 (.slice X.sa C.kp.length X.sc) C.kp.length (stC C.kp), vault X.V, disk D p pg mb qv, blk f 117 (fC V p)] := Mem.f1 hX15 H15;refine ⟨_, rfl, ?_⟩;refine zw (hK14 _ _ (zk fun K16 hK16 => zr ?_));refine zp 1 rfl ?_;refine zw (hK16 _ _ (zrt ?_));(try simp only[zi,zj]);refine zR (v := zI 0) (res1 rfl (zgd rfl)) (zdf _) ?_;have e0 : rewE D V C (V.s.mark + (k : Int)) = 0 := by unfold rewE; rw [if_neg (fun h => h hL), if_neg (by omega)]
 have e1 : rewC D V C (V.s.mark + (k : Int)) = relS C k := by unfold rewC; rw [if_pos e0]; congr 1; omega
 have N1 := (M15.arr [1, 0, 2, 3, 4, 5] (by decide)).front 2 rfl hkk;have hkn : (relS C k).kp.length = k := by show (C.kp.take k).length = k; rw [List.length_take]; omega
 have N2 : zD w [disk D p pg mb qv, blk f 117 (fC V p), sto C V.s.mark s f X] w15 [sto (relS C k) V.s.mark s f ({ X with x := x2 } : SX), disk D p pg mb qv, blk f 117 (fC V p)] := sto_close (C := relS C k) (X := ({ X with x := x2 } : SX)) (hso9.rel x2 k) (by rw [hkn]; show Mem _ _ _ (blk s 99 _ :: cache (relS C k) X.c X.mb x2 :: lst 101 2 (.slice X.sa k X.sc) k (stC (C.kp.take k)) :: _); rw [← stC_take]; exact N1);rw [e0];exact ⟨({ X with x := x2 } : SX), rfl, hx2, by rw [e1]; exact N2.arr [1, 2, 0] (by decide)⟩
theorem srew_any {D : DV} {V : FV} {C : CS} {X : SX} {s f p pg mb : Nat} {qv : Value} {w : World} (hM : Mem w (foots [disk D p pg mb qv, blk f 117 (fC V p), sto C V.s.mark s f X]) w [disk D p pg mb qv, blk f 117 (fC V p), sto C V.s.mark s f X]) (next : Int) : Calls Try.prog 47 #[.pointer (some ⟨s, 0, none⟩), .int .i64 next] w fun e' w' => ∃ X', e' = .returned (.int .i64 (rewE D V C next)) ∧ X'.x.n = X.x.n ∧ Mem w (foots [disk D p pg mb qv, blk f 117 (fC V p), sto C V.s.mark s f X]) w' [disk D p pg mb qv, blk f 117 (fC V p), sto (rewC D V C next) V.s.mark s f X'] := by
  by_cases hL : liveE D V = 0
  · by_cases h1 : next < V.s.mark
    · exact srew_low hM next hL h1
    · by_cases h2 : V.s.mark + (C.kp.length : Int) < next
      · exact srew_high hM next hL h1 h2
      · obtain ⟨k, hk⟩ := Int.eq_ofNat_of_zero_le (show 0 ≤ next - V.s.mark by omega)
        obtain rfl : next = V.s.mark + (k : Int) := by omega
        exact srew_ok hM k hL (by omega)
  · exact srew_dead hM next hL
end Go.Proofs.Ytfbamkgmnbobeaa

/- A deferred call at a function's end. No program in sight. -/
namespace Go.Proofs.Ytfbamkgmnbobeaa
set_option linter.unusedSimpArgs false
open Go Go.RowKit
set_option linter.unusedVariables false
set_option linter.unusedSectionVars false
section
variable {P : Program} {ops : Array Oper} {Q : Exit → Act → World → Prop} {o : Oper} {a : Act} {w : World} {K : Act → World → Prop} {x : Operand} {fn : Func} {R : Ending → World → Prop}
theorem postD_nil {v : Value} (hr : (results fn a.tmps).run P w = .ok v w) (hd : a.defers = []) (hR : R (.returned v) w) : bodyPostD P fn R .ret a w := by
  show Leaves P fn a.tmps R a.defers .returning w
  rw [hd]
  exact ⟨v, hr, hR⟩
theorem postD_one {f : FuncId} {cap : List Value} {T : World → Prop} (hd : a.defers = [⟨.fn (.func f) cap.toArray, #[]⟩]) (hf : ∀ ar w, (callFunc f ar).run P w = .ok (.enter f ar) w)
    (hc : CallsD P f cap.toArray .returning w fun e u' w' => u' = .returning ∧ (∃ v, e = .returned v) ∧ T w') (hk : ∀ w', T w' → ∃ v, (results fn a.tmps).run P w' = .ok v w' ∧ R (.returned v) w') : bodyPostD P fn R .ret a w := by
  show Leaves P fn a.tmps R a.defers .returning w
  rw [hd]
  refine leaves_cons (f := f) (args := cap.toArray) (by intro h; cases h) ?_ (hc.mono ?_)
  · simp only [invoke, Array.empty_append]
    exact hf _ w
  · rintro e u' w' ⟨rfl, ⟨v, rfl⟩, ht⟩
    exact hk w' ht
theorem e_defer {f : Fn} {ca : List Value} {ts : Array TypeId} (ho : o.op = .defer { callee := .value x, args := #[], argTypes := ts }) (hx : a.eval x = .func f #[] ca.toArray)
    (h : K ({ a with defers := ⟨.fn f ca.toArray, #[]⟩ :: a.defers }.put o.dst undef) w) : Oper.wp P o a w K Q := by
  unfold Oper.wp
  have hx : (execOp a.eval o).run P w = .ok (.defer ⟨.fn f ca.toArray, #[]⟩) w := by
    unfold execOp
    simp only [ho, resolve, hx, Deferred.ofValue, Sem.run_bind, Sem.run_pure, Result.andThen_ok, Array.empty_append, List.map_toArray, List.map_nil]
  rw [hx]
  exact h
theorem resv1 {tmps : Array Value} {p : Tmp} {ty : TypeId} {g : Nat} {T : TypeId} {v : Value} (h : fn.results = #[.cell p ty]) (hp : tmps.getD p undef = .pointer (some ⟨g, 0, none⟩)) (hg : (blk g T [v]).holds w) (hi : ∀ w, (isAgg ty).run P w = .ok false w) : (results fn tmps).run P w = .ok v w := by
  have hl := run_loadVar1 (P := P) (t := ty) w (hi w) (cell_of_blk hg (off := 0) rfl)
  rw [Array.getD_eq_getD_getElem?] at hp
  simp [results, h, hp, asAddr, hl]
theorem lst_range' {e : TypeId} {k g n c : Nat} {v : Value} {xs ys : List Value} (h : (lst e k v n xs).holds w) (hv : v = .slice (some ⟨g, 0, none⟩) n c) (off : Nat) (hy : (xs.drop off).take ys.length = ys) : w.rangeAt g off ys := by
  subst hv
  exact lst_range h off hy
theorem Mem.off2 {w0 : World} {F : List Nat} {G A B : Asn} {R : List Asn} (M : Mem w0 F w (G :: A :: B :: R)) {b : Nat} (hb : b ∈ G.foot) : b ∉ foots [A, B] := fun hx => by
  rw [foots_cons, foots_cons] at hx
  rcases List.mem_append.1 hx with h | h
  · exact M.apart 0 1 (by decide) rfl rfl hb h
  · rcases List.mem_append.1 h with h | h
    · exact M.apart 0 2 (by decide) rfl rfl hb h
    · cases h
end
end Go.Proofs.Ytfbamkgmnbobeaa

/- The store: what Flush is, its deferred call. -/
namespace Go.Proofs.Ytfbamkgmnbobeaa
set_option linter.unusedSectionVars false
open Go Go.RowKit
set_option linter.unusedVariables false
set_option linter.unusedSimpArgs false
theorem actD_qp (D : DV) : (actD D).q = D.q ∧ (actD D).pages = D.pages := by unfold actD; split <;> exact ⟨rfl, rfl⟩
theorem wrD_facts (D : DV) (p : Int) (d : List UInt8) : (writeD D p d).q.length ≤ D.q.length + 1 ∧ (writeD D p d).pages = D.pages := by
  unfold writeD
  split
  · exact ⟨Nat.le_succ _, rfl⟩
  · split
    · split
      · rw [(actD_qp _).1, (actD_qp _).2]; simp [openW]
      · exact ⟨Nat.le_succ _, rfl⟩
    · exact ⟨Nat.le_succ _, rfl⟩
theorem app_more2 {D : DV} {V : FV} {kind : Int} {l : List UInt8} (hV : FOk D V) (e0 : appE D V kind l = 0) : V.next < (D.pages.length : Int) ∧ FOk (appD D V kind l) (appV D V kind l) ∧ (appV D V kind l).s = V.s ∧ (appD D V kind l).q.length ≤ D.q.length + 1 ∧ (appD D V kind l).pages.length = D.pages.length := by
  have h1 : V.next < (D.pages.length : Int) := by
    unfold appE at e0
    split at e0
    · contradiction
    · split at e0
      · cases e0
      · split at e0
        · cases e0
        · split at e0
          · cases e0
          · omega
  have h2 : (appD D V kind l).q.length ≤ D.q.length + 1 ∧ (appD D V kind l).pages = D.pages := by
    unfold appD
    split
    · exact ⟨Nat.le_succ _, rfl⟩
    · exact wrD_facts D _ _
  have e2 := (app_yes e0).2
  refine ⟨h1, ⟨by rw [e2]; exact hV.valid, by rw [e2, h2.2]; exact hV.pages, by rw [e2]; show 2 ≤ V.next + 1; have := hV.lo; omega, by rw [e2]; show V.next + 1 ≤ V.s.pages; have := hV.pages; omega, by rw [e2]; show V.s.mark ≤ V.next + 1; have := hV.mark; omega⟩, by rw [e2], h2.1, by rw [h2.2]⟩
def appAll (D : DV) (V : FV) : List En → DV × FV × Int
  | [] => (D, V, 0)
  | e :: es => if appE D V e.kd e.l = 0 then appAll (appD D V e.kd e.l) (appV D V e.kd e.l) es else (appD D V e.kd e.l, V, appE D V e.kd e.l)
def forgetV (V : FV) : FV := { V with next := V.s.mark }
def flushR (D : DV) (V : FV) (C : CS) (head : Int) : DV × FV × Int :=
  if liveE D V ≠ 0 then (D, V, liveE D V)
  else if head ≠ 0 ∧ (head < 2 ∨ V.s.mark + (C.kp.length : Int) ≤ head) then (D, V, 41)
  else if 1099511627776 ≤ V.s.gen then (D, V, 5)
  else if (appAll D V C.kp).2.2 ≠ 0 then ((appAll D V C.kp).1, forgetV (appAll D V C.kp).2.1, (appAll D V C.kp).2.2)
  else if (pubR (appAll D V C.kp).1 (appAll D V C.kp).2.1 head).2 ≠ 0 then ((pubR (appAll D V C.kp).1 (appAll D V C.kp).2.1 head).1, forgetV (appAll D V C.kp).2.1, (pubR (appAll D V C.kp).1 (appAll D V C.kp).2.1 head).2)
  else ((pubR (appAll D V C.kp).1 (appAll D V C.kp).2.1 head).1, pubV (appAll D V C.kp).1 (appAll D V C.kp).2.1 head, 0)
def flushC (D : DV) (V : FV) (C : CS) (head : Int) : CS := if (flushR D V C head).2.2 = 0 then trimS (setS C) else C
theorem drop_cons {α : Type} {l : List α} {i : Nat} {e : α} (h : l[i]? = some e) : l.drop i = e :: l.drop (i + 1) := by
  obtain ⟨hi, rfl⟩ := List.getElem?_eq_some_iff.1 h
  exact List.drop_eq_getElem_cons hi
theorem SOk.flush {C : CS} {mk mk' : Int} {X : SX} (h : SOk C mk X) (x' : CX) (hm : mk' = mk + (C.kp.length : Int)) (hm2 : mk' ≤ 4096) : SOk (trimS (setS C)) mk' { X with x := x', sa := none, sc := 0 } := by
  have hm0 := h.mk2
  have mem : ∀ u ∈ (trimS (setS C)).cl, u ∈ C.cl ∨ ∃ e ∈ C.kp, u = { e with h := false } := fun u hu => by
    have hx : u ∈ C.cl ++ C.kp.map (fun e => { e with h := false }) := (List.drop_sublist _ _).subset hu
    rcases List.mem_append.1 hx with h1 | h1
    · exact .inl h1
    · obtain ⟨e, he, rfl⟩ := List.mem_map.1 h1
      exact .inr ⟨e, he, rfl⟩
  refine ⟨fun u hu => ?_, fun u hu => ?_, fun i e he => (by cases he), ?_, h.rm, Nat.zero_le _, ⟨by omega, hm2⟩⟩
  · rcases List.mem_append.1 hu with hu | hu
    · rcases mem u hu with h1 | ⟨e, he, rfl⟩
      · exact h.val u (List.mem_append_left _ h1)
      · exact h.val e (List.mem_append_right _ he)
    · cases hu
  · rcases mem u hu with h1 | ⟨e, he, rfl⟩
    · have := h.cl u h1; omega
    · obtain ⟨i, hi, hg⟩ := List.mem_iff_getElem.1 he
      have := h.kp i e (by rw [List.getElem?_eq_getElem hi, hg])
      show 2 ≤ e.k ∧ e.k < mk'
      omega
  · show ((setS C).cl.drop ((setS C).cl.length - C.room.toNat)).length ≤ C.room.toNat
    rw [List.length_drop]; omega
set_option maxRecDepth 100000 in
set_option maxHeartbeats 4000000 in
theorem flush1_err {D : DV} {V : FV} {s f p pg mb g2 g4 cc : Nat} {sv : Value} {qv : Value} {e0 : Int} {w : World} (hM : Mem w (foots [blk g4 33 ([.int .i64 e0]), blk g2 30 ([.pointer (some ⟨s, 0, none⟩)]), blk s 99 ([.pointer (some ⟨f, 0, none⟩), .func (.func 58) #[.pointer (some ⟨f, 0, none⟩)] #[], .pointer (some ⟨cc, 0, none⟩), sv]), disk D p pg mb qv, blk f 117 (fC V p)]) w [blk g4 33 ([.int .i64 e0]), blk g2 30 ([.pointer (some ⟨s, 0, none⟩)]), blk s 99 ([.pointer (some ⟨f, 0, none⟩), .func (.func 58) #[.pointer (some ⟨f, 0, none⟩)] #[], .pointer (some ⟨cc, 0, none⟩), sv]), disk D p pg mb qv, blk f 117 (fC V p)]) (he : e0 ≠ 0) : CallsD Try.prog 34 #[.pointer (some ⟨g4, 0, none⟩), .pointer (some ⟨g2, 0, none⟩)] .returning w fun e u' w' => u' = .returning ∧ ((∃ v, e = .returned v) ∧ Mem w (foots [blk g4 33 ([.int .i64 e0]), blk g2 30 ([.pointer (some ⟨s, 0, none⟩)]), blk s 99 ([.pointer (some ⟨f, 0, none⟩), .func (.func 58) #[.pointer (some ⟨f, 0, none⟩)] #[], .pointer (some ⟨cc, 0, none⟩), sv]), disk D p pg mb qv, blk f 117 (fC V p)]) w' [blk g4 33 ([.int .i64 e0]), blk g2 30 ([.pointer (some ⟨s, 0, none⟩)]), blk s 99 ([.pointer (some ⟨f, 0, none⟩), .func (.func 58) #[.pointer (some ⟨f, 0, none⟩)] #[], .pointer (some ⟨cc, 0, none⟩), sv]), disk D p pg mb qv, blk f 117 (fC ({ V with next := V.s.mark } : FV) p)]) := by
  have M := hM
  clear hM
  go_enter_d Try.func34, Try.ntmps34
  refine wp_seq_k (fun K1 hK1 => ?_)
  refine wp_region_lit ?_
  refine pl M (y_load (v := .int .i64 e0) rfl rfl rfl Try.isAgg33 (fun W hW => hW.get 0 rfl) (rfl)) ?_
  simp only [Act.put, zq1, zq2, zq3]
  refine pl M (y_neq (b := true) rfl rfl rfl rfl (by rw [decide_eq_false he]; rfl)) ?_
  simp only [Act.put, zq1, zq2, zq3]
  refine wpList_nil ?_
  refine hK1 _ _ ?_
  clear hK1
  refine wp_cond_true rfl ?_
  refine wp_region_lit ?_
  refine pl M (y_load (v := .pointer (some ⟨s, 0, none⟩)) rfl rfl rfl Try.isAgg30 (fun W hW => hW.get 1 rfl) (rfl)) ?_
  simp only [Act.put, zq1, zq2, zq3]
  refine pl M (y_nil rfl rfl rfl) ?_
  simp only [Act.put, zq1, zq2, zq3]
  refine pl M (y_fa (r := 0) rfl rfl rfl Try.underlying99 rfl Try.sizeOf86 rfl) ?_
  simp only [Act.put, zq1, zq2, zq3]
  refine pl M (y_load (v := .pointer (some ⟨f, 0, none⟩)) rfl rfl rfl Try.isAgg86 (fun W hW => hW.get 2 rfl) (rfl)) ?_
  simp only [Act.put, zq1, zq2, zq3]
  have hX2 : Mem w _ w ([disk D p pg mb qv, blk f 117 (fC V p)] ++ [blk g4 33 ([.int .i64 e0]), blk g2 30 ([.pointer (some ⟨s, 0, none⟩)]), blk s 99 ([.pointer (some ⟨f, 0, none⟩), .func (.func 58) #[.pointer (some ⟨f, 0, none⟩)] #[], .pointer (some ⟨cc, 0, none⟩), sv])]) := M.arr [3, 4, 0, 1, 2] (by decide)
  refine pe rfl (fun K hK => ?_)
  refine e_call 35 [.pointer (some ⟨f, 0, none⟩)] rfl rfl Try.call35 (forget_any (Mem.here hX2)) ?_
  rintro e w2 ⟨rfl, H2⟩
  have M2 : Mem w _ w2 [disk D p pg mb qv, blk f 117 (fC ({ V with next := V.s.mark } : FV) p), blk g4 33 ([.int .i64 e0]), blk g2 30 ([.pointer (some ⟨s, 0, none⟩)]), blk s 99 ([.pointer (some ⟨f, 0, none⟩), .func (.func 58) #[.pointer (some ⟨f, 0, none⟩)] #[], .pointer (some ⟨cc, 0, none⟩), sv])] := Mem.frame hX2 H2
  refine ⟨_, rfl, ?_⟩
  refine hK.out _ _ ?_
  clear hK K
  simp only [Act.put, zq1, zq2, zq3]
  refine wpList_nil ?_
  try simp only [Exit.inBlock, Exit.then]
  refine bodyPost_end (v := .tuple #[]) (res0 rfl) rfl ?_
  exact ⟨⟨_, rfl⟩, (M2.arr [2, 3, 4, 0, 1] (by decide))⟩
set_option maxRecDepth 100000 in
set_option maxHeartbeats 4000000 in
theorem flush1_ok {D : DV} {V : FV} {s f p pg mb g2 g4 cc : Nat} {sv : Value} {qv : Value} {e0 : Int} {w : World} (hM : Mem w (foots [blk g4 33 ([.int .i64 e0]), blk g2 30 ([.pointer (some ⟨s, 0, none⟩)]), blk s 99 ([.pointer (some ⟨f, 0, none⟩), .func (.func 58) #[.pointer (some ⟨f, 0, none⟩)] #[], .pointer (some ⟨cc, 0, none⟩), sv]), disk D p pg mb qv, blk f 117 (fC V p)]) w [blk g4 33 ([.int .i64 e0]), blk g2 30 ([.pointer (some ⟨s, 0, none⟩)]), blk s 99 ([.pointer (some ⟨f, 0, none⟩), .func (.func 58) #[.pointer (some ⟨f, 0, none⟩)] #[], .pointer (some ⟨cc, 0, none⟩), sv]), disk D p pg mb qv, blk f 117 (fC V p)]) (he : e0 = 0) : CallsD Try.prog 34 #[.pointer (some ⟨g4, 0, none⟩), .pointer (some ⟨g2, 0, none⟩)] .returning w fun e u' w' => u' = .returning ∧ ((∃ v, e = .returned v) ∧ Mem w (foots [blk g4 33 ([.int .i64 e0]), blk g2 30 ([.pointer (some ⟨s, 0, none⟩)]), blk s 99 ([.pointer (some ⟨f, 0, none⟩), .func (.func 58) #[.pointer (some ⟨f, 0, none⟩)] #[], .pointer (some ⟨cc, 0, none⟩), sv]), disk D p pg mb qv, blk f 117 (fC V p)]) w' [blk g4 33 ([.int .i64 e0]), blk g2 30 ([.pointer (some ⟨s, 0, none⟩)]), blk s 99 ([.pointer (some ⟨f, 0, none⟩), .func (.func 58) #[.pointer (some ⟨f, 0, none⟩)] #[], .pointer (some ⟨cc, 0, none⟩), sv]), disk D p pg mb qv, blk f 117 (fC V p)]) := by
  have M := hM
  clear hM
  go_enter_d Try.func34, Try.ntmps34
  refine wp_seq_k (fun K1 hK1 => ?_)
  refine wp_region_lit ?_
  refine pl M (y_load (v := .int .i64 e0) rfl rfl rfl Try.isAgg33 (fun W hW => hW.get 0 rfl) (rfl)) ?_
  simp only [Act.put, zq1, zq2, zq3]
  refine pl M (y_neq (b := false) rfl rfl rfl rfl (by rw [decide_eq_true he]; rfl)) ?_
  simp only [Act.put, zq1, zq2, zq3]
  refine wpList_nil ?_
  refine hK1 _ _ ?_
  clear hK1
  refine wp_cond_false rfl ?_
  refine wp_skip ?_
  try simp only [Exit.inBlock, Exit.then]
  refine bodyPost_end (v := .tuple #[]) (res0 rfl) rfl ?_
  exact ⟨⟨_, rfl⟩, (M.arr [0, 1, 2, 3, 4] (by decide))⟩
end Go.Proofs.Ytfbamkgmnbobeaa

/- The store: Flush refused. -/
namespace Go.Proofs.Ytfbamkgmnbobeaa
set_option linter.unusedSectionVars false
open Go Go.RowKit
set_option linter.unusedVariables false
set_option linter.unusedSimpArgs false
set_option maxRecDepth 100000 in
set_option maxHeartbeats 4000000 in
theorem sflush_dead {D : DV} {V : FV} {C : CS} {X : SX} {s f p pg mb : Nat} {qv : Value} {w : World} (hM : Mem w (foots [disk D p pg mb qv, blk f 117 (fC V p), sto C V.s.mark s f X]) w [disk D p pg mb qv, blk f 117 (fC V p), sto C V.s.mark s f X]) (head : Int) (hL : liveE D V ≠ 0) : Calls Try.prog 11 #[.pointer (some ⟨s, 0, none⟩), .int .i64 head] w fun e' w' => ∃ qv' X', e' = .returned (.int .i64 (flushR D V C head).2.2) ∧ X'.x.n = X.x.n ∧ Mem w (foots [disk D p pg mb qv, blk f 117 (fC V p), sto C V.s.mark s f X]) w' [disk (flushR D V C head).1 p pg mb qv', blk f 117 (fC (flushR D V C head).2.1 p), sto (flushC D V C head) (flushR D V C head).2.1.s.mark s f X'] := by
  have M := hM
  clear hM
  have hsk := sto_ok (M.get 2 rfl)
  have hm2 := hsk.mk2
  have hkl := hsk.kpl
  have hcl := hsk.room
  have hrm := hsk.rm
  go_enter_defers Try.func11, Try.ntmps11
  refine wp_seq_k (fun K1 hK1 => ?_)
  refine wp_region_lit ?_
  refine pe rfl (fun K hK => ?_)
  refine e_box1 M (.pointer (some ⟨s, 0, none⟩)) rfl rfl rfl ?_
  intro g2 w2 (M2 : Mem w _ w2 [blk g2 30 ([.pointer (some ⟨s, 0, none⟩)]), disk D p pg mb qv, blk f 117 (fC V p), sto C V.s.mark s f X])
  clear M
  refine hK.out _ _ ?_
  clear hK K
  simp only [Act.put, zq1, zq2, zq3]
  refine pe rfl (fun K hK => ?_)
  refine e_alloc1 M2 (.int .i64 0) rfl rfl Try.zeroValue33 ?_
  intro g4 w3 (M3 : Mem w _ w3 [blk g4 33 ([.int .i64 0]), blk g2 30 ([.pointer (some ⟨s, 0, none⟩)]), disk D p pg mb qv, blk f 117 (fC V p), sto C V.s.mark s f X])
  clear M2
  refine hK.out _ _ ?_
  clear hK K
  simp only [Act.put, zq1, zq2, zq3]
  refine wpList_nil ?_
  refine hK1 _ _ ?_
  clear hK1
  refine wp_seq_k (fun K4 hK4 => ?_)
  refine wp_seq_k (fun K5 hK5 => ?_)
  refine wp_region_lit ?_
  refine pl M3 (y_load (v := .pointer (some ⟨s, 0, none⟩)) rfl rfl rfl Try.isAgg30 (fun W hW => hW.get 1 rfl) (rfl)) ?_
  simp only [Act.put, zq1, zq2, zq3]
  have hX6 : Mem w _ w3 ([disk D p pg mb qv, blk f 117 (fC V p), sto C V.s.mark s f X] ++ [blk g4 33 ([.int .i64 0]), blk g2 30 ([.pointer (some ⟨s, 0, none⟩)])]) := M3.arr [2, 3, 4, 0, 1] (by decide)
  refine pe rfl (fun K hK => ?_)
  refine e_call 19 [.pointer (some ⟨s, 0, none⟩)] rfl rfl Try.call19 (slive_any (Mem.here hX6)) ?_
  rintro e w6 ⟨rfl, H6⟩
  have M6 : Mem w _ w6 [disk D p pg mb qv, blk f 117 (fC V p), sto C V.s.mark s f X, blk g4 33 ([.int .i64 0]), blk g2 30 ([.pointer (some ⟨s, 0, none⟩)])] := Mem.frame hX6 H6
  refine ⟨_, rfl, ?_⟩
  refine hK.out _ _ ?_
  clear hK K
  simp only [Act.put, zq1, zq2, zq3]
  refine pl M6 (y_assign (v := .int .i64 (liveE D V)) rfl rfl rfl) ?_
  simp only [Act.put, zq1, zq2, zq3]
  refine wpList_nil ?_
  refine hK5 _ _ ?_
  clear hK5
  refine wp_seq_k (fun K7 hK7 => ?_)
  refine wp_region_lit ?_
  refine pl M6 (y_move (v := .int .i64 (liveE D V)) rfl rfl rfl) ?_
  simp only [Act.put, zq1, zq2, zq3]
  refine pl M6 (y_neq (b := true) rfl rfl rfl rfl (by rw [decide_eq_false hL]; rfl)) ?_
  simp only [Act.put, zq1, zq2, zq3]
  refine wpList_nil ?_
  refine hK7 _ _ ?_
  clear hK7
  refine wp_cond_true rfl ?_
  refine wp_seq_k (fun K8 hK8 => ?_)
  refine wp_region_lit ?_
  refine pl M6 (y_move (v := .int .i64 (liveE D V)) rfl rfl rfl) ?_
  simp only [Act.put, zq1, zq2, zq3]
  refine pe rfl (fun K hK => ?_)
  refine e_store M6 3 (v := .int .i64 (liveE D V)) rfl rfl rfl rfl rfl rfl Try.sizeOf33 rfl (show (0 : Nat) < 1 by decide) ?_
  intro w9 (M9 : Mem w _ w9 [disk D p pg mb qv, blk f 117 (fC V p), sto C V.s.mark s f X, blk g4 33 ([.int .i64 (liveE D V)]), blk g2 30 ([.pointer (some ⟨s, 0, none⟩)])])
  clear M6
  refine hK.out _ _ ?_
  clear hK K
  simp only [Act.put, zq1, zq2, zq3]
  refine wpList_nil ?_
  refine hK8 _ _ ?_
  clear hK8
  refine wp_ret ?_
  try simp only [Exit.inBlock, Exit.then]
  refine postD_nil (v := .int .i64 (liveE D V)) (resv1 rfl rfl (M9.get 3 rfl) Try.isAgg33) rfl ?_
  have e0 : flushR D V C head = (D, V, liveE D V) := if_pos hL
  have e1 : flushC D V C head = C := if_neg (by rw [e0]; exact hL)
  rw [e1, e0]
  exact ⟨_, X, rfl, rfl, (M9.arr [0, 1, 2] (by decide))⟩
set_option maxRecDepth 100000 in
set_option maxHeartbeats 4000000 in
theorem sflush_low {D : DV} {V : FV} {C : CS} {X : SX} {s f p pg mb : Nat} {qv : Value} {w : World} (hM : Mem w (foots [disk D p pg mb qv, blk f 117 (fC V p), sto C V.s.mark s f X]) w [disk D p pg mb qv, blk f 117 (fC V p), sto C V.s.mark s f X]) (head : Int) (hL : liveE D V = 0) (h0 : ¬ head = 0) (h1 : head < 2) : Calls Try.prog 11 #[.pointer (some ⟨s, 0, none⟩), .int .i64 head] w fun e' w' => ∃ qv' X', e' = .returned (.int .i64 (flushR D V C head).2.2) ∧ X'.x.n = X.x.n ∧ Mem w (foots [disk D p pg mb qv, blk f 117 (fC V p), sto C V.s.mark s f X]) w' [disk (flushR D V C head).1 p pg mb qv', blk f 117 (fC (flushR D V C head).2.1 p), sto (flushC D V C head) (flushR D V C head).2.1.s.mark s f X'] := by
  have M := hM
  clear hM
  have hsk := sto_ok (M.get 2 rfl)
  have hm2 := hsk.mk2
  have hkl := hsk.kpl
  have hcl := hsk.room
  have hrm := hsk.rm
  go_enter_defers Try.func11, Try.ntmps11
  refine wp_seq_k (fun K1 hK1 => ?_)
  refine wp_region_lit ?_
  refine pe rfl (fun K hK => ?_)
  refine e_box1 M (.pointer (some ⟨s, 0, none⟩)) rfl rfl rfl ?_
  intro g2 w2 (M2 : Mem w _ w2 [blk g2 30 ([.pointer (some ⟨s, 0, none⟩)]), disk D p pg mb qv, blk f 117 (fC V p), sto C V.s.mark s f X])
  clear M
  refine hK.out _ _ ?_
  clear hK K
  simp only [Act.put, zq1, zq2, zq3]
  refine pe rfl (fun K hK => ?_)
  refine e_alloc1 M2 (.int .i64 0) rfl rfl Try.zeroValue33 ?_
  intro g4 w3 (M3 : Mem w _ w3 [blk g4 33 ([.int .i64 0]), blk g2 30 ([.pointer (some ⟨s, 0, none⟩)]), disk D p pg mb qv, blk f 117 (fC V p), sto C V.s.mark s f X])
  clear M2
  refine hK.out _ _ ?_
  clear hK K
  simp only [Act.put, zq1, zq2, zq3]
  refine wpList_nil ?_
  refine hK1 _ _ ?_
  clear hK1
  refine wp_seq_k (fun K4 hK4 => ?_)
  refine wp_seq_k (fun K5 hK5 => ?_)
  refine wp_region_lit ?_
  refine pl M3 (y_load (v := .pointer (some ⟨s, 0, none⟩)) rfl rfl rfl Try.isAgg30 (fun W hW => hW.get 1 rfl) (rfl)) ?_
  simp only [Act.put, zq1, zq2, zq3]
  have hX6 : Mem w _ w3 ([disk D p pg mb qv, blk f 117 (fC V p), sto C V.s.mark s f X] ++ [blk g4 33 ([.int .i64 0]), blk g2 30 ([.pointer (some ⟨s, 0, none⟩)])]) := M3.arr [2, 3, 4, 0, 1] (by decide)
  refine pe rfl (fun K hK => ?_)
  refine e_call 19 [.pointer (some ⟨s, 0, none⟩)] rfl rfl Try.call19 (slive_any (Mem.here hX6)) ?_
  rintro e w6 ⟨rfl, H6⟩
  have M6 : Mem w _ w6 [disk D p pg mb qv, blk f 117 (fC V p), sto C V.s.mark s f X, blk g4 33 ([.int .i64 0]), blk g2 30 ([.pointer (some ⟨s, 0, none⟩)])] := Mem.frame hX6 H6
  refine ⟨_, rfl, ?_⟩
  refine hK.out _ _ ?_
  clear hK K
  simp only [Act.put, zq1, zq2, zq3]
  refine pl M6 (y_assign (v := .int .i64 (liveE D V)) rfl rfl rfl) ?_
  simp only [Act.put, zq1, zq2, zq3]
  refine wpList_nil ?_
  refine hK5 _ _ ?_
  clear hK5
  refine wp_seq_k (fun K7 hK7 => ?_)
  refine wp_region_lit ?_
  refine pl M6 (y_move (v := .int .i64 (liveE D V)) rfl rfl rfl) ?_
  simp only [Act.put, zq1, zq2, zq3]
  refine pl M6 (y_neq (b := false) rfl rfl rfl rfl (by rw [decide_eq_true hL]; rfl)) ?_
  simp only [Act.put, zq1, zq2, zq3]
  refine wpList_nil ?_
  refine hK7 _ _ ?_
  clear hK7
  refine wp_cond_false rfl ?_
  refine wp_skip ?_
  refine hK4 _ _ ?_
  clear hK4
  refine wp_seq_k (fun K8 hK8 => ?_)
  refine wp_seq_k (fun K9 hK9 => ?_)
  refine wp_region_lit ?_
  refine pl M6 (y_move (v := .int .i64 head) rfl rfl rfl) ?_
  simp only [Act.put, zq1, zq2, zq3]
  refine pl M6 (y_neq (b := true) rfl rfl rfl rfl (by rw [decide_eq_false h0]; rfl)) ?_
  simp only [Act.put, zq1, zq2, zq3]
  refine pl M6 (y_move (v := .bool true) rfl rfl rfl) ?_
  simp only [Act.put, zq1, zq2, zq3]
  refine pl M6 (y_move (v := .int .i64 head) rfl rfl rfl) ?_
  simp only [Act.put, zq1, zq2, zq3]
  refine pl M6 (y_lss (b := true) rfl rfl rfl rfl (decide_eq_true h1)) ?_
  simp only [Act.put, zq1, zq2, zq3]
  refine pl M6 (y_move (v := .bool true) rfl rfl rfl) ?_
  simp only [Act.put, zq1, zq2, zq3]
  with_reducible refine pskip ?_ ?_
  · rfl
  simp only [Act.put, zq1, zq2, zq3]
  with_reducible refine pskip ?_ ?_
  · rfl
  simp only [Act.put, zq1, zq2, zq3]
  with_reducible refine pskip ?_ ?_
  · rfl
  simp only [Act.put, zq1, zq2, zq3]
  with_reducible refine pskip ?_ ?_
  · rfl
  simp only [Act.put, zq1, zq2, zq3]
  refine pl M6 (y_pickT (v := .bool true) rfl rfl rfl rfl) ?_
  simp only [Act.put, zq1, zq2, zq3]
  refine pl M6 (y_pickT (v := .bool true) rfl rfl rfl rfl) ?_
  simp only [Act.put, zq1, zq2, zq3]
  refine wpList_nil ?_
  refine hK9 _ _ ?_
  clear hK9
  refine wp_cond_true rfl ?_
  refine wp_seq_k (fun K10 hK10 => ?_)
  refine wp_region_lit ?_
  refine pe rfl (fun K hK => ?_)
  refine e_store M6 3 (v := .int .i64 41) rfl rfl rfl rfl rfl rfl Try.sizeOf33 rfl (show (0 : Nat) < 1 by decide) ?_
  intro w11 (M11 : Mem w _ w11 [disk D p pg mb qv, blk f 117 (fC V p), sto C V.s.mark s f X, blk g4 33 ([.int .i64 41]), blk g2 30 ([.pointer (some ⟨s, 0, none⟩)])])
  clear M6
  refine hK.out _ _ ?_
  clear hK K
  simp only [Act.put, zq1, zq2, zq3]
  refine wpList_nil ?_
  refine hK10 _ _ ?_
  clear hK10
  refine wp_ret ?_
  try simp only [Exit.inBlock, Exit.then]
  refine postD_nil (v := .int .i64 41) (resv1 rfl rfl (M11.get 3 rfl) Try.isAgg33) rfl ?_
  have e0 : flushR D V C head = (D, V, 41) := by unfold flushR; rw [if_neg (fun h => h hL), if_pos (by omega)]
  have e1 : flushC D V C head = C := if_neg (by rw [e0]; show ¬ (41 : Int) = 0; decide)
  rw [e1, e0]
  exact ⟨_, X, rfl, rfl, (M11.arr [0, 1, 2] (by decide))⟩
set_option maxRecDepth 100000 in
set_option maxHeartbeats 4000000 in
theorem sflush_high {D : DV} {V : FV} {C : CS} {X : SX} {s f p pg mb : Nat} {qv : Value} {w : World} (hM : Mem w (foots [disk D p pg mb qv, blk f 117 (fC V p), sto C V.s.mark s f X]) w [disk D p pg mb qv, blk f 117 (fC V p), sto C V.s.mark s f X]) (head : Int) (hL : liveE D V = 0) (h0 : ¬ head = 0) (h1 : ¬ head < 2) (h2 : V.s.mark + (C.kp.length : Int) ≤ head) : Calls Try.prog 11 #[.pointer (some ⟨s, 0, none⟩), .int .i64 head] w fun e' w' => ∃ qv' X', e' = .returned (.int .i64 (flushR D V C head).2.2) ∧ X'.x.n = X.x.n ∧ Mem w (foots [disk D p pg mb qv, blk f 117 (fC V p), sto C V.s.mark s f X]) w' [disk (flushR D V C head).1 p pg mb qv', blk f 117 (fC (flushR D V C head).2.1 p), sto (flushC D V C head) (flushR D V C head).2.1.s.mark s f X'] := by
  have M := hM
  clear hM
  have hsk := sto_ok (M.get 2 rfl)
  have hm2 := hsk.mk2
  have hkl := hsk.kpl
  have hcl := hsk.room
  have hrm := hsk.rm
  go_enter_defers Try.func11, Try.ntmps11
  refine wp_seq_k (fun K1 hK1 => ?_)
  refine wp_region_lit ?_
  refine pe rfl (fun K hK => ?_)
  refine e_box1 M (.pointer (some ⟨s, 0, none⟩)) rfl rfl rfl ?_
  intro g2 w2 (M2 : Mem w _ w2 [blk g2 30 ([.pointer (some ⟨s, 0, none⟩)]), disk D p pg mb qv, blk f 117 (fC V p), sto C V.s.mark s f X])
  clear M
  refine hK.out _ _ ?_
  clear hK K
  simp only [Act.put, zq1, zq2, zq3]
  refine pe rfl (fun K hK => ?_)
  refine e_alloc1 M2 (.int .i64 0) rfl rfl Try.zeroValue33 ?_
  intro g4 w3 (M3 : Mem w _ w3 [blk g4 33 ([.int .i64 0]), blk g2 30 ([.pointer (some ⟨s, 0, none⟩)]), disk D p pg mb qv, blk f 117 (fC V p), sto C V.s.mark s f X])
  clear M2
  refine hK.out _ _ ?_
  clear hK K
  simp only [Act.put, zq1, zq2, zq3]
  refine wpList_nil ?_
  refine hK1 _ _ ?_
  clear hK1
  refine wp_seq_k (fun K4 hK4 => ?_)
  refine wp_seq_k (fun K5 hK5 => ?_)
  refine wp_region_lit ?_
  refine pl M3 (y_load (v := .pointer (some ⟨s, 0, none⟩)) rfl rfl rfl Try.isAgg30 (fun W hW => hW.get 1 rfl) (rfl)) ?_
  simp only [Act.put, zq1, zq2, zq3]
  have hX6 : Mem w _ w3 ([disk D p pg mb qv, blk f 117 (fC V p), sto C V.s.mark s f X] ++ [blk g4 33 ([.int .i64 0]), blk g2 30 ([.pointer (some ⟨s, 0, none⟩)])]) := M3.arr [2, 3, 4, 0, 1] (by decide)
  refine pe rfl (fun K hK => ?_)
  refine e_call 19 [.pointer (some ⟨s, 0, none⟩)] rfl rfl Try.call19 (slive_any (Mem.here hX6)) ?_
  rintro e w6 ⟨rfl, H6⟩
  have M6 : Mem w _ w6 [disk D p pg mb qv, blk f 117 (fC V p), sto C V.s.mark s f X, blk g4 33 ([.int .i64 0]), blk g2 30 ([.pointer (some ⟨s, 0, none⟩)])] := Mem.frame hX6 H6
  refine ⟨_, rfl, ?_⟩
  refine hK.out _ _ ?_
  clear hK K
  simp only [Act.put, zq1, zq2, zq3]
  refine pl M6 (y_assign (v := .int .i64 (liveE D V)) rfl rfl rfl) ?_
  simp only [Act.put, zq1, zq2, zq3]
  refine wpList_nil ?_
  refine hK5 _ _ ?_
  clear hK5
  refine wp_seq_k (fun K7 hK7 => ?_)
  refine wp_region_lit ?_
  refine pl M6 (y_move (v := .int .i64 (liveE D V)) rfl rfl rfl) ?_
  simp only [Act.put, zq1, zq2, zq3]
  refine pl M6 (y_neq (b := false) rfl rfl rfl rfl (by rw [decide_eq_true hL]; rfl)) ?_
  simp only [Act.put, zq1, zq2, zq3]
  refine wpList_nil ?_
  refine hK7 _ _ ?_
  clear hK7
  refine wp_cond_false rfl ?_
  refine wp_skip ?_
  refine hK4 _ _ ?_
  clear hK4
  refine wp_seq_k (fun K8 hK8 => ?_)
  refine wp_seq_k (fun K9 hK9 => ?_)
  refine wp_region_lit ?_
  refine pl M6 (y_move (v := .int .i64 head) rfl rfl rfl) ?_
  simp only [Act.put, zq1, zq2, zq3]
  refine pl M6 (y_neq (b := true) rfl rfl rfl rfl (by rw [decide_eq_false h0]; rfl)) ?_
  simp only [Act.put, zq1, zq2, zq3]
  refine pl M6 (y_move (v := .bool true) rfl rfl rfl) ?_
  simp only [Act.put, zq1, zq2, zq3]
  refine pl M6 (y_move (v := .int .i64 head) rfl rfl rfl) ?_
  simp only [Act.put, zq1, zq2, zq3]
  refine pl M6 (y_lss (b := false) rfl rfl rfl rfl (decide_eq_false h1)) ?_
  simp only [Act.put, zq1, zq2, zq3]
  refine pl M6 (y_move (v := .bool false) rfl rfl rfl) ?_
  simp only [Act.put, zq1, zq2, zq3]
  refine pl M6 (y_move (v := .int .i64 head) rfl rfl rfl) ?_
  simp only [Act.put, zq1, zq2, zq3]
  refine pl M6 (y_load (v := .pointer (some ⟨s, 0, none⟩)) rfl rfl rfl Try.isAgg30 (fun W hW => hW.get 4 rfl) (rfl)) ?_
  simp only [Act.put, zq1, zq2, zq3]
  have hX10 : Mem w _ w6 ([disk D p pg mb qv, blk f 117 (fC V p), sto C V.s.mark s f X] ++ [blk g4 33 ([.int .i64 0]), blk g2 30 ([.pointer (some ⟨s, 0, none⟩)])]) := M6.arr [0, 1, 2, 3, 4] (by decide)
  refine pe rfl (fun K hK => ?_)
  refine e_call 12 [.pointer (some ⟨s, 0, none⟩)] rfl rfl Try.call12 (snext_any (Mem.here hX10)) ?_
  rintro e w10 ⟨rfl, H10⟩
  have M10 : Mem w _ w10 [disk D p pg mb qv, blk f 117 (fC V p), sto C V.s.mark s f X, blk g4 33 ([.int .i64 0]), blk g2 30 ([.pointer (some ⟨s, 0, none⟩)])] := Mem.frame hX10 H10
  refine ⟨_, rfl, ?_⟩
  refine hK.out _ _ ?_
  clear hK K
  simp only [Act.put, zq1, zq2, zq3]
  refine pl M10 (y_geq (b := true) rfl rfl rfl rfl (decide_eq_true h2)) ?_
  simp only [Act.put, zq1, zq2, zq3]
  refine pl M10 (y_pickF (v := .bool true) rfl rfl rfl rfl) ?_
  simp only [Act.put, zq1, zq2, zq3]
  refine pl M10 (y_pickT (v := .bool true) rfl rfl rfl rfl) ?_
  simp only [Act.put, zq1, zq2, zq3]
  refine wpList_nil ?_
  refine hK9 _ _ ?_
  clear hK9
  refine wp_cond_true rfl ?_
  refine wp_seq_k (fun K11 hK11 => ?_)
  refine wp_region_lit ?_
  refine pe rfl (fun K hK => ?_)
  refine e_store M10 3 (v := .int .i64 41) rfl rfl rfl rfl rfl rfl Try.sizeOf33 rfl (show (0 : Nat) < 1 by decide) ?_
  intro w12 (M12 : Mem w _ w12 [disk D p pg mb qv, blk f 117 (fC V p), sto C V.s.mark s f X, blk g4 33 ([.int .i64 41]), blk g2 30 ([.pointer (some ⟨s, 0, none⟩)])])
  clear M10
  refine hK.out _ _ ?_
  clear hK K
  simp only [Act.put, zq1, zq2, zq3]
  refine wpList_nil ?_
  refine hK11 _ _ ?_
  clear hK11
  refine wp_ret ?_
  try simp only [Exit.inBlock, Exit.then]
  refine postD_nil (v := .int .i64 41) (resv1 rfl rfl (M12.get 3 rfl) Try.isAgg33) rfl ?_
  have e0 : flushR D V C head = (D, V, 41) := by unfold flushR; rw [if_neg (fun h => h hL), if_pos (by omega)]
  have e1 : flushC D V C head = C := if_neg (by rw [e0]; show ¬ (41 : Int) = 0; decide)
  rw [e1, e0]
  exact ⟨_, X, rfl, rfl, (M12.arr [0, 1, 2] (by decide))⟩
set_option maxRecDepth 100000 in
set_option maxHeartbeats 4000000 in
theorem sflush_full_z {D : DV} {V : FV} {C : CS} {X : SX} {s f p pg mb : Nat} {qv : Value} {w : World} (hM : Mem w (foots [disk D p pg mb qv, blk f 117 (fC V p), sto C V.s.mark s f X]) w [disk D p pg mb qv, blk f 117 (fC V p), sto C V.s.mark s f X]) (head : Int) (hL : liveE D V = 0) (h0 : head = 0) (hg : 1099511627776 ≤ V.s.gen) : Calls Try.prog 11 #[.pointer (some ⟨s, 0, none⟩), .int .i64 head] w fun e' w' => ∃ qv' X', e' = .returned (.int .i64 (flushR D V C head).2.2) ∧ X'.x.n = X.x.n ∧ Mem w (foots [disk D p pg mb qv, blk f 117 (fC V p), sto C V.s.mark s f X]) w' [disk (flushR D V C head).1 p pg mb qv', blk f 117 (fC (flushR D V C head).2.1 p), sto (flushC D V C head) (flushR D V C head).2.1.s.mark s f X'] := by
  have M := hM
  clear hM
  have hsk := sto_ok (M.get 2 rfl)
  have hm2 := hsk.mk2
  have hkl := hsk.kpl
  have hcl := hsk.room
  have hrm := hsk.rm
  go_enter_defers Try.func11, Try.ntmps11
  refine wp_seq_k (fun K1 hK1 => ?_)
  refine wp_region_lit ?_
  refine pe rfl (fun K hK => ?_)
  refine e_box1 M (.pointer (some ⟨s, 0, none⟩)) rfl rfl rfl ?_
  intro g2 w2 (M2 : Mem w _ w2 [blk g2 30 ([.pointer (some ⟨s, 0, none⟩)]), disk D p pg mb qv, blk f 117 (fC V p), sto C V.s.mark s f X])
  clear M
  refine hK.out _ _ ?_
  clear hK K
  simp only [Act.put, zq1, zq2, zq3]
  refine pe rfl (fun K hK => ?_)
  refine e_alloc1 M2 (.int .i64 0) rfl rfl Try.zeroValue33 ?_
  intro g4 w3 (M3 : Mem w _ w3 [blk g4 33 ([.int .i64 0]), blk g2 30 ([.pointer (some ⟨s, 0, none⟩)]), disk D p pg mb qv, blk f 117 (fC V p), sto C V.s.mark s f X])
  clear M2
  refine hK.out _ _ ?_
  clear hK K
  simp only [Act.put, zq1, zq2, zq3]
  refine wpList_nil ?_
  refine hK1 _ _ ?_
  clear hK1
  refine wp_seq_k (fun K4 hK4 => ?_)
  refine wp_seq_k (fun K5 hK5 => ?_)
  refine wp_region_lit ?_
  refine pl M3 (y_load (v := .pointer (some ⟨s, 0, none⟩)) rfl rfl rfl Try.isAgg30 (fun W hW => hW.get 1 rfl) (rfl)) ?_
  simp only [Act.put, zq1, zq2, zq3]
  have hX6 : Mem w _ w3 ([disk D p pg mb qv, blk f 117 (fC V p), sto C V.s.mark s f X] ++ [blk g4 33 ([.int .i64 0]), blk g2 30 ([.pointer (some ⟨s, 0, none⟩)])]) := M3.arr [2, 3, 4, 0, 1] (by decide)
  refine pe rfl (fun K hK => ?_)
  refine e_call 19 [.pointer (some ⟨s, 0, none⟩)] rfl rfl Try.call19 (slive_any (Mem.here hX6)) ?_
  rintro e w6 ⟨rfl, H6⟩
  have M6 : Mem w _ w6 [disk D p pg mb qv, blk f 117 (fC V p), sto C V.s.mark s f X, blk g4 33 ([.int .i64 0]), blk g2 30 ([.pointer (some ⟨s, 0, none⟩)])] := Mem.frame hX6 H6
  refine ⟨_, rfl, ?_⟩
  refine hK.out _ _ ?_
  clear hK K
  simp only [Act.put, zq1, zq2, zq3]
  refine pl M6 (y_assign (v := .int .i64 (liveE D V)) rfl rfl rfl) ?_
  simp only [Act.put, zq1, zq2, zq3]
  refine wpList_nil ?_
  refine hK5 _ _ ?_
  clear hK5
  refine wp_seq_k (fun K7 hK7 => ?_)
  refine wp_region_lit ?_
  refine pl M6 (y_move (v := .int .i64 (liveE D V)) rfl rfl rfl) ?_
  simp only [Act.put, zq1, zq2, zq3]
  refine pl M6 (y_neq (b := false) rfl rfl rfl rfl (by rw [decide_eq_true hL]; rfl)) ?_
  simp only [Act.put, zq1, zq2, zq3]
  refine wpList_nil ?_
  refine hK7 _ _ ?_
  clear hK7
  refine wp_cond_false rfl ?_
  refine wp_skip ?_
  refine hK4 _ _ ?_
  clear hK4
  refine wp_seq_k (fun K8 hK8 => ?_)
  refine wp_seq_k (fun K9 hK9 => ?_)
  refine wp_region_lit ?_
  refine pl M6 (y_move (v := .int .i64 head) rfl rfl rfl) ?_
  simp only [Act.put, zq1, zq2, zq3]
  refine pl M6 (y_neq (b := false) rfl rfl rfl rfl (by rw [decide_eq_true h0]; rfl)) ?_
  simp only [Act.put, zq1, zq2, zq3]
  refine pl M6 (y_move (v := .bool false) rfl rfl rfl) ?_
  simp only [Act.put, zq1, zq2, zq3]
  with_reducible refine pskip ?_ ?_
  · rfl
  simp only [Act.put, zq1, zq2, zq3]
  with_reducible refine pskip ?_ ?_
  · rfl
  simp only [Act.put, zq1, zq2, zq3]
  with_reducible refine pskip ?_ ?_
  · rfl
  simp only [Act.put, zq1, zq2, zq3]
  with_reducible refine pskip ?_ ?_
  · rfl
  simp only [Act.put, zq1, zq2, zq3]
  with_reducible refine pskip ?_ ?_
  · rfl
  simp only [Act.put, zq1, zq2, zq3]
  with_reducible refine pskip ?_ ?_
  · rfl
  simp only [Act.put, zq1, zq2, zq3]
  with_reducible refine pskip ?_ ?_
  · rfl
  simp only [Act.put, zq1, zq2, zq3]
  with_reducible refine pskip ?_ ?_
  · rfl
  simp only [Act.put, zq1, zq2, zq3]
  refine pl M6 (y_pickF (v := .bool false) rfl rfl rfl rfl) ?_
  simp only [Act.put, zq1, zq2, zq3]
  refine wpList_nil ?_
  refine hK9 _ _ ?_
  clear hK9
  refine wp_cond_false rfl ?_
  refine wp_skip ?_
  refine hK8 _ _ ?_
  clear hK8
  refine wp_seq_k (fun K10 hK10 => ?_)
  refine wp_seq_k (fun K11 hK11 => ?_)
  refine wp_region_lit ?_
  refine pl M6 (y_load (v := .pointer (some ⟨s, 0, none⟩)) rfl rfl rfl Try.isAgg30 (fun W hW => hW.get 4 rfl) (rfl)) ?_
  simp only [Act.put, zq1, zq2, zq3]
  have hX12 : Mem w _ w6 ([disk D p pg mb qv, blk f 117 (fC V p), sto C V.s.mark s f X] ++ [blk g4 33 ([.int .i64 0]), blk g2 30 ([.pointer (some ⟨s, 0, none⟩)])]) := M6.arr [0, 1, 2, 3, 4] (by decide)
  refine pe rfl (fun K hK => ?_)
  refine e_call 16 [.pointer (some ⟨s, 0, none⟩)] rfl rfl Try.call16 (ssuper_any (Mem.here hX12)) ?_
  rintro e w12 ⟨rfl, H12⟩
  have M12 : Mem w _ w12 [disk D p pg mb qv, blk f 117 (fC V p), sto C V.s.mark s f X, blk g4 33 ([.int .i64 0]), blk g2 30 ([.pointer (some ⟨s, 0, none⟩)])] := Mem.frame hX12 H12
  refine ⟨_, rfl, ?_⟩
  refine hK.out _ _ ?_
  clear hK K
  simp only [Act.put, zq1, zq2, zq3]
  refine pl M12 (y_field1 (v := .int .i64 V.s.gen) rfl rfl rfl Try.underlying38 rfl Try.isAgg3 rfl) ?_
  simp only [Act.put, zq1, zq2, zq3]
  refine pl M12 (y_geq (b := true) rfl rfl rfl rfl (decide_eq_true hg)) ?_
  simp only [Act.put, zq1, zq2, zq3]
  refine wpList_nil ?_
  refine hK11 _ _ ?_
  clear hK11
  refine wp_cond_true rfl ?_
  refine wp_seq_k (fun K13 hK13 => ?_)
  refine wp_region_lit ?_
  refine pe rfl (fun K hK => ?_)
  refine e_store M12 3 (v := .int .i64 5) rfl rfl rfl rfl rfl rfl Try.sizeOf33 rfl (show (0 : Nat) < 1 by decide) ?_
  intro w14 (M14 : Mem w _ w14 [disk D p pg mb qv, blk f 117 (fC V p), sto C V.s.mark s f X, blk g4 33 ([.int .i64 5]), blk g2 30 ([.pointer (some ⟨s, 0, none⟩)])])
  clear M12
  refine hK.out _ _ ?_
  clear hK K
  simp only [Act.put, zq1, zq2, zq3]
  refine wpList_nil ?_
  refine hK13 _ _ ?_
  clear hK13
  refine wp_ret ?_
  try simp only [Exit.inBlock, Exit.then]
  refine postD_nil (v := .int .i64 5) (resv1 rfl rfl (M14.get 3 rfl) Try.isAgg33) rfl ?_
  have e0 : flushR D V C head = (D, V, 5) := by unfold flushR; rw [if_neg (fun h => h hL), if_neg (by omega), if_pos hg]
  have e1 : flushC D V C head = C := if_neg (by rw [e0]; show ¬ (5 : Int) = 0; decide)
  rw [e1, e0]
  exact ⟨_, X, rfl, rfl, (M14.arr [0, 1, 2] (by decide))⟩
set_option maxRecDepth 100000 in
set_option maxHeartbeats 4000000 in
theorem sflush_full_h {D : DV} {V : FV} {C : CS} {X : SX} {s f p pg mb : Nat} {qv : Value} {w : World} (hM : Mem w (foots [disk D p pg mb qv, blk f 117 (fC V p), sto C V.s.mark s f X]) w [disk D p pg mb qv, blk f 117 (fC V p), sto C V.s.mark s f X]) (head : Int) (hL : liveE D V = 0) (h0 : ¬ head = 0) (h1 : ¬ head < 2) (h2 : ¬ V.s.mark + (C.kp.length : Int) ≤ head) (hg : 1099511627776 ≤ V.s.gen) : Calls Try.prog 11 #[.pointer (some ⟨s, 0, none⟩), .int .i64 head] w fun e' w' => ∃ qv' X', e' = .returned (.int .i64 (flushR D V C head).2.2) ∧ X'.x.n = X.x.n ∧ Mem w (foots [disk D p pg mb qv, blk f 117 (fC V p), sto C V.s.mark s f X]) w' [disk (flushR D V C head).1 p pg mb qv', blk f 117 (fC (flushR D V C head).2.1 p), sto (flushC D V C head) (flushR D V C head).2.1.s.mark s f X'] := by
  have M := hM
  clear hM
  have hsk := sto_ok (M.get 2 rfl)
  have hm2 := hsk.mk2
  have hkl := hsk.kpl
  have hcl := hsk.room
  have hrm := hsk.rm
  go_enter_defers Try.func11, Try.ntmps11
  refine wp_seq_k (fun K1 hK1 => ?_)
  refine wp_region_lit ?_
  refine pe rfl (fun K hK => ?_)
  refine e_box1 M (.pointer (some ⟨s, 0, none⟩)) rfl rfl rfl ?_
  intro g2 w2 (M2 : Mem w _ w2 [blk g2 30 ([.pointer (some ⟨s, 0, none⟩)]), disk D p pg mb qv, blk f 117 (fC V p), sto C V.s.mark s f X])
  clear M
  refine hK.out _ _ ?_
  clear hK K
  simp only [Act.put, zq1, zq2, zq3]
  refine pe rfl (fun K hK => ?_)
  refine e_alloc1 M2 (.int .i64 0) rfl rfl Try.zeroValue33 ?_
  intro g4 w3 (M3 : Mem w _ w3 [blk g4 33 ([.int .i64 0]), blk g2 30 ([.pointer (some ⟨s, 0, none⟩)]), disk D p pg mb qv, blk f 117 (fC V p), sto C V.s.mark s f X])
  clear M2
  refine hK.out _ _ ?_
  clear hK K
  simp only [Act.put, zq1, zq2, zq3]
  refine wpList_nil ?_
  refine hK1 _ _ ?_
  clear hK1
  refine wp_seq_k (fun K4 hK4 => ?_)
  refine wp_seq_k (fun K5 hK5 => ?_)
  refine wp_region_lit ?_
  refine pl M3 (y_load (v := .pointer (some ⟨s, 0, none⟩)) rfl rfl rfl Try.isAgg30 (fun W hW => hW.get 1 rfl) (rfl)) ?_
  simp only [Act.put, zq1, zq2, zq3]
  have hX6 : Mem w _ w3 ([disk D p pg mb qv, blk f 117 (fC V p), sto C V.s.mark s f X] ++ [blk g4 33 ([.int .i64 0]), blk g2 30 ([.pointer (some ⟨s, 0, none⟩)])]) := M3.arr [2, 3, 4, 0, 1] (by decide)
  refine pe rfl (fun K hK => ?_)
  refine e_call 19 [.pointer (some ⟨s, 0, none⟩)] rfl rfl Try.call19 (slive_any (Mem.here hX6)) ?_
  rintro e w6 ⟨rfl, H6⟩
  have M6 : Mem w _ w6 [disk D p pg mb qv, blk f 117 (fC V p), sto C V.s.mark s f X, blk g4 33 ([.int .i64 0]), blk g2 30 ([.pointer (some ⟨s, 0, none⟩)])] := Mem.frame hX6 H6
  refine ⟨_, rfl, ?_⟩
  refine hK.out _ _ ?_
  clear hK K
  simp only [Act.put, zq1, zq2, zq3]
  refine pl M6 (y_assign (v := .int .i64 (liveE D V)) rfl rfl rfl) ?_
  simp only [Act.put, zq1, zq2, zq3]
  refine wpList_nil ?_
  refine hK5 _ _ ?_
  clear hK5
  refine wp_seq_k (fun K7 hK7 => ?_)
  refine wp_region_lit ?_
  refine pl M6 (y_move (v := .int .i64 (liveE D V)) rfl rfl rfl) ?_
  simp only [Act.put, zq1, zq2, zq3]
  refine pl M6 (y_neq (b := false) rfl rfl rfl rfl (by rw [decide_eq_true hL]; rfl)) ?_
  simp only [Act.put, zq1, zq2, zq3]
  refine wpList_nil ?_
  refine hK7 _ _ ?_
  clear hK7
  refine wp_cond_false rfl ?_
  refine wp_skip ?_
  refine hK4 _ _ ?_
  clear hK4
  refine wp_seq_k (fun K8 hK8 => ?_)
  refine wp_seq_k (fun K9 hK9 => ?_)
  refine wp_region_lit ?_
  refine pl M6 (y_move (v := .int .i64 head) rfl rfl rfl) ?_
  simp only [Act.put, zq1, zq2, zq3]
  refine pl M6 (y_neq (b := true) rfl rfl rfl rfl (by rw [decide_eq_false h0]; rfl)) ?_
  simp only [Act.put, zq1, zq2, zq3]
  refine pl M6 (y_move (v := .bool true) rfl rfl rfl) ?_
  simp only [Act.put, zq1, zq2, zq3]
  refine pl M6 (y_move (v := .int .i64 head) rfl rfl rfl) ?_
  simp only [Act.put, zq1, zq2, zq3]
  refine pl M6 (y_lss (b := false) rfl rfl rfl rfl (decide_eq_false h1)) ?_
  simp only [Act.put, zq1, zq2, zq3]
  refine pl M6 (y_move (v := .bool false) rfl rfl rfl) ?_
  simp only [Act.put, zq1, zq2, zq3]
  refine pl M6 (y_move (v := .int .i64 head) rfl rfl rfl) ?_
  simp only [Act.put, zq1, zq2, zq3]
  refine pl M6 (y_load (v := .pointer (some ⟨s, 0, none⟩)) rfl rfl rfl Try.isAgg30 (fun W hW => hW.get 4 rfl) (rfl)) ?_
  simp only [Act.put, zq1, zq2, zq3]
  have hX10 : Mem w _ w6 ([disk D p pg mb qv, blk f 117 (fC V p), sto C V.s.mark s f X] ++ [blk g4 33 ([.int .i64 0]), blk g2 30 ([.pointer (some ⟨s, 0, none⟩)])]) := M6.arr [0, 1, 2, 3, 4] (by decide)
  refine pe rfl (fun K hK => ?_)
  refine e_call 12 [.pointer (some ⟨s, 0, none⟩)] rfl rfl Try.call12 (snext_any (Mem.here hX10)) ?_
  rintro e w10 ⟨rfl, H10⟩
  have M10 : Mem w _ w10 [disk D p pg mb qv, blk f 117 (fC V p), sto C V.s.mark s f X, blk g4 33 ([.int .i64 0]), blk g2 30 ([.pointer (some ⟨s, 0, none⟩)])] := Mem.frame hX10 H10
  refine ⟨_, rfl, ?_⟩
  refine hK.out _ _ ?_
  clear hK K
  simp only [Act.put, zq1, zq2, zq3]
  refine pl M10 (y_geq (b := false) rfl rfl rfl rfl (decide_eq_false h2)) ?_
  simp only [Act.put, zq1, zq2, zq3]
  refine pl M10 (y_pickF (v := .bool false) rfl rfl rfl rfl) ?_
  simp only [Act.put, zq1, zq2, zq3]
  refine pl M10 (y_pickT (v := .bool false) rfl rfl rfl rfl) ?_
  simp only [Act.put, zq1, zq2, zq3]
  refine wpList_nil ?_
  refine hK9 _ _ ?_
  clear hK9
  refine wp_cond_false rfl ?_
  refine wp_skip ?_
  refine hK8 _ _ ?_
  clear hK8
  refine wp_seq_k (fun K11 hK11 => ?_)
  refine wp_seq_k (fun K12 hK12 => ?_)
  refine wp_region_lit ?_
  refine pl M10 (y_load (v := .pointer (some ⟨s, 0, none⟩)) rfl rfl rfl Try.isAgg30 (fun W hW => hW.get 4 rfl) (rfl)) ?_
  simp only [Act.put, zq1, zq2, zq3]
  have hX13 : Mem w _ w10 ([disk D p pg mb qv, blk f 117 (fC V p), sto C V.s.mark s f X] ++ [blk g4 33 ([.int .i64 0]), blk g2 30 ([.pointer (some ⟨s, 0, none⟩)])]) := M10.arr [0, 1, 2, 3, 4] (by decide)
  refine pe rfl (fun K hK => ?_)
  refine e_call 16 [.pointer (some ⟨s, 0, none⟩)] rfl rfl Try.call16 (ssuper_any (Mem.here hX13)) ?_
  rintro e w13 ⟨rfl, H13⟩
  have M13 : Mem w _ w13 [disk D p pg mb qv, blk f 117 (fC V p), sto C V.s.mark s f X, blk g4 33 ([.int .i64 0]), blk g2 30 ([.pointer (some ⟨s, 0, none⟩)])] := Mem.frame hX13 H13
  refine ⟨_, rfl, ?_⟩
  refine hK.out _ _ ?_
  clear hK K
  simp only [Act.put, zq1, zq2, zq3]
  refine pl M13 (y_field1 (v := .int .i64 V.s.gen) rfl rfl rfl Try.underlying38 rfl Try.isAgg3 rfl) ?_
  simp only [Act.put, zq1, zq2, zq3]
  refine pl M13 (y_geq (b := true) rfl rfl rfl rfl (decide_eq_true hg)) ?_
  simp only [Act.put, zq1, zq2, zq3]
  refine wpList_nil ?_
  refine hK12 _ _ ?_
  clear hK12
  refine wp_cond_true rfl ?_
  refine wp_seq_k (fun K14 hK14 => ?_)
  refine wp_region_lit ?_
  refine pe rfl (fun K hK => ?_)
  refine e_store M13 3 (v := .int .i64 5) rfl rfl rfl rfl rfl rfl Try.sizeOf33 rfl (show (0 : Nat) < 1 by decide) ?_
  intro w15 (M15 : Mem w _ w15 [disk D p pg mb qv, blk f 117 (fC V p), sto C V.s.mark s f X, blk g4 33 ([.int .i64 5]), blk g2 30 ([.pointer (some ⟨s, 0, none⟩)])])
  clear M13
  refine hK.out _ _ ?_
  clear hK K
  simp only [Act.put, zq1, zq2, zq3]
  refine wpList_nil ?_
  refine hK14 _ _ ?_
  clear hK14
  refine wp_ret ?_
  try simp only [Exit.inBlock, Exit.then]
  refine postD_nil (v := .int .i64 5) (resv1 rfl rfl (M15.get 3 rfl) Try.isAgg33) rfl ?_
  have e0 : flushR D V C head = (D, V, 5) := by unfold flushR; rw [if_neg (fun h => h hL), if_neg (by omega), if_pos hg]
  have e1 : flushC D V C head = C := if_neg (by rw [e0]; show ¬ (5 : Int) = 0; decide)
  rw [e1, e0]
  exact ⟨_, X, rfl, rfl, (M15.arr [0, 1, 2] (by decide))⟩
end Go.Proofs.Ytfbamkgmnbobeaa
