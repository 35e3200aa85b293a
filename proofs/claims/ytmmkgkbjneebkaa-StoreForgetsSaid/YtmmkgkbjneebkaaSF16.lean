/- Texts joined: File6, File7, Sto, Store1. -/
import Derived.Test.YtmmkgkbjneebkaaSF05
import Derived.Test.YtmmkgkbjneebkaaSF15
import Derived.Test.YtmmkgkbjneebkaaSF07
import Derived.Test.YtmmkgkbjneebkaaSF08
/- The file: Append. -/
namespace Go.Proofs.Ytmmkgkbjneebkaa
set_option linter.unusedSectionVars false
open Go Go.RowKit
set_option maxRecDepth 100000
set_option maxHeartbeats 40000000
set_option linter.unusedVariables false
set_option linter.unusedSimpArgs false
theorem pack_okI (kind page : Int) (ao : Option Addr) (n c : Nat) (l : List UInt8) (w : World) (hr : Row w ao n l) (hk : 1 ≤ kind ∧ kind ≤ 3) (hp : 2 ≤ page ∧ page < 4096) (hl : l.length ≤ 246) :
    Calls Try.prog 82 #[.int .i64 kind, .int .i64 page, .slice ao n c] w fun e w' => ∃ g c', e = .returned (.tuple #[.slice (some ⟨g, 0, none⟩) 256 c', .int .i64 0]) ∧ Mem w [] w' [lst 5 1 (.slice (some ⟨g, 0, none⟩) 256 c') 256 (bvs (pageB kind.toNat page.toNat l))] := by
  obtain ⟨k, rfl⟩ := Int.eq_ofNat_of_zero_le (show 0 ≤ kind by omega)
  obtain ⟨p, rfl⟩ := Int.eq_ofNat_of_zero_le (show 0 ≤ page by omega)
  refine (pack_ok k p ao n c l w hr ⟨by omega, by omega⟩ ⟨by omega, by omega⟩ hl).mono ?_
  rintro e w' ⟨v, rfl, h⟩
  obtain ⟨g, c', rfl, _, _⟩ := lst_slice (h.get 0 rfl) (by decide)
  exact ⟨g, c', rfl, h⟩
def appE (D : DV) (V : FV) (kind : Int) (l : List UInt8) : Int := if liveE D V ≠ 0 then liveE D V else if kind < 1 ∨ 3 < kind then 50 else if 246 < l.length then 51 else if (D.pages.length : Int) ≤ V.next then 5 else writeE D V.next (pageB kind.toNat V.next.toNat l)
def appD (D : DV) (V : FV) (kind : Int) (l : List UInt8) : DV := if liveE D V ≠ 0 ∨ kind < 1 ∨ 3 < kind ∨ 246 < l.length ∨ (D.pages.length : Int) ≤ V.next then D else writeD D V.next (pageB kind.toNat V.next.toNat l)
def appN (D : DV) (V : FV) (kind : Int) (l : List UInt8) : Int := if appE D V kind l = 0 then V.next else 0
def appV (D : DV) (V : FV) (kind : Int) (l : List UInt8) : FV := if appE D V kind l = 0 then { V with next := V.next + 1 } else V
theorem app_no {D : DV} {V : FV} {kind e : Int} {l : List UInt8} (h : appE D V kind l = e) (he : e ≠ 0) : appN D V kind l = 0 ∧ appV D V kind l = V := by
  unfold appN appV
  rw [h, if_neg he, if_neg he]
  exact ⟨rfl, rfl⟩
theorem app_yes {D : DV} {V : FV} {kind : Int} {l : List UInt8} (h : appE D V kind l = 0) : appN D V kind l = V.next ∧ appV D V kind l = { V with next := V.next + 1 } := by
  unfold appN appV
  rw [if_pos h, if_pos h]
  exact ⟨rfl, rfl⟩
theorem app_dead {D : DV} {V : FV} {f p pg mb : Nat} {qv : Value} {w : World} (hM : zM w [disk D p pg mb qv, blk f 117 (fC V p)]) (kind : Int) (ao : Option Addr) (n c : Nat) (l : List UInt8) (hr : Row w ao n l) (hF : ∀ b o, ao = some ⟨b, o, none⟩ → 0 < n → b ∉ foots [disk D p pg mb qv, blk f 117 (fC V p)]) (hL : liveE D V ≠ 0) : zC 54 [zP f 0, zI kind, .slice ao n c] w fun e w' => ∃ qv', e = .returned (.tuple #[zI (appN D V kind l), zI (appE D V kind l)]) ∧ zD w [disk D p pg mb qv, blk f 117 (fC V p)] w' [disk (appD D V kind l) p pg mb qv', blk f 117 (fC (appV D V kind l) p)] := by
 obtain ⟨hok, M⟩ := disk_open hM;clear hM;go_enter Try.func54, Try.ntmps54;refine zin ?_;refine zk fun K1 hK1 => zr ?_;refine zp 2 rfl ?_;refine zw (hK1 _ _ (zk fun K2 hK2 => zk fun K3 hK3 => zr ?_));refine zp 1 rfl ?_;have M4 := M.pk [0, 1, 2, 3, 4];simp only[Y3,Y4,Y1,Y2]at M4;clear M;have hlv : Mem w _ w ([disk D p pg mb (qv), blk f 117 (fC V p)] ++ []) := disk_close hok M4;refine zca 49 [zP f 0] rfl zc49 (live_any (Mem.h2 hlv)) ?_;rintro e w5 ⟨rfl, H5⟩;have M5 := (disk_open (R := [blk f 117 (fC V p)] ++ []) (Mem.f2 hlv H5)).2;(try simp only[Y1,Y2]at M5);refine ⟨_, rfl, ?_⟩;refine zp 1 rfl ?_;refine zw (hK3 _ _ (zk fun K6 hK6 => zr ?_));refine zp 1 rfl (zo M5 (zneq (b := true) rfl (by rw [decide_eq_false hL]; rfl)) ?_);refine zw (hK6 _ _ (zct rfl (zk fun K7 hK7 => zr ?_)));refine zp 3 rfl ?_;refine zw (hK7 _ _ (zrt ?_));(try simp only[zi,zj]);refine zR (v := .tuple #[zI 0, zI (liveE D V)]) (res2 rfl (zgd rfl) (zgd rfl)) (zdf _) ?_;have e1 : appE D V kind l = liveE D V := if_pos hL;obtain ⟨e2, e3⟩ := app_no e1 hL;have e4 : appD D V kind l = D := if_pos (Or.inl hL);rw [e1, e2, e3, e4];exact ⟨_, rfl, (disk_close (D := D) hok (M5.arr [0, 1, 2, 3, 4] (by decide)))⟩
theorem app_klow {D : DV} {V : FV} {f p pg mb : Nat} {qv : Value} {w : World} (hM : zM w [disk D p pg mb qv, blk f 117 (fC V p)]) (kind : Int) (ao : Option Addr) (n c : Nat) (l : List UInt8) (hr : Row w ao n l) (hF : ∀ b o, ao = some ⟨b, o, none⟩ → 0 < n → b ∉ foots [disk D p pg mb qv, blk f 117 (fC V p)]) (hL : liveE D V = 0) (hk : kind < 1) : zC 54 [zP f 0, zI kind, .slice ao n c] w fun e w' => ∃ qv', e = .returned (.tuple #[zI (appN D V kind l), zI (appE D V kind l)]) ∧ zD w [disk D p pg mb qv, blk f 117 (fC V p)] w' [disk (appD D V kind l) p pg mb qv', blk f 117 (fC (appV D V kind l) p)] := by
 obtain ⟨hok, M⟩ := disk_open hM;clear hM;go_enter Try.func54, Try.ntmps54;refine zin ?_;refine zk fun K1 hK1 => zr ?_;refine zp 2 rfl ?_;refine zw (hK1 _ _ (zk fun K2 hK2 => zk fun K3 hK3 => zr ?_));refine zp 1 rfl ?_;have M4 := M.pk [0, 1, 2, 3, 4];simp only[Y3,Y4,Y1,Y2]at M4;clear M;have hlv : Mem w _ w ([disk D p pg mb (qv), blk f 117 (fC V p)] ++ []) := disk_close hok M4;refine zca 49 [zP f 0] rfl zc49 (live_any (Mem.h2 hlv)) ?_;rintro e w5 ⟨rfl, H5⟩;have M5 := (disk_open (R := [blk f 117 (fC V p)] ++ []) (Mem.f2 hlv H5)).2;(try simp only[Y1,Y2]at M5);refine ⟨_, rfl, ?_⟩;refine zp 1 rfl ?_;refine zw (hK3 _ _ (zk fun K6 hK6 => zr ?_));refine zp 1 rfl (zo M5 (zneq (b := false) rfl (by rw [decide_eq_true hL]; rfl)) ?_);refine zw (hK6 _ _ (zcf rfl (zsk (hK2 _ _ (zk fun K7 hK7 => ?_)))));refine zbl (zk fun K8 hK8 => zr ?_);refine zp 1 rfl (zo M5 (zlss rfl (zT hk)) (zp 5 rfl ?_));refine zw (hK8 _ _ (zct rfl (zk fun K9 hK9 => zr ?_)));refine zp 2 rfl ?_;refine zw (hK9 _ _ (zrt ?_));(try simp only[zi,zj]);refine zR (v := .tuple #[zI 0, zI 50]) (res2 rfl (zgd rfl) (zgd rfl)) (zdf _) ?_;have e1 : appE D V kind l = 50 := by unfold appE; rw [if_neg (fun h => h hL), if_pos (by omega)]
 obtain ⟨e2, e3⟩ := app_no e1 (by decide);have e4 : appD D V kind l = D := if_pos (by omega);rw [e1, e2, e3, e4];exact ⟨_, rfl, (disk_close (D := D) hok (M5.arr [0, 1, 2, 3, 4] (by decide)))⟩
theorem app_khigh {D : DV} {V : FV} {f p pg mb : Nat} {qv : Value} {w : World} (hM : zM w [disk D p pg mb qv, blk f 117 (fC V p)]) (kind : Int) (ao : Option Addr) (n c : Nat) (l : List UInt8) (hr : Row w ao n l) (hF : ∀ b o, ao = some ⟨b, o, none⟩ → 0 < n → b ∉ foots [disk D p pg mb qv, blk f 117 (fC V p)]) (hL : liveE D V = 0) (hk : 3 < kind) : zC 54 [zP f 0, zI kind, .slice ao n c] w fun e w' => ∃ qv', e = .returned (.tuple #[zI (appN D V kind l), zI (appE D V kind l)]) ∧ zD w [disk D p pg mb qv, blk f 117 (fC V p)] w' [disk (appD D V kind l) p pg mb qv', blk f 117 (fC (appV D V kind l) p)] := by
 obtain ⟨hok, M⟩ := disk_open hM;clear hM;go_enter Try.func54, Try.ntmps54;refine zin ?_;refine zk fun K1 hK1 => zr ?_;refine zp 2 rfl ?_;refine zw (hK1 _ _ (zk fun K2 hK2 => zk fun K3 hK3 => zr ?_));refine zp 1 rfl ?_;have M4 := M.pk [0, 1, 2, 3, 4];simp only[Y3,Y4,Y1,Y2]at M4;clear M;have hlv : Mem w _ w ([disk D p pg mb (qv), blk f 117 (fC V p)] ++ []) := disk_close hok M4;refine zca 49 [zP f 0] rfl zc49 (live_any (Mem.h2 hlv)) ?_;rintro e w5 ⟨rfl, H5⟩;have M5 := (disk_open (R := [blk f 117 (fC V p)] ++ []) (Mem.f2 hlv H5)).2;(try simp only[Y1,Y2]at M5);refine ⟨_, rfl, ?_⟩;refine zp 1 rfl ?_;refine zw (hK3 _ _ (zk fun K6 hK6 => zr ?_));refine zp 1 rfl (zo M5 (zneq (b := false) rfl (by rw [decide_eq_true hL]; rfl)) ?_);refine zw (hK6 _ _ (zcf rfl (zsk (hK2 _ _ (zk fun K7 hK7 => ?_)))));refine zbl (zk fun K8 hK8 => zr ?_);refine zp 1 rfl (zo M5 (zlss rfl (zF (by omega))) (zp 2 rfl (zo M5 (zgtr rfl (zT hk)) (zp 2 rfl ?_))));refine zw (hK8 _ _ (zct rfl (zk fun K9 hK9 => zr ?_)));refine zp 2 rfl ?_;refine zw (hK9 _ _ (zrt ?_));(try simp only[zi,zj]);refine zR (v := .tuple #[zI 0, zI 50]) (res2 rfl (zgd rfl) (zgd rfl)) (zdf _) ?_;have e1 : appE D V kind l = 50 := by unfold appE; rw [if_neg (fun h => h hL), if_pos (by omega)]
 obtain ⟨e2, e3⟩ := app_no e1 (by decide);have e4 : appD D V kind l = D := if_pos (by omega);rw [e1, e2, e3, e4];exact ⟨_, rfl, (disk_close (D := D) hok (M5.arr [0, 1, 2, 3, 4] (by decide)))⟩
theorem app_long {D : DV} {V : FV} {f p pg mb : Nat} {qv : Value} {w : World} (hM : zM w [disk D p pg mb qv, blk f 117 (fC V p)]) (kind : Int) (ao : Option Addr) (n c : Nat) (l : List UInt8) (hr : Row w ao n l) (hF : ∀ b o, ao = some ⟨b, o, none⟩ → 0 < n → b ∉ foots [disk D p pg mb qv, blk f 117 (fC V p)]) (hL : liveE D V = 0) (hk : 1 ≤ kind ∧ kind ≤ 3) (hn : 246 < n) : zC 54 [zP f 0, zI kind, .slice ao n c] w fun e w' => ∃ qv', e = .returned (.tuple #[zI (appN D V kind l), zI (appE D V kind l)]) ∧ zD w [disk D p pg mb qv, blk f 117 (fC V p)] w' [disk (appD D V kind l) p pg mb qv', blk f 117 (fC (appV D V kind l) p)] := by
 obtain ⟨hok, M⟩ := disk_open hM;clear hM;go_enter Try.func54, Try.ntmps54;refine zin ?_;refine zk fun K1 hK1 => zr ?_;refine zp 2 rfl ?_;refine zw (hK1 _ _ (zk fun K2 hK2 => zk fun K3 hK3 => zr ?_));refine zp 1 rfl ?_;have M4 := M.pk [0, 1, 2, 3, 4];simp only[Y3,Y4,Y1,Y2]at M4;clear M;have hlv : Mem w _ w ([disk D p pg mb (qv), blk f 117 (fC V p)] ++ []) := disk_close hok M4;refine zca 49 [zP f 0] rfl zc49 (live_any (Mem.h2 hlv)) ?_;rintro e w5 ⟨rfl, H5⟩;have M5 := (disk_open (R := [blk f 117 (fC V p)] ++ []) (Mem.f2 hlv H5)).2;(try simp only[Y1,Y2]at M5);refine ⟨_, rfl, ?_⟩;refine zp 1 rfl ?_;refine zw (hK3 _ _ (zk fun K6 hK6 => zr ?_));refine zp 1 rfl (zo M5 (zneq (b := false) rfl (by rw [decide_eq_true hL]; rfl)) ?_);refine zw (hK6 _ _ (zcf rfl (zsk (hK2 _ _ (zk fun K7 hK7 => ?_)))));refine zbl (zk fun K8 hK8 => zr ?_);refine zp 1 rfl (zo M5 (zlss rfl (zF (by omega))) (zp 2 rfl (zo M5 (zgtr rfl (zF (by omega))) (zp 2 rfl ?_))));refine zw (hK8 _ _ (zcf rfl (zk fun K9 hK9 => zr ?_)));refine zp 1 rfl (zo M5 (y_len (zwn rfl) rfl (zev rfl) zu44) (zo M5 (zgtr rfl (zT (by omega))) (zp 1 rfl ?_)));refine zw (hK9 _ _ (zct rfl (zk fun K10 hK10 => zr ?_)));refine zp 2 rfl ?_;refine zw (hK10 _ _ (zrt ?_));(try simp only[zi,zj]);refine zR (v := .tuple #[zI 0, zI 51]) (res2 rfl (zgd rfl) (zgd rfl)) (zdf _) ?_;have e1 : appE D V kind l = 51 := by unfold appE; rw [if_neg (fun h => h hL), if_neg (by omega), if_pos (by rw [hr.1]; exact hn)]
 obtain ⟨e2, e3⟩ := app_no e1 (by decide);have e4 : appD D V kind l = D := if_pos (Or.inr (Or.inr (Or.inr (Or.inl (by rw [hr.1]; exact hn)))));rw [e1, e2, e3, e4];exact ⟨_, rfl, (disk_close (D := D) hok (M5.arr [0, 1, 2, 3, 4] (by decide)))⟩
theorem app_full {D : DV} {V : FV} {f p pg mb : Nat} {qv : Value} {w : World} (hM : zM w [disk D p pg mb qv, blk f 117 (fC V p)]) (kind : Int) (ao : Option Addr) (n c : Nat) (l : List UInt8) (hr : Row w ao n l) (hF : ∀ b o, ao = some ⟨b, o, none⟩ → 0 < n → b ∉ foots [disk D p pg mb qv, blk f 117 (fC V p)]) (hL : liveE D V = 0) (hk : 1 ≤ kind ∧ kind ≤ 3) (hn : ¬ 246 < n) (hx : (D.pages.length : Int) ≤ V.next) : zC 54 [zP f 0, zI kind, .slice ao n c] w fun e w' => ∃ qv', e = .returned (.tuple #[zI (appN D V kind l), zI (appE D V kind l)]) ∧ zD w [disk D p pg mb qv, blk f 117 (fC V p)] w' [disk (appD D V kind l) p pg mb qv', blk f 117 (fC (appV D V kind l) p)] := by
 obtain ⟨hok, M⟩ := disk_open hM;clear hM;go_enter Try.func54, Try.ntmps54;refine zin ?_;refine zk fun K1 hK1 => zr ?_;refine zp 2 rfl ?_;refine zw (hK1 _ _ (zk fun K2 hK2 => zk fun K3 hK3 => zr ?_));refine zp 1 rfl ?_;have M4 := M.pk [0, 1, 2, 3, 4];simp only[Y3,Y4,Y1,Y2]at M4;clear M;have hlv : Mem w _ w ([disk D p pg mb (qv), blk f 117 (fC V p)] ++ []) := disk_close hok M4;refine zca 49 [zP f 0] rfl zc49 (live_any (Mem.h2 hlv)) ?_;rintro e w5 ⟨rfl, H5⟩;have M5 := (disk_open (R := [blk f 117 (fC V p)] ++ []) (Mem.f2 hlv H5)).2;(try simp only[Y1,Y2]at M5);refine ⟨_, rfl, ?_⟩;refine zp 1 rfl ?_;refine zw (hK3 _ _ (zk fun K6 hK6 => zr ?_));refine zp 1 rfl (zo M5 (zneq (b := false) rfl (by rw [decide_eq_true hL]; rfl)) ?_);refine zw (hK6 _ _ (zcf rfl (zsk (hK2 _ _ (zk fun K7 hK7 => ?_)))));refine zbl (zk fun K8 hK8 => zr ?_);refine zp 1 rfl (zo M5 (zlss rfl (zF (by omega))) (zp 2 rfl (zo M5 (zgtr rfl (zF (by omega))) (zp 2 rfl ?_))));refine zw (hK8 _ _ (zcf rfl (zk fun K9 hK9 => zr ?_)));refine zp 1 rfl (zo M5 (y_len (zwn rfl) rfl (zev rfl) zu44) (zo M5 (zgtr rfl (zF (by omega))) (zp 1 rfl ?_)));refine zw (hK9 _ _ (zcf rfl (zk fun K10 hK10 => ?_)));have M11 := M5.drew;have hzM11 := M11.pk [4];simp only[Y3,Y4,Y1,Y2]at hzM11;refine zhb hzM11 (by kernel_rfl) fun hS => ?_;refine zt 0 rfl (zy rfl) hS (zt 1 rfl (zy rfl) hS (zt 2 rfl (zf 6 zu117 rfl zz3) hS (zt 3 rfl (zl 0 rfl zg3) hS (zt 4 rfl (zy rfl) hS (zt 5 rfl (zy rfl) hS (zt 6 rfl (zf 0 zu117 rfl zz24) hS (zt 7 rfl (zl 0 rfl zg24) hS ?_)))))));refine held_step 8 (by kernel_rfl) rfl (by rfl) (fun K hK => ?_);refine e_call 47 [zP p 0] rfl (zls_eval rfl) Try.call47 (pages_any (Mem.h1 (disk_close hok M11)) ) ?_;rintro e w12 ⟨rfl, H12⟩;have M12 := (disk_open (Mem.f1 (disk_close hok M11) H12)).2;(try simp only[Y1,Y2]at M12);refine ⟨_, rfl, ?_⟩;refine hK.out _ _ (M12.arr [4] (by decide)) (fun hS => zpa ?_);refine zt 9 rfl (zgeq rfl (zT hx)) hS (zt 10 rfl (zy rfl) hS ?_);refine held_done (by kernel_rfl) (hK10 _ _ ?_) _;refine zct rfl (zk fun K13 hK13 => zr ?_);refine zp 2 rfl ?_;refine zw (hK13 _ _ (zrt ?_));(try simp only[zi,zj]);refine zR (v := .tuple #[zI 0, zI 5]) (res2 rfl (zgd rfl) (zgd rfl)) (zdf _) ?_;have e1 : appE D V kind l = 5 := by unfold appE; rw [if_neg (fun h => h hL), if_neg (by omega), if_neg (by rw [hr.1]; exact hn), if_pos hx]
 obtain ⟨e2, e3⟩ := app_no e1 (by decide);have e4 : appD D V kind l = D := if_pos (Or.inr (Or.inr (Or.inr (Or.inr hx))));rw [e1, e2, e3, e4];exact ⟨_, rfl, (disk_close (D := D) hok (M12.arr [0, 1, 2, 3, 4] (by decide)))⟩
theorem app_ok {D : DV} {V : FV} {f p pg mb : Nat} {qv : Value} {w : World} (hM : zM w [disk D p pg mb qv, blk f 117 (fC V p)]) (kind : Int) (ao : Option Addr) (n c : Nat) (l : List UInt8) (hr : Row w ao n l) (hF : ∀ b o, ao = some ⟨b, o, none⟩ → 0 < n → b ∉ foots [disk D p pg mb qv, blk f 117 (fC V p)]) (hL : liveE D V = 0) (hk : 1 ≤ kind ∧ kind ≤ 3) (hn : ¬ 246 < n) (hx : V.next < (D.pages.length : Int)) (hq : D.q.length ≤ 500000000000) (hV : FOk D V) : zC 54 [zP f 0, zI kind, .slice ao n c] w fun e w' => ∃ qv', e = .returned (.tuple #[zI (appN D V kind l), zI (appE D V kind l)]) ∧ zD w [disk D p pg mb qv, blk f 117 (fC V p)] w' [disk (appD D V kind l) p pg mb qv', blk f 117 (fC (appV D V kind l) p)] := by
 obtain ⟨hok, M⟩ := disk_open hM;clear hM;have hhi := hok.hi;have hnl := hr.1;have hlo := hV.lo;go_enter Try.func54, Try.ntmps54;refine zin ?_;refine zk fun K1 hK1 => zr ?_;refine zp 2 rfl ?_;refine zw (hK1 _ _ (zk fun K2 hK2 => zk fun K3 hK3 => zr ?_));refine zp 1 rfl ?_;have M4 := M.pk [0, 1, 2, 3, 4];simp only[Y3,Y4,Y1,Y2]at M4;clear M;have hlv : Mem w _ w ([disk D p pg mb (qv), blk f 117 (fC V p)] ++ []) := disk_close hok M4;refine zca 49 [zP f 0] rfl zc49 (live_any (Mem.h2 hlv)) ?_;rintro e w5 ⟨rfl, H5⟩;have M5 := (disk_open (R := [blk f 117 (fC V p)] ++ []) (Mem.f2 hlv H5)).2;(try simp only[Y1,Y2]at M5);refine ⟨_, rfl, ?_⟩;refine zp 1 rfl ?_;refine zw (hK3 _ _ (zk fun K6 hK6 => zr ?_));refine zp 1 rfl (zo M5 (zneq (b := false) rfl (by rw [decide_eq_true hL]; rfl)) ?_);refine zw (hK6 _ _ (zcf rfl (zsk (hK2 _ _ (zk fun K7 hK7 => ?_)))));refine zbl (zk fun K8 hK8 => zr ?_);refine zp 1 rfl (zo M5 (zlss rfl (zF (by omega))) (zp 2 rfl (zo M5 (zgtr rfl (zF (by omega))) (zp 2 rfl ?_))));refine zw (hK8 _ _ (zcf rfl (zk fun K9 hK9 => zr ?_)));refine zp 1 rfl (zo M5 (y_len (zwn rfl) rfl (zev rfl) zu44) (zo M5 (zgtr rfl (zF (by omega))) (zp 1 rfl ?_)));refine zw (hK9 _ _ (zcf rfl (zk fun K10 hK10 => ?_)));have M11 := M5.drew;have hzM11 := M11.pk [4];simp only[Y3,Y4,Y1,Y2]at hzM11;refine zhb hzM11 (by kernel_rfl) fun hS => ?_;refine zt 0 rfl (zy rfl) hS (zt 1 rfl (zy rfl) hS (zt 2 rfl (zf 6 zu117 rfl zz3) hS (zt 3 rfl (zl 0 rfl zg3) hS (zt 4 rfl (zy rfl) hS (zt 5 rfl (zy rfl) hS (zt 6 rfl (zf 0 zu117 rfl zz24) hS (zt 7 rfl (zl 0 rfl zg24) hS ?_)))))));refine held_step 8 (by kernel_rfl) rfl (by rfl) (fun K hK => ?_);refine e_call 47 [zP p 0] rfl (zls_eval rfl) Try.call47 (pages_any (Mem.h1 (disk_close hok M11)) ) ?_;rintro e w12 ⟨rfl, H12⟩;have M12 := (disk_open (Mem.f1 (disk_close hok M11) H12)).2;(try simp only[Y1,Y2]at M12);refine ⟨_, rfl, ?_⟩;refine hK.out _ _ (M12.arr [4] (by decide)) (fun hS => zpa ?_);refine zt 9 rfl (zgeq rfl (zF (by omega))) hS (zt 10 rfl (zy rfl) hS ?_);refine held_done (by kernel_rfl) (hK10 _ _ ?_) _;refine zcf rfl (zsk (hK7 _ _ (zk fun K13 hK13 => zr ?_)));refine zp 3 rfl (zo M12 (zf 6 zu117 rfl zz3) (zo M12 (zl 4 rfl zg3) (zp 1 rfl ?_)));refine zca 82 [zI kind, zI V.next, .slice ao n c] rfl Try.call82 (pack_okI kind V.next ao n c l _ (M12.row hr hF) hk ⟨by omega, by omega⟩ (by omega)) ?_;rintro e w14 ⟨gp, cp, rfl, H⟩;have M14 := M12.step H;simp only[Y1,Y2]at M14;refine ⟨_, rfl, ?_⟩;refine zp 5 rfl ?_;refine zw (hK13 _ _ (zk fun K15 hK15 => zk fun K16 hK16 => zr ?_));refine zp 1 rfl (zo M14 (zneq (b := false) rfl (by rw [decide_eq_true rfl]; rfl)) ?_);refine zw (hK16 _ _ (zcf rfl (zsk (hK15 _ _ (zk fun K17 hK17 => ?_)))));refine zk fun K18 hK18 => ?_;have M19 := M14.drew;have hzM19 := M19.pk [5];simp only[Y3,Y4,Y1,Y2]at hzM19;refine zhb hzM19 (by kernel_rfl) fun hS => ?_;refine zt 0 rfl (zy rfl) hS (zt 1 rfl (zy rfl) hS (zt 2 rfl (zf 0 zu117 rfl zz24) hS (zt 3 rfl (zl 0 rfl zg24) hS (zt 4 rfl (zy rfl) hS (zt 5 rfl (zy rfl) hS (zt 6 rfl (zf 6 zu117 rfl zz3) hS (zt 7 rfl (zl 0 rfl zg3) hS ?_)))))));refine zt 8 rfl (zy rfl) hS ?_;have M20 := M19.pk [1, 2, 3, 4, 0, 5];simp only[Y3,Y4,Y1,Y2]at M20;refine held_step 9 (by kernel_rfl) rfl (by rfl) (fun K hK => ?_);have hnd : Mem w _ w14.drew [disk D p pg mb qv, lst 5 1 (zS gp 256 cp) 256 (bvs (pageB kind.toNat V.next.toNat l)), blk f 117 (fC V p)] := (disk_close hok M20);refine e_call 83 [zP p 0, zI V.next, zS gp 256 cp] rfl (zls_eval rfl) Try.call83 (write_any (Mem.h1 hnd) V.next (zA gp) 256 cp (pageB kind.toNat V.next.toNat l) (lst_row (M20.get 4 rfl)) (fun b o e _ hb => by cases e; exact hnd.apart 0 1 (by decide) rfl rfl (by simp [foots] at hb; exact hb) (by simp [lst, obs, Value.ownBlock])) (by omega) hq) ?_;rintro e w21 ⟨qv', rfl, H⟩;have M21 : Mem w _ w21 [disk (writeD D V.next (pageB kind.toNat V.next.toNat l)) p pg mb qv', lst 5 1 (zS gp 256 cp) 256 (bvs (pageB kind.toNat V.next.toNat l)), blk f 117 (fC V p)] := Mem.f1 hnd H;clear H hnd M20;refine ⟨_, rfl, ?_⟩;refine hK.out _ _ (M21.arr [2] (by decide)) (fun hS => zpa ?_);refine zt 10 rfl (zy rfl) hS ?_;refine held_done (by kernel_rfl) (hK18 _ _ ?_) _;refine zk fun K22 hK22 => zr ?_;refine zp 1 rfl ?_;rcases zem (writeE D V.next (pageB kind.toNat V.next.toNat l) = 0) with h23 | h23
 ·refine zo M21 (zneq (b := false) rfl (by rw [decide_eq_true h23]; rfl)) ?_;refine zw (hK22 _ _ (zcf rfl (zsk (hK17 _ _ (zk fun K24 hK24 => ?_)))));refine zr ?_;refine zp 2 rfl (zo M21 (zf 6 zu117 rfl zz3) (zo M21 (zl 2 rfl zg3) (zo M21 (y_add (r := V.next + 1) (zwn rfl) rfl (zev rfl) (zev rfl) (rfl) (by omega)) (zp 1 rfl (zo M21 (zf 6 zu117 rfl zz3) ?_)))));refine zso M21 2 (v := zI (V.next + 1)) rfl rfl zz3 (show (6 : Nat) < 8 by decide) fun w25 M25 => ?_;simp only[fC,Zg,Zh]at M25;refine zw (hK24 _ _ (zk fun K26 hK26 => zr ?_));refine zp 2 rfl (zo M25 (zf 6 zu117 rfl zz3) (zo M25 (zl 2 rfl zg3) (zo M25 (y_sub (r := V.next) (zwn rfl) rfl (zev rfl) (zev rfl) (by omega) (by omega)) (zp 2 rfl ?_))));refine zw (hK26 _ _ (zrt ?_));(try simp only[zi,zj]);refine zR (v := .tuple #[zI V.next, zI 0]) (res2 rfl (zgd rfl) (zgd rfl)) (zdf _) ?_;have e1 : appE D V kind l = writeE D V.next (pageB kind.toNat V.next.toNat l) := by unfold appE; rw [if_neg (fun h => h hL), if_neg (by omega), if_neg (by omega), if_neg (by omega)]
  have e4 : appD D V kind l = writeD D V.next (pageB kind.toNat V.next.toNat l) := if_neg (by omega);rw [h23] at e1;obtain ⟨e2, e3⟩ := app_yes e1;rw [e1, e2, e3, e4];exact ⟨_, rfl, M25.arr [0, 2] (by decide)⟩
 ·refine zo M21 (zneq (b := true) rfl (by rw [decide_eq_false h23]; rfl)) ?_;refine zw (hK22 _ _ (zct rfl (zk fun K27 hK27 => zr ?_)));refine zp 3 rfl ?_;refine zw (hK27 _ _ (zrt ?_));(try simp only[zi,zj]);refine zR (v := .tuple #[zI 0, zI (writeE D V.next (pageB kind.toNat V.next.toNat l))]) (res2 rfl (zgd rfl) (zgd rfl)) (zdf _) ?_;have e1 : appE D V kind l = writeE D V.next (pageB kind.toNat V.next.toNat l) := by unfold appE; rw [if_neg (fun h => h hL), if_neg (by omega), if_neg (by omega), if_neg (by omega)]
  have e4 : appD D V kind l = writeD D V.next (pageB kind.toNat V.next.toNat l) := if_neg (by omega);obtain ⟨e2, e3⟩ := app_no e1 h23;rw [e1, e2, e3, e4];exact ⟨_, rfl, M21.arr [0, 2] (by decide)⟩
theorem app_any {D : DV} {V : FV} {f p pg mb : Nat} {qv : Value} {w : World} (hM : Mem w (foots [disk D p pg mb qv, blk f 117 (fC V p)]) w [disk D p pg mb qv, blk f 117 (fC V p)]) (kind : Int) (ao : Option Addr) (n c : Nat) (l : List UInt8) (hr : Row w ao n l) (hF : ∀ b o, ao = some ⟨b, o, none⟩ → 0 < n → b ∉ foots [disk D p pg mb qv, blk f 117 (fC V p)]) (hq : D.q.length ≤ 500000000000) (hV : FOk D V) : Calls Try.prog 54 #[.pointer (some ⟨f, 0, none⟩), .int .i64 kind, .slice ao n c] w fun e w' => ∃ qv', e = .returned (.tuple #[.int .i64 (appN D V kind l), .int .i64 (appE D V kind l)]) ∧ Mem w (foots [disk D p pg mb qv, blk f 117 (fC V p)]) w' [disk (appD D V kind l) p pg mb qv', blk f 117 (fC (appV D V kind l) p)] := by
  by_cases hL : liveE D V = 0
  · rcases Int.lt_or_le kind 1 with h1 | h1
    · exact app_klow hM kind ao n c l hr hF hL h1
    · rcases Int.lt_or_le 3 kind with h2 | h2
      · exact app_khigh hM kind ao n c l hr hF hL h2
      · by_cases hn : 246 < n
        · exact app_long hM kind ao n c l hr hF hL ⟨h1, h2⟩ hn
        · rcases Int.lt_or_le V.next (D.pages.length : Int) with h3 | h3
          · exact app_ok hM kind ao n c l hr hF hL ⟨h1, h2⟩ hn h3 hq hV
          · exact app_full hM kind ao n c l hr hF hL ⟨h1, h2⟩ hn h3
  · exact app_dead hM kind ao n c l hr hF hL
end Go.Proofs.Ytmmkgkbjneebkaa

/- The file: Publish. -/
namespace Go.Proofs.Ytmmkgkbjneebkaa
set_option linter.unusedSectionVars false
open Go Go.RowKit
set_option maxRecDepth 100000
set_option maxHeartbeats 40000000
set_option linter.unusedVariables false
set_option linter.unusedSimpArgs false
def pubS (V : FV) (head : Int) : SupV := (⟨V.s.width, V.s.gen + 1, V.next, head, V.s.pages⟩ : SupV)
def pubR (D : DV) (V : FV) (head : Int) : DV × Int := if liveE D V ≠ 0 then (D, liveE D V) else if head ≠ 0 ∧ (head < 2 ∨ V.next ≤ head) then (D, 41) else if 1099511627776 ≤ V.s.gen then (D, 5) else runS [yS, wS (pubS V head), yS] D
def pubV (D : DV) (V : FV) (head : Int) : FV := if (pubR D V head).2 = 0 then { V with s := pubS V head } else V
theorem pub_no {D : DV} {V : FV} {head e : Int} {D' : DV} (h : pubR D V head = (D', e)) (he : e ≠ 0) : pubV D V head = V := by
  unfold pubV
  rw [h, if_neg he]
theorem pub_validS {D : DV} {V : FV} {head : Int} (hV : FOk D V) (hg : V.s.gen < 1099511627776) (hh : head = 0 ∨ (2 ≤ head ∧ head < V.next)) : ValidS (pubS V head) :=
  ⟨hV.valid.1, hV.valid.2.1, by have := hV.valid.2.2.1; show 0 ≤ V.s.gen + 1; omega, by show V.s.gen + 1 ≤ _; omega, hV.valid.2.2.2.2.1, hV.valid.2.2.2.2.2.1, hV.lo, hV.hi, hh⟩
theorem pub_dead {D : DV} {V : FV} {f p pg mb : Nat} {qv : Value} {w : World} (hM : zM w [disk D p pg mb qv, blk f 117 (fC V p)]) (head : Int) (hL : liveE D V ≠ 0) : zC 55 [zP f 0, zI head] w fun e w' => ∃ qv', e = .returned (zI (pubR D V head).2) ∧ zD w [disk D p pg mb qv, blk f 117 (fC V p)] w' [disk (pubR D V head).1 p pg mb qv', blk f 117 (fC (pubV D V head) p)] := by
 obtain ⟨hok, M⟩ := disk_open hM;clear hM;go_enter Try.func55, Try.ntmps55;refine zin ?_;refine zk fun K1 hK1 => zr ?_;refine zp 1 rfl ?_;refine zw (hK1 _ _ (zk fun K2 hK2 => zk fun K3 hK3 => zr ?_));refine zp 1 rfl ?_;have M4 := M.pk [0, 1, 2, 3, 4];simp only[Y3,Y4,Y1,Y2]at M4;clear M;have hlv : Mem w _ w ([disk D p pg mb (qv), blk f 117 (fC V p)] ++ []) := disk_close hok M4;refine zca 49 [zP f 0] rfl zc49 (live_any (Mem.h2 hlv)) ?_;rintro e w5 ⟨rfl, H5⟩;have M5 := (disk_open (R := [blk f 117 (fC V p)] ++ []) (Mem.f2 hlv H5)).2;(try simp only[Y1,Y2]at M5);refine ⟨_, rfl, ?_⟩;refine zp 1 rfl ?_;refine zw (hK3 _ _ (zk fun K6 hK6 => zr ?_));refine zp 1 rfl (zo M5 (zneq (b := true) rfl (by rw [decide_eq_false hL]; rfl)) ?_);refine zw (hK6 _ _ (zct rfl (zk fun K7 hK7 => zr ?_)));refine zp 2 rfl ?_;refine zw (hK7 _ _ (zrt ?_));(try simp only[zi,zj]);refine zR (v := zI (liveE D V)) (res1 rfl (zgd rfl)) (zdf _) ?_;have e1 : pubR D V head = (D, liveE D V) := if_pos hL;have e2 := pub_no e1 hL;rw [e2, e1];exact ⟨_, rfl, (disk_close (D := D) hok (M5.arr [0, 1, 2, 3, 4] (by decide)))⟩
theorem pub_low {D : DV} {V : FV} {f p pg mb : Nat} {qv : Value} {w : World} (hM : zM w [disk D p pg mb qv, blk f 117 (fC V p)]) (head : Int) (hL : liveE D V = 0) (h0 : head ≠ 0) (h1 : head < 2) : zC 55 [zP f 0, zI head] w fun e w' => ∃ qv', e = .returned (zI (pubR D V head).2) ∧ zD w [disk D p pg mb qv, blk f 117 (fC V p)] w' [disk (pubR D V head).1 p pg mb qv', blk f 117 (fC (pubV D V head) p)] := by
 obtain ⟨hok, M⟩ := disk_open hM;clear hM;go_enter Try.func55, Try.ntmps55;refine zin ?_;refine zk fun K1 hK1 => zr ?_;refine zp 1 rfl ?_;refine zw (hK1 _ _ (zk fun K2 hK2 => zk fun K3 hK3 => zr ?_));refine zp 1 rfl ?_;have M4 := M.pk [0, 1, 2, 3, 4];simp only[Y3,Y4,Y1,Y2]at M4;clear M;have hlv : Mem w _ w ([disk D p pg mb (qv), blk f 117 (fC V p)] ++ []) := disk_close hok M4;refine zca 49 [zP f 0] rfl zc49 (live_any (Mem.h2 hlv)) ?_;rintro e w5 ⟨rfl, H5⟩;have M5 := (disk_open (R := [blk f 117 (fC V p)] ++ []) (Mem.f2 hlv H5)).2;(try simp only[Y1,Y2]at M5);refine ⟨_, rfl, ?_⟩;refine zp 1 rfl ?_;refine zw (hK3 _ _ (zk fun K6 hK6 => zr ?_));refine zp 1 rfl (zo M5 (zneq (b := false) rfl (by rw [decide_eq_true hL]; rfl)) ?_);refine zw (hK6 _ _ (zcf rfl (zsk (hK2 _ _ (zk fun K7 hK7 => ?_)))));refine zk fun K8 hK8 => zr ?_;refine zp 1 rfl (zo M5 (zneq (b := true) rfl (by rw [decide_eq_false h0]; rfl)) (zp 2 rfl (zo M5 (zlss rfl (zT h1)) (zp 3 rfl ?_))));refine zp 6 rfl ?_;refine zw (hK8 _ _ (zct rfl (zk fun K9 hK9 => zr ?_)));refine zp 1 rfl ?_;refine zw (hK9 _ _ (zrt ?_));(try simp only[zi,zj]);refine zR (v := zI 41) (res1 rfl (zgd rfl)) (zdf _) ?_;have e1 : pubR D V head = (D, 41) := by unfold pubR; rw [if_neg (fun h => h hL), if_pos (by omega)]
 have e2 := pub_no e1 (by decide);rw [e2, e1];exact ⟨_, rfl, (disk_close (D := D) hok (M5.arr [0, 1, 2, 3, 4] (by decide)))⟩
theorem pub_high {D : DV} {V : FV} {f p pg mb : Nat} {qv : Value} {w : World} (hM : zM w [disk D p pg mb qv, blk f 117 (fC V p)]) (head : Int) (hL : liveE D V = 0) (h0 : head ≠ 0) (h1 : ¬ head < 2) (h2 : V.next ≤ head) : zC 55 [zP f 0, zI head] w fun e w' => ∃ qv', e = .returned (zI (pubR D V head).2) ∧ zD w [disk D p pg mb qv, blk f 117 (fC V p)] w' [disk (pubR D V head).1 p pg mb qv', blk f 117 (fC (pubV D V head) p)] := by
 obtain ⟨hok, M⟩ := disk_open hM;clear hM;go_enter Try.func55, Try.ntmps55;refine zin ?_;refine zk fun K1 hK1 => zr ?_;refine zp 1 rfl ?_;refine zw (hK1 _ _ (zk fun K2 hK2 => zk fun K3 hK3 => zr ?_));refine zp 1 rfl ?_;have M4 := M.pk [0, 1, 2, 3, 4];simp only[Y3,Y4,Y1,Y2]at M4;clear M;have hlv : Mem w _ w ([disk D p pg mb (qv), blk f 117 (fC V p)] ++ []) := disk_close hok M4;refine zca 49 [zP f 0] rfl zc49 (live_any (Mem.h2 hlv)) ?_;rintro e w5 ⟨rfl, H5⟩;have M5 := (disk_open (R := [blk f 117 (fC V p)] ++ []) (Mem.f2 hlv H5)).2;(try simp only[Y1,Y2]at M5);refine ⟨_, rfl, ?_⟩;refine zp 1 rfl ?_;refine zw (hK3 _ _ (zk fun K6 hK6 => zr ?_));refine zp 1 rfl (zo M5 (zneq (b := false) rfl (by rw [decide_eq_true hL]; rfl)) ?_);refine zw (hK6 _ _ (zcf rfl (zsk (hK2 _ _ (zk fun K7 hK7 => ?_)))));refine zk fun K8 hK8 => zr ?_;refine zp 1 rfl (zo M5 (zneq (b := true) rfl (by rw [decide_eq_false h0]; rfl)) (zp 2 rfl (zo M5 (zlss rfl (zF h1)) (zp 3 rfl ?_))));refine zp 1 rfl (zo M5 (zf 6 zu117 rfl zz3) (zo M5 (zl 4 rfl zg3) (zo M5 (zgeq rfl (zT h2)) (zp 2 rfl ?_))));refine zw (hK8 _ _ (zct rfl (zk fun K9 hK9 => zr ?_)));refine zp 1 rfl ?_;refine zw (hK9 _ _ (zrt ?_));(try simp only[zi,zj]);refine zR (v := zI 41) (res1 rfl (zgd rfl)) (zdf _) ?_;have e1 : pubR D V head = (D, 41) := by unfold pubR; rw [if_neg (fun h => h hL), if_pos (by omega)]
 have e2 := pub_no e1 (by decide);rw [e2, e1];exact ⟨_, rfl, (disk_close (D := D) hok (M5.arr [0, 1, 2, 3, 4] (by decide)))⟩
theorem pub_full_z {D : DV} {V : FV} {f p pg mb : Nat} {qv : Value} {w : World} (hM : zM w [disk D p pg mb qv, blk f 117 (fC V p)]) (head : Int) (hL : liveE D V = 0) (h0 : head = 0) (hg : 1099511627776 ≤ V.s.gen) : zC 55 [zP f 0, zI head] w fun e w' => ∃ qv', e = .returned (zI (pubR D V head).2) ∧ zD w [disk D p pg mb qv, blk f 117 (fC V p)] w' [disk (pubR D V head).1 p pg mb qv', blk f 117 (fC (pubV D V head) p)] := by
 obtain ⟨hok, M⟩ := disk_open hM;clear hM;go_enter Try.func55, Try.ntmps55;refine zin ?_;refine zk fun K1 hK1 => zr ?_;refine zp 1 rfl ?_;refine zw (hK1 _ _ (zk fun K2 hK2 => zk fun K3 hK3 => zr ?_));refine zp 1 rfl ?_;have M4 := M.pk [0, 1, 2, 3, 4];simp only[Y3,Y4,Y1,Y2]at M4;clear M;have hlv : Mem w _ w ([disk D p pg mb (qv), blk f 117 (fC V p)] ++ []) := disk_close hok M4;refine zca 49 [zP f 0] rfl zc49 (live_any (Mem.h2 hlv)) ?_;rintro e w5 ⟨rfl, H5⟩;have M5 := (disk_open (R := [blk f 117 (fC V p)] ++ []) (Mem.f2 hlv H5)).2;(try simp only[Y1,Y2]at M5);refine ⟨_, rfl, ?_⟩;refine zp 1 rfl ?_;refine zw (hK3 _ _ (zk fun K6 hK6 => zr ?_));refine zp 1 rfl (zo M5 (zneq (b := false) rfl (by rw [decide_eq_true hL]; rfl)) ?_);refine zw (hK6 _ _ (zcf rfl (zsk (hK2 _ _ (zk fun K7 hK7 => ?_)))));refine zk fun K8 hK8 => zr ?_;refine zp 1 rfl (zo M5 (zneq (b := false) rfl (by rw [decide_eq_true h0]; rfl)) (zp 6 rfl ?_));refine zp 6 rfl ?_;refine zw (hK8 _ _ (zcf rfl (zsk (hK7 _ _ (zk fun K9 hK9 => ?_)))));refine zk fun K10 hK10 => zr ?_;refine zp 2 rfl (zo M5 (zf 1 zu117 rfl zz40) (zo M5 (zf 2 zu40 rfl zz3) (zo M5 (zl 4 rfl zg3) (zo M5 (zgeq rfl (zT hg)) ?_))));refine zw (hK10 _ _ (zct rfl (zk fun K11 hK11 => zr ?_)));refine zp 1 rfl ?_;refine zw (hK11 _ _ (zrt ?_));(try simp only[zi,zj]);refine zR (v := zI 5) (res1 rfl (zgd rfl)) (zdf _) ?_;have e1 : pubR D V head = (D, 5) := by unfold pubR; rw [if_neg (fun h => h hL), if_neg (by omega), if_pos hg]
 have e2 := pub_no e1 (by decide);rw [e2, e1];exact ⟨_, rfl, (disk_close (D := D) hok (M5.arr [0, 1, 2, 3, 4] (by decide)))⟩
theorem pub_ok_z {D : DV} {V : FV} {f p pg mb : Nat} {qv : Value} {w : World} (hM : zM w [disk D p pg mb qv, blk f 117 (fC V p)]) (head : Int) (hL : liveE D V = 0) (h0 : head = 0) (hg : ¬ 1099511627776 ≤ V.s.gen) (hq : D.q.length ≤ 400000000000) (hV : FOk D V) : zC 55 [zP f 0, zI head] w fun e w' => ∃ qv', e = .returned (zI (pubR D V head).2) ∧ zD w [disk D p pg mb qv, blk f 117 (fC V p)] w' [disk (pubR D V head).1 p pg mb qv', blk f 117 (fC (pubV D V head) p)] := by
 obtain ⟨hok, M⟩ := disk_open hM;clear hM;have hv1 : ValidS (pubS V head) := pub_validS hV (by omega) (by omega);have hgl := hV.valid.2.2.1;go_enter Try.func55, Try.ntmps55;refine zin ?_;refine zk fun K1 hK1 => zr ?_;refine zp 1 rfl ?_;refine zw (hK1 _ _ (zk fun K2 hK2 => zk fun K3 hK3 => zr ?_));refine zp 1 rfl ?_;have M4 := M.pk [0, 1, 2, 3, 4];simp only[Y3,Y4,Y1,Y2]at M4;clear M;have hlv : Mem w _ w ([disk D p pg mb (qv), blk f 117 (fC V p)] ++ []) := disk_close hok M4;refine zca 49 [zP f 0] rfl zc49 (live_any (Mem.h2 hlv)) ?_;rintro e w5 ⟨rfl, H5⟩;have M5 := (disk_open (R := [blk f 117 (fC V p)] ++ []) (Mem.f2 hlv H5)).2;(try simp only[Y1,Y2]at M5);refine ⟨_, rfl, ?_⟩;refine zp 1 rfl ?_;refine zw (hK3 _ _ (zk fun K6 hK6 => zr ?_));refine zp 1 rfl (zo M5 (zneq (b := false) rfl (by rw [decide_eq_true hL]; rfl)) ?_);refine zw (hK6 _ _ (zcf rfl (zsk (hK2 _ _ (zk fun K7 hK7 => ?_)))));refine zk fun K8 hK8 => zr ?_;refine zp 1 rfl (zo M5 (zneq (b := false) rfl (by rw [decide_eq_true h0]; rfl)) (zp 6 rfl ?_));refine zp 6 rfl ?_;refine zw (hK8 _ _ (zcf rfl (zsk (hK7 _ _ (zk fun K9 hK9 => ?_)))));refine zk fun K10 hK10 => zr ?_;refine zp 2 rfl (zo M5 (zf 1 zu117 rfl zz40) (zo M5 (zf 2 zu40 rfl zz3) (zo M5 (zl 4 rfl zg3) (zo M5 (zgeq rfl (zF (by omega))) ?_))));refine zw (hK10 _ _ (zcf rfl (zsk (hK9 _ _ (zk fun K11 hK11 => ?_)))));refine zr ?_;refine zp 2 rfl (zo M5 (zf 1 zu117 rfl zz40) (zo M5 (y_loadb (cs := (supC V.s)) (zwn rfl) rfl (zev rfl) zu40 rfl (size_sup _) (fun W hW => hW.get 4 rfl) (rfl)) ?_));refine zal M5 (supC noSup) rfl zero_sup fun g6 w12 M12 => ?_;refine zsw M12 0 rfl (size_sup _) (sup_all _) rfl fun w13 M13 => ?_;simp only[Zg,Zh]at M13;refine zw (hK11 _ _ (zk fun K14 hK14 => zr ?_));refine zo M13 (zf 1 zu40 rfl zz3) (zo M13 (zl 0 rfl zg3) (zo M13 (y_add (r := V.s.gen + 1) (zwn rfl) rfl (zev rfl) (zev rfl) (rfl) (by omega)) (zo M13 (zf 1 zu40 rfl zz3) ?_)));refine zso M13 0 (v := zI (V.s.gen + 1)) rfl rfl zz3 (show (1 : Nat) < 5 by decide) ?_;intro w15 (M15 : Mem w _ w15 [blk g6 40 ([zI V.s.width, zI (V.s.gen + 1), zI V.s.mark, zI V.s.head, zI V.s.pages]), blk p 76 (dC D pg mb qv), blk pg 127 (pagesC D.pages), lst 129 257 qv D.q.length (qC D.q), mapq mb D.q, blk f 117 (fC V p)]);refine zw (hK14 _ _ (zk fun K16 hK16 => zr ?_));refine zp 2 rfl (zo M15 (zf 6 zu117 rfl zz3) (zo M15 (zl 5 rfl zg3) (zp 1 rfl (zo M15 (zf 2 zu40 rfl zz3) ?_))));refine zso M15 0 (v := zI V.next) rfl rfl zz3 (show (2 : Nat) < 5 by decide) fun w17 M17 => ?_;simp only[Zg,Zh]at M17;refine zo M17 (zf 3 zu40 rfl zz3) ?_;refine zso M17 0 (v := zI head) rfl rfl zz3 (show (3 : Nat) < 5 by decide) ?_;intro w18 (M18 : Mem w _ w18 [blk g6 40 (supC (pubS V head)), blk p 76 (dC D pg mb qv), blk pg 127 (pagesC D.pages), lst 129 257 qv D.q.length (qC D.q), mapq mb D.q, blk f 117 (fC V p)]);refine zw (hK16 _ _ (zk fun K19 hK19 => zk fun K20 hK20 => ?_));have M21 := M18.drew;have hzM21 := M21.pk [0, 5];simp only[Y3,Y4,Y1,Y2]at hzM21;refine zhb hzM21 (by kernel_rfl) fun hS => ?_;refine zt 0 rfl (zy rfl) hS (zt 1 rfl (zy rfl) hS (zt 2 rfl (zf 0 zu117 rfl zz24) hS (zt 3 rfl (zl 1 rfl zg24) hS ?_)));refine zt 4 rfl (y_func (fv := [zP p 0]) (cv := []) (zwn rfl) rfl (zls_eval rfl) (zls_eval rfl)) hS (zt 5 rfl (zy rfl) hS (zt 6 rfl (zy rfl) hS (zt 7 rfl (zf 0 zu117 rfl zz24) hS (zt 8 rfl (zl 1 rfl zg24) hS (zt 9 rfl (zlb 0 rfl zu40 rfl (size_sup _)) hS (zt 11 rfl (zy rfl) hS (zt 12 rfl (zy rfl) hS ?_)))))));refine zt 13 rfl (zf 0 zu117 rfl zz24) hS (zt 14 rfl (zl 1 rfl zg24) hS ?_);refine zt 15 rfl (y_func (fv := [zP p 0]) (cv := []) (zwn rfl) rfl (zls_eval rfl) (zls_eval rfl)) hS ?_;refine held_step 10 (by kernel_rfl) rfl (by rfl) (fun K hK => ?_);refine e_call 74 [zP p 0, .agg ((supC (pubS V head))).toArray] rfl (zls_eval rfl) Try.call74 (lay_any p (pubS V head) _) ?_;rintro e w22 ⟨gs1, gd1, rfl, H⟩;have M22 := M21.step H;simp only[Y1,Y2]at M22;refine ⟨_, rfl, ?_⟩;refine hK.out _ _ (M22.arr [2, 7] (by decide)) (fun hS => zpa ?_);refine held_step 16 (by kernel_rfl) rfl (by rfl) (fun K hK => ?_);refine e_bslice M22 ([.func (.func 75) #[zP p 0] #[], .func (.func 94) #[] #[zP gs1 0, zP gd1 0], .func (.func 75) #[zP p 0] #[]]) (pv := [(0, .func (.func 75) #[zP p 0] #[]), (1, .func (.func 94) #[] #[zP gs1 0, zP gd1 0]), (2, .func (.func 75) #[zP p 0] #[])]) rfl (zep rfl) zu168 Try.sizeOf147 Try.zeroValue147 (by decide) (by kernel_rfl) ?_;intro g23 w24 M24;refine hK.out _ _ (M24.arr [3, 8] (by decide)) (fun hS => zpa ?_);have M25 := M24.pk [4, 5, 6, 7, 0, 1, 2, 3, 8];simp only[Y3,Y4,Y1,Y2]at M25;refine held_step 17 (by kernel_rfl) rfl (by rfl) (fun K hK => ?_)
 have hino := fun (W0 : World) (qv0 : Value) (hM0 : zD w [disk D p pg mb qv, blk f 117 (fC V p)] W0 (disk (D) p pg mb qv0 :: [blk g23 147 ([.func (.func 75) #[zP p 0] #[], .func (.func 94) #[] #[zP gs1 0, zP gd1 0], .func (.func 75) #[zP p 0] #[]]), blk gs1 40 (supC (pubS V head)), blk gd1 24 ([zP p 0]), blk g6 40 (supC (pubS V head)), blk f 117 (fC V p)])) => disk_steps (p := p) (pg := pg) (mb := mb) (gt := g23) (X := [blk g23 147 ([.func (.func 75) #[zP p 0] #[], .func (.func 94) #[] #[zP gs1 0, zP gd1 0], .func (.func 75) #[zP p 0] #[]]), blk gs1 40 (supC (pubS V head)), blk gd1 24 ([zP p 0]), blk g6 40 (supC (pubS V head)), blk f 117 (fC V p)]) [(⟨75, [zP p 0], []⟩ : Stp), (⟨94, [], [zP gs1 0, zP gd1 0]⟩ : Stp), (⟨75, [zP p 0], []⟩ : Stp)] [yS, wS (pubS V head), yS] rfl (by simp)
   (fun W hX i x hx => by
     have hb : (blk g23 147 ([.func (.func 75) #[zP p 0] #[], .func (.func 94) #[] #[zP gs1 0, zP gd1 0], .func (.func 75) #[zP p 0] #[]])).holds W := hX _ (List.mem_of_getElem? (i := 0) rfl);match i, hx with
     | 0, hx => cases hx; exact cell_of_blk hb rfl;| 1, hx => cases hx; exact cell_of_blk hb rfl;| 2, hx => cases hx; exact cell_of_blk hb rfl;| i + 3, hx => simp at hx)
   (fun x hx ar w => by
     simp only [List.mem_cons, List.not_mem_nil, or_false] at hx;rcases hx with rfl | rfl | rfl
     ·exact zc75 ar w
     ·exact Try.call94 ar w
     ·exact zc75 ar w
     )
   (fun i x f hx hf E qvx W hE hM => by
   match i, hx, hf with
   | 0, hx, hf =>
     cases hx; cases hf; exact sync_each E qvx W hM
   | 1, hx, hf =>
     cases hx; cases hf
     have h2 : Mem w _ W (disk E p pg mb qvx :: blk gs1 40 (supC (pubS V head)) :: blk gd1 24 [zP p 0] :: [blk g23 147 ([.func (.func 75) #[zP p 0] #[], .func (.func 94) #[] #[zP gs1 0, zP gd1 0], .func (.func 75) #[zP p 0] #[]]), blk g6 40 (supC (pubS V head)), blk f 117 (fC V p)]) := hM.arr [0, 2, 3, 1, 4, 5] (by decide);refine (laid_each (X := [blk g23 147 ([.func (.func 75) #[zP p 0] #[], .func (.func 94) #[] #[zP gs1 0, zP gd1 0], .func (.func 75) #[zP p 0] #[]]), blk g6 40 (supC (pubS V head)), blk f 117 (fC V p)]) hv1 E qvx W hE h2).mono ?_;rintro e w' ⟨qv', rfl, h3⟩;exact ⟨qv', rfl, h3.arr [0, 3, 1, 2, 4, 5] (by decide)⟩
   | 2, hx, hf =>
     cases hx; cases hf; exact sync_each E qvx W hM
   | i + 3, hx, hf => simp at hx)
   (fun f hf E => by
     simp only [List.mem_cons, List.not_mem_nil, or_false] at hf;rcases hf with rfl | rfl | rfl
     ·exact yS_q E
     ·exact wS_q _ E
     ·exact yS_q E
     ) (qv := qv0) hq hM0
 refine e_call 73 [zS g23 3 3] rfl (zls_eval rfl) Try.call73 (hino _ _ (disk_close hok M25)) ?_;rintro e w26 ⟨qv', rfl, H⟩;have M26 : Mem w _ w26 [disk (runS [yS, wS (pubS V head), yS] (D)).1 p pg mb qv', blk g23 147 ([.func (.func 75) #[zP p 0] #[], .func (.func 94) #[] #[zP gs1 0, zP gd1 0], .func (.func 75) #[zP p 0] #[]]), blk gs1 40 (supC (pubS V head)), blk gd1 24 ([zP p 0]), blk g6 40 (supC (pubS V head)), blk f 117 (fC V p)] := H;clear H hino M25;refine ⟨_, rfl, ?_⟩;refine hK.out _ _ (M26.arr [4, 5] (by decide)) (fun hS => zpa ?_);refine zt 18 rfl (zy rfl) hS ?_;refine held_done (by kernel_rfl) (hK20 _ _ ?_) _;refine zk fun K27 hK27 => zr ?_;refine zp 1 rfl ?_;rcases zem ((runS [yS, wS (pubS V head), yS] (D)).2 = 0) with h28 | h28
 ·refine zo M26 (zneq (b := false) rfl (by rw [decide_eq_true h28]; rfl)) ?_;refine zw (hK27 _ _ (zcf rfl (zsk (hK19 _ _ (zk fun K29 hK29 => ?_)))));refine zr ?_;refine zp 1 rfl (zo M26 (zlb 4 rfl zu40 rfl (size_sup _)) (zp 1 rfl (zo M26 (zf 1 zu117 rfl zz40) ?_)));refine pe (zwn rfl) fun K hK => e_storer M26 5 (cs := (supC (pubS V head))) rfl rfl (zev rfl) (zev rfl) (size_sup _) (sup_all _) rfl (by show 1 + 5 ≤ 8; decide) ?_;intro w30 M30;replace M30 : zD w [disk D p pg mb qv, blk f 117 (fC V p)] w30 [disk (runS [yS, wS (pubS V head), yS] (D)).1 p pg mb qv', blk g23 147 ([.func (.func 75) #[zP p 0] #[], .func (.func 94) #[] #[zP gs1 0, zP gd1 0], .func (.func 75) #[zP p 0] #[]]), blk gs1 40 (supC (pubS V head)), blk gd1 24 ([zP p 0]), blk g6 40 (supC (pubS V head)), blk f 117 (fC { V with s := pubS V head } p)] := M30;refine hK.out _ _ (zpu ?_);refine zw (hK29 _ _ (zk fun K31 hK31 => zr ?_));refine zp 1 rfl ?_;refine zw (hK31 _ _ (zrt ?_));(try simp only[zi,zj]);refine zR (v := zI 0) (res1 rfl (zgd rfl)) (zdf _) ?_;have e1 : pubR D V head = runS [yS, wS (pubS V head), yS] D := by unfold pubR; rw [if_neg (fun h => h hL), if_neg (by omega), if_neg (by omega)]
  have e2 : pubV D V head = { V with s := pubS V head } := if_pos (by rw [e1]; exact h28);rw [e2, e1, h28];exact ⟨_, rfl, M30.arr [0, 5] (by decide)⟩
 ·refine zo M26 (zneq (b := true) rfl (by rw [decide_eq_false h28]; rfl)) ?_;refine zw (hK27 _ _ (zct rfl (zk fun K32 hK32 => zr ?_)));refine zp 2 rfl ?_;refine zw (hK32 _ _ (zrt ?_));(try simp only[zi,zj]);refine zR (v := zI ((runS [yS, wS (pubS V head), yS] (D)).2)) (res1 rfl (zgd rfl)) (zdf _) ?_;have e1 : pubR D V head = runS [yS, wS (pubS V head), yS] D := by unfold pubR; rw [if_neg (fun h => h hL), if_neg (by omega), if_neg (by omega)]
  have e2 : pubV D V head = V := if_neg (by rw [e1]; exact h28);rw [e2, e1];exact ⟨_, rfl, M26.arr [0, 5] (by decide)⟩
theorem pub_full_h {D : DV} {V : FV} {f p pg mb : Nat} {qv : Value} {w : World} (hM : zM w [disk D p pg mb qv, blk f 117 (fC V p)]) (head : Int) (hL : liveE D V = 0) (h0 : head ≠ 0) (h1 : ¬ head < 2) (h2 : ¬ V.next ≤ head) (hg : 1099511627776 ≤ V.s.gen) : zC 55 [zP f 0, zI head] w fun e w' => ∃ qv', e = .returned (zI (pubR D V head).2) ∧ zD w [disk D p pg mb qv, blk f 117 (fC V p)] w' [disk (pubR D V head).1 p pg mb qv', blk f 117 (fC (pubV D V head) p)] := by
 obtain ⟨hok, M⟩ := disk_open hM;clear hM;go_enter Try.func55, Try.ntmps55;refine zin ?_;refine zk fun K1 hK1 => zr ?_;refine zp 1 rfl ?_;refine zw (hK1 _ _ (zk fun K2 hK2 => zk fun K3 hK3 => zr ?_));refine zp 1 rfl ?_;have M4 := M.pk [0, 1, 2, 3, 4];simp only[Y3,Y4,Y1,Y2]at M4;clear M;have hlv : Mem w _ w ([disk D p pg mb (qv), blk f 117 (fC V p)] ++ []) := disk_close hok M4;refine zca 49 [zP f 0] rfl zc49 (live_any (Mem.h2 hlv)) ?_;rintro e w5 ⟨rfl, H5⟩;have M5 := (disk_open (R := [blk f 117 (fC V p)] ++ []) (Mem.f2 hlv H5)).2;(try simp only[Y1,Y2]at M5);refine ⟨_, rfl, ?_⟩;refine zp 1 rfl ?_;refine zw (hK3 _ _ (zk fun K6 hK6 => zr ?_));refine zp 1 rfl (zo M5 (zneq (b := false) rfl (by rw [decide_eq_true hL]; rfl)) ?_);refine zw (hK6 _ _ (zcf rfl (zsk (hK2 _ _ (zk fun K7 hK7 => ?_)))));refine zk fun K8 hK8 => zr ?_;refine zp 1 rfl (zo M5 (zneq (b := true) rfl (by rw [decide_eq_false h0]; rfl)) (zp 2 rfl (zo M5 (zlss rfl (zF h1)) (zp 3 rfl ?_))));refine zp 1 rfl (zo M5 (zf 6 zu117 rfl zz3) (zo M5 (zl 4 rfl zg3) (zo M5 (zgeq rfl (zF h2)) (zp 2 rfl ?_))));refine zw (hK8 _ _ (zcf rfl (zsk (hK7 _ _ (zk fun K9 hK9 => ?_)))));refine zk fun K10 hK10 => zr ?_;refine zp 2 rfl (zo M5 (zf 1 zu117 rfl zz40) (zo M5 (zf 2 zu40 rfl zz3) (zo M5 (zl 4 rfl zg3) (zo M5 (zgeq rfl (zT hg)) ?_))));refine zw (hK10 _ _ (zct rfl (zk fun K11 hK11 => zr ?_)));refine zp 1 rfl ?_;refine zw (hK11 _ _ (zrt ?_));(try simp only[zi,zj]);refine zR (v := zI 5) (res1 rfl (zgd rfl)) (zdf _) ?_;have e1 : pubR D V head = (D, 5) := by unfold pubR; rw [if_neg (fun h => h hL), if_neg (by omega), if_pos hg]
 have e2 := pub_no e1 (by decide);rw [e2, e1];exact ⟨_, rfl, (disk_close (D := D) hok (M5.arr [0, 1, 2, 3, 4] (by decide)))⟩
theorem pub_ok_h {D : DV} {V : FV} {f p pg mb : Nat} {qv : Value} {w : World} (hM : zM w [disk D p pg mb qv, blk f 117 (fC V p)]) (head : Int) (hL : liveE D V = 0) (h0 : head ≠ 0) (h1 : ¬ head < 2) (h2 : ¬ V.next ≤ head) (hg : ¬ 1099511627776 ≤ V.s.gen) (hq : D.q.length ≤ 400000000000) (hV : FOk D V) : zC 55 [zP f 0, zI head] w fun e w' => ∃ qv', e = .returned (zI (pubR D V head).2) ∧ zD w [disk D p pg mb qv, blk f 117 (fC V p)] w' [disk (pubR D V head).1 p pg mb qv', blk f 117 (fC (pubV D V head) p)] := by
 obtain ⟨hok, M⟩ := disk_open hM;clear hM;have hv1 : ValidS (pubS V head) := pub_validS hV (by omega) (by omega);have hgl := hV.valid.2.2.1;go_enter Try.func55, Try.ntmps55;refine zin ?_;refine zk fun K1 hK1 => zr ?_;refine zp 1 rfl ?_;refine zw (hK1 _ _ (zk fun K2 hK2 => zk fun K3 hK3 => zr ?_));refine zp 1 rfl ?_;have M4 := M.pk [0, 1, 2, 3, 4];simp only[Y3,Y4,Y1,Y2]at M4;clear M;have hlv : Mem w _ w ([disk D p pg mb (qv), blk f 117 (fC V p)] ++ []) := disk_close hok M4;refine zca 49 [zP f 0] rfl zc49 (live_any (Mem.h2 hlv)) ?_;rintro e w5 ⟨rfl, H5⟩;have M5 := (disk_open (R := [blk f 117 (fC V p)] ++ []) (Mem.f2 hlv H5)).2;(try simp only[Y1,Y2]at M5);refine ⟨_, rfl, ?_⟩;refine zp 1 rfl ?_;refine zw (hK3 _ _ (zk fun K6 hK6 => zr ?_));refine zp 1 rfl (zo M5 (zneq (b := false) rfl (by rw [decide_eq_true hL]; rfl)) ?_);refine zw (hK6 _ _ (zcf rfl (zsk (hK2 _ _ (zk fun K7 hK7 => ?_)))));refine zk fun K8 hK8 => zr ?_;refine zp 1 rfl (zo M5 (zneq (b := true) rfl (by rw [decide_eq_false h0]; rfl)) (zp 2 rfl (zo M5 (zlss rfl (zF h1)) (zp 3 rfl ?_))));refine zp 1 rfl (zo M5 (zf 6 zu117 rfl zz3) (zo M5 (zl 4 rfl zg3) (zo M5 (zgeq rfl (zF h2)) (zp 2 rfl ?_))));refine zw (hK8 _ _ (zcf rfl (zsk (hK7 _ _ (zk fun K9 hK9 => ?_)))));refine zk fun K10 hK10 => zr ?_;refine zp 2 rfl (zo M5 (zf 1 zu117 rfl zz40) (zo M5 (zf 2 zu40 rfl zz3) (zo M5 (zl 4 rfl zg3) (zo M5 (zgeq rfl (zF (by omega))) ?_))));refine zw (hK10 _ _ (zcf rfl (zsk (hK9 _ _ (zk fun K11 hK11 => ?_)))));refine zr ?_;refine zp 2 rfl (zo M5 (zf 1 zu117 rfl zz40) (zo M5 (y_loadb (cs := (supC V.s)) (zwn rfl) rfl (zev rfl) zu40 rfl (size_sup _) (fun W hW => hW.get 4 rfl) (rfl)) ?_));refine zal M5 (supC noSup) rfl zero_sup fun g6 w12 M12 => ?_;refine zsw M12 0 rfl (size_sup _) (sup_all _) rfl fun w13 M13 => ?_;simp only[Zg,Zh]at M13;refine zw (hK11 _ _ (zk fun K14 hK14 => zr ?_));refine zo M13 (zf 1 zu40 rfl zz3) (zo M13 (zl 0 rfl zg3) (zo M13 (y_add (r := V.s.gen + 1) (zwn rfl) rfl (zev rfl) (zev rfl) (rfl) (by omega)) (zo M13 (zf 1 zu40 rfl zz3) ?_)));refine zso M13 0 (v := zI (V.s.gen + 1)) rfl rfl zz3 (show (1 : Nat) < 5 by decide) ?_;intro w15 (M15 : Mem w _ w15 [blk g6 40 ([zI V.s.width, zI (V.s.gen + 1), zI V.s.mark, zI V.s.head, zI V.s.pages]), blk p 76 (dC D pg mb qv), blk pg 127 (pagesC D.pages), lst 129 257 qv D.q.length (qC D.q), mapq mb D.q, blk f 117 (fC V p)]);refine zw (hK14 _ _ (zk fun K16 hK16 => zr ?_));refine zp 2 rfl (zo M15 (zf 6 zu117 rfl zz3) (zo M15 (zl 5 rfl zg3) (zp 1 rfl (zo M15 (zf 2 zu40 rfl zz3) ?_))));refine zso M15 0 (v := zI V.next) rfl rfl zz3 (show (2 : Nat) < 5 by decide) fun w17 M17 => ?_;simp only[Zg,Zh]at M17;refine zo M17 (zf 3 zu40 rfl zz3) ?_;refine zso M17 0 (v := zI head) rfl rfl zz3 (show (3 : Nat) < 5 by decide) ?_;intro w18 (M18 : Mem w _ w18 [blk g6 40 (supC (pubS V head)), blk p 76 (dC D pg mb qv), blk pg 127 (pagesC D.pages), lst 129 257 qv D.q.length (qC D.q), mapq mb D.q, blk f 117 (fC V p)]);refine zw (hK16 _ _ (zk fun K19 hK19 => zk fun K20 hK20 => ?_));have M21 := M18.drew;have hzM21 := M21.pk [0, 5];simp only[Y3,Y4,Y1,Y2]at hzM21;refine zhb hzM21 (by kernel_rfl) fun hS => ?_;refine zt 0 rfl (zy rfl) hS (zt 1 rfl (zy rfl) hS (zt 2 rfl (zf 0 zu117 rfl zz24) hS (zt 3 rfl (zl 1 rfl zg24) hS ?_)));refine zt 4 rfl (y_func (fv := [zP p 0]) (cv := []) (zwn rfl) rfl (zls_eval rfl) (zls_eval rfl)) hS (zt 5 rfl (zy rfl) hS (zt 6 rfl (zy rfl) hS (zt 7 rfl (zf 0 zu117 rfl zz24) hS (zt 8 rfl (zl 1 rfl zg24) hS (zt 9 rfl (zlb 0 rfl zu40 rfl (size_sup _)) hS (zt 11 rfl (zy rfl) hS (zt 12 rfl (zy rfl) hS ?_)))))));refine zt 13 rfl (zf 0 zu117 rfl zz24) hS (zt 14 rfl (zl 1 rfl zg24) hS ?_);refine zt 15 rfl (y_func (fv := [zP p 0]) (cv := []) (zwn rfl) rfl (zls_eval rfl) (zls_eval rfl)) hS ?_;refine held_step 10 (by kernel_rfl) rfl (by rfl) (fun K hK => ?_);refine e_call 74 [zP p 0, .agg ((supC (pubS V head))).toArray] rfl (zls_eval rfl) Try.call74 (lay_any p (pubS V head) _) ?_;rintro e w22 ⟨gs1, gd1, rfl, H⟩;have M22 := M21.step H;simp only[Y1,Y2]at M22;refine ⟨_, rfl, ?_⟩;refine hK.out _ _ (M22.arr [2, 7] (by decide)) (fun hS => zpa ?_);refine held_step 16 (by kernel_rfl) rfl (by rfl) (fun K hK => ?_);refine e_bslice M22 ([.func (.func 75) #[zP p 0] #[], .func (.func 94) #[] #[zP gs1 0, zP gd1 0], .func (.func 75) #[zP p 0] #[]]) (pv := [(0, .func (.func 75) #[zP p 0] #[]), (1, .func (.func 94) #[] #[zP gs1 0, zP gd1 0]), (2, .func (.func 75) #[zP p 0] #[])]) rfl (zep rfl) zu168 Try.sizeOf147 Try.zeroValue147 (by decide) (by kernel_rfl) ?_;intro g23 w24 M24;refine hK.out _ _ (M24.arr [3, 8] (by decide)) (fun hS => zpa ?_);have M25 := M24.pk [4, 5, 6, 7, 0, 1, 2, 3, 8];simp only[Y3,Y4,Y1,Y2]at M25;refine held_step 17 (by kernel_rfl) rfl (by rfl) (fun K hK => ?_)
 have hino := fun (W0 : World) (qv0 : Value) (hM0 : zD w [disk D p pg mb qv, blk f 117 (fC V p)] W0 (disk (D) p pg mb qv0 :: [blk g23 147 ([.func (.func 75) #[zP p 0] #[], .func (.func 94) #[] #[zP gs1 0, zP gd1 0], .func (.func 75) #[zP p 0] #[]]), blk gs1 40 (supC (pubS V head)), blk gd1 24 ([zP p 0]), blk g6 40 (supC (pubS V head)), blk f 117 (fC V p)])) => disk_steps (p := p) (pg := pg) (mb := mb) (gt := g23) (X := [blk g23 147 ([.func (.func 75) #[zP p 0] #[], .func (.func 94) #[] #[zP gs1 0, zP gd1 0], .func (.func 75) #[zP p 0] #[]]), blk gs1 40 (supC (pubS V head)), blk gd1 24 ([zP p 0]), blk g6 40 (supC (pubS V head)), blk f 117 (fC V p)]) [(⟨75, [zP p 0], []⟩ : Stp), (⟨94, [], [zP gs1 0, zP gd1 0]⟩ : Stp), (⟨75, [zP p 0], []⟩ : Stp)] [yS, wS (pubS V head), yS] rfl (by simp)
   (fun W hX i x hx => by
     have hb : (blk g23 147 ([.func (.func 75) #[zP p 0] #[], .func (.func 94) #[] #[zP gs1 0, zP gd1 0], .func (.func 75) #[zP p 0] #[]])).holds W := hX _ (List.mem_of_getElem? (i := 0) rfl);match i, hx with
     | 0, hx => cases hx; exact cell_of_blk hb rfl;| 1, hx => cases hx; exact cell_of_blk hb rfl;| 2, hx => cases hx; exact cell_of_blk hb rfl;| i + 3, hx => simp at hx)
   (fun x hx ar w => by
     simp only [List.mem_cons, List.not_mem_nil, or_false] at hx;rcases hx with rfl | rfl | rfl
     ·exact zc75 ar w
     ·exact Try.call94 ar w
     ·exact zc75 ar w
     )
   (fun i x f hx hf E qvx W hE hM => by
   match i, hx, hf with
   | 0, hx, hf =>
     cases hx; cases hf; exact sync_each E qvx W hM
   | 1, hx, hf =>
     cases hx; cases hf
     have h2 : Mem w _ W (disk E p pg mb qvx :: blk gs1 40 (supC (pubS V head)) :: blk gd1 24 [zP p 0] :: [blk g23 147 ([.func (.func 75) #[zP p 0] #[], .func (.func 94) #[] #[zP gs1 0, zP gd1 0], .func (.func 75) #[zP p 0] #[]]), blk g6 40 (supC (pubS V head)), blk f 117 (fC V p)]) := hM.arr [0, 2, 3, 1, 4, 5] (by decide);refine (laid_each (X := [blk g23 147 ([.func (.func 75) #[zP p 0] #[], .func (.func 94) #[] #[zP gs1 0, zP gd1 0], .func (.func 75) #[zP p 0] #[]]), blk g6 40 (supC (pubS V head)), blk f 117 (fC V p)]) hv1 E qvx W hE h2).mono ?_;rintro e w' ⟨qv', rfl, h3⟩;exact ⟨qv', rfl, h3.arr [0, 3, 1, 2, 4, 5] (by decide)⟩
   | 2, hx, hf =>
     cases hx; cases hf; exact sync_each E qvx W hM
   | i + 3, hx, hf => simp at hx)
   (fun f hf E => by
     simp only [List.mem_cons, List.not_mem_nil, or_false] at hf;rcases hf with rfl | rfl | rfl
     ·exact yS_q E
     ·exact wS_q _ E
     ·exact yS_q E
     ) (qv := qv0) hq hM0
 refine e_call 73 [zS g23 3 3] rfl (zls_eval rfl) Try.call73 (hino _ _ (disk_close hok M25)) ?_;rintro e w26 ⟨qv', rfl, H⟩;have M26 : Mem w _ w26 [disk (runS [yS, wS (pubS V head), yS] (D)).1 p pg mb qv', blk g23 147 ([.func (.func 75) #[zP p 0] #[], .func (.func 94) #[] #[zP gs1 0, zP gd1 0], .func (.func 75) #[zP p 0] #[]]), blk gs1 40 (supC (pubS V head)), blk gd1 24 ([zP p 0]), blk g6 40 (supC (pubS V head)), blk f 117 (fC V p)] := H;clear H hino M25;refine ⟨_, rfl, ?_⟩;refine hK.out _ _ (M26.arr [4, 5] (by decide)) (fun hS => zpa ?_);refine zt 18 rfl (zy rfl) hS ?_;refine held_done (by kernel_rfl) (hK20 _ _ ?_) _;refine zk fun K27 hK27 => zr ?_;refine zp 1 rfl ?_;rcases zem ((runS [yS, wS (pubS V head), yS] (D)).2 = 0) with h28 | h28
 ·refine zo M26 (zneq (b := false) rfl (by rw [decide_eq_true h28]; rfl)) ?_;refine zw (hK27 _ _ (zcf rfl (zsk (hK19 _ _ (zk fun K29 hK29 => ?_)))));refine zr ?_;refine zp 1 rfl (zo M26 (zlb 4 rfl zu40 rfl (size_sup _)) (zp 1 rfl (zo M26 (zf 1 zu117 rfl zz40) ?_)));refine pe (zwn rfl) fun K hK => e_storer M26 5 (cs := (supC (pubS V head))) rfl rfl (zev rfl) (zev rfl) (size_sup _) (sup_all _) rfl (by show 1 + 5 ≤ 8; decide) ?_;intro w30 M30;replace M30 : zD w [disk D p pg mb qv, blk f 117 (fC V p)] w30 [disk (runS [yS, wS (pubS V head), yS] (D)).1 p pg mb qv', blk g23 147 ([.func (.func 75) #[zP p 0] #[], .func (.func 94) #[] #[zP gs1 0, zP gd1 0], .func (.func 75) #[zP p 0] #[]]), blk gs1 40 (supC (pubS V head)), blk gd1 24 ([zP p 0]), blk g6 40 (supC (pubS V head)), blk f 117 (fC { V with s := pubS V head } p)] := M30;refine hK.out _ _ (zpu ?_);refine zw (hK29 _ _ (zk fun K31 hK31 => zr ?_));refine zp 1 rfl ?_;refine zw (hK31 _ _ (zrt ?_));(try simp only[zi,zj]);refine zR (v := zI 0) (res1 rfl (zgd rfl)) (zdf _) ?_;have e1 : pubR D V head = runS [yS, wS (pubS V head), yS] D := by unfold pubR; rw [if_neg (fun h => h hL), if_neg (by omega), if_neg (by omega)]
  have e2 : pubV D V head = { V with s := pubS V head } := if_pos (by rw [e1]; exact h28);rw [e2, e1, h28];exact ⟨_, rfl, M30.arr [0, 5] (by decide)⟩
 ·refine zo M26 (zneq (b := true) rfl (by rw [decide_eq_false h28]; rfl)) ?_;refine zw (hK27 _ _ (zct rfl (zk fun K32 hK32 => zr ?_)));refine zp 2 rfl ?_;refine zw (hK32 _ _ (zrt ?_));(try simp only[zi,zj]);refine zR (v := zI ((runS [yS, wS (pubS V head), yS] (D)).2)) (res1 rfl (zgd rfl)) (zdf _) ?_;have e1 : pubR D V head = runS [yS, wS (pubS V head), yS] D := by unfold pubR; rw [if_neg (fun h => h hL), if_neg (by omega), if_neg (by omega)]
  have e2 : pubV D V head = V := if_neg (by rw [e1]; exact h28);rw [e2, e1];exact ⟨_, rfl, M26.arr [0, 5] (by decide)⟩
theorem pub_any {D : DV} {V : FV} {f p pg mb : Nat} {qv : Value} {w : World} (hM : Mem w (foots [disk D p pg mb qv, blk f 117 (fC V p)]) w [disk D p pg mb qv, blk f 117 (fC V p)]) (head : Int) (hq : D.q.length ≤ 400000000000) (hV : FOk D V) : Calls Try.prog 55 #[.pointer (some ⟨f, 0, none⟩), .int .i64 head] w fun e w' => ∃ qv', e = .returned (.int .i64 (pubR D V head).2) ∧ Mem w (foots [disk D p pg mb qv, blk f 117 (fC V p)]) w' [disk (pubR D V head).1 p pg mb qv', blk f 117 (fC (pubV D V head) p)] := by
  by_cases hL : liveE D V = 0
  · by_cases h0 : head = 0
    · by_cases hg : 1099511627776 ≤ V.s.gen
      · exact pub_full_z hM head hL h0 hg
      · exact pub_ok_z hM head hL h0 hg hq hV
    · by_cases h1 : head < 2
      · exact pub_low hM head hL h0 h1
      · by_cases h2 : V.next ≤ head
        · exact pub_high hM head hL h0 h1 h2
        · by_cases hg : 1099511627776 ≤ V.s.gen
          · exact pub_full_h hM head hL h0 h1 h2 hg
          · exact pub_ok_h hM head hL h0 h1 h2 hg hq hV
  · exact pub_dead hM head hL
end Go.Proofs.Ytmmkgkbjneebkaa

/- A store over an open file as an assertion: its block, its cache, the staged list, the lists of bytes that both lead to. -/
namespace Go.Proofs.Ytmmkgkbjneebkaa
open Go Go.RowKit
set_option linter.unusedVariables false
set_option linter.unusedSimpArgs false
set_option linter.unusedSectionVars false
def CS.look (S : CS) (k : Int) : Option En := (S.cl ++ S.kp).find? (fun e => e.k == k)
def mv (l : List En) (e : En) : List En := l.filter (fun u => !(u.k == e.k)) ++ [e]
def CS.got (S : CS) (k : Int) : CS :=
  match S.look k with
  | none => { S with misses := wrap64 (S.misses + 1) }
  | some e => if e.h then { S with hits := wrap64 (S.hits + 1) } else { S with hits := wrap64 (S.hits + 1), cl := mv S.cl e }
theorem look_none {S : CS} {k : Int} (h : S.look k = none) : ∀ e ∈ S.cl ++ S.kp, e.k ≠ k := fun e he hk => by
  have := List.find?_eq_none.1 h e he
  simp [hk] at this
theorem look_some {S : CS} {k : Int} {e : En} (h : S.look k = some e) : e ∈ S.cl ++ S.kp ∧ e.k = k := ⟨List.mem_of_find?_eq_some h, by simpa using List.find?_some h⟩
theorem mv_eq {a b : List En} {e : En} (h : ((a ++ e :: b).map (·.k)).Nodup) : mv (a ++ e :: b) e = a ++ b ++ [e] := by
  unfold mv
  rw [List.map_append, List.map_cons] at h
  obtain ⟨_, h2, h3⟩ := List.nodup_append.1 h
  have ha : ∀ u ∈ a, u.k ≠ e.k := fun u hu hx => h3 _ (List.mem_map.2 ⟨u, hu, rfl⟩) _ (List.mem_cons_self ..) hx
  have hb : ∀ u ∈ b, u.k ≠ e.k := fun u hu hx => (List.nodup_cons.1 h2).1 (hx ▸ List.mem_map.2 ⟨u, hu, rfl⟩)
  rw [List.filter_append, List.filter_cons]
  simp only [beq_self_eq_true, Bool.not_true, Bool.false_eq_true, if_false]
  rw [List.filter_eq_self.2 fun u hu => by simp [ha u hu], List.filter_eq_self.2 fun u hu => by simp [hb u hu]]
theorem foots_cache (S : CS) (c mb : Nat) (x : CX) : foots [cache S c mb x] = foots (cacheL mb x) := by simp [foots, cache, star]
section
variable {S S' : CS} {c mb : Nat} {x x' : CX} {w w' : World}
theorem cache_down (h : Mem w (foots [cache S c mb x]) w [cache S c mb x]) : (CInv S [] c mb x ∧ CFlag S) ∧ Mem w (foots (cacheL mb x)) w (cacheL mb x) := by
  obtain ⟨h1, h2⟩ := cache_open h
  rw [foots_cache] at h2
  exact ⟨h1, h2⟩
theorem cache_up (hi : CInv S' [] c mb x' ∧ CFlag S') (h : Mem w (foots (cacheL mb x)) w' (cacheL mb x')) : Mem w (foots [cache S c mb x]) w' [cache S' c mb x'] := by
  rw [foots_cache]
  exact cache_close hi h
theorem CInv.ndk (h : CInv S [] c mb x) : (S.cl.map (·.k)).Nodup := by
  have := h.keys
  rw [List.map_append, List.map_append] at this
  exact (List.nodup_append.1 (List.nodup_append.1 this).1).1
theorem cget_none (hM : Mem w (foots [cache S c mb x]) w [cache S c mb x]) {k : Int} (hk : KIn k) (hn : S.look k = none) :
    Calls Try.prog 65 #[.pointer (some ⟨c, 0, none⟩), .int .i64 k] w fun e' w' => ∃ x', e' = .returned (.tuple #[.agg #[.int .i64 0, .slice none 0 0], .bool false]) ∧ x'.n = x.n ∧ Mem w (foots [cache S c mb x]) w' [cache (S.got k) c mb x'] := by
  obtain ⟨⟨hI, hF⟩, M⟩ := cache_down hM
  refine (get_none hI hk (look_none hn) M).mono ?_
  rintro e' w' ⟨m2, f2, rfl, hJ, hM'⟩
  refine ⟨⟨x.ks, m2, x.n, f2⟩, rfl, rfl, cache_up (x' := ⟨x.ks, m2, x.n, f2⟩) ?_ hM'⟩
  unfold CS.got
  rw [hn]
  exact ⟨hJ, hF⟩
theorem cget_some (hM : Mem w (foots [cache S c mb x]) w [cache S c mb x]) {k : Int} (hk : KIn k) {e : En} (hs : S.look k = some e) (hl : S.cl.length ≤ 1099511627776) (hld : e.ld.oneCell' = true) :
    Calls Try.prog 65 #[.pointer (some ⟨c, 0, none⟩), .int .i64 k] w fun e' w' => ∃ x', e' = .returned (.tuple #[.agg #[.int .i64 e.kd, e.ld], .bool true]) ∧ x'.n = x.n ∧ Mem w (foots [cache S c mb x]) w' [cache (S.got k) c mb x'] := by
  obtain ⟨⟨hI, hF⟩, M⟩ := cache_down hM
  obtain ⟨he, hke⟩ := look_some hs
  rcases List.mem_append.1 he with he | he
  · have hh := hF.1 e he
    obtain ⟨a, b, hab⟩ := List.append_of_mem he
    refine (get_clean hI hk hab hke hh hl hld M).mono ?_
    rintro e' w' ⟨m2, f2, rfl, hJ, hM'⟩
    refine ⟨⟨x.ks, m2, x.n, f2⟩, rfl, rfl, cache_up (x' := ⟨x.ks, m2, x.n, f2⟩) ?_ hM'⟩
    have hmv := hI.ndk
    rw [hab] at hmv
    unfold CS.got
    rw [hs]
    simp only [hh, Bool.false_eq_true, if_false]
    rw [show mv S.cl e = a ++ b ++ [e] by rw [hab]; exact mv_eq hmv]
    refine ⟨hJ, fun u hu => hF.1 u ?_, hF.2⟩
    have hu' : u ∈ a ++ b ++ [e] := hu
    rw [hab]
    simp at hu' ⊢
    rcases hu' with h | h | h <;> simp [h]
  · have hh := hF.2 e he
    refine (get_held hI hk he hke hh hld M).mono ?_
    rintro e' w' ⟨m2, f2, rfl, hJ, hM'⟩
    refine ⟨⟨x.ks, m2, x.n, f2⟩, rfl, rfl, cache_up (x' := ⟨x.ks, m2, x.n, f2⟩) ?_ hM'⟩
    unfold CS.got
    rw [hs]
    simp only [hh, if_true]
    exact ⟨hJ, hF⟩
theorem trim_flag (h : CFlag S) : CFlag (trimS S) := ⟨fun u hu => h.1 u ((List.drop_sublist _ _).subset hu), h.2⟩
theorem cput (hM : Mem w (foots [cache S c mb x]) w [cache S c mb x]) {k : Int} (hk : KIn k) (hn : S.look k = none) (hl : S.cl.length ≤ 1000000000000) (kd : Int) (ld : Value) (l0 : List UInt8) (hld : ld.oneCell' = true) (hx : x.n < 100000000000000) :
    Calls Try.prog 67 #[.pointer (some ⟨c, 0, none⟩), .int .i64 k, .agg ([.int .i64 kd, ld] : List Value).toArray] w fun e' w' => ∃ ge x', e' = .returned (.tuple #[]) ∧ x'.n = x.n + 1 ∧ Mem w (foots [cache S c mb x]) w' [cache (trimS { S with cl := S.cl ++ [⟨ge, k, kd, ld, false, l0⟩] }) c mb x'] := by
  obtain ⟨⟨hI, hF⟩, M⟩ := cache_down hM
  refine (put_new hI hl hk (look_none hn) kd ld l0 hld hx M).mono ?_
  rintro e' w' ⟨ge, m2, f2, rfl, hJ, hM'⟩
  refine ⟨ge, ⟨(ge, TE) :: x.ks, m2, x.n + 1, f2⟩, rfl, rfl, cache_up ⟨hJ, trim_flag ⟨fun u hu => ?_, hF.2⟩⟩ hM'⟩
  have hu' : u ∈ S.cl ++ [⟨ge, k, kd, ld, false, l0⟩] := hu
  rcases List.mem_append.1 hu' with h | h
  · exact hF.1 u h
  · obtain rfl : u = ⟨ge, k, kd, ld, false, l0⟩ := by simpa using h
    rfl
theorem chold (hM : Mem w (foots [cache S c mb x]) w [cache S c mb x]) {k : Int} (hk : KIn k) (hn : S.look k = none) (hl : S.kp.length ≤ 1000000000000) (kd : Int) (ld : Value) (l0 : List UInt8) (hld : ld.oneCell' = true) (hx : x.n < 100000000000000) :
    Calls Try.prog 76 #[.pointer (some ⟨c, 0, none⟩), .int .i64 k, .agg ([.int .i64 kd, ld] : List Value).toArray] w fun e' w' => ∃ ge x', e' = .returned (.tuple #[]) ∧ x'.n = x.n + 1 ∧ Mem w (foots [cache S c mb x]) w' [cache { S with kp := S.kp ++ [⟨ge, k, kd, ld, true, l0⟩] } c mb x'] := by
  obtain ⟨⟨hI, hF⟩, M⟩ := cache_down hM
  refine (hold_new hI hl hk (look_none hn) kd ld l0 hld hx M).mono ?_
  rintro e' w' ⟨ge, m2, f2, rfl, hJ, hM'⟩
  refine ⟨ge, ⟨(ge, TE) :: x.ks, m2, x.n + 1, f2⟩, rfl, rfl, cache_up ⟨hJ, hF.1, fun u hu => ?_⟩ hM'⟩
  have hu' : u ∈ S.kp ++ [⟨ge, k, kd, ld, true, l0⟩] := hu
  rcases List.mem_append.1 hu' with h | h
  · exact hF.2 u h
  · obtain rfl : u = ⟨ge, k, kd, ld, true, l0⟩ := by simpa using h
    rfl
theorem csettle (hM : Mem w (foots [cache S c mb x]) w [cache S c mb x]) (hl : S.cl.length + S.kp.length ≤ 1099511627776) :
    Calls Try.prog 56 #[.pointer (some ⟨c, 0, none⟩)] w fun e' w' => ∃ x', e' = .returned (.tuple #[]) ∧ x'.n = x.n ∧ Mem w (foots [cache S c mb x]) w' [cache (trimS (setS S)) c mb x'] := by
  obtain ⟨⟨hI, hF⟩, M⟩ := cache_down hM
  refine (settle_any hI hl M).mono ?_
  rintro e' w' ⟨m2, f2, rfl, hJ, hM'⟩
  refine ⟨⟨x.ks, m2, x.n, f2⟩, rfl, rfl, cache_up (x' := ⟨x.ks, m2, x.n, f2⟩) ⟨hJ, trim_flag ⟨fun u hu => ?_, fun u hu => by cases hu⟩⟩ hM'⟩
  have hu' : u ∈ S.cl ++ S.kp.map (fun e => { e with h := false }) := hu
  rcases List.mem_append.1 hu' with h | h
  · exact hF.1 u h
  · obtain ⟨v, _, rfl⟩ := List.mem_map.1 h
    rfl
end
structure SX where
  c : Nat
  mb : Nat
  x : CX
  sa : Option Addr
  sc : Nat
  V : List (Value × List UInt8)
def stC (l : List En) : List Value := l.flatMap fun e => [.int .i64 e.kd, e.ld]
def vault (V : List (Value × List UInt8)) : Asn := star True (V.map fun p => bytesL p.1 p.2)
structure SOk (C : CS) (mk : Int) (X : SX) : Prop where
  val : ∀ e ∈ C.cl ++ C.kp, (e.ld, e.l) ∈ X.V
  cl : ∀ e ∈ C.cl, 2 ≤ e.k ∧ e.k < mk
  kp : ∀ (i : Nat) (e : En), C.kp[i]? = some e → e.k = mk + (i : Int)
  room : C.cl.length ≤ C.room.toNat
  rm : 0 ≤ C.room ∧ C.room ≤ 4096
  kpl : C.kp.length ≤ 4096
  mk2 : 2 ≤ mk ∧ mk ≤ 4096
def stoL (C : CS) (s f : Nat) (X : SX) : List Asn := [blk s 124 [.pointer (some ⟨f, 0, none⟩), .func (.func 51) #[.pointer (some ⟨f, 0, none⟩)] #[], .pointer (some ⟨X.c, 0, none⟩), .slice X.sa C.kp.length X.sc], cache C X.c X.mb X.x, lst 121 2 (.slice X.sa C.kp.length X.sc) C.kp.length (stC C.kp), vault X.V]
def sto (C : CS) (mk : Int) (s f : Nat) (X : SX) : Asn := star (SOk C mk X) (stoL C s f X)
section
variable {w0 w : World} {F : List Nat} {R : List Asn} {C : CS} {mk : Int} {s f : Nat} {X : SX} {V : List (Value × List UInt8)}
theorem sto_open (h : Mem w0 F w (sto C mk s f X :: R)) : SOk C mk X ∧ Mem w0 F w (blk s 124 [.pointer (some ⟨f, 0, none⟩), .func (.func 51) #[.pointer (some ⟨f, 0, none⟩)] #[], .pointer (some ⟨X.c, 0, none⟩), .slice X.sa C.kp.length X.sc] :: cache C X.c X.mb X.x :: lst 121 2 (.slice X.sa C.kp.length X.sc) C.kp.length (stC C.kp) :: vault X.V :: R) := h.open
theorem sto_close (hi : SOk C mk X) (h : Mem w0 F w (blk s 124 [.pointer (some ⟨f, 0, none⟩), .func (.func 51) #[.pointer (some ⟨f, 0, none⟩)] #[], .pointer (some ⟨X.c, 0, none⟩), .slice X.sa C.kp.length X.sc] :: cache C X.c X.mb X.x :: lst 121 2 (.slice X.sa C.kp.length X.sc) C.kp.length (stC C.kp) :: vault X.V :: R)) : Mem w0 F w (sto C mk s f X :: R) := Mem.close (X := stoL C s f X) hi h
theorem sto_ok (h : (sto C mk s f X).holds w) : SOk C mk X := h.1
theorem sto_blk (h : (sto C mk s f X).holds w) : (blk s 124 [.pointer (some ⟨f, 0, none⟩), .func (.func 51) #[.pointer (some ⟨f, 0, none⟩)] #[], .pointer (some ⟨X.c, 0, none⟩), .slice X.sa C.kp.length X.sc]).holds w := h.2 _ (List.mem_cons_self ..)
theorem sto_c0 (h : (sto C mk s f X).holds w) : w.cell? ⟨s, 0, none⟩ = some (.pointer (some ⟨f, 0, none⟩)) := cell_of_blk (sto_blk h) rfl
theorem sto_c3 (h : (sto C mk s f X).holds w) : w.cell? ⟨s, 3, none⟩ = some (.slice X.sa C.kp.length X.sc) := cell_of_blk (sto_blk h) rfl
theorem vault_add {v : Value} {l : List UInt8} (h : Mem w0 F w (bytesL v l :: vault V :: R)) : Mem w0 F w (vault ((v, l) :: V) :: R) := by
  have h1 : Mem w0 F w ([vault V] ++ (bytesL v l :: R)) := h.perm (List.Perm.swap _ _ _)
  have h2 := (Mem.open (X := V.map fun p => bytesL p.1 p.2) (R := bytesL v l :: R) h1).2
  refine Mem.close (X := ((v, l) :: V).map fun p => bytesL p.1 p.2) trivial (h2.perm ?_)
  exact List.perm_middle
theorem vault_at (h : (vault V).holds w) {v : Value} {l : List UInt8} (hm : (v, l) ∈ V) : (bytesL v l).holds w := h.2 _ (List.mem_map.2 ⟨_, hm, rfl⟩)
theorem vault_foot {v : Value} {l : List UInt8} (hm : (v, l) ∈ V) : ∀ b ∈ (bytesL v l).foot, b ∈ (vault V).foot := fun b hb => mem_foots.2 ⟨_, List.mem_map.2 ⟨(v, l), hm, rfl⟩, hb⟩
theorem bytesL_nil {ao : Option Addr} {n c : Nat} {l : List UInt8} (h : (bytesL (.slice ao n c) l).holds w) : n = l.length ∧ l.length ≤ c ∧ c ≤ maxLen ∧ (ao = none → n = 0 ∧ c = 0) := by
  rcases lst_at h with ⟨e1, e2, _⟩ | ⟨g, c', e1, e2, e3⟩
  · cases e1
    exact ⟨e2.symm, by omega, by omega, fun _ => ⟨rfl, rfl⟩⟩
  · cases e1
    exact ⟨rfl, e2, e3, fun h => by cases h⟩
theorem contentT : ElemTy Try.prog 122 121 2 32 := elemTy_of (by kernel_rfl)
theorem stC_snoc (l : List En) (e : En) : stC l ++ [.int .i64 e.kd, e.ld] = stC (l ++ [e]) := by unfold stC; rw [List.flatMap_append]; simp
theorem stC_at (l : List En) (i : Nat) (e : En) (h : l[i]? = some e) : ((stC l).drop (2 * i)).take 2 = [.int .i64 e.kd, e.ld] := by
  induction l generalizing i with
  | nil => simp at h
  | cons a l ih =>
    cases i with
    | zero =>
      obtain rfl : a = e := by simpa using h
      rfl
    | succ i =>
      show (([_, _] ++ stC l).drop (2 * (i + 1))).take 2 = _
      rw [show 2 * (i + 1) = ([Value.int .i64 a.kd, a.ld] : List Value).length + 2 * i by simp; omega, List.drop_append]
      rw [List.drop_eq_nil_of_le (by simp)]
      simpa using ih i (by simpa using h)
end
end Go.Proofs.Ytmmkgkbjneebkaa

/- The store: its small calls, copied. -/
namespace Go.Proofs.Ytmmkgkbjneebkaa
set_option linter.unusedSectionVars false
open Go Go.RowKit
set_option linter.unusedVariables false
set_option linter.unusedSimpArgs false
set_option maxRecDepth 100000 in
set_option maxHeartbeats 4000000 in
theorem slive_any {D : DV} {V : FV} {C : CS} {X : SX} {s f p pg mb : Nat} {qv : Value} {w : World} (hM : Mem w (foots [disk D p pg mb qv, blk f 117 (fC V p), sto C V.s.mark s f X]) w [disk D p pg mb qv, blk f 117 (fC V p), sto C V.s.mark s f X])  : Calls Try.prog 26 #[.pointer (some ⟨s, 0, none⟩)] w fun e' w' => e' = .returned (.int .i64 (liveE D V)) ∧ Mem w (foots [disk D p pg mb qv, blk f 117 (fC V p), sto C V.s.mark s f X]) w' [disk D p pg mb qv, blk f 117 (fC V p), sto C V.s.mark s f X] := by
  have M := hM
  clear hM
  go_enter Try.func26, Try.ntmps26
  refine wp_seq_k (fun K1 hK1 => ?_)
  refine wp_region_lit ?_
  refine pl M (y_assign (v := .int .i64 0) rfl rfl rfl) ?_
  simp only [Act.put, zq1, zq2, zq3]
  refine wpList_nil ?_
  refine hK1 _ _ ?_
  clear hK1
  refine wp_seq_k (fun K2 hK2 => ?_)
  refine wp_region_lit ?_
  refine pl M (y_move (v := .pointer (some ⟨s, 0, none⟩)) rfl rfl rfl) ?_
  simp only [Act.put, zq1, zq2, zq3]
  refine pl M (y_nil rfl rfl rfl) ?_
  simp only [Act.put, zq1, zq2, zq3]
  refine pl M (y_fa (r := 0) rfl rfl rfl Try.underlying124 rfl Try.sizeOf28 rfl) ?_
  simp only [Act.put, zq1, zq2, zq3]
  refine pl M (y_loadc (v := .pointer (some ⟨f, 0, none⟩)) rfl rfl rfl Try.isAgg28 (fun W hW => sto_c0 (hW.get 2 rfl))) ?_
  simp only [Act.put, zq1, zq2, zq3]
  have hX3 : Mem w _ w ([disk D p pg mb qv, blk f 117 (fC V p)] ++ [sto C V.s.mark s f X]) := M.arr [0, 1, 2] (by decide)
  refine pe rfl (fun K hK => ?_)
  refine e_call 49 [.pointer (some ⟨f, 0, none⟩)] rfl rfl Try.call49 (live_any (Mem.here hX3)) ?_
  rintro e w3 ⟨rfl, H3⟩
  have M3 : Mem w _ w3 [disk D p pg mb qv, blk f 117 (fC V p), sto C V.s.mark s f X] := Mem.frame hX3 H3
  refine ⟨_, rfl, ?_⟩
  refine hK.out _ _ ?_
  clear hK K
  simp only [Act.put, zq1, zq2, zq3]
  refine pl M3 (y_assign (v := .int .i64 (liveE D V)) rfl rfl rfl) ?_
  simp only [Act.put, zq1, zq2, zq3]
  refine wpList_nil ?_
  refine hK2 _ _ ?_
  clear hK2
  refine wp_ret ?_
  try simp only [Exit.inBlock, Exit.then]
  refine bodyPost_ret (v := .int .i64 (liveE D V)) (res1 rfl rfl) rfl ?_
  exact ⟨rfl, (M3.arr [0, 1, 2] (by decide))⟩
set_option maxRecDepth 100000 in
set_option maxHeartbeats 4000000 in
theorem ssuper_any {D : DV} {V : FV} {C : CS} {X : SX} {s f p pg mb : Nat} {qv : Value} {w : World} (hM : Mem w (foots [disk D p pg mb qv, blk f 117 (fC V p), sto C V.s.mark s f X]) w [disk D p pg mb qv, blk f 117 (fC V p), sto C V.s.mark s f X])  : Calls Try.prog 23 #[.pointer (some ⟨s, 0, none⟩)] w fun e' w' => e' = .returned (.agg (supC V.s).toArray) ∧ Mem w (foots [disk D p pg mb qv, blk f 117 (fC V p), sto C V.s.mark s f X]) w' [disk D p pg mb qv, blk f 117 (fC V p), sto C V.s.mark s f X] := by
  have M := hM
  clear hM
  go_enter Try.func23, Try.ntmps23
  refine wp_seq_k (fun K1 hK1 => ?_)
  refine wp_region_lit ?_
  refine pe rfl (fun K hK => ?_)
  refine e_alloc M (supC noSup) rfl zero_sup ?_
  intro gr w2 (M2 : Mem w _ w2 [blk gr 40 (supC noSup), disk D p pg mb qv, blk f 117 (fC V p), sto C V.s.mark s f X])
  clear M
  refine hK.out _ _ ?_
  clear hK K
  simp only [Act.put, zq1, zq2, zq3]
  refine wpList_nil ?_
  refine hK1 _ _ ?_
  clear hK1
  refine wp_seq_k (fun K3 hK3 => ?_)
  refine wp_region_lit ?_
  refine pl M2 (y_move (v := .pointer (some ⟨s, 0, none⟩)) rfl rfl rfl) ?_
  simp only [Act.put, zq1, zq2, zq3]
  refine pl M2 (y_nil rfl rfl rfl) ?_
  simp only [Act.put, zq1, zq2, zq3]
  refine pl M2 (y_fa (r := 0) rfl rfl rfl Try.underlying124 rfl Try.sizeOf28 rfl) ?_
  simp only [Act.put, zq1, zq2, zq3]
  refine pl M2 (y_loadc (v := .pointer (some ⟨f, 0, none⟩)) rfl rfl rfl Try.isAgg28 (fun W hW => sto_c0 (hW.get 3 rfl))) ?_
  simp only [Act.put, zq1, zq2, zq3]
  have hX4 : Mem w _ w2 ([disk D p pg mb qv, blk f 117 (fC V p)] ++ [blk gr 40 (supC noSup), sto C V.s.mark s f X]) := M2.arr [1, 2, 0, 3] (by decide)
  refine pe rfl (fun K hK => ?_)
  refine e_call 21 [.pointer (some ⟨f, 0, none⟩)] rfl rfl Try.call21 (super_any (Mem.here hX4)) ?_
  rintro e w4 ⟨rfl, H4⟩
  have M4 : Mem w _ w4 [disk D p pg mb qv, blk f 117 (fC V p), blk gr 40 (supC noSup), sto C V.s.mark s f X] := Mem.frame hX4 H4
  refine ⟨_, rfl, ?_⟩
  refine hK.out _ _ ?_
  clear hK K
  simp only [Act.put, zq1, zq2, zq3]
  refine pe rfl (fun K hK => ?_)
  refine e_storew M4 2 (cs := (supC V.s)) rfl rfl rfl rfl (size_sup _) (sup_all _) rfl (rfl) ?_
  intro w5 (M5 : Mem w _ w5 [disk D p pg mb qv, blk f 117 (fC V p), blk gr 40 (supC V.s), sto C V.s.mark s f X])
  clear M4
  refine hK.out _ _ ?_
  clear hK K
  simp only [Act.put, zq1, zq2, zq3]
  refine wpList_nil ?_
  refine hK3 _ _ ?_
  clear hK3
  refine wp_ret ?_
  try simp only [Exit.inBlock, Exit.then]
  refine bodyPost_ret (v := .agg ((supC V.s)).toArray) (resc1 _ rfl rfl rfl (M5.get 2 rfl) Try.underlying40 (size_sup _)) rfl ?_
  exact ⟨rfl, (M5.arr [0, 1, 3] (by decide))⟩
set_option maxRecDepth 100000 in
set_option maxHeartbeats 4000000 in
theorem sstaged_any {D : DV} {V : FV} {C : CS} {X : SX} {s f p pg mb : Nat} {qv : Value} {w : World} (hM : Mem w (foots [disk D p pg mb qv, blk f 117 (fC V p), sto C V.s.mark s f X]) w [disk D p pg mb qv, blk f 117 (fC V p), sto C V.s.mark s f X])  : Calls Try.prog 20 #[.pointer (some ⟨s, 0, none⟩)] w fun e' w' => e' = .returned (.int .i64 (C.kp.length : Int)) ∧ Mem w (foots [disk D p pg mb qv, blk f 117 (fC V p), sto C V.s.mark s f X]) w' [disk D p pg mb qv, blk f 117 (fC V p), sto C V.s.mark s f X] := by
  have M := hM
  clear hM
  go_enter Try.func20, Try.ntmps20
  refine wp_seq_k (fun K1 hK1 => ?_)
  refine wp_region_lit ?_
  refine pl M (y_assign (v := .int .i64 0) rfl rfl rfl) ?_
  simp only [Act.put, zq1, zq2, zq3]
  refine wpList_nil ?_
  refine hK1 _ _ ?_
  clear hK1
  refine wp_seq_k (fun K2 hK2 => ?_)
  refine wp_region_lit ?_
  refine pl M (y_move (v := .pointer (some ⟨s, 0, none⟩)) rfl rfl rfl) ?_
  simp only [Act.put, zq1, zq2, zq3]
  refine pl M (y_nil rfl rfl rfl) ?_
  simp only [Act.put, zq1, zq2, zq3]
  refine pl M (y_fa (r := 3) rfl rfl rfl Try.underlying124 rfl Try.sizeOf122 rfl) ?_
  simp only [Act.put, zq1, zq2, zq3]
  refine pl M (y_loadc (v := .slice X.sa C.kp.length X.sc) rfl rfl rfl Try.isAgg122 (fun W hW => sto_c3 (hW.get 2 rfl))) ?_
  simp only [Act.put, zq1, zq2, zq3]
  refine pl M (y_len rfl rfl rfl Try.underlying122) ?_
  simp only [Act.put, zq1, zq2, zq3]
  refine pl M (y_assign (v := .int .i64 (C.kp.length : Int)) rfl rfl rfl) ?_
  simp only [Act.put, zq1, zq2, zq3]
  refine wpList_nil ?_
  refine hK2 _ _ ?_
  clear hK2
  refine wp_ret ?_
  try simp only [Exit.inBlock, Exit.then]
  refine bodyPost_ret (v := .int .i64 (C.kp.length : Int)) (res1 rfl rfl) rfl ?_
  exact ⟨rfl, (M.arr [0, 1, 2] (by decide))⟩
set_option maxRecDepth 100000 in
set_option maxHeartbeats 4000000 in
theorem spages_any {D : DV} {V : FV} {C : CS} {X : SX} {s f p pg mb : Nat} {qv : Value} {w : World} (hM : Mem w (foots [disk D p pg mb qv, blk f 117 (fC V p), sto C V.s.mark s f X]) w [disk D p pg mb qv, blk f 117 (fC V p), sto C V.s.mark s f X])  : Calls Try.prog 45 #[.pointer (some ⟨s, 0, none⟩)] w fun e' w' => e' = .returned (.int .i64 (D.pages.length : Int)) ∧ Mem w (foots [disk D p pg mb qv, blk f 117 (fC V p), sto C V.s.mark s f X]) w' [disk D p pg mb qv, blk f 117 (fC V p), sto C V.s.mark s f X] := by
  have M := hM
  clear hM
  go_enter Try.func45, Try.ntmps45
  refine wp_seq_k (fun K1 hK1 => ?_)
  refine wp_region_lit ?_
  refine pl M (y_assign (v := .int .i64 0) rfl rfl rfl) ?_
  simp only [Act.put, zq1, zq2, zq3]
  refine wpList_nil ?_
  refine hK1 _ _ ?_
  clear hK1
  refine wp_seq_k (fun K2 hK2 => ?_)
  refine wp_region_lit ?_
  refine pl M (y_move (v := .pointer (some ⟨s, 0, none⟩)) rfl rfl rfl) ?_
  simp only [Act.put, zq1, zq2, zq3]
  refine pl M (y_nil rfl rfl rfl) ?_
  simp only [Act.put, zq1, zq2, zq3]
  refine pl M (y_fa (r := 0) rfl rfl rfl Try.underlying124 rfl Try.sizeOf28 rfl) ?_
  simp only [Act.put, zq1, zq2, zq3]
  refine pl M (y_loadc (v := .pointer (some ⟨f, 0, none⟩)) rfl rfl rfl Try.isAgg28 (fun W hW => sto_c0 (hW.get 2 rfl))) ?_
  simp only [Act.put, zq1, zq2, zq3]
  refine pl M (y_nil rfl rfl rfl) ?_
  simp only [Act.put, zq1, zq2, zq3]
  refine pl M (y_fa (r := 0) rfl rfl rfl Try.underlying117 rfl Try.sizeOf24 rfl) ?_
  simp only [Act.put, zq1, zq2, zq3]
  refine pl M (y_load (v := .pointer (some ⟨p, 0, none⟩)) rfl rfl rfl Try.isAgg24 (fun W hW => hW.get 1 rfl) (rfl)) ?_
  simp only [Act.put, zq1, zq2, zq3]
  have hX3 : Mem w _ w ([disk D p pg mb qv] ++ [blk f 117 (fC V p), sto C V.s.mark s f X]) := M.arr [0, 1, 2] (by decide)
  refine pe rfl (fun K hK => ?_)
  refine e_call 47 [.pointer (some ⟨p, 0, none⟩)] rfl rfl Try.call47 (pages_any (Mem.here hX3)) ?_
  rintro e w3 ⟨rfl, H3⟩
  have M3 : Mem w _ w3 [disk D p pg mb qv, blk f 117 (fC V p), sto C V.s.mark s f X] := Mem.frame hX3 H3
  refine ⟨_, rfl, ?_⟩
  refine hK.out _ _ ?_
  clear hK K
  simp only [Act.put, zq1, zq2, zq3]
  refine pl M3 (y_assign (v := .int .i64 (D.pages.length : Int)) rfl rfl rfl) ?_
  simp only [Act.put, zq1, zq2, zq3]
  refine wpList_nil ?_
  refine hK2 _ _ ?_
  clear hK2
  refine wp_ret ?_
  try simp only [Exit.inBlock, Exit.then]
  refine bodyPost_ret (v := .int .i64 (D.pages.length : Int)) (res1 rfl rfl) rfl ?_
  exact ⟨rfl, (M3.arr [0, 1, 2] (by decide))⟩
set_option maxRecDepth 100000 in
set_option maxHeartbeats 4000000 in
theorem snext_any {D : DV} {V : FV} {C : CS} {X : SX} {s f p pg mb : Nat} {qv : Value} {w : World} (hM : Mem w (foots [disk D p pg mb qv, blk f 117 (fC V p), sto C V.s.mark s f X]) w [disk D p pg mb qv, blk f 117 (fC V p), sto C V.s.mark s f X])  : Calls Try.prog 19 #[.pointer (some ⟨s, 0, none⟩)] w fun e' w' => e' = .returned (.int .i64 (V.s.mark + (C.kp.length : Int))) ∧ Mem w (foots [disk D p pg mb qv, blk f 117 (fC V p), sto C V.s.mark s f X]) w' [disk D p pg mb qv, blk f 117 (fC V p), sto C V.s.mark s f X] := by
  have M := hM
  clear hM
  have hok := sto_ok (M.get 2 rfl)
  have hm2 := hok.mk2
  have hkl := hok.kpl
  go_enter Try.func19, Try.ntmps19
  refine wp_seq_k (fun K1 hK1 => ?_)
  refine wp_region_lit ?_
  refine pl M (y_assign (v := .int .i64 0) rfl rfl rfl) ?_
  simp only [Act.put, zq1, zq2, zq3]
  refine wpList_nil ?_
  refine hK1 _ _ ?_
  clear hK1
  refine wp_seq_k (fun K2 hK2 => ?_)
  have M3 := M.drew
  refine held_begin (fun W => Mem w (foots [disk D p pg mb qv, blk f 117 (fC V p), sto C V.s.mark s f X]) W [sto C V.s.mark s f X]) (by kernel_rfl) (M3.arr [2] (by decide)) (fun hS => ?_)
  refine held_take 0 _ rfl (by kernel_rfl) (by kernel_rfl) (by kernel_rfl) (y_move (v := .pointer (some ⟨s, 0, none⟩)) rfl rfl rfl) hS ?_
  simp only [Act.put, zq1, zq2, zq3]
  refine held_take 3 _ rfl (by kernel_rfl) (by kernel_rfl) (by kernel_rfl) (y_move (v := .pointer (some ⟨s, 0, none⟩)) rfl rfl rfl) hS ?_
  simp only [Act.put, zq1, zq2, zq3]
  refine held_take 4 _ rfl (by kernel_rfl) (by kernel_rfl) (by kernel_rfl) (y_nil rfl rfl rfl) hS ?_
  simp only [Act.put, zq1, zq2, zq3]
  refine held_take 5 _ rfl (by kernel_rfl) (by kernel_rfl) (by kernel_rfl) (y_fa (r := 3) rfl rfl rfl Try.underlying124 rfl Try.sizeOf122 rfl) hS ?_
  simp only [Act.put, zq1, zq2, zq3]
  refine held_take 6 _ rfl (by kernel_rfl) (by kernel_rfl) (by kernel_rfl) (y_loadc (v := .slice X.sa C.kp.length X.sc) rfl rfl rfl Try.isAgg122 (fun W hW => sto_c3 (hW.get 0 rfl))) hS ?_
  simp only [Act.put, zq1, zq2, zq3]
  refine held_take 7 _ rfl (by kernel_rfl) (by kernel_rfl) (by kernel_rfl) (y_len rfl rfl rfl Try.underlying122) hS ?_
  simp only [Act.put, zq1, zq2, zq3]
  have hX4 : Mem w _ w.drew ([disk D p pg mb qv, blk f 117 (fC V p), sto C V.s.mark s f X] ++ []) := M3.arr [0, 1, 2] (by decide)
  refine held_step 1 (by kernel_rfl) rfl (by rfl) (fun K hK => ?_)
  refine e_call 23 [.pointer (some ⟨s, 0, none⟩)] rfl rfl Try.call23 (ssuper_any (Mem.here hX4)) ?_
  rintro e w4 ⟨rfl, H4⟩
  have M4 : Mem w _ w4 [disk D p pg mb qv, blk f 117 (fC V p), sto C V.s.mark s f X] := Mem.frame hX4 H4
  refine ⟨_, rfl, ?_⟩
  refine hK.out _ _ (M4.arr [2] (by decide)) (fun hS => ?_)
  clear hK K
  simp only [Act.put, zq1, zq2, zq3]
  refine held_take 2 _ rfl (by kernel_rfl) (by kernel_rfl) (by kernel_rfl) (y_field1 (v := .int .i64 V.s.mark) rfl rfl rfl Try.underlying40 rfl Try.isAgg3 rfl) hS ?_
  simp only [Act.put, zq1, zq2, zq3]
  refine held_take 8 _ rfl (by kernel_rfl) (by kernel_rfl) (by kernel_rfl) (y_add (r := V.s.mark + (C.kp.length : Int)) rfl rfl rfl rfl (rfl) (by omega)) hS ?_
  simp only [Act.put, zq1, zq2, zq3]
  refine held_take 9 _ rfl (by kernel_rfl) (by kernel_rfl) (by kernel_rfl) (y_assign (v := .int .i64 (V.s.mark + (C.kp.length : Int))) rfl rfl rfl) hS ?_
  simp only [Act.put, zq1, zq2, zq3]
  refine held_done (by kernel_rfl) ?_ _
  refine hK2 _ _ ?_
  clear hK2
  refine wp_ret ?_
  try simp only [Exit.inBlock, Exit.then]
  refine bodyPost_ret (v := .int .i64 (V.s.mark + (C.kp.length : Int))) (res1 rfl rfl) rfl ?_
  exact ⟨rfl, (M4.arr [0, 1, 2] (by decide))⟩
set_option maxRecDepth 100000 in
set_option maxHeartbeats 4000000 in
theorem copied_any (ao : Option Addr) (n c : Nat) (l : List UInt8) {w : World} (hr : Row w ao n l) (hnil : ao = none → n = 0 ∧ c = 0) (hn : n ≤ 1099511627776) : Calls Try.prog 66 #[.slice ao n c] w fun e w' => ∃ a' c', e = .returned (.slice a' l.length c') ∧ Mem w [] w' [bytesL (.slice a' l.length c') l] := by
  have M := Mem.nil w
  go_enter Try.func66, Try.ntmps66
  refine wp_seq_k (fun K1 hK1 => ?_)
  refine wp_region_lit ?_
  refine pl M (y_assign (v := .slice none 0 0) rfl rfl rfl) ?_
  simp only [Act.put, zq1, zq2, zq3]
  refine wpList_nil ?_
  refine hK1 _ _ ?_
  clear hK1
  refine wp_seq_k (fun K2 hK2 => ?_)
  refine wp_region_lit ?_
  refine pl M (y_move (v := .slice ao n c) rfl rfl rfl) ?_
  simp only [Act.put, zq1, zq2, zq3]
  have M3 : Mem w [] w [lst 5 1 (.slice none 0 0) 0 ([])] := M.nilst 5 1
  refine pe rfl (fun K hK => ?_)
  refine e_append M3 0 bytesT (by decide) (news := bvs l) rfl rfl rfl rfl (by rw [length_bvs, hr.1, Nat.mul_one]) (hnil) ((M3.row hr (by simp)).news) (bvs_oneCell _) (⟨by unfold maxLen; omega, by omega⟩) ?_
  intro v4 w4 M4
  replace M4 : Mem w [] w4 [lst 5 1 v4 n (bvs l)] := (by have h := M4; rw [Nat.zero_add] at h; exact h)
  clear M3
  obtain ⟨a4, c4, rfl⟩ := qv_at (M4.get 0 rfl)
  refine hK.out _ _ ?_
  clear hK K
  simp only [Act.put, zq1, zq2, zq3]
  refine pl M4 (y_assign (v := .slice a4 n c4) rfl rfl rfl) ?_
  simp only [Act.put, zq1, zq2, zq3]
  refine wpList_nil ?_
  refine hK2 _ _ ?_
  clear hK2
  refine wp_ret ?_
  try simp only [Exit.inBlock, Exit.then]
  refine bodyPost_ret (v := .slice a4 n c4) (res1 rfl rfl) rfl ?_
  have hmm : n = l.length := hr.1.symm
  subst hmm
  exact ⟨_, _, rfl, M4⟩
end Go.Proofs.Ytmmkgkbjneebkaa
