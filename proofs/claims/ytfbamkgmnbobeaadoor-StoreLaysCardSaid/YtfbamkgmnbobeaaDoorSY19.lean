/- Texts joined: SL1, StoP, StoQ, Made. -/
import Derived.Test.YtfbamkgmnbobeaaDoorSY04
import Derived.Test.YtfbamkgmnbobeaaDoorSY17
import Derived.Test.YtfbamkgmnbobeaaDoorSY18
import Derived.Test.YtfbamkgmnbobeaaDoorSY07
/- The statements' own whole, cut, short, begun. -/
namespace Go.Proofs.YtfbamkgmnbobeaaDoor
set_option linter.unusedSectionVars false
open Go Go.RowKit
set_option maxRecDepth 100000
set_option maxHeartbeats 40000000
set_option linter.unusedVariables false
set_option linter.unusedSimpArgs false
theorem tmod_place (i n : Int) (hn : 0 < n) : (if i.tmod n < 0 then i.tmod n + n else i.tmod n) = i % n := by
  have h := Int.tmod_eq_emod (a := i) (b := n)
  have h1 := Int.emod_nonneg i (show n ≠ 0 by omega)
  have h2 := Int.emod_lt_of_pos i hn
  rw [h]
  split <;> split <;> simp_all <;> omega
theorem tmod_in9 (i n : Int) (hn : 0 < n) : -n ≤ i.tmod n ∧ i.tmod n ≤ n := by
  have h := Int.tmod_eq_emod (a := i) (b := n)
  have h1 := Int.emod_nonneg i (show n ≠ 0 by omega)
  have h2 := Int.emod_lt_of_pos i hn
  rw [h]
  split <;> omega
def wholeN (n lo hi : Int) : Int := lo + n % (hi - lo + 1)
theorem whole_in (n lo hi : Int) (h : lo ≤ hi) : lo ≤ wholeN n lo hi ∧ wholeN n lo hi ≤ hi := by
  unfold wholeN
  have h1 := Int.emod_nonneg n (show hi - lo + 1 ≠ 0 by omega)
  have h2 := Int.emod_lt_of_pos n (show 0 < hi - lo + 1 by omega)
  omega
theorem nwhole_any (n lo hi : Int) (h0 : 0 ≤ lo) (h1 : lo ≤ hi) (h2 : hi ≤ 1000000) {w : World} : zC 10 [zI n, zI lo, zI hi] w fun e w' => e = .returned (zI (wholeN n lo hi)) ∧ Mem w [] w' [] := by
 have M := Mem.nil w;have hin := tmod_in9 n (hi - lo + 1) (by omega);go_enter Tryd.func10, Tryd.ntmps10;refine zin ?_;refine zk fun K1 hK1 => zr ?_;refine zp 1 rfl ?_;refine zw (hK1 _ _ (zk fun K2 hK2 => zr ?_));refine zp 3 rfl (zo M (y_sub (r := hi - lo) (zwn rfl) rfl (zev rfl) (zev rfl) (rfl) (by omega)) (zo M (y_add (r := hi - lo + 1) (zwn rfl) rfl (zev rfl) (zev rfl) (rfl) (by omega)) (zo M (y_rem (r := n.tmod (hi - lo + 1)) (zwn rfl) rfl (zev rfl) (zev rfl) (by omega) (rfl)) (zp 1 rfl ?_))));refine zw (hK2 _ _ (zk fun K3 hK3 => zk fun K4 hK4 => zr ?_));refine zp 1 rfl ?_;rcases zem (n.tmod (hi - lo + 1) < 0) with h5 | h5
 ·refine zo M (zlss rfl (zT h5)) ?_;refine zw (hK4 _ _ (zct rfl (zr ?_)));refine zp 2 rfl (zo M (y_add (r := n.tmod (hi - lo + 1) + hi) (zwn rfl) rfl (zev rfl) (zev rfl) (rfl) (by omega)) (zp 1 rfl (zo M (y_sub (r := n.tmod (hi - lo + 1) + hi - lo) (zwn rfl) rfl (zev rfl) (zev rfl) (rfl) (by omega)) (zo M (y_add (r := n.tmod (hi - lo + 1) + hi - lo + 1) (zwn rfl) rfl (zev rfl) (zev rfl) (rfl) (by omega)) (zp 1 rfl ?_)))));refine zw (hK3 _ _ (zk fun K6 hK6 => zr ?_));refine zp 2 rfl (zo M (y_add (r := lo + (n.tmod (hi - lo + 1) + hi - lo + 1)) (zwn rfl) rfl (zev rfl) (zev rfl) (rfl) (by omega)) (zp 1 rfl ?_));refine zw (hK6 _ _ (zrt ?_));(try simp only[zi,zj]);refine zR (v := zI (lo + (n.tmod (hi - lo + 1) + hi - lo + 1))) (res1 rfl (zgd rfl)) (zdf _) ?_;have e := tmod_place n (hi - lo + 1) (by omega);rw [if_pos h5] at e;rw [show lo + (n.tmod (hi - lo + 1) + hi - lo + 1) = wholeN n lo hi by unfold wholeN; rw [← e] <;> omega];exact ⟨rfl, M⟩
 ·refine zo M (zlss rfl (zF h5)) ?_;refine zw (hK4 _ _ (zcf rfl (zsk (hK3 _ _ (zk fun K7 hK7 => ?_)))));refine zr ?_;refine zp 2 rfl (zo M (y_add (r := lo + (n.tmod (hi - lo + 1))) (zwn rfl) rfl (zev rfl) (zev rfl) (rfl) (by omega)) (zp 1 rfl ?_));refine zw (hK7 _ _ (zrt ?_));(try simp only[zi,zj]);refine zR (v := zI (lo + (n.tmod (hi - lo + 1)))) (res1 rfl (zgd rfl)) (zdf _) ?_;have e := tmod_place n (hi - lo + 1) (by omega);rw [if_neg h5] at e;rw [show lo + (n.tmod (hi - lo + 1)) = wholeN n lo hi by unfold wholeN; rw [← e] <;> omega];exact ⟨rfl, M⟩
theorem cut_long (aa : Option Addr) (an ac k : Nat) (hk : k < an) (hc : an ≤ ac) {w : World} : zC 8 [.slice aa an ac, zI (k : Int)] w fun e w' => e = .returned (.slice aa k ac) ∧ Mem w [] w' [] := by
 have M := Mem.nil w;go_enter Tryd.func8, Tryd.ntmps8;refine zin ?_;refine zk fun K1 hK1 => zr ?_;refine zp 1 rfl ?_;refine zw (hK1 _ _ (zk fun K2 hK2 => zk fun K3 hK3 => zr ?_));refine zp 1 rfl (zo M (y_len (zwn rfl) rfl (zev rfl) zu22) (zp 1 rfl (zo M (zgtr rfl (zT (by omega))) ?_)));refine zw (hK3 _ _ (zct rfl (zk fun K4 hK4 => zr ?_)));refine zp 2 rfl (zo M (y_slt' (h := k) (zwn rfl) rfl (zev rfl) (zev rfl) zu22 Tryd.sizeOf57 (by omega)) (zp 1 rfl ?_));refine zw (hK4 _ _ (zrt ?_));(try simp only[zi,zj]);refine zR (res1 rfl (zgd rfl)) (zdf _) ?_;exact ⟨rfl, M⟩
theorem cut_short (aa : Option Addr) (an ac k : Nat) (hk : ¬ k < an) {w : World} : zC 8 [.slice aa an ac, zI (k : Int)] w fun e w' => e = .returned (.slice aa an ac) ∧ Mem w [] w' [] := by
 have M := Mem.nil w;go_enter Tryd.func8, Tryd.ntmps8;refine zin ?_;refine zk fun K1 hK1 => zr ?_;refine zp 1 rfl ?_;refine zw (hK1 _ _ (zk fun K2 hK2 => zk fun K3 hK3 => zr ?_));refine zp 1 rfl (zo M (y_len (zwn rfl) rfl (zev rfl) zu22) (zp 1 rfl (zo M (zgtr rfl (zF (by omega))) ?_)));refine zw (hK3 _ _ (zcf rfl (zsk (hK2 _ _ (zk fun K4 hK4 => ?_)))));refine zr ?_;refine zp 2 rfl ?_;refine zw (hK4 _ _ (zrt ?_));(try simp only[zi,zj]);refine zR (res1 rfl (zgd rfl)) (zdf _) ?_;exact ⟨rfl, M⟩
theorem cut_any (aa : Option Addr) (an ac k : Nat) (hc : an ≤ ac) {w : World} : Calls Tryd.prog 8 #[.slice aa an ac, .int .i64 (k : Int)] w fun e w' => e = .returned (.slice aa (min an k) ac) ∧ Mem w [] w' [] := by
  by_cases h : k < an
  · rw [Nat.min_eq_right (by omega)]; exact cut_long aa an ac k h hc
  · rw [Nat.min_eq_left (by omega)]; exact cut_short aa an ac k h
theorem row_pt {w : World} {ao : Option Addr} {n : Nat} {l : List UInt8} (h : Row w ao n l) (hn : 0 < n) : ∃ gb go, ao = some ⟨gb, go, none⟩ := by
  obtain ⟨b, o, e, _⟩ := h.2 0 (by have := h.1; omega)
  exact ⟨b, o, e⟩
theorem row_cell_at {w : World} {ao : Option Addr} {n b o i : Nat} {l : List UInt8} (h : Row w ao n l) (e : ao = some ⟨b, o, none⟩) (hi : i < n) : w.cell? ⟨b, o + i, none⟩ = some (.int .u8 ((l.getD i 0).toNat : Int)) := by
  subst e
  exact h.cellD hi
theorem bvs_takeS {l : List UInt8} {i : Nat} (hi : i < l.length) : bvs (l.take i) ++ [.int .u8 ((l.getD i 0).toNat : Int)] = bvs (l.take (i + 1)) := by
  rw [List.take_succ_eq_append_getElem hi, bvs_append, List.getD_eq_getElem?_getD, List.getElem?_eq_getElem hi]; rfl
theorem short_any (ao : Option Addr) (n c k : Nat) (l : List UInt8) {w : World} (hr : Row w ao n l) (hn : k ≤ 1000000) (hnn : n ≤ 9223372036854775807) : zC 21 [.slice ao n c, zI (k : Int)] w fun e w' => ∃ a' c', e = .returned (.slice a' (l.take k).length c') ∧ Mem w [] w' [bytesL (.slice a' (l.take k).length c') (l.take k)] := by
 have M := Mem.nil w;go_enter Tryd.func21, Tryd.ntmps21;refine zin ?_;refine zk fun K1 hK1 => zr ?_;refine zp 1 rfl ?_;refine zw (hK1 _ _ (zk fun K2 hK2 => zr ?_));refine zp 1 rfl ?_;refine zw (hK2 _ _ (zk fun K3 hK3 => zk fun K4 hK4 => zr ?_));refine zp 1 rfl ?_;refine zw (hK4 _ _ (zbl ?_));refine zlp (fun n' a' w' => ∃ (i m : Nat) (a : Option Addr) (c2 : Nat) (us5 : List Value), n' = (n - i) ∧ a' = (⟨#[.slice ao n c, zI (k : Int), undef, undef, zN, .slice a m c2, zI (i : Int), (zU us5 0), (zU us5 1), (zU us5 2), (zU us5 3), (zU us5 4), (zU us5 5), (zU us5 6), (zU us5 7), (zU us5 8), (zU us5 9), (zU us5 10), (zU us5 11), (zU us5 12), (zU us5 13), (zU us5 14), (zU us5 15), (zU us5 16), (zU us5 17), undef], []⟩ : Act) ∧ (i ≤ n ∧ i ≤ k) ∧ (m = i) ∧ Mem w [] w' [lst 5 1 (.slice a m c2) m (bvs (l.take i))]) (n - 0) ⟨0, 0, none, 0, [undef, undef, undef, undef, undef, undef, undef, undef, undef, undef, undef, undef, undef, undef, undef, undef, undef, undef], rfl, (zmk (by kernel_rfl)), ⟨Nat.zero_le _, Nat.zero_le _⟩, rfl, (M.nilst 5 1)⟩ ?_;clear M;rintro n' a' w6 ⟨i, m, a, c2, us5, rfl, rfl, hi, hm, M6⟩;refine zin ?_;refine zk fun K7 hK7 => zk fun K8 hK8 => zr ?_;refine zp 2 rfl (zo M6 (y_len (zwn rfl) rfl (zev rfl) zu23) ?_);rcases zem ((i : Int) < (n : Int)) with h9 | h9
 ·refine zo M6 (zlss rfl (zT h9)) (zp 3 rfl ?_);rcases zem ((i : Int) < (k : Int)) with h10 | h10
  ·refine zo M6 (zlss rfl (zT h10)) (zp 1 rfl ?_);refine zw (hK8 _ _ (zct rfl (zsk (hK7 _ _ (zk fun K11 hK11 => ?_)))));refine zbl (zr ?_);refine zp 3 rfl ?_;obtain ⟨gb, go, hgo⟩ : ∃ gb go, ao = some ⟨gb, go, none⟩ := row_pt hr (by omega);refine zo M6 (y_ias (r := go + i) (zwn rfl) rfl ((zev rfl).trans (congrArg (fun z => Value.slice z n c) hgo)) (zev rfl) zu23 zz5 (by first | omega | (dsimp only; omega)) (by first | omega | (dsimp only; omega))) (zo M6 (y_loadc (v := .int .u8 ((l.getD i 0).toNat : Int)) (zwn rfl) rfl (zev rfl) zg5 (fun W hW => row_cell_at (hW.row hr (by simp)) hgo (by omega))) ?_);refine pe (zwn rfl) fun K hK => e_bslice M6 ([.int .u8 ((l.getD i 0).toNat : Int)]) (pv := [(0, .int .u8 ((l.getD i 0).toNat : Int))]) rfl (zep rfl) zu23 zz5 Tryd.zeroValue5 (by decide) (by kernel_rfl) ?_;intro g12 w13 (M13 : Mem w [] w13 [blk g12 5 ([.int .u8 ((l.getD i 0).toNat : Int)]), lst 5 1 (.slice a m c2) m (bvs (l.take i))]);refine hK.out _ _ (zpu ?_);refine pe (zwn rfl) fun K hK => e_append M13 1 bytesT (by decide) (news := [.int .u8 ((l.getD i 0).toNat : Int)]) rfl rfl (zev rfl) (zev rfl) (rfl) (by intro h; cases h) (fun ad e j u hj => by cases e; match j with | 0 => cases hj; exact cell_of_blk (M13.get 0 rfl) rfl | j + 1 => cases hj) (by intro u hu; cases hu with | head => rfl | tail _ h => cases h) (⟨by unfold maxLen; omega, by omega⟩) ?_;intro v14 w14 M14;replace M14 : Mem w [] w14 [blk g12 5 ([.int .u8 ((l.getD i 0).toNat : Int)]), lst 5 1 v14 (m + 1) (bvs (l.take (i + 1)))] := (by have N := M14; rw [bvs_takeS (by have := hr.1; omega)] at N; exact N);obtain ⟨a14, c14, rfl⟩ := qv_at (M14.get 1 rfl);refine hK.out _ _ (zpu ?_);refine zp 1 rfl ?_;refine zw (hK11 _ _ (zr ?_));refine zp 1 rfl (zo M14 (y_add (r := (i : Int) + 1) (zwn rfl) rfl (zev rfl) (zev rfl) (rfl) (by omega)) (zp 1 rfl ?_));refine zw ?_;refine ⟨_, ?_, i + 1, m + 1, a14, c14, [zI (i : Int), .slice ao n c, zI (n : Int), .bool true, .bool true, zI (i : Int), zI (k : Int), .bool true, .bool true, zI (i : Int), zI ((i : Int) + 1), .slice a m c2, .slice ao n c, zI (i : Int), zP gb (go + i), .int .u8 ((l.getD i 0).toNat : Int), zS g12 1 1, .slice a14 (m + 1) c14], rfl, (zmk (by kernel_rfl)), ⟨by omega, by omega⟩, by omega, (M14.arr [1] (by decide))⟩;omega
  ·refine zo M6 (zlss rfl (zF h10)) (zp 1 rfl ?_);refine zw (hK8 _ _ (zcf rfl (zx (hK3 _ _ (zk fun K15 hK15 => ?_)))));refine zr ?_;refine zp 2 rfl ?_;refine zw (hK15 _ _ (zrt ?_));(try simp only[zi,zj]);refine zR (v := .slice a m c2) (res1 rfl (zgd rfl)) (zdf _) ?_;have hmm : m = (l.take k).length := by rw [List.length_take]; have := hr.1; omega
   have htk : l.take i = l.take k := by rw [List.take_eq_take_iff]; have := hr.1; omega
   rw [htk] at M6;subst hmm;exact ⟨a, c2, rfl, (M6.arr [0] (by decide))⟩
 ·refine zo M6 (zlss rfl (zF h9)) (zp 5 rfl ?_);refine zw (hK8 _ _ (zcf rfl (zx (hK3 _ _ (zk fun K16 hK16 => ?_)))));refine zr ?_;refine zp 2 rfl ?_;refine zw (hK16 _ _ (zrt ?_));(try simp only[zi,zj]);refine zR (v := .slice a m c2) (res1 rfl (zgd rfl)) (zdf _) ?_;have hmm : m = (l.take k).length := by rw [List.length_take]; have := hr.1; omega
  have htk : l.take i = l.take k := by rw [List.take_eq_take_iff]; have := hr.1; omega
  rw [htk] at M6;subst hmm;exact ⟨a, c2, rfl, (M6.arr [0] (by decide))⟩
theorem new_fit (k : Nat) (h : 3 ≤ k ∧ k ≤ 4096) (w : World) : Calls Tryd.prog 26 #[.int .i64 (k : Int)] w fun e w' => ∃ p pg mb, e = .returned (.tuple #[.pointer (some ⟨p, 0, none⟩), .int .i64 0]) ∧ Mem w [] w' [disk (newD k) p pg mb (.slice none 0 0)] := by
  refine (new_any (k : Int) w).mono ?_
  rintro e w' (⟨h1, _⟩ | ⟨_, _, p, pg, mb, rfl, h2⟩)
  · omega
  · exact ⟨p, pg, mb, rfl, h2⟩
theorem open_fit {D : DV} {p pg mb : Nat} {qv : Value} {S : SupV} {ps : Pgs} {w : World} (hM : Mem w (foots [disk D p pg mb qv]) w [disk D p pg mb qv]) (hP : Plat D S ps) (hd : D.dead = false) :
    Calls Tryd.prog 27 #[.pointer (some ⟨p, 0, none⟩)] w fun e w' => ∃ f E m, e = .returned (.tuple #[.pointer (some ⟨f, 0, none⟩), .int .i64 0]) ∧ Mem w (foots [disk D p pg mb qv]) w' [disk E p pg mb qv, blk f 88 (fC ⟨S, S.mark, m⟩ p)] ∧ Inv E ⟨S, S.mark, m⟩ ps ∧ E.q = D.q ∧ E.pages = D.pages ∧ E.armed = D.armed ∧ E.epoch = wrap64 (D.epoch + 1) := by
  obtain ⟨e1, e2, e3, e4, e5, e6, e7, e8⟩ := hP.open hd
  refine (open_any hM).mono ?_
  rintro e w' (⟨h1, _⟩ | ⟨_, f, rfl, h2⟩)
  · exact absurd e1 h1
  · have hV : openV D = ⟨S, S.mark, (openV D).mine⟩ := by
      have h0 : openV D = ⟨(openV D).s, (openV D).next, (openV D).mine⟩ := rfl
      rw [e2, e3] at h0
      exact h0
    rw [hV] at h2 e4
    exact ⟨f, openD D, (openV D).mine, rfl, h2, e4, e5, e6, e7, e8⟩
end Go.Proofs.YtfbamkgmnbobeaaDoor

/- A store over a page file, as values: what it holds at any time, and what each call does with it. -/
namespace Go.Proofs.YtfbamkgmnbobeaaDoor
set_option linter.unusedSectionVars false
open Go Go.RowKit
set_option linter.unusedVariables false
set_option linter.unusedSimpArgs false
structure SInv (D : DV) (V : FV) (C : CS) (pz : Pgs) : Prop where
  inv : Inv D V pz
  nx : V.next = V.s.mark
  cl : ∀ e ∈ C.cl, e.kd = ((pgAt pz e.k.toNat).1 : Int) ∧ e.l = (pgAt pz e.k.toNat).2
  kp : ∀ e ∈ C.kp, PageOk (e.kd.toNat, e.l) ∧ 0 ≤ e.kd
  fit : V.s.mark + (C.kp.length : Int) ≤ (D.pages.length : Int)
theorem SInv.kd {D : DV} {V : FV} {C : CS} {pz : Pgs} (h : SInv D V C pz) {e : En} (he : e ∈ C.kp) : (1 ≤ e.kd ∧ e.kd ≤ 3) ∧ e.l.length ≤ 246 := by
  obtain ⟨⟨⟨h1, h2⟩, h3⟩, h4⟩ := h.kp e he
  have h1' : 1 ≤ e.kd.toNat := h1
  have h2' : e.kd.toNat ≤ 3 := h2
  exact ⟨⟨by omega, by omega⟩, h3⟩
section
variable {D : DV} {V : FV} {C : CS} {pz : Pgs} {X : SX}
theorem SInv.stage (h : SInv D V C pz) {k : Nat} {l : List UInt8} (hx : PageOk (k, l)) (hr : V.s.mark + (C.kp.length : Int) < (D.pages.length : Int)) :
    stageE D V C (k : Int) l = 0 ∧ ∀ ge ld, SInv D V (stageC D V C (k : Int) l ge ld) pz := by
  obtain ⟨⟨k1, k2⟩, k3⟩ := hx
  have k1 : 1 ≤ k := k1
  have k2 : k ≤ 3 := k2
  have k3 : l.length ≤ 246 := k3
  have e0 : stageE D V C (k : Int) l = 0 := by
    unfold stageE
    rw [if_neg (fun x => x h.inv.isLive), if_neg (by omega), if_neg (by omega), if_neg (by omega)]
  refine ⟨e0, fun ge ld => ?_⟩
  rw [(stage_yes e0).2]
  refine ⟨h.inv, h.nx, h.cl, fun e he => ?_, ?_⟩
  · have he' : e ∈ C.kp ++ [⟨ge, V.s.mark + (C.kp.length : Int), (k : Int), ld, true, l⟩] := he
    rcases List.mem_append.1 he' with h1 | h1
    · exact h.kp e h1
    · obtain rfl : e = ⟨ge, V.s.mark + (C.kp.length : Int), (k : Int), ld, true, l⟩ := by simpa using h1
      exact ⟨⟨⟨by show 1 ≤ ((k : Int)).toNat; omega, by show ((k : Int)).toNat ≤ 3; omega⟩, k3⟩, by show 0 ≤ (k : Int); omega⟩
  · show V.s.mark + (((C.kp ++ [_]).length : Nat) : Int) ≤ _
    rw [List.length_append]; simp; omega
theorem SInv.rd (h : SInv D V C pz) (r : Int) : SInv { D with reads := r } V C pz := ⟨h.inv.cnt r D.writes D.syncs, h.nx, h.cl, h.kp, h.fit⟩
def enP (e : En) : Nat × List UInt8 := (e.kd.toNat, e.l)
def putAll (pz : Pgs) (n : Nat) : List En → Pgs
  | [] => pz
  | e :: es => putAll (putP pz n (enP e)) (n + 1) es
theorem putAll_low : ∀ (es : List En) (pz : Pgs) (n m : Nat), n - 2 ≤ pz.length → m < n → 2 ≤ m → pgAt (putAll pz n es) m = pgAt pz m
  | [], _, _, _, _, _, _ => rfl
  | e :: es, pz, n, m, h1, h2, h3 => by
    show pgAt (putAll (putP pz n (enP e)) (n + 1) es) m = _
    rw [putAll_low es _ (n + 1) m (by rw [putP_len _ _ _ h1]; omega) (by omega) h3, putP_low _ _ _ _ h1 h2 h3]
theorem putAll_at : ∀ (es : List En) (pz : Pgs) (n i : Nat) (e : En), 2 ≤ n → n - 2 ≤ pz.length → es[i]? = some e → pgAt (putAll pz n es) (n + i) = enP e
  | [], _, _, _, _, _, _, h => by simp at h
  | u :: es, pz, n, 0, e, h2, h1, h => by
    obtain rfl : u = e := by simpa using h
    show pgAt (putAll (putP pz n (enP u)) (n + 1) es) n = _
    rw [putAll_low es _ (n + 1) n (by rw [putP_len _ _ _ h1]; omega) (by omega) h2, putP_at _ _ _ h1]
  | u :: es, pz, n, i + 1, e, h2, h1, h => by
    show pgAt (putAll (putP pz n (enP u)) (n + 1) es) (n + (i + 1)) = _
    rw [show n + (i + 1) = n + 1 + i by omega]
    exact putAll_at es _ (n + 1) i e (by omega) (by rw [putP_len _ _ _ h1]; omega) (by simpa using h)
theorem actD_arm (D : DV) : (actD D).armed = if D.armed = 0 then 0 else D.armed - 1 := actD_armed D
theorem appAll_go : ∀ (es : List En) {D : DV} {V : FV} {pz : Pgs}, Inv D V pz → (∀ e ∈ es, PageOk (enP e) ∧ 0 ≤ e.kd) → V.next + (es.length : Int) ≤ (D.pages.length : Int) →
    (D.armed = 0 ∨ (es.length : Int) < D.armed → ∃ E, appAll D V es = (E, { V with next := V.next + (es.length : Int) }, 0) ∧ Inv E { V with next := V.next + (es.length : Int) } (putAll pz V.next.toNat es) ∧ E.armed = (if D.armed = 0 then 0 else D.armed - (es.length : Int)) ∧ E.pages.length = D.pages.length ∧ E.q.length ≤ D.q.length + es.length ∧ E.epoch = D.epoch) ∧
    (1 ≤ D.armed ∧ D.armed ≤ (es.length : Int) → ∃ E V', appAll D V es = (E, V', 2) ∧ V'.s = V.s ∧ E.dead = true ∧ E.epoch = V.mine ∧ Plat E V.s pz ∧ E.pages.length = D.pages.length)
  | [], D, V, pz, h, _, _ => by
    refine ⟨fun ha => ⟨D, ?_, ?_, ?_, rfl, Nat.le_refl _, rfl⟩, fun ⟨a1, a2⟩ => by simp at a2; omega⟩
    · show (D, V, (0 : Int)) = _
      simp
    · simpa [putAll] using h
    · simp
  | e :: es, D, V, pz, h, hk, hr => by
    obtain ⟨hx, hx0⟩ := hk e (List.mem_cons_self ..)
    have hlen : ((e :: es).length : Int) = (es.length : Int) + 1 := by simp
    rw [hlen] at hr ⊢
    have hkd : ((e.kd.toNat : Nat) : Int) = e.kd := Int.toNat_of_nonneg hx0
    obtain ⟨a1, a2, a3, a4⟩ := h.app (k := e.kd.toNat) (l := e.l) hx (by omega)
    rw [hkd] at a1 a2 a3 a4
    have hpl : (appD D V e.kd e.l).pages.length = D.pages.length := by rw [a2, actD_pages]; rfl
    have har : (appD D V e.kd e.l).armed = if D.armed = 0 then 0 else D.armed - 1 := by rw [a2, actD_arm]; rfl
    have hql : (appD D V e.kd e.l).q.length ≤ D.q.length + 1 := by rw [a2, (actD_qp _).1]; simp [openW]
    have hep : (appD D V e.kd e.l).epoch = D.epoch := by rw [a2, actD_epoch]; rfl
    have h0 := h.ok.arm.1
    have hn2 := h.next2
    by_cases h1 : D.armed = 1
    · have hE : appE D V e.kd e.l = 2 := by rw [a1]; exact if_pos h1
      obtain ⟨d1, d2, d3⟩ := a4 (if_pos h1)
      refine ⟨fun ha => by omega, fun _ => ⟨_, V, ?_, rfl, d1, d2, d3, hpl⟩⟩
      show (if appE D V e.kd e.l = 0 then _ else _) = _
      rw [if_neg (by rw [hE]; decide), hE]
    · have hA : actE D = 0 := if_neg h1
      have hE : appE D V e.kd e.l = 0 := by rw [a1]; exact hA
      have hV := (app_yes hE).2
      have hI := a3 hA
      have hstep : appAll D V (e :: es) = appAll (appD D V e.kd e.l) (appV D V e.kd e.l) es := if_pos hE
      have hnn : ({ V with next := V.next + 1 } : FV).next.toNat = V.next.toNat + 1 := by show (V.next + 1).toNat = _; omega
      rw [hstep, hV]
      have hroom : ({ V with next := V.next + 1 } : FV).next + (es.length : Int) ≤ ((appD D V e.kd e.l).pages.length : Int) := by show V.next + 1 + (es.length : Int) ≤ _; rw [hpl]; omega
      refine ⟨fun ha => ?_, fun ha => ?_⟩
      · have hc : (appD D V e.kd e.l).armed = 0 ∨ (es.length : Int) < (appD D V e.kd e.l).armed := by rw [har]; split <;> omega
        obtain ⟨E, b1, b2, b3, b4, b5, b6⟩ := (appAll_go es hI (fun u hu => hk u (List.mem_cons_of_mem _ hu)) hroom).1 hc
        have hvv : ({ ({ V with next := V.next + 1 } : FV) with next := ({ V with next := V.next + 1 } : FV).next + (es.length : Int) } : FV) = { V with next := V.next + ((es.length : Int) + 1) } := by
          show FV.mk V.s (V.next + 1 + (es.length : Int)) V.mine = FV.mk V.s (V.next + ((es.length : Int) + 1)) V.mine
          congr 1; omega
        rw [hvv] at b1 b2
        rw [hnn] at b2
        refine ⟨E, b1, b2, ?_, by rw [b4, hpl], by simp only [List.length_cons]; omega, by rw [b6, hep]⟩
        rw [b3, har]
        split <;> split <;> omega
      · have hc : 1 ≤ (appD D V e.kd e.l).armed ∧ (appD D V e.kd e.l).armed ≤ (es.length : Int) := by rw [har, if_neg (by omega)]; omega
        obtain ⟨E, V', b1, b2, b3, b4, b5, b6⟩ := (appAll_go es hI (fun u hu => hk u (List.mem_cons_of_mem _ hu)) hroom).2 hc
        refine ⟨E, V', b1, b2, b3, b4, ?_, by rw [b6, hpl]⟩
        have hmk : V.s.mark ≤ V.next := h.lo
        have b5 : Plat E V.s _ := b5
        refine b5.book (fun n n1 n2 => ?_) h.plat.len h.plat.good
        rw [putP_low _ _ _ _ (by have := h.lenN; omega) (by omega) n1]
end
end Go.Proofs.YtfbamkgmnbobeaaDoor

/- A store over a page file, as values: Flush, with a loss of power at any act. -/
namespace Go.Proofs.YtfbamkgmnbobeaaDoor
set_option linter.unusedSectionVars false
open Go Go.RowKit
set_option linter.unusedVariables false
set_option linter.unusedSimpArgs false
theorem Inv.pub_armed {D : DV} {V : FV} {ps : Pgs} (h : Inv D V ps) {head : Int} (hh : head = 0 ∨ (2 ≤ head ∧ head < V.next)) (hg : V.s.gen < 1099511627776) :
    ((1 ≤ D.armed ∧ D.armed ≤ 3) → (pubR D V head).2 = 2) ∧ (¬ (1 ≤ D.armed ∧ D.armed ≤ 3) → (pubR D V head).2 = 0 ∧ (pubR D V head).1.armed = if D.armed = 0 then 0 else D.armed - 3) := by
  have hL : ¬ liveE D V ≠ 0 := fun x => x h.isLive
  obtain ⟨a1, a2, a3, a4, a5⟩ := h.pub1
  have ha0 := h.ok.arm.1
  have hR : pubR D V head = runS [yS, wS (pubS V head), yS] D := by
    unfold pubR
    rw [if_neg hL, if_neg (by omega), if_neg (by omega)]
  have ysE : ∀ E : DV, E.dead = false → yS E = if actE E = 0 then (flushD (actD E), 0) else (actD E, 2) := fun E hE => by
    unfold yS
    obtain ⟨s1, s2⟩ := sync_alive hE
    rw [s1, s2]
    rcases actE_two E with e | e
    · rw [e, if_pos rfl, if_pos rfl]
    · rw [e, if_neg (by decide), if_neg (by decide)]
  have r0 : runS [yS, wS (pubS V head), yS] D = if (yS D).2 = 0 then (if (wS (pubS V head) (yS D).1).2 = 0 then (if (yS (wS (pubS V head) (yS D).1).1).2 = 0 then ((yS (wS (pubS V head) (yS D).1).1).1, 0) else yS (wS (pubS V head) (yS D).1).1) else wS (pubS V head) (yS D).1) else yS D := rfl
  have e1 : actE D = if D.armed = 1 then 2 else 0 := rfl
  have y1 := ysE D h.pow
  by_cases c1 : D.armed = 1
  · have : actE D = 2 := if_pos c1
    rw [if_neg (by omega)] at y1
    refine ⟨fun _ => ?_, fun hn => absurd ⟨by omega, by omega⟩ hn⟩
    rw [hR, r0, y1, if_neg (show ¬ (2 : Int) = 0 by decide)]
  · have hA : actE D = 0 := if_neg c1
    rw [if_pos hA] at y1
    have hd1 : (flushD (actD D)).dead = false := act_zero hA h.pow
    have hp1 : (pubD1 D) = flushD (actD D) := rfl
    have hh1 : (flushD (actD D)).has ((pubS V head).gen % 2) := by have := a1.ok.lo; rw [hp1] at this; exact ⟨by omega, by omega⟩
    obtain ⟨w1, w2⟩ := write_alive hd1 hh1 (length_superB (pubS V head))
    have har1 : (flushD (actD D)).armed = if D.armed = 0 then 0 else D.armed - 1 := actD_arm D
    have hw : wS (pubS V head) (flushD (actD D)) = (actD (openW (flushD (actD D)) ((pubS V head).gen % 2) (superB (pubS V head))), actE (flushD (actD D))) := by
      unfold wS
      rw [w1, w2]
    by_cases c2 : (flushD (actD D)).armed = 1
    · have hB : actE (flushD (actD D)) = 2 := if_pos c2
      refine ⟨fun _ => ?_, fun hn => absurd ⟨?_, ?_⟩ hn⟩
      · rw [hR, r0, y1, if_pos rfl, hw, if_neg (show ¬ actE (flushD (actD D)) = 0 by rw [hB]; decide)]
        exact hB
      · rw [har1] at c2; split at c2 <;> omega
      · rw [har1] at c2; split at c2 <;> omega
    · have hB : actE (flushD (actD D)) = 0 := if_neg c2
      have hd2 : (actD (openW (flushD (actD D)) ((pubS V head).gen % 2) (superB (pubS V head)))).dead = false := act_zero (D := openW (flushD (actD D)) ((pubS V head).gen % 2) (superB (pubS V head))) hB hd1
      have y2 := ysE _ hd2
      have har2 : (actD (openW (flushD (actD D)) ((pubS V head).gen % 2) (superB (pubS V head)))).armed = if (flushD (actD D)).armed = 0 then 0 else (flushD (actD D)).armed - 1 := actD_arm _
      by_cases c3 : (actD (openW (flushD (actD D)) ((pubS V head).gen % 2) (superB (pubS V head)))).armed = 1
      · have hC : actE (actD (openW (flushD (actD D)) ((pubS V head).gen % 2) (superB (pubS V head)))) = 2 := if_pos c3
        rw [if_neg (by rw [hC]; decide)] at y2
        refine ⟨fun _ => ?_, fun hn => absurd ⟨?_, ?_⟩ hn⟩
        · rw [hR, r0, y1, if_pos rfl, hw, if_pos hB, y2, if_neg (show ¬ (2 : Int) = 0 by decide)]
        · rw [har2, har1] at c3; split at c3 <;> split at c3 <;> omega
        · rw [har2, har1] at c3; split at c3 <;> split at c3 <;> omega
      · have hC : actE (actD (openW (flushD (actD D)) ((pubS V head).gen % 2) (superB (pubS V head)))) = 0 := if_neg c3
        rw [if_pos hC] at y2
        refine ⟨fun hn => ?_, fun _ => ?_⟩
        · exfalso
          rw [har1] at c2
          rw [har2, har1] at c3
          split at c2 <;> split at c3 <;> (try split at c3) <;> omega
        · rw [hR, r0, y1, if_pos rfl, hw, if_pos hB, y2, if_pos rfl]
          refine ⟨rfl, ?_⟩
          show (actD (actD (openW (flushD (actD D)) ((pubS V head).gen % 2) (superB (pubS V head))))).armed = _
          rw [actD_arm, har2, har1]
          split <;> split <;> (try split) <;> (try split) <;> (try split) <;> omega
section
variable {D : DV} {V : FV} {C : CS} {pz : Pgs} {X : SX}
def flushS (V : FV) (C : CS) (head : Int) : SupV := ⟨V.s.width, V.s.gen + 1, V.s.mark + (C.kp.length : Int), head, V.s.pages⟩
theorem SInv.flush (h : SInv D V C pz) (hS : SOk C V.s.mark X) {head : Int} (hh : head = 0 ∨ (2 ≤ head ∧ head < V.s.mark + (C.kp.length : Int))) (hg : V.s.gen < 1099511627776) :
    (D.armed = 0 ∨ (C.kp.length : Int) + 3 < D.armed → ∃ E, flushR D V C head = (E, ⟨flushS V C head, V.s.mark + (C.kp.length : Int), V.mine⟩, 0) ∧ SInv E ⟨flushS V C head, V.s.mark + (C.kp.length : Int), V.mine⟩ (flushC D V C head) (putAll pz V.s.mark.toNat C.kp) ∧ flushC D V C head = trimS (setS C) ∧ E.q = [] ∧ E.pages.length = D.pages.length ∧ E.armed = if D.armed = 0 then 0 else D.armed - ((C.kp.length : Int) + 3)) ∧
    (1 ≤ D.armed ∧ D.armed ≤ (C.kp.length : Int) + 3 → ∃ E V', flushR D V C head = (E, V', 2) ∧ flushC D V C head = C ∧ V'.s = V.s ∧ V'.next = V.s.mark ∧ E.dead = true ∧ E.epoch = V.mine ∧ E.pages.length = D.pages.length) := by
  have hm := hS.mk2
  have hnx := h.nx
  have ha0 := h.inv.ok.arm.1
  have hf := h.fit
  have hL : ¬ liveE D V ≠ 0 := fun x => x h.inv.isLive
  have hen : ∀ e ∈ C.kp, PageOk (enP e) ∧ 0 ≤ e.kd := h.kp
  have hroom : V.next + (C.kp.length : Int) ≤ (D.pages.length : Int) := by omega
  have hR : flushR D V C head = if (appAll D V C.kp).2.2 ≠ 0 then ((appAll D V C.kp).1, forgetV (appAll D V C.kp).2.1, (appAll D V C.kp).2.2)
      else if (pubR (appAll D V C.kp).1 (appAll D V C.kp).2.1 head).2 ≠ 0 then ((pubR (appAll D V C.kp).1 (appAll D V C.kp).2.1 head).1, forgetV (appAll D V C.kp).2.1, (pubR (appAll D V C.kp).1 (appAll D V C.kp).2.1 head).2)
      else ((pubR (appAll D V C.kp).1 (appAll D V C.kp).2.1 head).1, pubV (appAll D V C.kp).1 (appAll D V C.kp).2.1 head, 0) := by
    unfold flushR
    rw [if_neg hL, if_neg (by omega), if_neg (by omega)]
  obtain ⟨G1, G2⟩ := appAll_go C.kp h.inv hen hroom
  by_cases c : 1 ≤ D.armed ∧ D.armed ≤ (C.kp.length : Int)
  · obtain ⟨E, V', b1, b2, b3, b4, b5, b6⟩ := G2 c
    clear G1 G2
    refine ⟨fun ha => by omega, fun _ => ⟨E, forgetV V', ?_, ?_, ?_, ?_, b3, b4, b6⟩⟩
    · rw [hR, b1, if_pos (show ¬ (2 : Int) = 0 by decide)]
    · unfold flushC
      rw [hR, b1, if_pos (show ¬ (2 : Int) = 0 by decide)]
      exact if_neg (show ¬ (2 : Int) = 0 by decide)
    · exact b2
    · show V'.s.mark = _; rw [b2]
  · have hc : D.armed = 0 ∨ (C.kp.length : Int) < D.armed := by clear G1 G2; omega
    obtain ⟨E, b1, b2, b3, b4, b5, b6⟩ := G1 hc
    clear G1 G2
    have hh2 : head = 0 ∨ (2 ≤ head ∧ head < ({ V with next := V.next + (C.kp.length : Int) } : FV).next) := by
      show head = 0 ∨ (2 ≤ head ∧ head < V.next + (C.kp.length : Int))
      omega
    obtain ⟨P1, P2⟩ := b2.pub_armed hh2 hg
    have P0 := b2.pub hh2 hg
    have hps : pubS ({ V with next := V.next + (C.kp.length : Int) } : FV) head = flushS V C head := by
      unfold pubS flushS
      rw [hnx]
    rw [b1] at hR
    have hR' : flushR D V C head = if (pubR E { V with next := V.next + (C.kp.length : Int) } head).2 ≠ 0 then ((pubR E { V with next := V.next + (C.kp.length : Int) } head).1, forgetV { V with next := V.next + (C.kp.length : Int) }, (pubR E { V with next := V.next + (C.kp.length : Int) } head).2)
      else ((pubR E { V with next := V.next + (C.kp.length : Int) } head).1, pubV E { V with next := V.next + (C.kp.length : Int) } head, 0) := by
      rw [hR, if_neg (fun h => h rfl)]
    by_cases c2 : 1 ≤ E.armed ∧ E.armed ≤ 3
    · have e2 := P1 c2
      clear P1 P2
      rcases P0 with ⟨z, _⟩ | ⟨z, z2, z3, z4, z5, z6, z7, z8⟩
      · rw [z] at e2; cases e2
      · refine ⟨fun ha => ?_, fun _ => ⟨_, forgetV { V with next := V.next + (C.kp.length : Int) }, ?_, ?_, rfl, rfl, z3, z4, by rw [z6, b4]⟩⟩
        · exfalso
          rw [b3] at c2
          split at c2 <;> omega
        · rw [hR', e2, if_pos (show ¬ (2 : Int) = 0 by decide)]
        · unfold flushC
          rw [hR', e2, if_pos (show ¬ (2 : Int) = 0 by decide)]
          exact if_neg (show ¬ (2 : Int) = 0 by decide)
    · obtain ⟨e2, e3⟩ := P2 c2
      clear P1 P2
      rcases P0 with ⟨z, z2, z3, z4⟩ | ⟨z, _⟩
      · have hpv : pubV E { V with next := V.next + (C.kp.length : Int) } head = ⟨flushS V C head, V.s.mark + (C.kp.length : Int), V.mine⟩ := by
          have : pubV E { V with next := V.next + (C.kp.length : Int) } head = { ({ V with next := V.next + (C.kp.length : Int) } : FV) with s := pubS { V with next := V.next + (C.kp.length : Int) } head } := if_pos e2
          rw [this, hps, hnx]
        have hFR : flushR D V C head = ((pubR E { V with next := V.next + (C.kp.length : Int) } head).1, ⟨flushS V C head, V.s.mark + (C.kp.length : Int), V.mine⟩, 0) := by
          rw [hR', e2, if_neg (fun h => h rfl), hpv]
        have hpl : (pubR E { V with next := V.next + (C.kp.length : Int) } head).1.pages.length = D.pages.length := by
          have h1 := z3.plat.pages
          have h2 := h.inv.plat.pages
          have h3 : (pubS ({ V with next := V.next + (C.kp.length : Int) } : FV) head).pages = V.s.pages := rfl
          have h1' : (pubS ({ V with next := V.next + (C.kp.length : Int) } : FV) head).pages = ((pubR E { V with next := V.next + (C.kp.length : Int) } head).1.pages.length : Int) := h1
          omega
        have hFC : flushC D V C head = trimS (setS C) := by
          unfold flushC
          rw [hFR]
          exact if_pos rfl
        refine ⟨fun ha => ⟨_, hFR, ?_, hFC, z4, hpl, ?_⟩, fun ha => ?_⟩
        · rw [hFC]
          have hI : Inv (pubR E { V with next := V.next + (C.kp.length : Int) } head).1 ⟨flushS V C head, V.s.mark + (C.kp.length : Int), V.mine⟩ (putAll pz V.s.mark.toNat C.kp) := by
            have h9 := z3
            rw [hps, show V.next.toNat = V.s.mark.toNat by rw [hnx]] at h9
            have e9 : (⟨flushS V C head, V.next + (C.kp.length : Int), V.mine⟩ : FV) = ⟨flushS V C head, V.s.mark + (C.kp.length : Int), V.mine⟩ := by rw [hnx]
            rw [← e9]
            exact h9
          have hlz := h.inv.plat.len
          refine ⟨hI, rfl, fun u hu => ?_, fun u hu => (by cases hu), by show V.s.mark + (C.kp.length : Int) + ((0 : Nat) : Int) ≤ _; rw [hpl]; omega⟩
          have hu' : u ∈ C.cl ++ C.kp.map (fun e => { e with h := false }) := (List.drop_sublist _ _).subset hu
          rcases List.mem_append.1 hu' with hx | hx
          · have hk := hS.cl u hx
            rw [putAll_low _ _ _ _ (by omega) (by omega) (by omega)]
            exact h.cl u hx
          · obtain ⟨e, he, rfl⟩ := List.mem_map.1 hx
            obtain ⟨i, hi, hg⟩ := List.mem_iff_getElem.1 he
            have hk := hS.kp i e (by rw [List.getElem?_eq_getElem hi, hg])
            have hp : pgAt (putAll pz V.s.mark.toNat C.kp) e.k.toNat = enP e := by
              rw [show e.k.toNat = V.s.mark.toNat + i by omega]
              exact putAll_at _ _ _ _ _ (by omega) (by omega) (by rw [List.getElem?_eq_getElem hi, hg])
            show e.kd = ((pgAt _ e.k.toNat).1 : Int) ∧ e.l = (pgAt _ e.k.toNat).2
            rw [hp]
            exact ⟨(Int.toNat_of_nonneg (h.kp e he).2).symm, rfl⟩
        · rw [e3, b3]
          split <;> split <;> omega
        · exfalso
          rw [b3] at c2
          split at c2 <;> omega
      · rw [z] at e2; cases e2
end
end Go.Proofs.YtfbamkgmnbobeaaDoor

/- The statements' pages to be staged, as values, and what the store's calls are for them. -/
namespace Go.Proofs.YtfbamkgmnbobeaaDoor
open Go Go.RowKit
set_option linter.unusedVariables false
set_option linter.unusedSimpArgs false
set_option linter.unusedSectionVars false
structure MV where
  k : Int
  ao : Option Addr
  n : Nat
  c : Nat
  l : List UInt8
instance : Inhabited MV := ⟨⟨0, none, 0, 0, []⟩⟩
def madeC (m : MV) : List Value := [.int .i64 m.k, .slice m.ao m.n m.c]
def mkP (m : MV) : Nat × List UInt8 := ((wholeN m.k 1 3).toNat, m.l.take 246)
theorem mkP_kind (m : MV) : (((mkP m).1 : Nat) : Int) = wholeN m.k 1 3 := by
  have := whole_in m.k 1 3 (by decide)
  exact Int.toNat_of_nonneg (by omega)
theorem mkP_ok (m : MV) : PageOk (mkP m) := by
  have := whole_in m.k 1 3 (by decide)
  refine ⟨⟨?_, ?_⟩, ?_⟩
  · show 1 ≤ (wholeN m.k 1 3).toNat; omega
  · show (wholeN m.k 1 3).toNat ≤ 3; omega
  · show (m.l.take 246).length ≤ 246; rw [List.length_take]; omega
structure MadesIn (w : World) (F : List Nat) (aa : Option Addr) (ms : List MV) : Prop where
  el : ∀ (i : Nat) (m : MV), ms[i]? = some m → ∃ b off, aa = some ⟨b, off, none⟩ ∧ w.rangeAt b (off + i * 2) (madeC m) ∧ b ∉ F
  row : ∀ m ∈ ms, Row w m.ao m.n m.l ∧ m.n ≤ 9223372036854775807 ∧ ∀ b o, m.ao = some ⟨b, o, none⟩ → 0 < m.n → b ∉ F
theorem MadesIn.take {w : World} {F : List Nat} {aa : Option Addr} {ms : List MV} (h : MadesIn w F aa ms) (k : Nat) : MadesIn w F aa (ms.take k) :=
  ⟨fun i m hm => h.el i m (by rw [List.getElem?_take] at hm; split at hm; exact hm; cases hm), fun m hm => h.row m (List.mem_of_mem_take hm)⟩
def PgIs (V : FV) (C : CS) (pz : Pgs) (n : Nat) (x : Nat × List UInt8) : Prop := (2 ≤ n ∧ (n : Int) < V.s.mark ∧ pgAt pz n = x) ∨ (∃ (j : Nat) (e : En), (n : Int) = V.s.mark + (j : Int) ∧ C.kp[j]? = some e ∧ enP e = x)
theorem Mem.off3 {w w0 : World} {F : List Nat} {G A B E : Asn} {R : List Asn} (M : Mem w0 F w (G :: A :: B :: E :: R)) {b : Nat} (hb : b ∈ G.foot) : b ∉ foots [A, B, E] := fun hx => by
  rw [foots_cons] at hx
  rcases List.mem_append.1 hx with h | h
  · exact M.apart 0 1 (by decide) rfl rfl hb h
  · exact Mem.off2 (M.arr [0, 2, 3] (by decide)) hb h
section
variable {D : DV} {V : FV} {C : CS} {X : SX} {pz : Pgs} {s f p pg mb : Nat} {qv : Value} {w : World}
theorem sstage_ok (hM : Mem w (foots [disk D p pg mb qv, blk f 88 (fC V p), sto C V.s.mark s f X]) w [disk D p pg mb qv, blk f 88 (fC V p), sto C V.s.mark s f X]) (hS : SInv D V C pz) (k : Nat) (ao : Option Addr) (n c : Nat) (l : List UInt8) (hx : PageOk (k, l)) (hr : Row w ao n l) (hnil : ao = none → n = 0 ∧ c = 0)
    (hF : ∀ b o, ao = some ⟨b, o, none⟩ → 0 < n → b ∉ foots [disk D p pg mb qv, blk f 88 (fC V p), sto C V.s.mark s f X]) (hroom : V.s.mark + (C.kp.length : Int) < (D.pages.length : Int)) (hXn : X.x.n < 100000000000000) :
    Calls Tryd.prog 29 #[.pointer (some ⟨s, 0, none⟩), .int .i64 (k : Int), .slice ao n c] w fun e' w' => ∃ C' X', e' = .returned (.tuple #[.int .i64 (V.s.mark + (C.kp.length : Int)), .int .i64 0]) ∧ SInv D V C' pz ∧ C'.kp.map enP = C.kp.map enP ++ [(k, l)] ∧ X'.x.n ≤ X.x.n + 1 ∧ Mem w (foots [disk D p pg mb qv, blk f 88 (fC V p), sto C V.s.mark s f X]) w' [disk D p pg mb qv, blk f 88 (fC V p), sto C' V.s.mark s f X'] := by
  have hpl : D.pages.length ≤ 4096 := hS.inv.ok.hi
  refine (sstage_any hM (k : Int) ao n c l hr hnil hF hpl hXn).mono ?_
  rintro e' w' ⟨ge, ld, X', rfl, hn, h⟩
  obtain ⟨e0, hI⟩ := hS.stage hx hroom
  obtain ⟨e1, e2⟩ := stage_yes e0
  refine ⟨_, X', by rw [e0, e1], hI ge ld, ?_, hn, h⟩
  rw [e2]
  show (C.kp ++ [_]).map enP = _
  rw [List.map_append]
  rfl
theorem PgIs.same {C' : CS} {n : Nat} {x : Nat × List UInt8} (h : PgIs V C pz n x) (hk : C'.kp = C.kp) : PgIs V C' pz n x := by
  unfold PgIs
  rw [hk]
  exact h
end
end Go.Proofs.YtfbamkgmnbobeaaDoor
