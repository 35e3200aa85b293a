/- Texts joined: SL4, StoC, SL5, CrcS. -/
import Derived.Test.YtfbamkgmnbobeaaDoorSY21
import Derived.Test.YtfbamkgmnbobeaaDoorSY19
import Derived.Test.YtfbamkgmnbobeaaDoorSY04
import Derived.Test.YtfbamkgmnbobeaaDoorSY07
/- The law StoreForgets. -/
namespace Go.Proofs.YtfbamkgmnbobeaaDoor
set_option linter.unusedSectionVars false
open Go Go.RowKit
set_option linter.unusedVariables false
set_option linter.unusedSimpArgs false
theorem SInv.arm {D : DV} {V : FV} {C : CS} {pz : Pgs} (h : SInv D V C pz) {n : Int} (hn : n ≤ 9223372036854775807) : SInv (armD D n) V C pz :=
  ⟨h.inv.arm hn, h.nx, h.cl, h.kp, by have e : (armD D n).pages = D.pages := (by unfold armD; split <;> rfl); rw [e]; exact h.fit⟩
end Go.Proofs.YtfbamkgmnbobeaaDoor

/- A store over a page file, as values: what a loss of power in a Flush leaves on the disk. -/
namespace Go.Proofs.YtfbamkgmnbobeaaDoor
set_option linter.unusedSectionVars false
open Go Go.RowKit
set_option linter.unusedVariables false
set_option linter.unusedSimpArgs false
section
variable {D E : DV} {V : FV} {ps pz : Pgs} {C : CS} {X : SX}
end
end Go.Proofs.YtfbamkgmnbobeaaDoor

/- Opened, and what pages hold. -/
namespace Go.Proofs.YtfbamkgmnbobeaaDoor
set_option linter.unusedSectionVars false
open Go Go.RowKit
set_option maxRecDepth 100000
set_option maxHeartbeats 40000000
set_option linter.unusedVariables false
set_option linter.unusedSimpArgs false
def HasP (pz : Pgs) (n : Nat) (ms : List MV) : Prop := ∀ (i : Nat) (m : MV), ms[i]? = some m → pgAt pz (n + i) = mkP m
theorem HasP.put {pz : Pgs} {n : Nat} {C : CS} {ms : List MV} (h : C.kp.map enP = ms.map mkP) (h2 : 2 ≤ n) (hl : n - 2 ≤ pz.length) : HasP (putAll pz n C.kp) n ms := fun i m hm => by
  have h1 : (C.kp.map enP)[i]? = some (mkP m) := by rw [h, List.getElem?_map, hm]; rfl
  rw [List.getElem?_map] at h1
  obtain ⟨e, he, h3⟩ := Option.map_eq_some_iff.1 h1
  rw [putAll_at _ _ _ _ _ h2 hl he, h3]
theorem HasP.low {pz : Pgs} {n k : Nat} {ms : List MV} {es : List En} (h : HasP pz n ms) (h2 : 2 ≤ n) (hk : n + ms.length ≤ k) (hl : k - 2 ≤ pz.length) : HasP (putAll pz k es) n ms := fun i m hm => by
  have hi : i < ms.length := (List.getElem?_eq_some_iff.1 hm).1
  rw [putAll_low _ _ _ _ hl (by omega) (by omega)]
  exact h i m hm
theorem HasP.pg {pz : Pgs} {n : Nat} {ms : List MV} {V : FV} {C : CS} (h : HasP pz n ms) (h2 : 2 ≤ n) (hmk : ((n + ms.length : Nat) : Int) ≤ V.s.mark) : ∀ i m, ms[i]? = some m → PgIs V C pz (n + i) (mkP m) := fun i m hm =>
  .inl ⟨by omega, by have hi : i < ms.length := (List.getElem?_eq_some_iff.1 hm).1; omega, h i m hm⟩
theorem MadesIn.nil (w : World) (F : List Nat) : MadesIn w F none [] := ⟨fun i m h => by simp at h, fun m h => by cases h⟩
theorem opened_any {D : DV} {p pg mb : Nat} {qv : Value} {w : World} (hM : zM w [disk D p pg mb qv]) {S9 : SupV} {pz : Pgs} (hP1 : Plat D S9 pz) (hd1 : D.dead = false) (room : Int) : zC 7 [zP p 0, zI room] w fun e' w' => ∃ f s E m X, e' = .returned (zP s 0) ∧ SInv E ⟨S9, S9.mark, m⟩ (newC (wholeN room 0 4096)) pz ∧ X.x.n = 0 ∧ E.q = D.q ∧ E.pages = D.pages ∧ E.armed = D.armed ∧ E.epoch = wrap64 (D.epoch + 1) ∧ zD w [disk D p pg mb qv] w' [disk E p pg mb qv, blk f 88 (fC ⟨S9, S9.mark, m⟩ p), sto (newC (wholeN room 0 4096)) S9.mark s f X] := by
 have M := hM;clear hM;go_enter Tryd.func7, Tryd.ntmps7;refine zin ?_;refine zk fun K1 hK1 => zr ?_;refine zp 1 rfl ?_;refine zw (hK1 _ _ (zk fun K2 hK2 => zr ?_));refine zp 1 rfl ?_;have hX3 : zD w [disk D p pg mb qv] w ([disk D p pg mb qv] ++ []) := M.arr [0] (by decide);refine zca 27 [zP p 0] rfl Tryd.call27 (open_fit (Mem.h1 hX3) hP1 hd1) ?_;rintro e w3 ⟨f, E, m, rfl, H3, hI, hq2, hp2, ha2, he2⟩;have M3 : zD w [disk D p pg mb qv] w3 [disk E p pg mb qv, blk f 88 (fC (⟨S9, S9.mark, m⟩ : FV) p)] := Mem.f1 hX3 H3;refine ⟨_, rfl, ?_⟩;refine zp 5 rfl ?_;refine zw (hK2 _ _ (zk fun K4 hK4 => zk fun K5 hK5 => zr ?_));refine zp 1 rfl (zo M3 (zneq (b := false) rfl (by rw [decide_eq_true (by decide)]; rfl)) (zp 2 rfl (zo M3 (y_eqnil (r := false) (zwn rfl) rfl (zev rfl) (zev rfl) zu65 rfl) (zp 1 rfl ?_))));refine zw (hK5 _ _ (zcf rfl (zsk (hK4 _ _ (zk fun K6 hK6 => ?_)))));refine zr ?_;refine zp 2 rfl ?_;refine zca 10 [zI room, zI 0, zI 4096] rfl Tryd.call10 (nwhole_any room 0 4096 (by decide) (by decide) (by decide)) ?_;rintro e w7 ⟨rfl, H7⟩;have M7 := M3.st0 H7;refine ⟨_, rfl, ?_⟩;have hX8 : zD w [disk D p pg mb qv] w7 ([disk E p pg mb qv, blk f 88 (fC (⟨S9, S9.mark, m⟩ : FV) p)] ++ []) := M7.arr [0, 1] (by decide);have hCH8 := snew_fit (Mem.h2 hX8) hI rfl (wholeN room 0 4096) (whole_in room 0 4096 (by decide));refine zca 28 [zP f 0, zI (wholeN room 0 4096)] rfl Tryd.call28 (hCH8) ?_;rintro e w8 ⟨s, X, rfl, hX0, hS0, H8⟩;have M8 : zD w [disk D p pg mb qv] w8 [disk E p pg mb qv, blk f 88 (fC (⟨S9, S9.mark, m⟩ : FV) p), sto (newC (wholeN room 0 4096)) ((⟨S9, S9.mark, m⟩ : FV).s.mark) s f X] := Mem.f2 hX8 H8;refine ⟨_, rfl, ?_⟩;refine zp 5 rfl ?_;refine zw (hK6 _ _ (zk fun K9 hK9 => zk fun K10 hK10 => zr ?_));refine zp 1 rfl (zo M8 (zneq (b := false) rfl (by rw [decide_eq_true (by decide)]; rfl)) ?_);refine zw (hK10 _ _ (zcf rfl (zsk (hK9 _ _ (zk fun K11 hK11 => ?_)))));refine zr ?_;refine zp 2 rfl ?_;refine zw (hK11 _ _ (zrt ?_));(try simp only[zi,zj]);refine zR (res1 rfl (zgd rfl)) (zdf _) ?_;exact ⟨f, s, E, m, X, rfl, hS0, hX0, hq2, hp2, ha2, he2, (M8.arr [0, 1, 2] (by decide))⟩
end Go.Proofs.YtfbamkgmnbobeaaDoor

/- The checksum's register, bit by bit. No program in sight. -/
namespace Go.Proofs.YtfbamkgmnbobeaaDoor
set_option linter.unusedSectionVars false
open Go Go.RowKit
set_option linter.unusedVariables false
set_option linter.unusedSimpArgs false
def poly1 (b : UInt32) : UInt32 := if b = 1 then 0xEDB88320 else 0
def step1 (r : UInt32) : UInt32 := (r >>> 1) ^^^ poly1 (r &&& 1)
def stp : Nat → UInt32 → UInt32
  | 0, r => r
  | n + 1, r => stp n (step1 r)
theorem stp_add (m : Nat) : ∀ (n : Nat) (r : UInt32), stp (n + m) r = stp m (stp n r)
  | 0, r => by rw [Nat.zero_add]; rfl
  | n + 1, r => by rw [show n + 1 + m = (n + m) + 1 by omega]; exact stp_add m n (step1 r)
theorem bit_two (a : UInt32) : a &&& 1 = 0 ∨ a &&& 1 = 1 := by
  have h : (a &&& 1).toNat = a.toNat % 2 := by rw [UInt32.toNat_and]; exact Nat.and_one_is_mod _
  rcases Nat.mod_two_eq_zero_or_one a.toNat with h0 | h0
  · left; apply UInt32.toNat_inj.1; rw [h, h0]; rfl
  · right; apply UInt32.toNat_inj.1; rw [h, h0]; rfl
theorem and_xor (a b c : UInt32) : (a ^^^ b) &&& c = (a &&& c) ^^^ (b &&& c) := by
  apply UInt32.toNat_inj.1
  rw [UInt32.toNat_and, UInt32.toNat_xor, UInt32.toNat_xor, UInt32.toNat_and, UInt32.toNat_and]
  apply Nat.eq_of_testBit_eq
  intro i
  simp only [Nat.testBit_and, Nat.testBit_xor]
  cases a.toNat.testBit i <;> cases b.toNat.testBit i <;> cases c.toNat.testBit i <;> rfl
theorem xor4 (a b c d : UInt32) : (a ^^^ b) ^^^ (c ^^^ d) = (a ^^^ c) ^^^ (b ^^^ d) := by
  rw [UInt32.xor_assoc, UInt32.xor_assoc, ← UInt32.xor_assoc b c d, ← UInt32.xor_assoc c b d, UInt32.xor_comm b c]
theorem step1_xor (a b : UInt32) : step1 (a ^^^ b) = step1 a ^^^ step1 b := by
  unfold step1
  rw [UInt32.shiftRight_xor, and_xor, xor4]
  congr 1
  rcases bit_two a with h | h <;> rcases bit_two b with h' | h' <;> rw [h, h'] <;> decide
theorem stp_xor : ∀ (n : Nat) (a b : UInt32), stp n (a ^^^ b) = stp n a ^^^ stp n b
  | 0, _, _ => rfl
  | n + 1, a, b => by show stp n (step1 (a ^^^ b)) = _; rw [step1_xor]; exact stp_xor n _ _
theorem stp_shift : ∀ (n : Nat) (r : UInt32), r.toNat % 2 ^ n = 0 → (stp n r).toNat = r.toNat / 2 ^ n
  | 0, r, _ => by show r.toNat = r.toNat / 1; omega
  | n + 1, r, h => by
    have hp : 0 < 2 ^ n := Nat.pow_pos (by decide)
    rw [Nat.pow_succ] at h ⊢
    have h2 : r.toNat % 2 = 0 := by
      have : 2 ∣ r.toNat := Nat.dvd_trans (Nat.dvd_mul_left 2 (2 ^ n)) (Nat.dvd_of_mod_eq_zero h)
      omega
    have hs : (r >>> 1).toNat = r.toNat / 2 := by rw [UInt32.toNat_shiftRight]; exact Nat.shiftRight_eq_div_pow _ _
    have hb : (r &&& 1).toNat = r.toNat % 2 := by rw [UInt32.toNat_and]; exact Nat.and_one_is_mod _
    have h0 : r &&& 1 = 0 := by apply UInt32.toNat_inj.1; rw [hb, h2]; rfl
    have e : step1 r = r >>> 1 := by unfold step1; rw [h0, show poly1 0 = 0 by decide, UInt32.xor_zero]
    show (stp n (step1 r)).toNat = _
    rw [e]
    have hd : r.toNat / 2 % 2 ^ n = 0 := by
      obtain ⟨q, hq⟩ := Nat.dvd_of_mod_eq_zero h
      rw [hq, show 2 ^ n * 2 * q = 2 * (2 ^ n * q) by rw [Nat.mul_comm (2 ^ n) 2, Nat.mul_assoc], Nat.mul_div_cancel_left _ (by decide)]
      exact Nat.mul_mod_right _ _
    rw [stp_shift n (r >>> 1) (by rw [hs]; exact hd), hs, Nat.div_div_eq_div_mul, Nat.mul_comm 2]
theorem stepV_stp : ∀ i : Fin 16, stepV (UInt32.ofNat i.val) = stp 4 (UInt32.ofNat i.val) := by decide
theorem stepR_stp (r : UInt32) : stepR r = stp 4 r := by
  have hb : (r &&& 15).toNat = r.toNat % 16 := by rw [UInt32.toNat_and]; exact Nat.and_two_pow_sub_one_eq_mod r.toNat 4
  have hs : (r >>> 4).toNat = r.toNat / 16 := by rw [UInt32.toNat_shiftRight]; exact Nat.shiftRight_eq_div_pow _ _
  have hr := r.toNat_lt
  have hh : ((r >>> 4) <<< 4).toNat = r.toNat / 16 * 16 := by
    rw [UInt32.toNat_shiftLeft, hs]
    show (r.toNat / 16) <<< 4 % 2 ^ 32 = _
    rw [Nat.shiftLeft_eq, Nat.mod_eq_of_lt (by show r.toNat / 16 * 16 < 4294967296; omega)]
  have hx : (r &&& (15 : UInt32)) ^^^ ((r >>> (4 : UInt32)) <<< (4 : UInt32)) = r := by
    apply UInt32.toNat_inj.1
    rw [UInt32.toNat_xor, hb, hh]
    apply Nat.eq_of_testBit_eq
    intro i
    rw [Nat.testBit_xor, show (16 : Nat) = 2 ^ 4 from rfl, Nat.testBit_mod_two_pow, Nat.mul_comm, Nat.testBit_two_pow_mul, Nat.testBit_div_two_pow]
    rcases Nat.lt_or_ge i 4 with h | h
    · rw [decide_eq_true h, decide_eq_false (by omega : ¬ i ≥ 4)]; simp
    · rw [decide_eq_false (by omega : ¬ i < 4), decide_eq_true h, show i - 4 + 4 = i by omega]; simp
  have h1 : stepV (r &&& 15) = stp 4 (r &&& 15) := by
    have := stepV_stp ⟨(r &&& 15).toNat, by rw [hb]; omega⟩
    rwa [show UInt32.ofNat (⟨(r &&& 15).toNat, by rw [hb]; omega⟩ : Fin 16).val = r &&& 15 from UInt32.ofNat_toNat] at this
  have h2 : r >>> 4 = stp 4 ((r >>> 4) <<< 4) := by
    apply UInt32.toNat_inj.1
    rw [stp_shift 4 _ (by rw [hh]; omega), hh, hs]
    omega
  unfold stepR
  rw [h1]
  conv => lhs; rw [h2]
  rw [← stp_xor, hx]
theorem feedB_stp (r : UInt32) (x : UInt8) : feedB r x = stp 8 (r ^^^ x.toUInt32) := by
  unfold feedB
  rw [stepR_stp, stepR_stp, ← stp_add 4 4]
theorem step1_split (x : UInt32) : step1 x = step1 (x &&& 1) ^^^ (x >>> 1) := by
  unfold step1
  rcases bit_two x with h | h
  · rw [h, show ((0 : UInt32) >>> 1) ^^^ poly1 (0 &&& 1) = 0 by decide, show poly1 0 = 0 by decide, UInt32.xor_zero, UInt32.zero_xor]
  · rw [h, show ((1 : UInt32) >>> 1) ^^^ poly1 (1 &&& 1) = poly1 1 by decide, UInt32.xor_comm]
end Go.Proofs.YtfbamkgmnbobeaaDoor
