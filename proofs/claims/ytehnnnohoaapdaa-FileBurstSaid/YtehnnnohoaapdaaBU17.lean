/- Texts joined: LawF, BurstP, BurstQ, Law16a. -/
import Derived.Test.YtehnnnohoaapdaaBU16
/- What the calls of a file count. -/
namespace Go.Proofs.Ytehnnnohoaapdaa
open Go Go.RowKit
set_option linter.unusedVariables false
theorem wrap64_two (x : Int) : wrap64 (wrap64 (x + 1) + 1) = wrap64 (x + 2) := by unfold wrap64; omega
def CntIn (D : DV) : Prop := inI D.writes ∧ inI D.syncs
theorem CntIn.same {D E : DV} (h : CntIn D) (h1 : E.writes = D.writes) (h2 : E.syncs = D.syncs) : CntIn E := by unfold CntIn; rw [h1, h2]; exact h
section
variable {D : DV} {V : FV} {ps : Pgs} {f p pg mb : Nat} {qv : Value} {w : World}
theorem pub_cnt (h : Inv D V ps) {head : Int} (hh : head = 0 ∨ (2 ≤ head ∧ head < V.next)) (hg : V.s.gen < 1099511627776) (ha : D.armed = 0) :
    (pubR D V head).2 = 0 ∧ Inv (pubR D V head).1 { V with s := pubS V head } ps ∧ (pubR D V head).1.reads = D.reads ∧ (pubR D V head).1.writes = wrap64 (D.writes + 1) ∧ (pubR D V head).1.syncs = wrap64 (D.syncs + 2) ∧ (pubR D V head).1.q = [] ∧ (pubR D V head).1.armed = 0 ∧ (pubR D V head).1.pages.length = D.pages.length := by
  rcases h.pub hh hg with ⟨c1, c2, c3, c4⟩ | ⟨c1, c2, _⟩
  · refine ⟨c1, c3, ?_, ?_, ?_, c4, ?_, ?_⟩
    · rw [c2]
      show (actD (actD (openW (flushD (actD D)) _ _))).reads = _
      rw [(actD_cnt _).1, (actD_cnt _).1]
      show (actD D).reads = _
      rw [(actD_cnt _).1]
    · rw [c2]
      show (actD (actD (openW (flushD (actD D)) _ _))).writes = _
      rw [(actD_cnt _).2.1, (actD_cnt _).2.1]
      show wrap64 ((actD D).writes + 1) = _
      rw [(actD_cnt _).2.1]
    · rw [c2]
      show wrap64 ((actD (actD (openW (flushD (actD D)) _ _))).syncs + 1) = _
      rw [(actD_cnt _).2.2, (actD_cnt _).2.2]
      show wrap64 (wrap64 ((actD D).syncs + 1) + 1) = _
      rw [(actD_cnt _).2.2, wrap64_two]
    · rw [c2]
      have q1 : (pubD1 D).armed = 0 := by show (actD D).armed = 0; rw [(act_arm0 ha).2]; exact ha
      have q2 : (pubD2 D (pubS V head)).armed = 0 := by
        show (actD _).armed = 0
        rw [(act_arm0 (D := openW (pubD1 D) ((pubS V head).gen % 2) (superB (pubS V head))) q1).2]; exact q1
      show (actD _).armed = 0
      rw [(act_arm0 q2).2]; exact q2
    · have h1 := c3.plat.pages
      have h2 := h.plat.pages
      have h1 : (pubS V head).pages = _ := h1
      have h3 : (pubS V head).pages = V.s.pages := rfl
      omega
  · exact absurd ha c2
end
end Go.Proofs.Ytehnnnohoaapdaa

/- A burst of at most 32 bits is found by the checksum. No program in sight. -/
namespace Go.Proofs.Ytehnnnohoaapdaa
open Go Go.RowKit
set_option linter.unusedVariables false
set_option linter.unusedSimpArgs false
def poly1 (b : UInt32) : UInt32 := if b = 1 then 0xEDB88320 else 0
def step1 (r : UInt32) : UInt32 := (r >>> 1) ^^^ poly1 (r &&& 1)
def stp : Nat → UInt32 → UInt32
  | 0, r => r
  | n + 1, r => stp n (step1 r)
theorem stp_add (m : Nat) : ∀ (n : Nat) (r : UInt32), stp (n + m) r = stp m (stp n r)
  | 0, r => by rw [Nat.zero_add]; rfl
  | n + 1, r => by rw [show n + 1 + m = (n + m) + 1 by omega]; exact stp_add m n (step1 r)
theorem bit_two (a : UInt32) : a &&& 1 = 0 ∨ a &&& 1 = 1 := by
  have h : (a &&& 1).toNat = a.toNat % 2 := by rw [UInt32.toNat_and]; exact Nat.and_one_is_mod _
  rcases Nat.mod_two_eq_zero_or_one a.toNat with h0 | h0
  · left; apply UInt32.toNat_inj.1; rw [h, h0]; rfl
  · right; apply UInt32.toNat_inj.1; rw [h, h0]; rfl
theorem and_xor (a b c : UInt32) : (a ^^^ b) &&& c = (a &&& c) ^^^ (b &&& c) := by
  apply UInt32.toNat_inj.1
  rw [UInt32.toNat_and, UInt32.toNat_xor, UInt32.toNat_xor, UInt32.toNat_and, UInt32.toNat_and]
  apply Nat.eq_of_testBit_eq
  intro i
  simp only [Nat.testBit_and, Nat.testBit_xor]
  cases a.toNat.testBit i <;> cases b.toNat.testBit i <;> cases c.toNat.testBit i <;> rfl
theorem xor4 (a b c d : UInt32) : (a ^^^ b) ^^^ (c ^^^ d) = (a ^^^ c) ^^^ (b ^^^ d) := by
  rw [UInt32.xor_assoc, UInt32.xor_assoc, ← UInt32.xor_assoc b c d, ← UInt32.xor_assoc c b d, UInt32.xor_comm b c]
theorem step1_xor (a b : UInt32) : step1 (a ^^^ b) = step1 a ^^^ step1 b := by
  unfold step1
  rw [UInt32.shiftRight_xor, and_xor, xor4]
  congr 1
  rcases bit_two a with h | h <;> rcases bit_two b with h' | h' <;> rw [h, h'] <;> decide
theorem stp_xor : ∀ (n : Nat) (a b : UInt32), stp n (a ^^^ b) = stp n a ^^^ stp n b
  | 0, _, _ => rfl
  | n + 1, a, b => by show stp n (step1 (a ^^^ b)) = _; rw [step1_xor]; exact stp_xor n _ _
theorem stp_zero : ∀ n : Nat, stp n 0 = 0
  | 0 => rfl
  | n + 1 => by show stp n (step1 0) = 0; rw [show step1 0 = 0 by decide]; exact stp_zero n
theorem step1_inj {r : UInt32} (h : step1 r = 0) : r = 0 := by
  unfold step1 at h
  have hs : (r >>> 1).toNat = r.toNat / 2 := by rw [UInt32.toNat_shiftRight]; exact Nat.shiftRight_eq_div_pow _ _
  have hb : (r &&& 1).toNat = r.toNat % 2 := by rw [UInt32.toNat_and]; exact Nat.and_one_is_mod _
  have hr := r.toNat_lt
  rcases bit_two r with h1 | h1
  · rw [h1, show poly1 0 = 0 by decide, UInt32.xor_zero] at h
    rw [h] at hs
    rw [h1] at hb
    have h2 : (0 : UInt32).toNat = 0 := rfl
    apply UInt32.toNat_inj.1
    omega
  · rw [h1, UInt32.xor_eq_zero_iff] at h
    rw [h] at hs
    have h2 : (poly1 1).toNat = 3988292384 := by decide
    omega
theorem stp_inj : ∀ (n : Nat) {r : UInt32}, stp n r = 0 → r = 0
  | 0, _, h => h
  | n + 1, r, h => step1_inj (stp_inj n h)
theorem stp_shift : ∀ (n : Nat) (r : UInt32), r.toNat % 2 ^ n = 0 → (stp n r).toNat = r.toNat / 2 ^ n
  | 0, r, _ => by show r.toNat = r.toNat / 1; omega
  | n + 1, r, h => by
    have hp : 0 < 2 ^ n := Nat.pow_pos (by decide)
    rw [Nat.pow_succ] at h ⊢
    have h2 : r.toNat % 2 = 0 := by
      have : 2 ∣ r.toNat := Nat.dvd_trans (Nat.dvd_mul_left 2 (2 ^ n)) (Nat.dvd_of_mod_eq_zero h)
      omega
    have hs : (r >>> 1).toNat = r.toNat / 2 := by rw [UInt32.toNat_shiftRight]; exact Nat.shiftRight_eq_div_pow _ _
    have hb : (r &&& 1).toNat = r.toNat % 2 := by rw [UInt32.toNat_and]; exact Nat.and_one_is_mod _
    have h0 : r &&& 1 = 0 := by apply UInt32.toNat_inj.1; rw [hb, h2]; rfl
    have e : step1 r = r >>> 1 := by unfold step1; rw [h0, show poly1 0 = 0 by decide, UInt32.xor_zero]
    show (stp n (step1 r)).toNat = _
    rw [e]
    have hd : r.toNat / 2 % 2 ^ n = 0 := by
      obtain ⟨q, hq⟩ := Nat.dvd_of_mod_eq_zero h
      rw [hq, show 2 ^ n * 2 * q = 2 * (2 ^ n * q) by rw [Nat.mul_comm (2 ^ n) 2, Nat.mul_assoc], Nat.mul_div_cancel_left _ (by decide)]
      exact Nat.mul_mod_right _ _
    rw [stp_shift n (r >>> 1) (by rw [hs]; exact hd), hs, Nat.div_div_eq_div_mul, Nat.mul_comm 2]
theorem stepV_stp : ∀ i : Fin 16, stepV (UInt32.ofNat i.val) = stp 4 (UInt32.ofNat i.val) := by decide
theorem stepR_stp (r : UInt32) : stepR r = stp 4 r := by
  have hb : (r &&& 15).toNat = r.toNat % 16 := by rw [UInt32.toNat_and]; exact Nat.and_two_pow_sub_one_eq_mod r.toNat 4
  have hs : (r >>> 4).toNat = r.toNat / 16 := by rw [UInt32.toNat_shiftRight]; exact Nat.shiftRight_eq_div_pow _ _
  have hr := r.toNat_lt
  have hh : ((r >>> 4) <<< 4).toNat = r.toNat / 16 * 16 := by
    rw [UInt32.toNat_shiftLeft, hs]
    show (r.toNat / 16) <<< 4 % 2 ^ 32 = _
    rw [Nat.shiftLeft_eq, Nat.mod_eq_of_lt (by show r.toNat / 16 * 16 < 4294967296; omega)]
  have hx : (r &&& (15 : UInt32)) ^^^ ((r >>> (4 : UInt32)) <<< (4 : UInt32)) = r := by
    apply UInt32.toNat_inj.1
    rw [UInt32.toNat_xor, hb, hh]
    apply Nat.eq_of_testBit_eq
    intro i
    rw [Nat.testBit_xor, show (16 : Nat) = 2 ^ 4 from rfl, Nat.testBit_mod_two_pow, Nat.mul_comm, Nat.testBit_two_pow_mul, Nat.testBit_div_two_pow]
    rcases Nat.lt_or_ge i 4 with h | h
    · rw [decide_eq_true h, decide_eq_false (by omega : ¬ i ≥ 4)]; simp
    · rw [decide_eq_false (by omega : ¬ i < 4), decide_eq_true h, show i - 4 + 4 = i by omega]; simp
  have h1 : stepV (r &&& 15) = stp 4 (r &&& 15) := by
    have := stepV_stp ⟨(r &&& 15).toNat, by rw [hb]; omega⟩
    rwa [show UInt32.ofNat (⟨(r &&& 15).toNat, by rw [hb]; omega⟩ : Fin 16).val = r &&& 15 from UInt32.ofNat_toNat] at this
  have h2 : r >>> 4 = stp 4 ((r >>> 4) <<< 4) := by
    apply UInt32.toNat_inj.1
    rw [stp_shift 4 _ (by rw [hh]; omega), hh, hs]
    omega
  unfold stepR
  rw [h1]
  conv => lhs; rw [h2]
  rw [← stp_xor, hx]
theorem feedB_stp (r : UInt32) (x : UInt8) : feedB r x = stp 8 (r ^^^ x.toUInt32) := by
  unfold feedB
  rw [stepR_stp, stepR_stp, ← stp_add 4 4]
theorem feedB_xor (r s : UInt32) (x : UInt8) : feedB (r ^^^ s) x = feedB r x ^^^ stp 8 s := by
  rw [feedB_stp, feedB_stp, ← stp_xor, UInt32.xor_assoc, UInt32.xor_comm s, ← UInt32.xor_assoc]
theorem feedL_xor : ∀ (l : List UInt8) (r s : UInt32), feedL (r ^^^ s) l = feedL r l ^^^ stp (8 * l.length) s
  | [], _, _ => rfl
  | x :: l, r, s => by
    show feedL (feedB (r ^^^ s) x) l = feedL (feedB r x) l ^^^ _
    rw [feedB_xor, feedL_xor l, List.length_cons, show 8 * (l.length + 1) = 8 + 8 * l.length by omega, stp_add]
theorem feedL_set : ∀ (l : List UInt8) (j : Nat) (y : UInt8) (r : UInt32), j < l.length → feedL r (l.set j (l.getD j 0 ^^^ y)) = feedL r l ^^^ stp (8 * (l.length - j)) y.toUInt32
  | x :: l, 0, y, r, _ => by
    show feedL (feedB r (x ^^^ y)) l = feedL (feedB r x) l ^^^ _
    rw [feedB_stp, UInt8.toUInt32_xor, ← UInt32.xor_assoc, stp_xor, ← feedB_stp, feedL_xor, List.length_cons, Nat.sub_zero, show 8 * (l.length + 1) = 8 + 8 * l.length by omega, stp_add]
  | x :: l, j + 1, y, r, h => by
    show feedL (feedB r x) (l.set j (l.getD j 0 ^^^ y)) = feedL (feedB r x) l ^^^ _
    rw [feedL_set l j y _ (by simpa using h), List.length_cons, Nat.add_sub_add_right]
theorem bit_shift : ∀ (t : Fin 8), stp 8 ((1 : UInt8) <<< UInt8.ofNat t.val).toUInt32 = stp (8 - t.val) 1 := by decide
theorem bit_shift0 : ∀ (t : Fin 8), stp 8 ((0 : UInt8) <<< UInt8.ofNat t.val).toUInt32 = stp (8 - t.val) 0 := by decide
theorem bit_any (x : UInt32) (t : Nat) (ht : t < 8) : stp 8 ((x &&& 1).toUInt8 <<< UInt8.ofNat t).toUInt32 = stp (8 - t) (x &&& 1) := by
  rcases bit_two x with h | h
  · rw [h]; exact bit_shift0 ⟨t, ht⟩
  · rw [h]; exact bit_shift ⟨t, ht⟩
theorem step1_split (x : UInt32) : step1 x = step1 (x &&& 1) ^^^ (x >>> 1) := by
  unfold step1
  rcases bit_two x with h | h
  · rw [h, show ((0 : UInt32) >>> 1) ^^^ poly1 (0 &&& 1) = 0 by decide, show poly1 0 = 0 by decide, UInt32.xor_zero, UInt32.zero_xor]
  · rw [h, show ((1 : UInt32) >>> 1) ^^^ poly1 (1 &&& 1) = poly1 1 by decide, UInt32.xor_comm]
theorem flip_feed : ∀ (n : Nat) (l : List UInt8) (i : Nat) (x r : UInt32), l.length = 256 → i + n = 2048 → x.toNat < 2 ^ n → feedL r (flipL n l i x) = feedL r l ^^^ stp n x
  | 0, l, i, x, r, hl, hi, hx => by
    have h0 : x = 0 := by apply UInt32.toNat_inj.1; have : (0 : UInt32).toNat = 0 := rfl; rw [Nat.pow_zero] at hx; omega
    rw [h0]
    show feedL r l = _
    rw [show stp 0 0 = 0 from rfl, UInt32.xor_zero]
  | n + 1, l, i, x, r, hl, hi, hx => by
    unfold flipL
    by_cases h0 : x = 0
    · rw [if_pos h0, h0, stp_zero, UInt32.xor_zero]
    · rw [if_neg h0]
      have hs : (x >>> 1).toNat = x.toNat / 2 := by rw [UInt32.toNat_shiftRight]; exact Nat.shiftRight_eq_div_pow _ _
      rw [flip_feed n _ (i + 1) (x >>> 1) r (by rw [List.length_set]; exact hl) (by omega) (by rw [hs]; rw [Nat.pow_succ] at hx; omega), feedL_set l (i / 8) _ r (by omega), hl]
      rw [show 8 * (256 - i / 8) = 8 + (2040 - 8 * (i / 8)) by omega, stp_add, bit_any x (i % 8) (by omega), ← stp_add, show 8 - i % 8 + (2040 - 8 * (i / 8)) = n + 1 by omega, UInt32.xor_assoc]
      congr 1
      show stp n (step1 (x &&& 1)) ^^^ stp n (x >>> 1) = stp n (step1 x)
      rw [← stp_xor, ← step1_split]
theorem byte_part (x : UInt32) : x.toUInt8.toUInt32 ^^^ ((x >>> 8) <<< 8) = x := by
  apply UInt32.toNat_inj.1
  have hx := x.toNat_lt
  have hs : (x >>> 8).toNat = x.toNat / 256 := by rw [UInt32.toNat_shiftRight]; exact Nat.shiftRight_eq_div_pow _ _
  have hh : ((x >>> 8) <<< 8).toNat = x.toNat / 256 * 256 := by
    rw [UInt32.toNat_shiftLeft, hs]
    show (x.toNat / 256) <<< 8 % 2 ^ 32 = _
    rw [Nat.shiftLeft_eq, Nat.mod_eq_of_lt (by show x.toNat / 256 * 256 < 4294967296; omega)]
  rw [UInt32.toNat_xor, UInt8.toNat_toUInt32, UInt32.toNat_toUInt8, hh]
  apply Nat.eq_of_testBit_eq
  intro i
  rw [Nat.testBit_xor, show (256 : Nat) = 2 ^ 8 from rfl, Nat.testBit_mod_two_pow, Nat.mul_comm, Nat.testBit_two_pow_mul, Nat.testBit_div_two_pow]
  rcases Nat.lt_or_ge i 8 with h | h
  · rw [decide_eq_true h, decide_eq_false (by omega : ¬ i ≥ 8)]; simp
  · rw [decide_eq_false (by omega : ¬ i < 8), decide_eq_true h, show i - 8 + 8 = i by omega]; simp
theorem feed_word (r s : UInt32) : feedB r s.toUInt8 ^^^ (s >>> 8) = stp 8 (r ^^^ s) := by
  have hs : (s >>> 8).toNat = s.toNat / 256 := by rw [UInt32.toNat_shiftRight]; exact Nat.shiftRight_eq_div_pow _ _
  have hx := s.toNat_lt
  have hh : ((s >>> 8) <<< 8).toNat = s.toNat / 256 * 256 := by
    rw [UInt32.toNat_shiftLeft, hs]
    show (s.toNat / 256) <<< 8 % 2 ^ 32 = _
    rw [Nat.shiftLeft_eq, Nat.mod_eq_of_lt (by show s.toNat / 256 * 256 < 4294967296; omega)]
  have h2 : s >>> 8 = stp 8 ((s >>> 8) <<< 8) := by
    apply UInt32.toNat_inj.1
    rw [stp_shift 8 _ (by rw [hh]; omega), hh, hs]
    omega
  rw [feedB_stp]
  conv => lhs; rw [h2]
  rw [← stp_xor, UInt32.xor_assoc, byte_part]
theorem feed_sum (r s : UInt32) : feedL r (sum4 s) = stp 32 (r ^^^ s) := by
  have e : feedL r (sum4 s) = feedB (feedB (feedB (feedB r s.toUInt8) (s >>> 8).toUInt8) (s >>> 16).toUInt8) (s >>> 24).toUInt8 := rfl
  have sh : ∀ (a b : UInt32) (x y : Nat), a = s >>> UInt32.ofNat x → b = s >>> UInt32.ofNat y → x + 8 = y → y < 32 → a >>> 8 = b := by
    rintro a b x y rfl rfl rfl hy
    apply UInt32.toNat_inj.1
    rw [UInt32.toNat_shiftRight, UInt32.toNat_shiftRight, UInt32.toNat_shiftRight]
    simp only [UInt32.toNat_ofNat']
    rw [Nat.mod_eq_of_lt (show x < 2 ^ 32 by omega), Nat.mod_eq_of_lt (show x + 8 < 2 ^ 32 by omega), Nat.mod_eq_of_lt (show x < 32 by omega), Nat.mod_eq_of_lt hy]
    show (s.toNat >>> x) >>> 8 = _
    rw [← Nat.shiftRight_add]
  have back : ∀ (a b c : UInt32), a ^^^ b = c → a = c ^^^ b := fun a b c h => by rw [← h, UInt32.xor_assoc, UInt32.xor_self, UInt32.xor_zero]
  have w1 := back _ _ _ (feed_word r s)
  have w2 := back _ _ _ (feed_word (feedB r s.toUInt8) (s >>> 8))
  have w3 := back _ _ _ (feed_word (feedB (feedB r s.toUInt8) (s >>> 8).toUInt8) (s >>> 16))
  have w4 := back _ _ _ (feed_word (feedB (feedB (feedB r s.toUInt8) (s >>> 8).toUInt8) (s >>> 16).toUInt8) (s >>> 24))
  have s1 : (s >>> 8) >>> 8 = s >>> 16 := sh _ _ 8 16 rfl rfl rfl (by decide)
  have s2 : (s >>> 16) >>> 8 = s >>> 24 := sh _ _ 16 24 rfl rfl rfl (by decide)
  have s3 : (s >>> 24) >>> 8 = 0 := by
    apply UInt32.toNat_inj.1
    have hx := s.toNat_lt
    rw [UInt32.toNat_shiftRight, UInt32.toNat_shiftRight]
    show (s.toNat >>> 24) >>> 8 = 0
    rw [← Nat.shiftRight_add, Nat.shiftRight_eq_div_pow]
    exact Nat.div_eq_of_lt hx
  have can : ∀ (a b : UInt32), (a ^^^ b) ^^^ b = a := fun a b => by rw [UInt32.xor_assoc, UInt32.xor_self, UInt32.xor_zero]
  rw [e, w4, s3, UInt32.xor_zero, w3, s2, can, w2, s1, can, w1, can, ← stp_add, ← stp_add, ← stp_add]
theorem whole_feed {l : List UInt8} (h : wholeB l = true) : feedL (~~~ 0) l = stp 32 (~~~ 0) := by
  unfold wholeB at h
  obtain ⟨h4, h5⟩ := of_decide_eq_true h
  have e : l = l.take (l.length - 4) ++ l.drop (l.length - 4) := (List.take_append_drop _ _).symm
  have hf : ∀ (a b : List UInt8) (r : UInt32), feedL r (a ++ b) = feedL (feedL r a) b := fun a b r => List.foldl_append
  rw [e, h5, hf, feed_sum]
  congr 1
  show feedL (~~~ 0) _ ^^^ ~~~ (feedL (~~~ 0) _) = _
  apply UInt32.toNat_inj.1
  rw [UInt32.toNat_xor, UInt32.toNat_not]
  generalize (feedL (~~~ 0) (l.take (l.length - 4))) = r
  have hr := r.toNat_lt
  have e2 : (UInt32.size - 1 - r.toNat) = 2 ^ 32 - (r.toNat + 1) := by unfold UInt32.size; omega
  rw [e2]
  apply Nat.eq_of_testBit_eq
  intro i
  rw [Nat.testBit_xor, Nat.testBit_two_pow_sub_succ hr]
  have e3 : (~~~ (0 : UInt32)).toNat = 2 ^ 32 - 1 := by decide
  rw [e3, Nat.testBit_two_pow_sub_one]
  rcases Nat.lt_or_ge i 32 with hi | hi
  · rw [decide_eq_true hi]; cases r.toNat.testBit i <;> rfl
  · rw [decide_eq_false (by omega), Nat.testBit_lt_two_pow (Nat.lt_of_lt_of_le hr (Nat.pow_le_pow_right (by decide) hi))]; rfl
theorem burst_found {l : List UInt8} (hl : l.length = 256) (h : wholeB l = true) {i : Nat} (hi : i ≤ 2016) {x : UInt32} (hx : x ≠ 0) : wholeB (flipL (2048 - i) l i x) = false := by
  cases hq : wholeB (flipL (2048 - i) l i x) with
  | false => rfl
  | true =>
    exfalso
    have h1 := whole_feed h
    have h2 := whole_feed hq
    rw [flip_feed (2048 - i) l i x _ hl (by omega) (Nat.lt_of_lt_of_le x.toNat_lt (Nat.pow_le_pow_right (by decide) (by omega))), h1] at h2
    have h3 : stp (2048 - i) x = 0 := by
      have h4 : stp 32 (~~~ 0) ^^^ (stp 32 (~~~ 0) ^^^ stp (2048 - i) x) = stp 32 (~~~ 0) ^^^ stp 32 (~~~ 0) := by rw [h2]
      rwa [← UInt32.xor_assoc, UInt32.xor_self, UInt32.zero_xor] at h4
    exact hx (stp_inj _ h3)
theorem byte_xx (a y : UInt8) : (a ^^^ y) ^^^ y = a := by rw [UInt8.xor_assoc, UInt8.xor_self, UInt8.xor_zero]
end Go.Proofs.Ytehnnnohoaapdaa

/- A page that is spoilt, and made whole again. -/
namespace Go.Proofs.Ytehnnnohoaapdaa
open Go Go.RowKit
set_option linter.unusedVariables false
set_option linter.unusedSimpArgs false
theorem flip_mask : ∀ (n i : Nat) (x : UInt32), ∃ m : Nat → UInt8, ∀ (l : List UInt8) (j : Nat), j < l.length → (flipL n l i x).getD j 0 = l.getD j 0 ^^^ m j
  | 0, i, x => ⟨fun _ => 0, fun l j _ => by show l.getD j 0 = _; rw [UInt8.xor_zero]⟩
  | n + 1, i, x => by
    by_cases h0 : x = 0
    · exact ⟨fun _ => 0, fun l j _ => by unfold flipL; rw [if_pos h0, UInt8.xor_zero]⟩
    · obtain ⟨m, hm⟩ := flip_mask n (i + 1) (x >>> 1)
      refine ⟨fun j => (if j = i / 8 then ((x &&& 1).toUInt8 <<< UInt8.ofNat (i % 8)) else 0) ^^^ m j, fun l j hj => ?_⟩
      unfold flipL
      rw [if_neg h0, hm _ j (by rw [List.length_set]; exact hj)]
      show _ ^^^ m j = l.getD j 0 ^^^ ((if j = i / 8 then ((x &&& 1).toUInt8 <<< UInt8.ofNat (i % 8)) else 0) ^^^ m j)
      by_cases hji : j = i / 8
      · rw [if_pos hji, hji, List.getD_eq_getElem?_getD, List.getElem?_set_self (by rw [← hji]; exact hj)]
        show (_ ^^^ _) ^^^ _ = _
        rw [UInt8.xor_assoc]
      · rw [if_neg hji, List.getD_eq_getElem?_getD, List.getElem?_set_ne (fun e => hji e.symm), ← List.getD_eq_getElem?_getD, UInt8.zero_xor]
theorem flip_twice (n i : Nat) (x : UInt32) (l : List UInt8) : flipL n (flipL n l i x) i x = l := by
  obtain ⟨m, hm⟩ := flip_mask n i x
  have hl := flipL_len n l i x
  refine List.ext_getElem? fun j => ?_
  rcases Nat.lt_or_ge j l.length with hj | hj
  · have h1 := hm (flipL n l i x) j (by rw [hl]; exact hj)
    rw [hm l j hj, byte_xx] at h1
    have g : ∀ (a : List UInt8), j < a.length → a[j]? = some (a.getD j 0) := fun a ha => by rw [List.getD_eq_getElem?_getD, List.getElem?_eq_getElem ha]; rfl
    rw [g _ (by rw [flipL_len, hl]; exact hj), g l hj, h1]
  · rw [List.getElem?_eq_none (by rw [flipL_len, hl]; exact hj), List.getElem?_eq_none hj]
def brst (D : DV) (n i : Nat) (x : UInt32) : DV := { D with pages := D.pages.set n (flipL (2048 - i) (D.pg n) i x) }
theorem flip_in {D : DV} {page bit : Int} {n i : Nat} (hp : page = (n : Int)) (hb : bit = (i : Int)) (hn : n < D.pages.length) (hi : i < 2048) (x : UInt32) : flipE D page bit = 0 ∧ flipD D page bit x = brst D n i x := by
  subst hp
  subst hb
  have h1 : D.has (n : Int) := ⟨by omega, by omega⟩
  have h2 : 0 ≤ (i : Int) ∧ (i : Int) < 2048 := ⟨by omega, by omega⟩
  unfold flipE flipD
  rw [if_pos h1, if_pos h2, if_pos h1, if_pos h2]
  exact ⟨rfl, rfl⟩
theorem brst_twice {D : DV} {n i : Nat} (hn : n < D.pages.length) (x : UInt32) (r s : Int) : brst ((brst (D.rd r) n i x).rd s) n i x = D.rd s := by
  have h1 : ((brst (D.rd r) n i x).rd s).pg n = flipL (2048 - i) (D.pg n) i x := by
    show ((D.pages.set n _).getD n []) = _
    rw [List.getD_eq_getElem?_getD, List.getElem?_set_self hn]; rfl
  have h2 : (brst ((brst (D.rd r) n i x).rd s) n i x).pages = D.pages := by
    show ((D.pages.set n _).set n (flipL (2048 - i) (((brst (D.rd r) n i x).rd s).pg n) i x)) = _
    rw [h1, flip_twice, List.set_set]
    exact set_same rfl hn
  show ({ ((brst (D.rd r) n i x).rd s) with pages := (brst ((brst (D.rd r) n i x).rd s) n i x).pages } : DV) = _
  rw [h2]
  rfl
section
variable {D : DV} {V : FV} {ps : Pgs} {f p pg mb : Nat} {qv : Value} {w : World}
theorem brst_other (h : Inv D V ps) (hq : D.q = []) {n i j : Nat} (hj : j ≠ n) (h1 : 2 ≤ j) (h2 : (j : Int) < V.next) (x : UInt32) (r s : Int) : (((brst (D.rd r) n i x).rd s).cur j) = pgB ps j := by
  have e : ((brst (D.rd r) n i x).rd s).cur j = D.cur j := by
    show curP ((D.pages.set n _).getD j []) D.q j = curP (D.pages.getD j []) D.q j
    rw [List.getD_eq_getElem?_getD, List.getElem?_set_ne (fun e => hj e.symm), ← List.getD_eq_getElem?_getD]
  rw [e]
  exact h.cur j h1 h2
theorem brst_live (h : Inv D V ps) (n i : Nat) (x : UInt32) (r s : Int) : liveE ((brst (D.rd r) n i x).rd s) V = 0 := h.isLive
theorem brst_fok (h : Inv D V ps) (n i : Nat) (x : UInt32) (r s : Int) : FOk ((brst (D.rd r) n i x).rd s) V := h.fok.of_len (by show (D.pages.set n _).length = _; rw [List.length_set])
theorem bread_ok (h : Inv D V ps) (hq : D.q = []) {n i j : Nat} (hj : j ≠ n) (h1 : 2 ≤ j) (h2 : (j : Int) < V.next) (x : UInt32) (r s : Int)
    (hM : Mem w (foots [disk ((brst (D.rd r) n i x).rd s) p pg mb qv, blk f 96 (fC V p)]) w [disk ((brst (D.rd r) n i x).rd s) p pg mb qv, blk f 96 (fC V p)]) :
    Calls Try.prog 25 #[.pointer (some ⟨f, 0, none⟩), .int .i64 (j : Int)] w fun e w' => ∃ a c s', e = .returned (.tuple #[.int .i64 ((pgAt ps j).1 : Int), .slice a (pgAt ps j).2.length c, .int .i64 0]) ∧ Mem w (foots [disk ((brst (D.rd r) n i x).rd s) p pg mb qv, blk f 96 (fC V p)]) w' [disk ((brst (D.rd r) n i x).rd s') p pg mb qv, blk f 96 (fC V p), bytesL (.slice a (pgAt ps j).2.length c) (pgAt ps j).2] := by
  have hL : ¬ liveE ((brst (D.rd r) n i x).rd s) V ≠ 0 := fun z => z (brst_live h n i x r s)
  have hlen := h.lenN
  have hhi := h.ok.hi
  have hnp := h.nextp
  have hok : PageOk (pgAt ps j) := pgAt_ok h.plat.good (by omega)
  obtain ⟨u1, u2, u3⟩ := unpg_pageB (kind := (pgAt ps j).1) (page := j) (load := (pgAt ps j).2) hok.1 ⟨h1, by omega⟩ hok.2
  have hc : ((brst (D.rd r) n i x).rd s).cur j = pageB (pgAt ps j).1 j (pgAt ps j).2 := brst_other h hq hj h1 h2 x r s
  have e1 : fReadE ((brst (D.rd r) n i x).rd s) V j = 0 := by
    unfold fReadE
    rw [if_neg hL, if_neg (by omega), Int.toNat_natCast, hc, if_neg (fun z => z u1)]
  obtain ⟨e2, e3⟩ := fRead_yes e1
  rw [Int.toNat_natCast, hc, u2] at e2
  rw [Int.toNat_natCast, hc, u3] at e3
  have e4 : fReadD ((brst (D.rd r) n i x).rd s) V j = (brst (D.rd r) n i x).rd (wrap64 (s + 1)) := by
    unfold fReadD
    rw [if_neg (by omega)]
    unfold readD
    rw [if_neg (by show ¬ D.dead = true; rw [h.pow]; decide), if_pos ⟨by omega, by show (j : Int) < ((D.pages.set n _).length : Int); rw [List.length_set]; omega⟩]
    rfl
  have := fread_any hM (j : Int) (brst_fok h n i x r s)
  rw [e1, e2, e3, e4] at this
  refine this.mono ?_
  rintro e w' ⟨v, rfl, h3⟩
  obtain ⟨a, c, rfl⟩ := qv_at (h3.get 2 rfl)
  exact ⟨a, c, _, rfl, h3⟩
theorem bread_bad (h : Inv D V ps) (hq : D.q = []) {n i : Nat} (hi : i ≤ 2016) (h1 : 2 ≤ n) (h2 : (n : Int) < V.next) {x : UInt32} (hx : x ≠ 0) (r s : Int)
    (hM : Mem w (foots [disk ((brst (D.rd r) n i x).rd s) p pg mb qv, blk f 96 (fC V p)]) w [disk ((brst (D.rd r) n i x).rd s) p pg mb qv, blk f 96 (fC V p)]) :
    Calls Try.prog 25 #[.pointer (some ⟨f, 0, none⟩), .int .i64 (n : Int)] w fun e w' => ∃ a c s', e = .returned (.tuple #[.int .i64 0, .slice a 0 c, .int .i64 4]) ∧ Mem w (foots [disk ((brst (D.rd r) n i x).rd s) p pg mb qv, blk f 96 (fC V p)]) w' [disk ((brst (D.rd r) n i x).rd s') p pg mb qv, blk f 96 (fC V p)] := by
  have hL : ¬ liveE ((brst (D.rd r) n i x).rd s) V ≠ 0 := fun z => z (brst_live h n i x r s)
  have hlen := h.lenN
  have hhi := h.ok.hi
  have hnp := h.nextp
  have hok : PageOk (pgAt ps n) := pgAt_ok h.plat.good (by omega)
  have hpg : D.pg n = pageB (pgAt ps n).1 n (pgAt ps n).2 := by
    have := h.cur n h1 h2
    rwa [cur_other (fun y hy => by rw [hq] at hy; cases hy)] at this
  have hc : ((brst (D.rd r) n i x).rd s).cur n = flipL (2048 - i) (D.pg n) i x := by
    show curP ((D.pages.set n _).getD n []) D.q n = _
    rw [hq, List.getD_eq_getElem?_getD, List.getElem?_set_self (by omega)]; rfl
  have hw : wholeB (flipL (2048 - i) (D.pg n) i x) = false := burst_found (by rw [hpg]; exact length_pageB _ _ hok.2) (by rw [hpg]; exact wholeB_sealB _) hi hx
  have hl : (flipL (2048 - i) (D.pg n) i x).length = 256 := by rw [flipL_len, hpg]; exact length_pageB _ _ hok.2
  have hu : unpgE n (flipL (2048 - i) (D.pg n) i x) = 52 := by
    unfold unpgE
    rw [if_neg (by unfold PlaceOk; omega), if_neg (by rw [hl]; decide), if_pos hw]
  have e1 : fReadE ((brst (D.rd r) n i x).rd s) V n = 4 := by
    unfold fReadE
    rw [if_neg hL, if_neg (by omega), Int.toNat_natCast, hc, hu, if_pos (by decide)]
  obtain ⟨e2, e3⟩ := fRead_no e1 (by decide)
  have e4 : fReadD ((brst (D.rd r) n i x).rd s) V n = (brst (D.rd r) n i x).rd (wrap64 (s + 1)) := by
    unfold fReadD
    rw [if_neg (by omega)]
    unfold readD
    rw [if_neg (by show ¬ D.dead = true; rw [h.pow]; decide), if_pos ⟨by omega, by show (n : Int) < ((D.pages.set n _).length : Int); rw [List.length_set]; omega⟩]
    rfl
  have := fread_any hM (n : Int) (brst_fok h n i x r s)
  rw [e1, e2, e3, e4] at this
  refine this.mono ?_
  rintro e w' ⟨v, rfl, h3⟩
  obtain ⟨a, c, rfl⟩ := qv_at (h3.get 2 rfl)
  exact ⟨a, c, _, rfl, h3.arr [0, 1] (by decide)⟩
theorem flip_fit (hM : Mem w (foots [disk D p pg mb qv]) w [disk D p pg mb qv]) (page bit : Int) {n i : Nat} (hp : page = (n : Int)) (hb : bit = (i : Int)) (hn : n < D.pages.length) (hi : i < 2048) (x : UInt32) (xv : Int) (hxv : xv = (x.toNat : Int)) :
    Calls Try.prog 36 #[.pointer (some ⟨p, 0, none⟩), .int .i64 page, .int .i64 bit, .int .u32 xv] w fun e w' => e = .returned (.int .i64 0) ∧ Mem w (foots [disk D p pg mb qv]) w' [disk (brst D n i x) p pg mb qv] := by
  subst hxv
  obtain ⟨e1, e2⟩ := flip_in hp hb hn hi x
  have := flip_any hM page bit x
  rw [e1, e2] at this
  exact this
end
end Go.Proofs.Ytehnnnohoaapdaa

/- The law FileBurst: a pattern. -/
namespace Go.Proofs.Ytehnnnohoaapdaa
open Go Go.RowKit
set_option linter.unusedVariables false
set_option linter.unusedSimpArgs false
set_option maxRecDepth 100000 in
set_option maxHeartbeats 4000000 in
theorem burst_a {w : World} (k : Nat) (width : Int) (hn : 3 ≤ k ∧ k ≤ 64) (hw : 1 ≤ width ∧ width ≤ 32) (aa : Option Addr) (an ac : Nat) (avs : List AV) (hacts : ListIn actC 3 w aa an avs) (hok : ∀ a ∈ avs, ActIn w a) (han : an ≤ 4611686018427387904) (pge bit : Int) (x : UInt32) (hx0 : x ≠ 0) : Calls Try.prog 6 #[.int .i64 (k : Int), .int .i64 width, .slice aa an ac, .int .i64 pge, .int .i64 bit, .int .u32 (x.toNat : Int)] w fun e w' => e = .returned (.bool true) ∧ Mem w [] w' [] := by
  have M := Mem.nil w
  have hal := hacts.1
  go_enter Try.func6, Try.ntmps6
  refine wp_seq_k (fun K1 hK1 => ?_)
  refine wp_region_lit ?_
  refine pl M (y_assign (v := .bool false) rfl rfl rfl) ?_
  simp only [Act.put, z1, z2, z3]
  refine wpList_nil ?_
  refine hK1 _ _ ?_
  clear hK1
  refine wp_seq_k (fun K2 hK2 => ?_)
  refine wp_seq_k (fun K3 hK3 => ?_)
  refine wp_region_lit ?_
  refine pl M (y_move (v := .int .i64 (k : Int)) rfl rfl rfl) ?_
  simp only [Act.put, z1, z2, z3]
  refine pl M (y_move (v := .int .i64 width) rfl rfl rfl) ?_
  simp only [Act.put, z1, z2, z3]
  refine pe rfl (fun K hK => ?_)
  refine e_call 11 [.int .i64 (k : Int), .int .i64 width] rfl rfl Try.call11 (fits_any (k : Int) width _) ?_
  rintro e w4 ⟨rfl, H4⟩
  have M4 : Mem w [] w4 [] := M.step H4
  rw [(fits_yes hn hw)]
  refine ⟨_, rfl, ?_⟩
  refine hK.out _ _ ?_
  clear hK K
  simp only [Act.put, z1, z2, z3]
  refine pl M4 (y_not rfl rfl rfl rfl) ?_
  simp only [Act.put, z1, z2, z3]
  refine wpList_nil ?_
  refine hK3 _ _ ?_
  clear hK3
  refine wp_cond_false rfl ?_
  refine wp_skip ?_
  refine hK2 _ _ ?_
  clear hK2
  refine wp_seq_k (fun K5 hK5 => ?_)
  refine wp_region_lit ?_
  refine pl M4 (y_move (v := .int .i64 (k : Int)) rfl rfl rfl) ?_
  simp only [Act.put, z1, z2, z3]
  refine pl M4 (y_move (v := .int .i64 width) rfl rfl rfl) ?_
  simp only [Act.put, z1, z2, z3]
  refine pe rfl (fun K hK => ?_)
  refine e_call 22 [.int .i64 (k : Int), .int .i64 width] rfl rfl Try.call22 (fresh_any k width hn hw _) ?_
  rintro e w6 ⟨p, pg, mb, qv0, f, D0, m, rfl, H6, hI0, hq0, ha0, hp0⟩
  have M6 : Mem w [] w6 [disk D0 p pg mb qv0, blk f 96 (fC (⟨secondS width k, 2, m⟩ : FV) p)] := M4.step H6
  refine ⟨_, rfl, ?_⟩
  refine hK.out _ _ ?_
  clear hK K
  simp only [Act.put, z1, z2, z3]
  refine pl M6 (y_move (v := .tuple #[.pointer (some ⟨p, 0, none⟩), .pointer (some ⟨f, 0, none⟩)]) rfl rfl rfl) ?_
  simp only [Act.put, z1, z2, z3]
  refine pl M6 (y_ext (v := .pointer (some ⟨p, 0, none⟩)) rfl rfl rfl rfl) ?_
  simp only [Act.put, z1, z2, z3]
  refine pl M6 (y_ext (v := .pointer (some ⟨f, 0, none⟩)) rfl rfl rfl rfl) ?_
  simp only [Act.put, z1, z2, z3]
  refine pl M6 (y_assign (v := .pointer (some ⟨p, 0, none⟩)) rfl rfl rfl) ?_
  simp only [Act.put, z1, z2, z3]
  refine pl M6 (y_assign (v := .pointer (some ⟨f, 0, none⟩)) rfl rfl rfl) ?_
  simp only [Act.put, z1, z2, z3]
  refine wpList_nil ?_
  refine hK5 _ _ ?_
  clear hK5
  refine wp_seq_k (fun K7 hK7 => ?_)
  refine wp_seq_k (fun K8 hK8 => ?_)
  refine wp_region_lit ?_
  refine pl M6 (y_move (v := .pointer (some ⟨f, 0, none⟩)) rfl rfl rfl) ?_
  simp only [Act.put, z1, z2, z3]
  refine pl M6 (y_eqnil (r := false) rfl rfl rfl rfl Try.underlying33 rfl) ?_
  simp only [Act.put, z1, z2, z3]
  refine wpList_nil ?_
  refine hK8 _ _ ?_
  clear hK8
  refine wp_cond_false rfl ?_
  refine wp_skip ?_
  refine hK7 _ _ ?_
  clear hK7
  refine wp_seq_k (fun K9 hK9 => ?_)
  refine wp_region_lit ?_
  refine pl M6 (y_build (ps := [(2, .const (.int .i64 2)), (3, .const (.int .i64 1))]) (pv := [(2, .int .i64 2), (3, .int .i64 1)]) (cs := (bC (⟨[], 2, 1, 0, 0, 0⟩ : BV) (⟨.slice none 0 0, .slice none 0 0, []⟩ : BX))) rfl rfl rfl (by kernel_rfl)) ?_
  simp only [Act.put, z1, z2, z3]
  refine pe rfl (fun K hK => ?_)
  refine e_box M6 (bC (⟨[], 2, 1, 0, 0, 0⟩ : BV) (⟨.slice none 0 0, .slice none 0 0, []⟩ : BX)) rfl rfl ?_
  intro b w10 (M10 : Mem w [] w10 [blk b 48 (bC (⟨[], 2, 1, 0, 0, 0⟩ : BV) (⟨.slice none 0 0, .slice none 0 0, []⟩ : BX)), disk D0 p pg mb qv0, blk f 96 (fC (⟨secondS width k, 2, m⟩ : FV) p)])
  clear M6
  refine hK.out _ _ ?_
  clear hK K
  simp only [Act.put, z1, z2, z3]
  have M11 : Mem w [] w10 [blk b 48 (bC (⟨[], 2, 1, 0, 0, 0⟩ : BV) (⟨.slice none 0 0, .slice none 0 0, []⟩ : BX)), disk D0 p pg mb qv0, blk f 96 (fC (⟨secondS width k, 2, m⟩ : FV) p)] := M10.arr [0, 1, 2] (by decide)
  clear M10
  have M12 : Mem w [] w10 [book (⟨[], 2, 1, 0, 0, 0⟩ : BV) b (⟨.slice none 0 0, .slice none 0 0, []⟩ : BX), disk D0 p pg mb qv0, blk f 96 (fC (⟨secondS width k, 2, m⟩ : FV) p)] := book_new M11
  clear M11
  refine pl M12 (y_assign (v := .pointer (some ⟨b, 0, none⟩)) rfl rfl rfl) ?_
  simp only [Act.put, z1, z2, z3]
  refine wpList_nil ?_
  refine hK9 _ _ ?_
  clear hK9
  refine wp_seq_k (fun K13 hK13 => ?_)
  refine wp_seq_k (fun K14 hK14 => ?_)
  refine wp_region_lit ?_
  refine pl M12 (y_assign (v := .int .i64 0) rfl rfl rfl) ?_
  simp only [Act.put, z1, z2, z3]
  refine wpList_nil ?_
  refine hK14 _ _ ?_
  clear hK14
  have hBI : BInv D0 (⟨secondS width k, 2, m⟩ : FV) (⟨[], 2, 1, 0, 0, 0⟩ : BV) := ⟨hI0, rfl, rfl, rfl, rfl, Nat.zero_le _⟩
  have hcutK13 : ∀ a' w', (fun a' w' => ∃ (i : Nat) (D : DV) (V : FV) (B : BV) (qv : Value) (bx : BX) (us15 : List Value), a' = (⟨#[.int .i64 (k : Int), .int .i64 width, .slice aa an ac, .int .i64 pge, .int .i64 bit, .int .u32 (x.toNat : Int), undef, undef, undef, undef, undef, undef, (us15.getD 0 undef), .pointer (some ⟨p, 0, none⟩), .pointer (some ⟨f, 0, none⟩), .pointer (some ⟨b, 0, none⟩), .int .i64 (i : Int), (us15.getD 1 undef), (us15.getD 2 undef), undef, undef, undef, undef, undef, undef, undef, .int .i64 (k : Int), .int .i64 width, .bool true, .bool false, .tuple #[.pointer (some ⟨p, 0, none⟩), .pointer (some ⟨f, 0, none⟩)], .int .i64 (k : Int), .int .i64 width, .tuple #[.pointer (some ⟨p, 0, none⟩), .pointer (some ⟨f, 0, none⟩)], .pointer (some ⟨p, 0, none⟩), .pointer (some ⟨f, 0, none⟩), .pointer (some ⟨f, 0, none⟩), .bool false, .agg ((bC (⟨[], 2, 1, 0, 0, 0⟩ : BV) (⟨.slice none 0 0, .slice none 0 0, []⟩ : BX))).toArray, .pointer (some ⟨b, 0, none⟩), (us15.getD 3 undef), (us15.getD 4 undef), (us15.getD 5 undef), (us15.getD 6 undef), (us15.getD 7 undef), (us15.getD 8 undef), (us15.getD 9 undef), (us15.getD 10 undef), (us15.getD 11 undef), (us15.getD 12 undef), (us15.getD 13 undef), (us15.getD 14 undef), (us15.getD 15 undef), (us15.getD 16 undef), (us15.getD 17 undef), (us15.getD 18 undef), (us15.getD 19 undef), (us15.getD 20 undef), (us15.getD 21 undef), (us15.getD 22 undef), (us15.getD 23 undef), (us15.getD 24 undef), (us15.getD 25 undef), (us15.getD 26 undef), (us15.getD 27 undef), (us15.getD 28 undef), (us15.getD 29 undef), (us15.getD 30 undef), (us15.getD 31 undef), undef, undef, undef, undef, undef, undef, undef, undef, undef, undef, undef, undef, undef, undef, undef, undef, undef, undef, undef, undef, undef, undef, undef, undef, undef, undef, undef, undef, undef, undef, undef, undef, undef, undef, undef, undef, undef, undef, undef, undef, undef, undef, undef, undef, undef, undef, undef, undef, undef, undef, undef, undef, undef, undef, undef, undef, undef, undef, undef, undef, undef, undef, undef, undef, undef, undef, undef, undef, undef, undef, undef, undef, undef, undef, undef, undef, undef, undef, undef, undef, undef, undef, undef, undef, undef, undef, undef, undef, undef, undef, undef, undef, undef, undef, undef], []⟩ : Act) ∧ (BInv D V B) ∧ (D.q.length ≤ i ∧ i ≤ 60 ∧ D.pages.length = k ∧ D.armed = 0) ∧ (V.s.gen ≤ 1 + i ∧ V.s.width = width) ∧ Mem w [] w' [disk D p pg mb qv, blk f 96 (fC V p), book B b bx]) a' w' → K13 a' w' := by
    clear M12
    rintro a' w16 ⟨i, D, V, B, qv, bx, us15, rfl, hB, hqi, hgi, M16⟩
    refine hK13 _ _ ?_
    clear hK13
    refine wp_seq_k (fun K17 hK17 => ?_)
    refine wp_seq_k (fun K18 hK18 => ?_)
    refine wp_region_lit ?_
    refine pl M16 (y_move (v := .pointer (some ⟨f, 0, none⟩)) rfl rfl rfl) ?_
    simp only [Act.put, z1, z2, z3]
    obtain ⟨hp1, hp2, hp3, hp4, hp5, hp6, hp7, hp8⟩ := pub_cnt hB.inv (head := 0) (.inl rfl) (by omega) hqi.2.2.2
    have hX19 : Mem w [] w16 ([disk D p pg mb qv, blk f 96 (fC V p)] ++ [book B b bx]) := M16.arr [0, 1, 2] (by decide)
    refine pe rfl (fun K hK => ?_)
    refine e_call 28 [.pointer (some ⟨f, 0, none⟩), .int .i64 0] rfl rfl Try.call28 (xpub_go (Mem.here hX19) hB.inv 0 (by omega) hp1 hp8) ?_
    rintro e w19 ⟨E, qv3, rfl, H19, hE, hpl⟩
    have M19 : Mem w [] w19 [disk E p pg mb qv3, blk f 96 (fC ({ V with s := pubS V 0 } : FV) p), book B b bx] := Mem.frame hX19 H19
    rw [← hE] at hp2 hp6
    have hEk : E.pages.length = k := by rw [hpl]; exact hqi.2.2.1
    have hnp := hp2.nextp
    have hn2 := hp2.next2
    have hnp : V.next ≤ (E.pages.length : Int) := hnp
    have hn2 : 2 ≤ V.next := hn2
    refine ⟨_, rfl, ?_⟩
    refine hK.out _ _ ?_
    clear hK K
    simp only [Act.put, z1, z2, z3]
    refine pl M19 (y_neq (b := false) rfl rfl rfl rfl (by rw [decide_eq_true (by decide)]; rfl)) ?_
    simp only [Act.put, z1, z2, z3]
    refine wpList_nil ?_
    refine hK18 _ _ ?_
    clear hK18
    refine wp_cond_false rfl ?_
    refine wp_skip ?_
    refine hK17 _ _ ?_
    clear hK17
    refine wp_seq_k (fun K20 hK20 => ?_)
    refine wp_region_lit ?_
    refine pl M19 (y_move (v := .pointer (some ⟨f, 0, none⟩)) rfl rfl rfl) ?_
    simp only [Act.put, z1, z2, z3]
    have hX21 : Mem w [] w19 ([disk E p pg mb qv3, blk f 96 (fC ({ V with s := pubS V 0 } : FV) p)] ++ [book B b bx]) := M19.arr [0, 1, 2] (by decide)
    refine pe rfl (fun K hK => ?_)
    refine e_call 19 [.pointer (some ⟨f, 0, none⟩)] rfl rfl Try.call19 (super_any (Mem.here hX21)) ?_
    rintro e w21 ⟨rfl, H21⟩
    have M21 : Mem w [] w21 [disk E p pg mb qv3, blk f 96 (fC ({ V with s := pubS V 0 } : FV) p), book B b bx] := Mem.frame hX21 H21
    refine ⟨_, rfl, ?_⟩
    refine hK.out _ _ ?_
    clear hK K
    simp only [Act.put, z1, z2, z3]
    refine pl M21 (y_field1 (v := .int .i64 V.next) rfl rfl rfl Try.underlying37 rfl Try.isAgg3 rfl) ?_
    simp only [Act.put, z1, z2, z3]
    refine pl M21 (y_assign (v := .int .i64 V.next) rfl rfl rfl) ?_
    simp only [Act.put, z1, z2, z3]
    refine wpList_nil ?_
    refine hK20 _ _ ?_
    clear hK20
    refine wp_seq_k (fun K22 hK22 => ?_)
    refine wp_seq_k (fun K23 hK23 => ?_)
    refine wp_region_lit ?_
    refine pl M21 (y_move (v := .int .i64 V.next) rfl rfl rfl) ?_
    simp only [Act.put, z1, z2, z3]
    rcases Decidable.em (V.next = 2) with h24 | h24
    · refine pl M21 (y_eql (b := true) rfl rfl rfl rfl (decide_eq_true h24)) ?_
      simp only [Act.put, z1, z2, z3]
      refine wpList_nil ?_
      refine hK23 _ _ ?_
      clear hK23
      refine wp_cond_true rfl ?_
      refine wp_seq_k (fun K25 hK25 => ?_)
      refine wp_region_lit ?_
      refine pl M21 (y_assign (v := .bool true) rfl rfl rfl) ?_
      simp only [Act.put, z1, z2, z3]
      refine wpList_nil ?_
      refine hK25 _ _ ?_
      clear hK25
      refine wp_ret ?_
      try simp only [Exit.inBlock, Exit.then]
      refine bodyPost_ret (v := .bool true) (res1 rfl rfl) rfl ?_
      exact ⟨rfl, M21.arr [] (by decide)⟩
    · obtain ⟨ta, hta⟩ : ∃ x : Nat, 2 + pge % (V.next - 2) = (x : Int) := Int.eq_ofNat_of_zero_le (by have := Int.emod_nonneg pge (show V.next - 2 ≠ 0 by omega); omega)
      have hmlt := Int.emod_lt_of_pos pge (show 0 < V.next - 2 by omega)
      have hta2 : 2 ≤ ta := by have := Int.emod_nonneg pge (show V.next - 2 ≠ 0 by omega); omega
      have htaV : (ta : Int) < V.next := by omega
      obtain ⟨fi, hfi⟩ : ∃ x : Nat, bit % 2017 = (x : Int) := Int.eq_ofNat_of_zero_le (by omega)
      refine pl M21 (y_eql (b := false) rfl rfl rfl rfl (decide_eq_false h24)) ?_
      simp only [Act.put, z1, z2, z3]
      refine wpList_nil ?_
      refine hK23 _ _ ?_
      clear hK23
      refine wp_cond_false rfl ?_
      refine wp_skip ?_
      refine hK22 _ _ ?_
      clear hK22
      refine wp_seq_k (fun K26 hK26 => ?_)
      refine wp_region_lit ?_
      refine pl M21 (y_move (v := .int .i64 pge) rfl rfl rfl) ?_
      simp only [Act.put, z1, z2, z3]
      refine pl M21 (y_move (v := .int .i64 V.next) rfl rfl rfl) ?_
      simp only [Act.put, z1, z2, z3]
      refine pl M21 (y_sub (r := V.next - 2) rfl rfl rfl rfl (rfl) (by omega)) ?_
      simp only [Act.put, z1, z2, z3]
      refine pe rfl (fun K hK => ?_)
      refine e_call 13 [.int .i64 pge, .int .i64 (V.next - 2)] rfl rfl Try.call13 (place3_any pge (V.next - 2) (by omega) (by omega) _) ?_
      rintro e w27 ⟨rfl, H27⟩
      have M27 : Mem w [] w27 [disk E p pg mb qv3, blk f 96 (fC ({ V with s := pubS V 0 } : FV) p), book B b bx] := M21.step H27
      refine ⟨_, rfl, ?_⟩
      refine hK.out _ _ ?_
      clear hK K
      simp only [Act.put, z1, z2, z3]
      refine pl M27 (y_add (r := (ta : Int)) rfl rfl rfl rfl (hta) (by omega)) ?_
      simp only [Act.put, z1, z2, z3]
      refine pl M27 (y_assign (v := .int .i64 (ta : Int)) rfl rfl rfl) ?_
      simp only [Act.put, z1, z2, z3]
      refine wpList_nil ?_
      refine hK26 _ _ ?_
      clear hK26
      refine wp_seq_k (fun K28 hK28 => ?_)
      refine wp_region_lit ?_
      refine pl M27 (y_move (v := .int .i64 bit) rfl rfl rfl) ?_
      simp only [Act.put, z1, z2, z3]
      refine pe rfl (fun K hK => ?_)
      refine e_call 13 [.int .i64 bit, .int .i64 2017] rfl rfl Try.call13 (place3_any bit 2017 (by decide) (by decide) _) ?_
      rintro e w29 ⟨rfl, H29⟩
      have M29 : Mem w [] w29 [disk E p pg mb qv3, blk f 96 (fC ({ V with s := pubS V 0 } : FV) p), book B b bx] := M27.step H29
      refine ⟨_, rfl, ?_⟩
      refine hK.out _ _ ?_
      clear hK K
      simp only [Act.put, z1, z2, z3]
      refine pl M29 (y_assign (v := .int .i64 (bit % 2017)) rfl rfl rfl) ?_
      simp only [Act.put, z1, z2, z3]
      refine wpList_nil ?_
      refine hK28 _ _ ?_
      clear hK28
      refine wp_seq_k (fun K30 hK30 => ?_)
      refine wp_seq_k (fun K31 hK31 => ?_)
      refine wp_region_lit ?_
      refine pl M29 (y_move (v := .int .u32 (x.toNat : Int)) rfl rfl rfl) ?_
      simp only [Act.put, z1, z2, z3]
      refine pl M29 (y_eql (b := false) rfl rfl rfl rfl (decide_eq_false (fun e => hx0 (UInt32.toNat_inj.1 (by have : (0 : UInt32).toNat = 0 := rfl; omega))))) ?_
      simp only [Act.put, z1, z2, z3]
      refine wpList_nil ?_
      refine hK31 _ _ ?_
      clear hK31
      refine wp_cond_false rfl ?_
      refine wp_skip ?_
      refine hK30 _ _ ?_
      clear hK30
      refine wp_seq_k (fun K32 hK32 => ?_)
      refine wp_seq_k (fun K33 hK33 => ?_)
      refine wp_region_lit ?_
      refine pl M29 (y_move (v := .pointer (some ⟨b, 0, none⟩)) rfl rfl rfl) ?_
      simp only [Act.put, z1, z2, z3]
      refine pl M29 (y_move (v := .pointer (some ⟨f, 0, none⟩)) rfl rfl rfl) ?_
      simp only [Act.put, z1, z2, z3]
      refine pl M29 (y_move (v := .int .i64 V.next) rfl rfl rfl) ?_
      simp only [Act.put, z1, z2, z3]
      have hX34 : Mem w [] w29 ([disk E p pg mb qv3, blk f 96 (fC ({ V with s := pubS V 0 } : FV) p), book B b bx] ++ []) := M29.arr [0, 1, 2] (by decide)
      refine pe rfl (fun K hK => ?_)
      refine e_call 29 [.pointer (some ⟨b, 0, none⟩), .pointer (some ⟨f, 0, none⟩), .int .i64 V.next] rfl rfl Try.call29 (bholds_int (Mem.here hX34) (B := B) hp2 V.next (by omega) (Int.le_refl _)) ?_
      rintro e w34 ⟨r1, rfl, H34⟩
      have M34 : Mem w [] w34 [disk (E.rd r1) p pg mb qv3, blk f 96 (fC ({ V with s := pubS V 0 } : FV) p), book B b bx] := Mem.frame hX34 H34
      refine ⟨_, rfl, ?_⟩
      refine hK.out _ _ ?_
      clear hK K
      simp only [Act.put, z1, z2, z3]
      refine pl M34 (y_not rfl rfl rfl rfl) ?_
      simp only [Act.put, z1, z2, z3]
      refine pl M34 (y_move (v := .bool false) rfl rfl rfl) ?_
      simp only [Act.put, z1, z2, z3]
      refine pl M34 (y_move (v := .pointer (some ⟨p, 0, none⟩)) rfl rfl rfl) ?_
      simp only [Act.put, z1, z2, z3]
      refine pl M34 (y_move (v := .int .i64 (ta : Int)) rfl rfl rfl) ?_
      simp only [Act.put, z1, z2, z3]
      refine pl M34 (y_move (v := .int .i64 (bit % 2017)) rfl rfl rfl) ?_
      simp only [Act.put, z1, z2, z3]
      refine pl M34 (y_move (v := .int .u32 (x.toNat : Int)) rfl rfl rfl) ?_
      simp only [Act.put, z1, z2, z3]
      have hX35 : Mem w [] w34 ([disk (E.rd r1) p pg mb qv3] ++ [blk f 96 (fC ({ V with s := pubS V 0 } : FV) p), book B b bx]) := M34.arr [0, 1, 2] (by decide)
      refine pe rfl (fun K hK => ?_)
      refine e_call 36 [.pointer (some ⟨p, 0, none⟩), .int .i64 (ta : Int), .int .i64 (bit % 2017), .int .u32 (x.toNat : Int)] rfl rfl Try.call36 (flip_fit (Mem.here hX35) (ta : Int) (bit % 2017) (n := ta) (i := fi) rfl hfi (by show ta < E.pages.length; omega) (by omega) x _ rfl) ?_
      rintro e w35 ⟨rfl, H35⟩
      have M35 : Mem w [] w35 [disk ((brst (E.rd r1) ta fi x).rd r1) p pg mb qv3, blk f 96 (fC ({ V with s := pubS V 0 } : FV) p), book B b bx] := Mem.frame hX35 H35
      refine ⟨_, rfl, ?_⟩
      refine hK.out _ _ ?_
      clear hK K
      simp only [Act.put, z1, z2, z3]
      obtain ⟨lv, kv, vs⟩ := bx
      have M36 : Mem w [] w35 [blk b 48 (bC B ⟨lv, kv, vs⟩), rows lv vs B.loads, lst 3 1 kv B.ps.length B.kinds, disk ((brst (E.rd r1) ta fi x).rd r1) p pg mb qv3, blk f 96 (fC ({ V with s := pubS V 0 } : FV) p)] := book_open (M35.arr [2, 0, 1] (by decide))
      clear M35
      have hkl := hp2.lenN
      have hkl : V.next - 2 ≤ (B.ps.length : Int) := hkl
      refine pl M36 (y_neq (b := false) rfl rfl rfl rfl (by rw [decide_eq_true (by decide)]; rfl)) ?_
      simp only [Act.put, z1, z2, z3]
      refine pl M36 (y_pickF (v := .bool false) rfl rfl rfl rfl) ?_
      simp only [Act.put, z1, z2, z3]
      refine wpList_nil ?_
      refine hK33 _ _ ?_
      clear hK33
      refine wp_cond_false rfl ?_
      refine wp_skip ?_
      refine hK32 _ _ ?_
      clear hK32
      refine wp_seq_k (fun K37 hK37 => ?_)
      refine wp_seq_k (fun K38 hK38 => ?_)
      refine wp_region_lit ?_
      refine pl M36 (y_assign (v := .int .i64 2) rfl rfl rfl) ?_
      simp only [Act.put, z1, z2, z3]
      refine wpList_nil ?_
      refine hK38 _ _ ?_
      clear hK38
      refine wp_block ?_
      refine wp_loop (fun a' w' => ∃ (j : Nat) (rr : Int) (us39 : List Value), a' = (⟨#[.int .i64 (k : Int), .int .i64 width, .slice aa an ac, .int .i64 pge, .int .i64 bit, .int .u32 (x.toNat : Int), undef, undef, undef, undef, undef, undef, (us39.getD 0 undef), .pointer (some ⟨p, 0, none⟩), .pointer (some ⟨f, 0, none⟩), .pointer (some ⟨b, 0, none⟩), .int .i64 (i : Int), (us15.getD 1 undef), (us15.getD 2 undef), .int .i64 V.next, .int .i64 (ta : Int), .int .i64 (bit % 2017), .int .i64 (j : Int), (us39.getD 1 undef), (us39.getD 2 undef), (us39.getD 3 undef), .int .i64 (k : Int), .int .i64 width, .bool true, .bool false, .tuple #[.pointer (some ⟨p, 0, none⟩), .pointer (some ⟨f, 0, none⟩)], .int .i64 (k : Int), .int .i64 width, .tuple #[.pointer (some ⟨p, 0, none⟩), .pointer (some ⟨f, 0, none⟩)], .pointer (some ⟨p, 0, none⟩), .pointer (some ⟨f, 0, none⟩), .pointer (some ⟨f, 0, none⟩), .bool false, .agg ((bC (⟨[], 2, 1, 0, 0, 0⟩ : BV) (⟨.slice none 0 0, .slice none 0 0, []⟩ : BX))).toArray, .pointer (some ⟨b, 0, none⟩), (us15.getD 3 undef), (us15.getD 4 undef), (us15.getD 5 undef), (us15.getD 6 undef), (us15.getD 7 undef), (us15.getD 8 undef), (us15.getD 9 undef), (us15.getD 10 undef), (us15.getD 11 undef), (us15.getD 12 undef), (us15.getD 13 undef), (us15.getD 14 undef), (us15.getD 15 undef), (us15.getD 16 undef), (us15.getD 17 undef), (us15.getD 18 undef), (us15.getD 19 undef), (us15.getD 20 undef), (us15.getD 21 undef), (us15.getD 22 undef), (us15.getD 23 undef), (us15.getD 24 undef), (us15.getD 25 undef), (us15.getD 26 undef), (us15.getD 27 undef), (us15.getD 28 undef), (us15.getD 29 undef), (us15.getD 30 undef), (us15.getD 31 undef), .pointer (some ⟨f, 0, none⟩), .int .i64 0, .bool false, .pointer (some ⟨f, 0, none⟩), .agg ((supC ({ V with s := pubS V 0 } : FV).s)).toArray, .int .i64 V.next, .int .i64 V.next, .bool false, .int .i64 pge, .int .i64 V.next, .int .i64 (V.next - 2), .int .i64 (pge % (V.next - 2)), .int .i64 (ta : Int), .int .i64 bit, .int .i64 (bit % 2017), .int .u32 (x.toNat : Int), .bool false, .pointer (some ⟨b, 0, none⟩), .pointer (some ⟨f, 0, none⟩), .int .i64 V.next, .bool true, .bool false, .bool false, .pointer (some ⟨p, 0, none⟩), .int .i64 (ta : Int), .int .i64 (bit % 2017), .int .u32 (x.toNat : Int), .int .i64 0, .bool false, .bool false, (us39.getD 4 undef), (us39.getD 5 undef), (us39.getD 6 undef), (us39.getD 7 undef), (us39.getD 8 undef), (us39.getD 9 undef), (us39.getD 10 undef), (us39.getD 11 undef), (us39.getD 12 undef), (us39.getD 13 undef), (us39.getD 14 undef), (us39.getD 15 undef), (us39.getD 16 undef), (us39.getD 17 undef), (us39.getD 18 undef), (us39.getD 19 undef), (us39.getD 20 undef), (us39.getD 21 undef), (us39.getD 22 undef), (us39.getD 23 undef), (us39.getD 24 undef), (us39.getD 25 undef), (us39.getD 26 undef), (us39.getD 27 undef), (us39.getD 28 undef), (us39.getD 29 undef), (us39.getD 30 undef), (us39.getD 31 undef), (us39.getD 32 undef), (us39.getD 33 undef), (us39.getD 34 undef), (us39.getD 35 undef), (us39.getD 36 undef), (us39.getD 37 undef), (us39.getD 38 undef), (us39.getD 39 undef), (us39.getD 40 undef), (us39.getD 41 undef), (us39.getD 42 undef), (us39.getD 43 undef), (us39.getD 44 undef), (us39.getD 45 undef), (us39.getD 46 undef), (us39.getD 47 undef), (us39.getD 48 undef), (us39.getD 49 undef), (us39.getD 50 undef), (us39.getD 51 undef), (us39.getD 52 undef), (us39.getD 53 undef), (us39.getD 54 undef), (us39.getD 55 undef), (us39.getD 56 undef), undef, undef, undef, undef, undef, undef, undef, undef, undef, undef, undef, undef], []⟩ : Act) ∧ (2 ≤ j ∧ (j : Int) ≤ V.next) ∧ Mem w [] w' [disk ((brst (E.rd r1) ta fi x).rd rr) p pg mb qv3, blk f 96 (fC ({ V with s := pubS V 0 } : FV) p), blk b 48 (bC B ⟨lv, kv, vs⟩), rows lv vs B.loads, lst 3 1 kv B.ps.length B.kinds]) (fun a' _ => V.next.toNat - (intOf (a'.tmps.getD 22 undef)).toNat) ⟨2, r1, [(us15.getD 0 undef), undef, undef, undef, undef, undef, undef, undef, undef, undef, undef, undef, undef, undef, undef, undef, undef, undef, undef, undef, undef, undef, undef, undef, undef, undef, undef, undef, undef, undef, undef, undef, undef, undef, undef, undef, undef, undef, undef, undef, undef, undef, undef, undef, undef, undef, undef, undef, undef, undef, undef, undef, undef, undef, undef, undef, undef], rfl, ⟨by omega, by omega⟩, (M36.arr [3, 4, 0, 1, 2] (by decide))⟩ ?_
      clear M36
      rintro a' w40 ⟨j, rr, us39, rfl, hj, M40⟩
      refine wp_seq_k (fun K41 hK41 => ?_)
      refine wp_seq_k (fun K42 hK42 => ?_)
      refine wp_region_lit ?_
      refine pl M40 (y_move (v := .int .i64 (j : Int)) rfl rfl rfl) ?_
      simp only [Act.put, z1, z2, z3]
      refine pl M40 (y_move (v := .int .i64 V.next) rfl rfl rfl) ?_
      simp only [Act.put, z1, z2, z3]
      rcases Decidable.em ((j : Int) < V.next) with h43 | h43
      · have hib : j - 2 < B.ps.length := by omega
        obtain ⟨gk, ck, hk⟩ := lst_pt (M40.get 4 rfl) (B.kind_at hib)
        obtain ⟨gl, cl, ao, nn, hl, hv, hlen, hfo⟩ := rows_pt (M40.get 3 rfl) (i := j - 2) (by rw [B.loads_len]; exact hib)
        rw [B.load_at] at hv hlen
        have hpgl := pg_len hp2 (n := j) (by omega) (by show (j : Int) < V.next; omega)
        refine pl M40 (y_lss (b := true) rfl rfl rfl rfl (decide_eq_true h43)) ?_
        simp only [Act.put, z1, z2, z3]
        refine wpList_nil ?_
        refine hK42 _ _ ?_
        clear hK42
        refine wp_cond_true rfl ?_
        refine wp_skip ?_
        refine hK41 _ _ ?_
        clear hK41
        refine wp_seq_k (fun K44 hK44 => ?_)
        refine wp_block ?_
        refine wp_seq_k (fun K45 hK45 => ?_)
        refine wp_region_lit ?_
        refine pl M40 (y_move (v := .pointer (some ⟨f, 0, none⟩)) rfl rfl rfl) ?_
        simp only [Act.put, z1, z2, z3]
        refine pl M40 (y_move (v := .int .i64 (j : Int)) rfl rfl rfl) ?_
        simp only [Act.put, z1, z2, z3]
        rcases Decidable.em (j = ta) with hjt | hjt
        · have hX46 : Mem w [] w40 ([disk ((brst (E.rd r1) ta fi x).rd rr) p pg mb qv3, blk f 96 (fC ({ V with s := pubS V 0 } : FV) p)] ++ [blk b 48 (bC B ⟨lv, kv, vs⟩), rows lv vs B.loads, lst 3 1 kv B.ps.length B.kinds]) := M40.arr [0, 1, 2, 3, 4] (by decide)
          refine pe rfl (fun K hK => ?_)
          refine e_call 25 [.pointer (some ⟨f, 0, none⟩), .int .i64 (j : Int)] rfl rfl Try.call25 ((by rw [hjt]; exact bread_bad hp2 hp6 (by omega) hta2 htaV hx0 r1 rr (Mem.here hX46))) ?_
          rintro e w46 ⟨a2, c2, r3, rfl, H46⟩
          have M46 : Mem w [] w46 [disk ((brst (E.rd r1) ta fi x).rd r3) p pg mb qv3, blk f 96 (fC ({ V with s := pubS V 0 } : FV) p), blk b 48 (bC B ⟨lv, kv, vs⟩), rows lv vs B.loads, lst 3 1 kv B.ps.length B.kinds] := Mem.frame hX46 H46
          refine ⟨_, rfl, ?_⟩
          refine hK.out _ _ ?_
          clear hK K
          simp only [Act.put, z1, z2, z3]
          refine pl M46 (y_move (v := .tuple #[.int .i64 0, .slice a2 0 c2, .int .i64 4]) rfl rfl rfl) ?_
          simp only [Act.put, z1, z2, z3]
          refine pl M46 (y_ext (v := .int .i64 0) rfl rfl rfl rfl) ?_
          simp only [Act.put, z1, z2, z3]
          refine pl M46 (y_ext (v := .slice a2 0 c2) rfl rfl rfl rfl) ?_
          simp only [Act.put, z1, z2, z3]
          refine pl M46 (y_ext (v := .int .i64 4) rfl rfl rfl rfl) ?_
          simp only [Act.put, z1, z2, z3]
          refine pl M46 (y_assign (v := .int .i64 0) rfl rfl rfl) ?_
          simp only [Act.put, z1, z2, z3]
          refine pl M46 (y_assign (v := .slice a2 0 c2) rfl rfl rfl) ?_
          simp only [Act.put, z1, z2, z3]
          refine pl M46 (y_assign (v := .int .i64 4) rfl rfl rfl) ?_
          simp only [Act.put, z1, z2, z3]
          refine wpList_nil ?_
          refine hK45 _ _ ?_
          clear hK45
          refine wp_seq_k (fun K47 hK47 => ?_)
          refine wp_region_lit ?_
          refine pl M46 (y_move (v := .int .i64 (j : Int)) rfl rfl rfl) ?_
          simp only [Act.put, z1, z2, z3]
          refine pl M46 (y_move (v := .int .i64 (ta : Int)) rfl rfl rfl) ?_
          simp only [Act.put, z1, z2, z3]
          refine pl M46 (y_eql (b := true) rfl rfl rfl rfl (decide_eq_true (by omega))) ?_
          simp only [Act.put, z1, z2, z3]
          refine wpList_nil ?_
          refine hK47 _ _ ?_
          clear hK47
          refine wp_cond_true rfl ?_
          refine wp_seq_k (fun K48 hK48 => ?_)
          refine wp_region_lit ?_
          refine pl M46 (y_move (v := .int .i64 4) rfl rfl rfl) ?_
          simp only [Act.put, z1, z2, z3]
          refine pl M46 (y_neq (b := false) rfl rfl rfl rfl (by rw [decide_eq_true (by decide)]; rfl)) ?_
          simp only [Act.put, z1, z2, z3]
          refine pl M46 (y_move (v := .bool false) rfl rfl rfl) ?_
          simp only [Act.put, z1, z2, z3]
          refine pl M46 (y_move (v := .int .i64 0) rfl rfl rfl) ?_
          simp only [Act.put, z1, z2, z3]
          refine pl M46 (y_neq (b := false) rfl rfl rfl rfl (by rw [decide_eq_true (by decide)]; rfl)) ?_
          simp only [Act.put, z1, z2, z3]
          refine pl M46 (y_pickF (v := .bool false) rfl rfl rfl rfl) ?_
          simp only [Act.put, z1, z2, z3]
          refine pl M46 (y_move (v := .bool false) rfl rfl rfl) ?_
          simp only [Act.put, z1, z2, z3]
          refine pl M46 (y_move (v := .slice a2 0 c2) rfl rfl rfl) ?_
          simp only [Act.put, z1, z2, z3]
          refine pl M46 (y_len rfl rfl rfl Try.underlying22) ?_
          simp only [Act.put, z1, z2, z3]
          refine pl M46 (y_neq (b := false) rfl rfl rfl rfl (by rw [decide_eq_true (by decide)]; rfl)) ?_
          simp only [Act.put, z1, z2, z3]
          refine pl M46 (y_pickF (v := .bool false) rfl rfl rfl rfl) ?_
          simp only [Act.put, z1, z2, z3]
          refine wpList_nil ?_
          refine hK48 _ _ ?_
          clear hK48
          refine wp_cond_false rfl ?_
          refine wp_skip ?_
          refine hK44 _ _ ?_
          clear hK44
          refine wp_region_lit ?_
          refine pl M46 (y_move (v := .int .i64 (j : Int)) rfl rfl rfl) ?_
          simp only [Act.put, z1, z2, z3]
          refine pl M46 (y_add (r := (j : Int) + 1) rfl rfl rfl rfl (rfl) (by omega)) ?_
          simp only [Act.put, z1, z2, z3]
          refine pl M46 (y_assign (v := .int .i64 ((j : Int) + 1)) rfl rfl rfl) ?_
          simp only [Act.put, z1, z2, z3]
          refine wpList_nil ?_
          refine ⟨⟨j + 1, r3, [(us39.getD 0 undef), .int .i64 0, .slice a2 0 c2, .int .i64 4, .int .i64 (j : Int), .int .i64 V.next, .bool true, .int .i64 (j : Int), .int .i64 ((j : Int) + 1), .tuple #[.int .i64 0, .slice a2 0 c2, .int .i64 4], .pointer (some ⟨f, 0, none⟩), .int .i64 (j : Int), .tuple #[.int .i64 0, .slice a2 0 c2, .int .i64 4], .int .i64 0, .slice a2 0 c2, .int .i64 4, .int .i64 (j : Int), .int .i64 (ta : Int), .bool true, .int .i64 4, .bool false, .bool false, .int .i64 0, .bool false, .bool false, .bool false, .slice a2 0 c2, .int .i64 0, .bool false, .bool false, (us39.getD 30 undef), (us39.getD 31 undef), (us39.getD 32 undef), (us39.getD 33 undef), (us39.getD 34 undef), (us39.getD 35 undef), (us39.getD 36 undef), (us39.getD 37 undef), (us39.getD 38 undef), (us39.getD 39 undef), (us39.getD 40 undef), (us39.getD 41 undef), (us39.getD 42 undef), (us39.getD 43 undef), (us39.getD 44 undef), (us39.getD 45 undef), (us39.getD 46 undef), (us39.getD 47 undef), (us39.getD 48 undef), (us39.getD 49 undef), (us39.getD 50 undef), (us39.getD 51 undef), (us39.getD 52 undef), (us39.getD 53 undef), (us39.getD 54 undef), (us39.getD 55 undef), (us39.getD 56 undef)], rfl, ⟨by omega, by omega⟩, (M46.arr [0, 1, 2, 3, 4] (by decide))⟩, ?_⟩
          simp [intOf]; omega
        · have hX49 : Mem w [] w40 ([disk ((brst (E.rd r1) ta fi x).rd rr) p pg mb qv3, blk f 96 (fC ({ V with s := pubS V 0 } : FV) p)] ++ [blk b 48 (bC B ⟨lv, kv, vs⟩), rows lv vs B.loads, lst 3 1 kv B.ps.length B.kinds]) := M40.arr [0, 1, 2, 3, 4] (by decide)
          refine pe rfl (fun K hK => ?_)
          refine e_call 25 [.pointer (some ⟨f, 0, none⟩), .int .i64 (j : Int)] rfl rfl Try.call25 (bread_ok hp2 hp6 hjt (by omega) (by show (j : Int) < V.next; omega) x r1 rr (Mem.here hX49)) ?_
          rintro e w49 ⟨a2, c2, r3, rfl, H49⟩
          have M49 : Mem w [] w49 [disk ((brst (E.rd r1) ta fi x).rd r3) p pg mb qv3, blk f 96 (fC ({ V with s := pubS V 0 } : FV) p), bytesL (.slice a2 (pgAt B.ps j).2.length c2) (pgAt B.ps j).2, blk b 48 (bC B ⟨lv, kv, vs⟩), rows lv vs B.loads, lst 3 1 kv B.ps.length B.kinds] := Mem.frame hX49 H49
          refine ⟨_, rfl, ?_⟩
          refine hK.out _ _ ?_
          clear hK K
          simp only [Act.put, z1, z2, z3]
          refine pl M49 (y_move (v := .tuple #[.int .i64 ((pgAt B.ps j).1 : Int), .slice a2 ((pgAt B.ps j).2.length) c2, .int .i64 0]) rfl rfl rfl) ?_
          simp only [Act.put, z1, z2, z3]
          refine pl M49 (y_ext (v := .int .i64 ((pgAt B.ps j).1 : Int)) rfl rfl rfl rfl) ?_
          simp only [Act.put, z1, z2, z3]
          refine pl M49 (y_ext (v := .slice a2 ((pgAt B.ps j).2.length) c2) rfl rfl rfl rfl) ?_
          simp only [Act.put, z1, z2, z3]
          refine pl M49 (y_ext (v := .int .i64 0) rfl rfl rfl rfl) ?_
          simp only [Act.put, z1, z2, z3]
          refine pl M49 (y_assign (v := .int .i64 ((pgAt B.ps j).1 : Int)) rfl rfl rfl) ?_
          simp only [Act.put, z1, z2, z3]
          refine pl M49 (y_assign (v := .slice a2 ((pgAt B.ps j).2.length) c2) rfl rfl rfl) ?_
          simp only [Act.put, z1, z2, z3]
          refine pl M49 (y_assign (v := .int .i64 0) rfl rfl rfl) ?_
          simp only [Act.put, z1, z2, z3]
          refine wpList_nil ?_
          refine hK45 _ _ ?_
          clear hK45
          refine wp_seq_k (fun K50 hK50 => ?_)
          refine wp_region_lit ?_
          refine pl M49 (y_move (v := .int .i64 (j : Int)) rfl rfl rfl) ?_
          simp only [Act.put, z1, z2, z3]
          refine pl M49 (y_move (v := .int .i64 (ta : Int)) rfl rfl rfl) ?_
          simp only [Act.put, z1, z2, z3]
          refine pl M49 (y_eql (b := false) rfl rfl rfl rfl (decide_eq_false (by omega))) ?_
          simp only [Act.put, z1, z2, z3]
          refine wpList_nil ?_
          refine hK50 _ _ ?_
          clear hK50
          refine wp_cond_false rfl ?_
          refine wp_seq_k (fun K51 hK51 => ?_)
          refine wp_region_lit ?_
          refine pl M49 (y_move (v := .int .i64 0) rfl rfl rfl) ?_
          simp only [Act.put, z1, z2, z3]
          refine pl M49 (y_neq (b := false) rfl rfl rfl rfl (by rw [decide_eq_true (by decide)]; rfl)) ?_
          simp only [Act.put, z1, z2, z3]
          refine pl M49 (y_move (v := .bool false) rfl rfl rfl) ?_
          simp only [Act.put, z1, z2, z3]
          refine pl M49 (y_move (v := .int .i64 ((pgAt B.ps j).1 : Int)) rfl rfl rfl) ?_
          simp only [Act.put, z1, z2, z3]
          refine pl M49 (y_move (v := .pointer (some ⟨b, 0, none⟩)) rfl rfl rfl) ?_
          simp only [Act.put, z1, z2, z3]
          refine pl M49 (y_nil rfl rfl rfl) ?_
          simp only [Act.put, z1, z2, z3]
          refine pl M49 (y_fa (r := 1) rfl rfl rfl Try.underlying48 rfl Try.sizeOf46 rfl) ?_
          simp only [Act.put, z1, z2, z3]
          refine pl M49 (y_load (v := kv) rfl rfl rfl Try.isAgg46 (fun W hW => hW.get 3 rfl) (rfl)) ?_
          simp only [Act.put, z1, z2, z3]
          refine pl M49 (y_move (v := .int .i64 (j : Int)) rfl rfl rfl) ?_
          simp only [Act.put, z1, z2, z3]
          refine pl M49 (y_sub (r := ((j - 2 : Nat) : Int)) rfl rfl rfl rfl (by omega) (by omega)) ?_
          simp only [Act.put, z1, z2, z3]
          refine pl M49 (y_ias (r := j - 2) rfl rfl hk rfl Try.underlying46 Try.sizeOf3 (by omega) (by omega)) ?_
          simp only [Act.put, z1, z2, z3]
          refine pl M49 (y_loadc (v := .int .i64 ((pgAt B.ps j).1 : Int)) rfl rfl rfl Try.isAgg3 (fun W hW => lst_cell_at (hW.get 5 rfl) hk (B.kind_at hib))) ?_
          simp only [Act.put, z1, z2, z3]
          refine pl M49 (y_neq (b := false) rfl rfl rfl rfl (by rw [decide_eq_true rfl]; rfl)) ?_
          simp only [Act.put, z1, z2, z3]
          refine pl M49 (y_pickF (v := .bool false) rfl rfl rfl rfl) ?_
          simp only [Act.put, z1, z2, z3]
          refine pl M49 (y_move (v := .bool false) rfl rfl rfl) ?_
          simp only [Act.put, z1, z2, z3]
          refine pl M49 (y_move (v := .slice a2 ((pgAt B.ps j).2.length) c2) rfl rfl rfl) ?_
          simp only [Act.put, z1, z2, z3]
          refine pl M49 (y_move (v := .pointer (some ⟨b, 0, none⟩)) rfl rfl rfl) ?_
          simp only [Act.put, z1, z2, z3]
          refine pl M49 (y_nil rfl rfl rfl) ?_
          simp only [Act.put, z1, z2, z3]
          refine pl M49 (y_fa (r := 0) rfl rfl rfl Try.underlying48 rfl Try.sizeOf45 rfl) ?_
          simp only [Act.put, z1, z2, z3]
          refine pl M49 (y_load (v := lv) rfl rfl rfl Try.isAgg45 (fun W hW => hW.get 3 rfl) (rfl)) ?_
          simp only [Act.put, z1, z2, z3]
          refine pl M49 (y_move (v := .int .i64 (j : Int)) rfl rfl rfl) ?_
          simp only [Act.put, z1, z2, z3]
          refine pl M49 (y_sub (r := ((j - 2 : Nat) : Int)) rfl rfl rfl rfl (by omega) (by omega)) ?_
          simp only [Act.put, z1, z2, z3]
          refine pl M49 (y_ias (r := j - 2) rfl rfl hl rfl Try.underlying45 Try.sizeOf22 (by rw [B.loads_len]; omega) (by omega)) ?_
          simp only [Act.put, z1, z2, z3]
          refine pl M49 (y_loadc (v := .slice ao ((pgAt B.ps j).2.length) nn) rfl rfl rfl Try.isAgg22 (fun W hW => rows_cell (hW.get 4 rfl) hl rfl hv)) ?_
          simp only [Act.put, z1, z2, z3]
          refine pe rfl (fun K hK => ?_)
          refine e_call 35 [.slice a2 ((pgAt B.ps j).2.length) c2, .slice ao ((pgAt B.ps j).2.length) nn] rfl rfl Try.call35 (same_any a2 ao _ _ _ _ (pgAt B.ps j).2 (pgAt B.ps j).2 _ (bytesL_row (M49.get 2 rfl)) (by have := rows_row (M49.get 4 rfl) (by rw [B.loads_len]; exact hib) hv; rw [B.load_at] at this; exact this) (by unfold maxLen; omega) (by unfold maxLen; omega)) ?_
          rintro e w52 ⟨rfl, H52⟩
          have M52 : Mem w [] w52 [disk ((brst (E.rd r1) ta fi x).rd r3) p pg mb qv3, blk f 96 (fC ({ V with s := pubS V 0 } : FV) p), bytesL (.slice a2 (pgAt B.ps j).2.length c2) (pgAt B.ps j).2, blk b 48 (bC B ⟨lv, kv, vs⟩), rows lv vs B.loads, lst 3 1 kv B.ps.length B.kinds] := M49.step H52
          rw [(eqB_true rfl)]
          refine ⟨_, rfl, ?_⟩
          refine hK.out _ _ ?_
          clear hK K
          simp only [Act.put, z1, z2, z3]
          refine pl M52 (y_not rfl rfl rfl rfl) ?_
          simp only [Act.put, z1, z2, z3]
          refine pl M52 (y_pickF (v := .bool false) rfl rfl rfl rfl) ?_
          simp only [Act.put, z1, z2, z3]
          refine wpList_nil ?_
          refine hK51 _ _ ?_
          clear hK51
          refine wp_cond_false rfl ?_
          refine wp_skip ?_
          refine hK44 _ _ ?_
          clear hK44
          refine wp_region_lit ?_
          refine pl M52 (y_move (v := .int .i64 (j : Int)) rfl rfl rfl) ?_
          simp only [Act.put, z1, z2, z3]
          refine pl M52 (y_add (r := (j : Int) + 1) rfl rfl rfl rfl (rfl) (by omega)) ?_
          simp only [Act.put, z1, z2, z3]
          refine pl M52 (y_assign (v := .int .i64 ((j : Int) + 1)) rfl rfl rfl) ?_
          simp only [Act.put, z1, z2, z3]
          refine wpList_nil ?_
          refine ⟨⟨j + 1, r3, [(us39.getD 0 undef), .int .i64 ((pgAt B.ps j).1 : Int), .slice a2 ((pgAt B.ps j).2.length) c2, .int .i64 0, .int .i64 (j : Int), .int .i64 V.next, .bool true, .int .i64 (j : Int), .int .i64 ((j : Int) + 1), .tuple #[.int .i64 ((pgAt B.ps j).1 : Int), .slice a2 ((pgAt B.ps j).2.length) c2, .int .i64 0], .pointer (some ⟨f, 0, none⟩), .int .i64 (j : Int), .tuple #[.int .i64 ((pgAt B.ps j).1 : Int), .slice a2 ((pgAt B.ps j).2.length) c2, .int .i64 0], .int .i64 ((pgAt B.ps j).1 : Int), .slice a2 ((pgAt B.ps j).2.length) c2, .int .i64 0, .int .i64 (j : Int), .int .i64 (ta : Int), .bool false, (us39.getD 19 undef), (us39.getD 20 undef), (us39.getD 21 undef), (us39.getD 22 undef), (us39.getD 23 undef), (us39.getD 24 undef), (us39.getD 25 undef), (us39.getD 26 undef), (us39.getD 27 undef), (us39.getD 28 undef), (us39.getD 29 undef), .int .i64 0, .bool false, .bool false, .int .i64 ((pgAt B.ps j).1 : Int), .pointer (some ⟨b, 0, none⟩), .pointer (some ⟨b, 0, none⟩), .pointer (some ⟨b, 1, none⟩), kv, .int .i64 (j : Int), .int .i64 ((j - 2 : Nat) : Int), .pointer (some ⟨gk, (j - 2), none⟩), .int .i64 ((pgAt B.ps j).1 : Int), .bool false, .bool false, .bool false, .slice a2 ((pgAt B.ps j).2.length) c2, .pointer (some ⟨b, 0, none⟩), .pointer (some ⟨b, 0, none⟩), .pointer (some ⟨b, 0, none⟩), lv, .int .i64 (j : Int), .int .i64 ((j - 2 : Nat) : Int), .pointer (some ⟨gl, (j - 2), none⟩), .slice ao ((pgAt B.ps j).2.length) nn, .bool true, .bool false, .bool false], rfl, ⟨by omega, by omega⟩, (M52.arr [0, 1, 3, 4, 5] (by decide))⟩, ?_⟩
          simp [intOf]; omega
      · refine pl M40 (y_lss (b := false) rfl rfl rfl rfl (decide_eq_false h43)) ?_
        simp only [Act.put, z1, z2, z3]
        refine wpList_nil ?_
        refine hK42 _ _ ?_
        clear hK42
        refine wp_cond_false rfl ?_
        refine wp_exit ?_
        refine hK37 _ _ ?_
        clear hK37
        refine wp_seq_k (fun K53 hK53 => ?_)
        refine wp_region_lit ?_
        refine pl M40 (y_move (v := .pointer (some ⟨p, 0, none⟩)) rfl rfl rfl) ?_
        simp only [Act.put, z1, z2, z3]
        refine pl M40 (y_move (v := .int .i64 (ta : Int)) rfl rfl rfl) ?_
        simp only [Act.put, z1, z2, z3]
        refine pl M40 (y_move (v := .int .i64 (bit % 2017)) rfl rfl rfl) ?_
        simp only [Act.put, z1, z2, z3]
        refine pl M40 (y_move (v := .int .u32 (x.toNat : Int)) rfl rfl rfl) ?_
        simp only [Act.put, z1, z2, z3]
        have M54 : Mem w [] w40 [book B b (⟨lv, kv, vs⟩), disk ((brst (E.rd r1) ta fi x).rd rr) p pg mb qv3, blk f 96 (fC ({ V with s := pubS V 0 } : FV) p)] := book_close (x := ⟨lv, kv, vs⟩) (M40.arr [2, 3, 4, 0, 1] (by decide))
        clear M40
        have hX55 : Mem w [] w40 ([disk ((brst (E.rd r1) ta fi x).rd rr) p pg mb qv3] ++ [book B b (⟨lv, kv, vs⟩), blk f 96 (fC ({ V with s := pubS V 0 } : FV) p)]) := M54.arr [1, 0, 2] (by decide)
        refine pe rfl (fun K hK => ?_)
        refine e_call 36 [.pointer (some ⟨p, 0, none⟩), .int .i64 (ta : Int), .int .i64 (bit % 2017), .int .u32 (x.toNat : Int)] rfl rfl Try.call36 ((by have N := flip_fit (Mem.here hX55) (ta : Int) (bit % 2017) (n := ta) (i := fi) rfl hfi (by show ta < (E.pages.set ta _).length; rw [List.length_set]; omega) (by omega) x _ rfl; rw [brst_twice (by omega)] at N; exact N)) ?_
        rintro e w55 ⟨rfl, H55⟩
        have M55 : Mem w [] w55 [disk (E.rd rr) p pg mb qv3, book B b (⟨lv, kv, vs⟩), blk f 96 (fC ({ V with s := pubS V 0 } : FV) p)] := Mem.frame hX55 H55
        refine ⟨_, rfl, ?_⟩
        refine hK.out _ _ ?_
        clear hK K
        simp only [Act.put, z1, z2, z3]
        refine pl M55 (y_eql (b := true) rfl rfl rfl rfl (decide_eq_true (by decide))) ?_
        simp only [Act.put, z1, z2, z3]
        refine pl M55 (y_move (v := .bool true) rfl rfl rfl) ?_
        simp only [Act.put, z1, z2, z3]
        refine pl M55 (y_move (v := .pointer (some ⟨b, 0, none⟩)) rfl rfl rfl) ?_
        simp only [Act.put, z1, z2, z3]
        refine pl M55 (y_move (v := .pointer (some ⟨f, 0, none⟩)) rfl rfl rfl) ?_
        simp only [Act.put, z1, z2, z3]
        refine pl M55 (y_move (v := .int .i64 V.next) rfl rfl rfl) ?_
        simp only [Act.put, z1, z2, z3]
        have hX56 : Mem w [] w55 ([disk (E.rd rr) p pg mb qv3, blk f 96 (fC ({ V with s := pubS V 0 } : FV) p), book B b (⟨lv, kv, vs⟩)] ++ []) := M55.arr [0, 2, 1] (by decide)
        refine pe rfl (fun K hK => ?_)
        refine e_call 29 [.pointer (some ⟨b, 0, none⟩), .pointer (some ⟨f, 0, none⟩), .int .i64 V.next] rfl rfl Try.call29 (bholds_int (Mem.here hX56) (B := B) (hp2.rd rr) V.next (by omega) (Int.le_refl _)) ?_
        rintro e w56 ⟨r9, rfl, H56⟩
        have M56 : Mem w [] w56 [disk (E.rd r9) p pg mb qv3, blk f 96 (fC ({ V with s := pubS V 0 } : FV) p), book B b (⟨lv, kv, vs⟩)] := Mem.frame hX56 H56
        refine ⟨_, rfl, ?_⟩
        refine hK.out _ _ ?_
        clear hK K
        simp only [Act.put, z1, z2, z3]
        refine pl M56 (y_pickT (v := .bool true) rfl rfl rfl rfl) ?_
        simp only [Act.put, z1, z2, z3]
        refine pl M56 (y_assign (v := .bool true) rfl rfl rfl) ?_
        simp only [Act.put, z1, z2, z3]
        refine wpList_nil ?_
        refine hK53 _ _ ?_
        clear hK53
        refine wp_ret ?_
        try simp only [Exit.inBlock, Exit.then]
        refine bodyPost_ret (v := .bool true) (res1 rfl rfl) rfl ?_
        exact ⟨rfl, M56.arr [] (by decide)⟩
  clear hK13
  refine wp_block ?_
  refine wp_loop (fun a' w' => ∃ (i : Nat) (D : DV) (V : FV) (B : BV) (qv : Value) (bx : BX) (us15 : List Value), a' = (⟨#[.int .i64 (k : Int), .int .i64 width, .slice aa an ac, .int .i64 pge, .int .i64 bit, .int .u32 (x.toNat : Int), undef, undef, undef, undef, undef, undef, (us15.getD 0 undef), .pointer (some ⟨p, 0, none⟩), .pointer (some ⟨f, 0, none⟩), .pointer (some ⟨b, 0, none⟩), .int .i64 (i : Int), (us15.getD 1 undef), (us15.getD 2 undef), undef, undef, undef, undef, undef, undef, undef, .int .i64 (k : Int), .int .i64 width, .bool true, .bool false, .tuple #[.pointer (some ⟨p, 0, none⟩), .pointer (some ⟨f, 0, none⟩)], .int .i64 (k : Int), .int .i64 width, .tuple #[.pointer (some ⟨p, 0, none⟩), .pointer (some ⟨f, 0, none⟩)], .pointer (some ⟨p, 0, none⟩), .pointer (some ⟨f, 0, none⟩), .pointer (some ⟨f, 0, none⟩), .bool false, .agg ((bC (⟨[], 2, 1, 0, 0, 0⟩ : BV) (⟨.slice none 0 0, .slice none 0 0, []⟩ : BX))).toArray, .pointer (some ⟨b, 0, none⟩), (us15.getD 3 undef), (us15.getD 4 undef), (us15.getD 5 undef), (us15.getD 6 undef), (us15.getD 7 undef), (us15.getD 8 undef), (us15.getD 9 undef), (us15.getD 10 undef), (us15.getD 11 undef), (us15.getD 12 undef), (us15.getD 13 undef), (us15.getD 14 undef), (us15.getD 15 undef), (us15.getD 16 undef), (us15.getD 17 undef), (us15.getD 18 undef), (us15.getD 19 undef), (us15.getD 20 undef), (us15.getD 21 undef), (us15.getD 22 undef), (us15.getD 23 undef), (us15.getD 24 undef), (us15.getD 25 undef), (us15.getD 26 undef), (us15.getD 27 undef), (us15.getD 28 undef), (us15.getD 29 undef), (us15.getD 30 undef), (us15.getD 31 undef), undef, undef, undef, undef, undef, undef, undef, undef, undef, undef, undef, undef, undef, undef, undef, undef, undef, undef, undef, undef, undef, undef, undef, undef, undef, undef, undef, undef, undef, undef, undef, undef, undef, undef, undef, undef, undef, undef, undef, undef, undef, undef, undef, undef, undef, undef, undef, undef, undef, undef, undef, undef, undef, undef, undef, undef, undef, undef, undef, undef, undef, undef, undef, undef, undef, undef, undef, undef, undef, undef, undef, undef, undef, undef, undef, undef, undef, undef, undef, undef, undef, undef, undef, undef, undef, undef, undef, undef, undef, undef, undef, undef, undef, undef, undef], []⟩ : Act) ∧ (BInv D V B) ∧ (D.q.length ≤ i ∧ i ≤ 60 ∧ D.pages.length = k ∧ D.armed = 0) ∧ (V.s.gen ≤ 1 + i ∧ V.s.width = width) ∧ Mem w [] w' [disk D p pg mb qv, blk f 96 (fC V p), book B b bx]) (fun a' _ => an - (intOf (a'.tmps.getD 16 undef)).toNat) ⟨0, D0, (⟨secondS width k, 2, m⟩ : FV), (⟨[], 2, 1, 0, 0, 0⟩ : BV), qv0, (⟨.slice none 0 0, .slice none 0 0, []⟩ : BX), [.bool false, undef, undef, undef, undef, undef, undef, undef, undef, undef, undef, undef, undef, undef, undef, undef, undef, undef, undef, undef, undef, undef, undef, undef, undef, undef, undef, undef, undef, undef, undef, undef], rfl, hBI, ⟨by rw [hq0]; exact Nat.zero_le _, by omega, hp0, ha0⟩, ⟨by show (1 : Int) ≤ 1 + ((0 : Nat) : Int); decide, rfl⟩, (M12.arr [1, 2, 0] (by decide))⟩ ?_
  clear M12
  rintro a' w57 ⟨i, D, V, B, qv, bx, us15, rfl, hB, hqi, hgi, M57⟩
  refine wp_seq_k (fun K58 hK58 => ?_)
  refine wp_seq_k (fun K59 hK59 => ?_)
  refine wp_region_lit ?_
  refine pl M57 (y_move (v := .int .i64 (i : Int)) rfl rfl rfl) ?_
  simp only [Act.put, z1, z2, z3]
  refine pl M57 (y_move (v := .slice aa an ac) rfl rfl rfl) ?_
  simp only [Act.put, z1, z2, z3]
  refine pl M57 (y_len rfl rfl rfl Try.underlying41) ?_
  simp only [Act.put, z1, z2, z3]
  rcases Decidable.em ((i : Int) < (an : Int)) with h60 | h60
  · obtain ⟨a, hget⟩ : ∃ a, avs[i]? = some a := ⟨_, List.getElem?_eq_getElem (by have := hacts.1; omega)⟩
    obtain ⟨ga, oa, hao, hra⟩ := hacts.2 i a hget
    obtain ⟨hrow, hnil, hmc, hcc⟩ := hok a (List.mem_of_getElem? hget)
    refine pl M57 (y_lss (b := true) rfl rfl rfl rfl (decide_eq_true h60)) ?_
    simp only [Act.put, z1, z2, z3]
    refine pl M57 (y_move (v := .bool true) rfl rfl rfl) ?_
    simp only [Act.put, z1, z2, z3]
    refine pl M57 (y_move (v := .int .i64 (i : Int)) rfl rfl rfl) ?_
    simp only [Act.put, z1, z2, z3]
    rcases Decidable.em ((i : Int) < 60) with h61 | h61
    · refine pl M57 (y_lss (b := true) rfl rfl rfl rfl (decide_eq_true h61)) ?_
      simp only [Act.put, z1, z2, z3]
      refine pl M57 (y_pickT (v := .bool true) rfl rfl rfl rfl) ?_
      simp only [Act.put, z1, z2, z3]
      refine wpList_nil ?_
      refine hK59 _ _ ?_
      clear hK59
      refine wp_cond_true rfl ?_
      refine wp_skip ?_
      refine hK58 _ _ ?_
      clear hK58
      refine wp_seq_k (fun K62 hK62 => ?_)
      refine wp_block ?_
      refine wp_seq_k (fun K63 hK63 => ?_)
      refine wp_region_lit ?_
      refine pl M57 (y_move (v := .slice aa an ac) rfl rfl rfl) ?_
      simp only [Act.put, z1, z2, z3]
      refine pl M57 (y_move (v := .int .i64 (i : Int)) rfl rfl rfl) ?_
      simp only [Act.put, z1, z2, z3]
      refine pl M57 (y_ias (r := oa + i * 3) rfl rfl (congrArg (fun z => Value.slice z an ac) hao) rfl Try.underlying41 Try.sizeOf50 (by omega) (by omega)) ?_
      simp only [Act.put, z1, z2, z3]
      refine pl M57 (y_fa (r := oa + i * 3) rfl rfl rfl Try.underlying50 rfl Try.sizeOf3 rfl) ?_
      simp only [Act.put, z1, z2, z3]
      refine pl M57 (y_loadc (v := .int .i64 a.k) rfl rfl rfl Try.isAgg3 (fun W hW => (hW.range hra (by simp)) 0 _ rfl)) ?_
      simp only [Act.put, z1, z2, z3]
      rcases Decidable.em (a.k = 4) with h64 | h64
      · refine pl M57 (y_neq (b := false) rfl rfl rfl rfl (by rw [decide_eq_true h64]; rfl)) ?_
        simp only [Act.put, z1, z2, z3]
        refine wpList_nil ?_
        refine hK63 _ _ ?_
        clear hK63
        refine wp_cond_false rfl ?_
        refine wp_skip ?_
        refine hK62 _ _ ?_
        clear hK62
        refine wp_region_lit ?_
        refine pl M57 (y_move (v := .int .i64 (i : Int)) rfl rfl rfl) ?_
        simp only [Act.put, z1, z2, z3]
        refine pl M57 (y_add (r := (i : Int) + 1) rfl rfl rfl rfl (rfl) (by omega)) ?_
        simp only [Act.put, z1, z2, z3]
        refine pl M57 (y_assign (v := .int .i64 ((i : Int) + 1)) rfl rfl rfl) ?_
        simp only [Act.put, z1, z2, z3]
        refine wpList_nil ?_
        refine ⟨⟨i + 1, D, V, B, qv, bx, [(us15.getD 0 undef), (us15.getD 1 undef), (us15.getD 2 undef), .int .i64 (i : Int), .slice aa an ac, .int .i64 (an : Int), .bool true, .bool true, .int .i64 (i : Int), .bool true, .bool true, .int .i64 (i : Int), .int .i64 ((i : Int) + 1), .slice aa an ac, .int .i64 (i : Int), .pointer (some ⟨ga, oa + i * 3, none⟩), .pointer (some ⟨ga, oa + i * 3, none⟩), .int .i64 a.k, .bool false, (us15.getD 19 undef), (us15.getD 20 undef), (us15.getD 21 undef), (us15.getD 22 undef), (us15.getD 23 undef), (us15.getD 24 undef), (us15.getD 25 undef), (us15.getD 26 undef), (us15.getD 27 undef), (us15.getD 28 undef), (us15.getD 29 undef), (us15.getD 30 undef), (us15.getD 31 undef)], rfl, (by first | exact hB2 | exact hB), ⟨by first | (have := hkept.que; omega) | omega, by omega, by first | (have := hkept.pages; omega) | omega, by first | exact harm2 | exact hqi.2.2.2⟩, ⟨by first | (have := hkept.gen; omega) | omega, by first | (rw [hkept.width]; exact hgi.2) | exact hgi.2⟩, (M57.arr [0, 1, 2] (by decide))⟩, ?_⟩
        simp [intOf]; omega
      · have hk4 : a.k ≠ 4 := h64
        refine pl M57 (y_neq (b := true) rfl rfl rfl rfl (by rw [decide_eq_false h64]; rfl)) ?_
        simp only [Act.put, z1, z2, z3]
        refine wpList_nil ?_
        refine hK63 _ _ ?_
        clear hK63
        refine wp_cond_true rfl ?_
        refine wp_seq_k (fun K65 hK65 => ?_)
        refine wp_region_lit ?_
        refine pl M57 (y_move (v := .pointer (some ⟨b, 0, none⟩)) rfl rfl rfl) ?_
        simp only [Act.put, z1, z2, z3]
        refine pl M57 (y_move (v := .pointer (some ⟨p, 0, none⟩)) rfl rfl rfl) ?_
        simp only [Act.put, z1, z2, z3]
        refine pl M57 (y_move (v := .pointer (some ⟨f, 0, none⟩)) rfl rfl rfl) ?_
        simp only [Act.put, z1, z2, z3]
        refine pl M57 (y_move (v := .slice aa an ac) rfl rfl rfl) ?_
        simp only [Act.put, z1, z2, z3]
        refine pl M57 (y_move (v := .int .i64 (i : Int)) rfl rfl rfl) ?_
        simp only [Act.put, z1, z2, z3]
        refine pl M57 (y_ias (r := oa + i * 3) rfl rfl (congrArg (fun z => Value.slice z an ac) hao) rfl Try.underlying41 Try.sizeOf50 (by omega) (by omega)) ?_
        simp only [Act.put, z1, z2, z3]
        refine pl M57 (y_loadr (cs := (actC a)) rfl rfl rfl Try.underlying50 rfl (size_act a) (fun W hW => hW.range hra (by simp))) ?_
        simp only [Act.put, z1, z2, z3]
        have hX66 : Mem w [] w57 ([disk D p pg mb qv, blk f 96 (fC V p), book B b bx] ++ []) := M57.arr [0, 1, 2] (by decide)
        refine pe rfl (fun K hK => ?_)
        refine e_call 27 [.pointer (some ⟨b, 0, none⟩), .pointer (some ⟨p, 0, none⟩), .pointer (some ⟨f, 0, none⟩), .agg ((actC a)).toArray] rfl rfl Try.call27 (bact_any (Mem.here hX66) a.k a.n a.ao a.m a.c a.l (M57.row hrow (by simp)) (hX66.left.off_row hrow) (by omega) hB (by omega) (by omega)) ?_
        rintro e w66 ⟨er, E, V2, B2, qv2, bx2, rfl, H66, hout⟩
        have M66 : Mem w [] w66 [disk E p pg mb qv2, blk f 96 (fC V2 p), book B2 b bx2] := Mem.frame hX66 H66
        obtain ⟨her, hkept, hB2, harm2⟩ := hout.good ⟨hk4, hqi.2.2.2⟩
        refine ⟨_, rfl, ?_⟩
        refine hK.out _ _ ?_
        clear hK K
        simp only [Act.put, z1, z2, z3]
        refine pl M66 (y_move (v := .tuple #[.int .i64 er, .bool true]) rfl rfl rfl) ?_
        simp only [Act.put, z1, z2, z3]
        refine pl M66 (y_ext (v := .int .i64 er) rfl rfl rfl rfl) ?_
        simp only [Act.put, z1, z2, z3]
        refine pl M66 (y_ext (v := .bool true) rfl rfl rfl rfl) ?_
        simp only [Act.put, z1, z2, z3]
        refine pl M66 (y_assign (v := .int .i64 er) rfl rfl rfl) ?_
        simp only [Act.put, z1, z2, z3]
        refine pl M66 (y_assign (v := .bool true) rfl rfl rfl) ?_
        simp only [Act.put, z1, z2, z3]
        refine wpList_nil ?_
        refine hK65 _ _ ?_
        clear hK65
        refine wp_seq_k (fun K67 hK67 => ?_)
        refine wp_region_lit ?_
        refine pl M66 (y_move (v := .bool true) rfl rfl rfl) ?_
        simp only [Act.put, z1, z2, z3]
        refine pl M66 (y_not rfl rfl rfl rfl) ?_
        simp only [Act.put, z1, z2, z3]
        refine wpList_nil ?_
        refine hK67 _ _ ?_
        clear hK67
        refine wp_cond_false rfl ?_
        refine wp_skip ?_
        refine hK62 _ _ ?_
        clear hK62
        refine wp_region_lit ?_
        refine pl M66 (y_move (v := .int .i64 (i : Int)) rfl rfl rfl) ?_
        simp only [Act.put, z1, z2, z3]
        refine pl M66 (y_add (r := (i : Int) + 1) rfl rfl rfl rfl (rfl) (by omega)) ?_
        simp only [Act.put, z1, z2, z3]
        refine pl M66 (y_assign (v := .int .i64 ((i : Int) + 1)) rfl rfl rfl) ?_
        simp only [Act.put, z1, z2, z3]
        refine wpList_nil ?_
        refine ⟨⟨i + 1, E, V2, B2, qv2, bx2, [(us15.getD 0 undef), .int .i64 er, .bool true, .int .i64 (i : Int), .slice aa an ac, .int .i64 (an : Int), .bool true, .bool true, .int .i64 (i : Int), .bool true, .bool true, .int .i64 (i : Int), .int .i64 ((i : Int) + 1), .slice aa an ac, .int .i64 (i : Int), .pointer (some ⟨ga, oa + i * 3, none⟩), .pointer (some ⟨ga, oa + i * 3, none⟩), .int .i64 a.k, .bool true, .tuple #[.int .i64 er, .bool true], .pointer (some ⟨b, 0, none⟩), .pointer (some ⟨p, 0, none⟩), .pointer (some ⟨f, 0, none⟩), .slice aa an ac, .int .i64 (i : Int), .pointer (some ⟨ga, oa + i * 3, none⟩), .agg ((actC a)).toArray, .tuple #[.int .i64 er, .bool true], .int .i64 er, .bool true, .bool true, .bool false], rfl, (by first | exact hB2 | exact hB), ⟨by first | (have := hkept.que; omega) | omega, by omega, by first | (have := hkept.pages; omega) | omega, by first | exact harm2 | exact hqi.2.2.2⟩, ⟨by first | (have := hkept.gen; omega) | omega, by first | (rw [hkept.width]; exact hgi.2) | exact hgi.2⟩, (M66.arr [0, 1, 2] (by decide))⟩, ?_⟩
        simp [intOf]; omega
    · refine pl M57 (y_lss (b := false) rfl rfl rfl rfl (decide_eq_false h61)) ?_
      simp only [Act.put, z1, z2, z3]
      refine pl M57 (y_pickT (v := .bool false) rfl rfl rfl rfl) ?_
      simp only [Act.put, z1, z2, z3]
      refine wpList_nil ?_
      refine hK59 _ _ ?_
      clear hK59
      refine wp_cond_false rfl ?_
      refine wp_exit ?_
      exact hcutK13 _ _ ⟨i, D, V, B, qv, bx, [(us15.getD 0 undef), (us15.getD 1 undef), (us15.getD 2 undef), .int .i64 (i : Int), .slice aa an ac, .int .i64 (an : Int), .bool true, .bool true, .int .i64 (i : Int), .bool false, .bool false, (us15.getD 11 undef), (us15.getD 12 undef), (us15.getD 13 undef), (us15.getD 14 undef), (us15.getD 15 undef), (us15.getD 16 undef), (us15.getD 17 undef), (us15.getD 18 undef), (us15.getD 19 undef), (us15.getD 20 undef), (us15.getD 21 undef), (us15.getD 22 undef), (us15.getD 23 undef), (us15.getD 24 undef), (us15.getD 25 undef), (us15.getD 26 undef), (us15.getD 27 undef), (us15.getD 28 undef), (us15.getD 29 undef), (us15.getD 30 undef), (us15.getD 31 undef)], rfl, hB, hqi, hgi, (M57.arr [0, 1, 2] (by decide))⟩
  · refine pl M57 (y_lss (b := false) rfl rfl rfl rfl (decide_eq_false h60)) ?_
    simp only [Act.put, z1, z2, z3]
    refine pl M57 (y_move (v := .bool false) rfl rfl rfl) ?_
    simp only [Act.put, z1, z2, z3]
    with_reducible refine pskip ?_ ?_
    · rfl
    simp only [Act.put, z1, z2, z3]
    with_reducible refine pskip ?_ ?_
    · rfl
    simp only [Act.put, z1, z2, z3]
    refine pl M57 (y_pickF (v := .bool false) rfl rfl rfl rfl) ?_
    simp only [Act.put, z1, z2, z3]
    refine wpList_nil ?_
    refine hK59 _ _ ?_
    clear hK59
    refine wp_cond_false rfl ?_
    refine wp_exit ?_
    exact hcutK13 _ _ ⟨i, D, V, B, qv, bx, [(us15.getD 0 undef), (us15.getD 1 undef), (us15.getD 2 undef), .int .i64 (i : Int), .slice aa an ac, .int .i64 (an : Int), .bool false, .bool false, undef, undef, .bool false, (us15.getD 11 undef), (us15.getD 12 undef), (us15.getD 13 undef), (us15.getD 14 undef), (us15.getD 15 undef), (us15.getD 16 undef), (us15.getD 17 undef), (us15.getD 18 undef), (us15.getD 19 undef), (us15.getD 20 undef), (us15.getD 21 undef), (us15.getD 22 undef), (us15.getD 23 undef), (us15.getD 24 undef), (us15.getD 25 undef), (us15.getD 26 undef), (us15.getD 27 undef), (us15.getD 28 undef), (us15.getD 29 undef), (us15.getD 30 undef), (us15.getD 31 undef)], rfl, hB, hqi, hgi, (M57.arr [0, 1, 2] (by decide))⟩
end Go.Proofs.Ytehnnnohoaapdaa
