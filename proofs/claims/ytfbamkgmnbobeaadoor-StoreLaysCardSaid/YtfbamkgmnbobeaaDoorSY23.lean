/- Texts joined: RCrcP, RWords0, RBits, RSeal2. -/
import Derived.Test.YtfbamkgmnbobeaaDoorSY22
import Derived.Test.YtfbamkgmnbobeaaDoorSY07
import Derived.Test.YtfbamkgmnbobeaaDoorSY08
import Derived.Test.YtfbamkgmnbobeaaDoorSY04
import Derived.Test.YtfbamkgmnbobeaaDoorSY05
/- The reference's checksum: the remainder of a division, bit list by bit list. No program in sight. -/
namespace Go.Proofs.YtfbamkgmnbobeaaDoor
set_option linter.unusedSectionVars false
open Go Go.RowKit
set_option linter.unusedVariables false
set_option linter.unusedSimpArgs false
def bitsN : Nat → UInt32 → List UInt8
  | 0, _ => []
  | n + 1, x => (x &&& 1).toUInt8 :: bitsN n (x >>> 1)
theorem length_bitsN : ∀ (n : Nat) (x : UInt32), (bitsN n x).length = n
  | 0, _ => rfl
  | n + 1, x => by rw [bitsN, List.length_cons, length_bitsN n]
theorem shr_toNat (x : UInt32) (n : Nat) (hn : n < 32) : (x >>> UInt32.ofNat n).toNat = x.toNat / 2 ^ n := by
  rw [UInt32.toNat_shiftRight, UInt32.toNat_ofNat', Nat.mod_eq_of_lt (show n < 2 ^ 32 by omega), Nat.mod_eq_of_lt hn, Nat.shiftRight_eq_div_pow]
theorem bit_toNat (x : UInt32) : (x &&& 1).toNat = x.toNat % 2 := by rw [UInt32.toNat_and]; exact Nat.and_one_is_mod _
theorem bit_byte (x : UInt32) : (x &&& 1).toUInt8.toNat = x.toNat % 2 := by
  rw [UInt32.toNat_toUInt8, bit_toNat]; omega
theorem getD_bitsN : ∀ (n : Nat) (x : UInt32) (j : Nat), j < n → n ≤ 32 → ((bitsN n x).getD j 0).toNat = x.toNat / 2 ^ j % 2
  | n + 1, x, 0, _, _ => by
    show (x &&& 1).toUInt8.toNat = _
    rw [bit_byte, Nat.pow_zero, Nat.div_one]
  | n + 1, x, j + 1, h, hn => by
    show ((bitsN n (x >>> 1)).getD j 0).toNat = _
    rw [getD_bitsN n _ j (by omega) (by omega)]
    have := shr_toNat x 1 (by decide)
    rw [show (x >>> UInt32.ofNat 1) = x >>> 1 from rfl] at this
    rw [this, Nat.div_div_eq_div_mul, Nat.pow_one, Nat.pow_succ, Nat.mul_comm]
def bitsB (x : UInt8) : List UInt8 := bitsN 8 x.toUInt32
def bitsL (l : List UInt8) : List UInt8 := l.flatMap bitsB
theorem length_bitsB (x : UInt8) : (bitsB x).length = 8 := length_bitsN _ _
theorem length_bitsL : ∀ l : List UInt8, (bitsL l).length = 8 * l.length
  | [] => rfl
  | x :: l => by
    show (bitsB x ++ bitsL l).length = _
    rw [List.length_append, length_bitsB, length_bitsL l, List.length_cons]; omega
def bstep (r : UInt32) (b : UInt8) : UInt32 := step1 (r ^^^ b.toUInt32)
theorem bitsN_feed : ∀ (n : Nat) (r x : UInt32), n ≤ 32 → x.toNat < 2 ^ n → stp n (r ^^^ x) = (bitsN n x).foldl bstep r
  | 0, r, x, _, h => by
    have : x = 0 := by apply UInt32.toNat_inj.1; have h2 : (0 : UInt32).toNat = 0 := rfl; rw [Nat.pow_zero] at h; omega
    rw [this, UInt32.xor_zero]; rfl
  | n + 1, r, x, hn, h => by
    have hs := shr_toNat x 1 (by decide)
    rw [show (x >>> UInt32.ofNat 1) = x >>> 1 from rfl, Nat.pow_one] at hs
    show stp n (step1 (r ^^^ x)) = (bitsN n (x >>> 1)).foldl bstep (bstep r (x &&& 1).toUInt8)
    rw [← bitsN_feed n (bstep r (x &&& 1).toUInt8) (x >>> 1) (by omega) (by rw [hs]; rw [Nat.pow_succ] at h; omega)]
    congr 1
    have hb : (x &&& 1).toUInt8.toUInt32 = x &&& 1 := by
      apply UInt32.toNat_inj.1
      rw [UInt8.toNat_toUInt32, bit_byte, bit_toNat]
    unfold bstep
    rw [hb, step1_xor, step1_split x, step1_xor, UInt32.xor_assoc]
theorem feedL_bits : ∀ (l : List UInt8) (r : UInt32), feedL r l = (bitsL l).foldl bstep r
  | [], _ => rfl
  | x :: l, r => by
    show feedL (feedB r x) l = (bitsB x ++ bitsL l).foldl bstep r
    rw [List.foldl_append, feedL_bits l, feedB_stp]
    unfold bitsB
    rw [← bitsN_feed 8 r x.toUInt32 (by decide) (by rw [UInt8.toNat_toUInt32]; exact x.toNat_lt)]
def xorL : List UInt8 → List UInt8 → List UInt8
  | [], _ => []
  | a :: l, [] => a :: l
  | a :: l, m :: ms => (a ^^^ m) :: xorL l ms
theorem length_xorL : ∀ l m : List UInt8, (xorL l m).length = l.length
  | [], _ => rfl
  | a :: l, [] => rfl
  | a :: l, m :: ms => by rw [xorL, List.length_cons, List.length_cons, length_xorL l ms]
theorem xorL_nil (l : List UInt8) : xorL l [] = l := by cases l <;> rfl
theorem xorL_zero : ∀ l m : List UInt8, xorL l (m ++ [0]) = xorL l m
  | [], m => by cases m <;> rfl
  | a :: l, [] => by show (a ^^^ 0) :: xorL l [] = _; rw [UInt8.xor_zero, xorL_nil]; rfl
  | a :: l, m :: ms => by show (a ^^^ m) :: xorL l (ms ++ [0]) = _; rw [xorL_zero l ms]; rfl
theorem xorL_xorL : ∀ l m d : List UInt8, m.length = d.length → xorL (xorL l m) d = xorL l (List.zipWith (· ^^^ ·) m d)
  | [], m, d, _ => by cases m <;> rfl
  | a :: l, [], [], _ => rfl
  | a :: l, x :: m, y :: d, h => by
    show ((a ^^^ x) ^^^ y) :: xorL (xorL l m) d = (a ^^^ (x ^^^ y)) :: _
    rw [xorL_xorL l m d (by simpa using h), UInt8.xor_assoc]
theorem xorL_take_succ : ∀ (l m : List UInt8) (j : Nat), j < m.length → j < l.length → (xorL l (m.take j)).set j ((xorL l (m.take j)).getD j 0 ^^^ m.getD j 0) = xorL l (m.take (j + 1))
  | a :: l, x :: m, 0, _, _ => by
    show (a ^^^ x) :: l = (a ^^^ x) :: xorL l []
    rw [xorL_nil]
  | a :: l, x :: m, j + 1, h1, h2 => by
    show (a ^^^ x) :: (xorL l (m.take j)).set j ((xorL l (m.take j)).getD j 0 ^^^ m.getD j 0) = (a ^^^ x) :: xorL l (m.take (j + 1))
    rw [xorL_take_succ l m j (by simpa using h1) (by simpa using h2)]
theorem xor_byte1 (a b : UInt32) : ((a ^^^ b) &&& 1).toUInt8 = (a &&& 1).toUInt8 ^^^ (b &&& 1).toUInt8 := by
  rw [and_xor]
  rcases bit_two a with h | h <;> rcases bit_two b with h' | h' <;> rw [h, h'] <;> decide
theorem bitsN_xor : ∀ (n : Nat) (a b : UInt32), bitsN n (a ^^^ b) = List.zipWith (· ^^^ ·) (bitsN n a) (bitsN n b)
  | 0, _, _ => rfl
  | n + 1, a, b => by
    show ((a ^^^ b) &&& 1).toUInt8 :: bitsN n ((a ^^^ b) >>> 1) = ((a &&& 1).toUInt8 ^^^ (b &&& 1).toUInt8) :: List.zipWith _ (bitsN n (a >>> 1)) (bitsN n (b >>> 1))
    rw [xor_byte1, UInt32.shiftRight_xor, bitsN_xor n]
theorem bitsN_top : ∀ (n : Nat) (x : UInt32), x.toNat < 2 ^ n → n < 32 → bitsN (n + 1) x = bitsN n x ++ [0]
  | 0, x, h, _ => by
    have : x = 0 := by apply UInt32.toNat_inj.1; have h2 : (0 : UInt32).toNat = 0 := rfl; rw [Nat.pow_zero] at h; omega
    rw [this]; rfl
  | n + 1, x, h, hn => by
    have hs := shr_toNat x 1 (by decide)
    rw [show (x >>> UInt32.ofNat 1) = x >>> 1 from rfl, Nat.pow_one] at hs
    show (x &&& 1).toUInt8 :: bitsN (n + 1) (x >>> 1) = (x &&& 1).toUInt8 :: bitsN n (x >>> 1) ++ [0]
    rw [bitsN_top n (x >>> 1) (by rw [hs]; rw [Nat.pow_succ] at h; omega) (by omega)]; rfl
def divisorL : List UInt8 := [1, 0, 0, 0, 0, 0, 1, 0, 0, 1, 1, 0, 0, 0, 0, 0, 1, 0, 0, 0, 1, 1, 1, 0, 1, 1, 0, 1, 1, 0, 1, 1, 1]
theorem divisor_poly : divisorL = 1 :: bitsN 32 0xEDB88320 := by decide
def divS (l : List UInt8) : List UInt8 := if l.getD 0 0 = 1 then xorL l divisorL else l
theorem step1_lo (r : UInt32) (x : UInt8) (hx : x = 0 ∨ x = 1) : bstep r x = (r >>> 1) ^^^ poly1 ((r &&& 1) ^^^ x.toUInt32) := by
  unfold bstep step1
  rcases hx with rfl | rfl
  · rw [show (0 : UInt8).toUInt32 = 0 from rfl, UInt32.xor_zero, UInt32.xor_zero]
  · rw [show (1 : UInt8).toUInt32 = 1 from rfl, UInt32.shiftRight_xor, and_xor, show (1 : UInt32) >>> 1 = 0 by decide, show (1 : UInt32) &&& 1 = 1 by decide, UInt32.xor_zero]
theorem divS_step (x : UInt8) (m : List UInt8) (r : UInt32) (hx : x = 0 ∨ x = 1) (hm : 32 ≤ m.length) :
    (divS (xorL (x :: m) (bitsN 32 r))).drop 1 = xorL m (bitsN 32 (bstep r x)) := by
  have hs := shr_toNat r 1 (by decide)
  rw [show (r >>> UInt32.ofNat 1) = r >>> 1 from rfl, Nat.pow_one] at hs
  have hr := r.toNat_lt
  have e1 : bitsN 32 (r >>> 1) = bitsN 31 (r >>> 1) ++ [0] := bitsN_top 31 _ (by rw [hs]; show _ < 2147483648; omega) (by decide)
  have e2 : xorL (x :: m) (bitsN 32 r) = (x ^^^ (r &&& 1).toUInt8) :: xorL m (bitsN 31 (r >>> 1)) := rfl
  rw [e2, step1_lo r x hx]
  have key : ∀ b : UInt32, poly1 b = 0 → xorL m (bitsN 31 (r >>> 1)) = xorL m (bitsN 32 ((r >>> 1) ^^^ poly1 b)) := fun b hb => by rw [hb, UInt32.xor_zero, e1, xorL_zero]
  have key2 : ∀ b : UInt32, poly1 b = 0xEDB88320 → (xorL ((1 : UInt8) :: xorL m (bitsN 31 (r >>> 1))) divisorL).drop 1 = xorL m (bitsN 32 ((r >>> 1) ^^^ poly1 b)) := fun b hb => by
    rw [hb, divisor_poly, bitsN_xor]
    show xorL (xorL m (bitsN 31 (r >>> 1))) (bitsN 32 0xEDB88320) = _
    rw [← xorL_zero m (bitsN 31 (r >>> 1)), ← e1, xorL_xorL _ _ _ (by rw [length_bitsN, length_bitsN])]
  unfold divS
  rw [show ((x ^^^ (r &&& 1).toUInt8) :: xorL m (bitsN 31 (r >>> 1))).getD 0 0 = x ^^^ (r &&& 1).toUInt8 from rfl]
  rcases hx with rfl | rfl <;> rcases bit_two r with h | h <;> rw [h]
  · rw [if_neg (by decide)]; exact key _ (by decide)
  · rw [if_pos (by decide)]; exact key2 _ (by decide)
  · rw [if_pos (by decide)]; exact key2 _ (by decide)
  · rw [if_neg (by decide)]; exact key _ (by decide)
theorem bitsN_01 : ∀ (n : Nat) (x : UInt32), ∀ b ∈ bitsN n x, b = 0 ∨ b = 1
  | 0, _, b, h => by cases h
  | n + 1, x, b, h => by
    rcases List.mem_cons.1 h with rfl | h
    · rcases bit_two x with h | h <;> rw [h]
      · exact .inl rfl
      · exact .inr rfl
    · exact bitsN_01 n _ b h
theorem bitsL_01 (l : List UInt8) : ∀ b ∈ bitsL l, b = 0 ∨ b = 1 := by
  intro b hb
  obtain ⟨x, _, hb⟩ := List.mem_flatMap.1 hb
  exact bitsN_01 _ _ b hb
def zerosL (n : Nat) : List UInt8 := List.replicate n 0
def divAt (m : List UInt8) (r : UInt32) (i : Nat) : List UInt8 := xorL ((m ++ zerosL 32).drop i) (bitsN 32 ((m.take i).foldl bstep r))
theorem length_divAt (m : List UInt8) (r : UInt32) (i : Nat) : (divAt m r i).length = m.length + 32 - i := by
  unfold divAt
  rw [length_xorL, List.length_drop, List.length_append]; simp [zerosL]
theorem divAt_step {m : List UInt8} (h01 : ∀ b ∈ m, b = 0 ∨ b = 1) (r : UInt32) {i : Nat} (hi : i < m.length) : (divS (divAt m r i)).drop 1 = divAt m r (i + 1) := by
  unfold divAt
  have e : (m ++ zerosL 32).drop i = m[i] :: (m ++ zerosL 32).drop (i + 1) := by
    rw [List.drop_eq_getElem_cons (by rw [List.length_append]; omega), List.getElem_append_left hi]
  rw [e, divS_step _ _ _ (h01 _ (List.getElem_mem hi)) (by rw [List.length_drop, List.length_append]; simp [zerosL]; omega), List.take_succ_eq_append_getElem hi, List.foldl_append]; rfl
theorem divAt_end (m : List UInt8) (r : UInt32) : divAt m r m.length = bitsN 32 (m.foldl bstep r) := by
  unfold divAt
  rw [List.drop_left' rfl, List.take_length]
  have : ∀ (n : Nat) (x : UInt32), xorL (zerosL n) (bitsN n x) = bitsN n x := by
    intro n
    induction n with
    | zero => intro x; rfl
    | succ n ih => intro x; show ((0 : UInt8) ^^^ (x &&& 1).toUInt8) :: xorL (zerosL n) (bitsN n (x >>> 1)) = (x &&& 1).toUInt8 :: bitsN n (x >>> 1); rw [ih, UInt8.zero_xor]
  exact this 32 _
def gather (r : UInt32) (i : Nat) : UInt32 := UInt32.ofNat (r.toNat % 2 ^ i)
theorem gather_step (r : UInt32) (i : Nat) (hi : i < 32) : gather r i ||| (((bitsN 32 r).getD i 0).toUInt32 <<< UInt32.ofNat i) = gather r (i + 1) := by
  have hr := r.toNat_lt
  have hp : ∀ j, r.toNat % 2 ^ j < 2 ^ 32 := fun j => Nat.lt_of_le_of_lt (Nat.mod_le _ _) hr
  apply UInt32.toNat_inj.1
  unfold gather
  rw [UInt32.toNat_or, UInt32.toNat_shiftLeft, UInt32.toNat_ofNat', UInt32.toNat_ofNat', UInt32.toNat_ofNat', Nat.mod_eq_of_lt (hp i), Nat.mod_eq_of_lt (hp (i + 1)), Nat.mod_eq_of_lt (show i < 2 ^ 32 by omega), Nat.mod_eq_of_lt hi, UInt8.toNat_toUInt32, getD_bitsN 32 r i hi (by decide)]
  apply Nat.eq_of_testBit_eq
  intro j
  rw [Nat.testBit_or, Nat.testBit_mod_two_pow, Nat.testBit_mod_two_pow, Nat.testBit_mod_two_pow, Nat.shiftLeft_eq, Nat.mul_comm _ (2 ^ i), Nat.testBit_two_pow_mul]
  have h2 : r.toNat / 2 ^ i % 2 = (r.toNat.testBit i).toNat := by rw [Nat.testBit_eq_decide_div_mod_eq]; rcases Nat.mod_two_eq_zero_or_one (r.toNat / 2 ^ i) with h | h <;> rw [h] <;> rfl
  rw [h2]
  rcases Nat.lt_trichotomy j i with h | h | h
  · rw [decide_eq_true h, decide_eq_true (show j < i + 1 by omega), decide_eq_false (show ¬ j ≥ i by omega)]; simp
  · subst h
    rw [decide_eq_false (show ¬ j < j by omega), decide_eq_true (show j < j + 1 by omega), decide_eq_true (show j ≥ j by omega), decide_eq_true (show j < 32 by omega), Nat.sub_self]
    cases r.toNat.testBit j <;> rfl
  · rw [decide_eq_false (show ¬ j < i by omega), decide_eq_false (show ¬ j < i + 1 by omega)]
    have : ((r.toNat.testBit i).toNat).testBit (j - i) = false := by
      obtain ⟨n, hn⟩ : ∃ n, j - i = n + 1 := ⟨j - i - 1, by omega⟩
      rw [hn]
      cases r.toNat.testBit i
      · exact Nat.zero_testBit _
      · show Nat.testBit 1 (n + 1) = false
        rw [Nat.testBit_succ]; exact Nat.zero_testBit _
    rw [this]; simp
theorem gather_zero (r : UInt32) : gather r 0 = 0 := by unfold gather; rw [Nat.pow_zero, Nat.mod_one]; rfl
theorem gather_all (r : UInt32) : gather r 32 = r := by
  unfold gather
  rw [Nat.mod_eq_of_lt r.toNat_lt, UInt32.ofNat_toNat]
theorem div_feed (l : List UInt8) (r : UInt32) : (bitsL l).foldl bstep r = feedL r l := (feedL_bits l r).symm
end Go.Proofs.YtfbamkgmnbobeaaDoor

/- Bytes and words as the references reckon with them. No program in sight. -/
namespace Go.Proofs.YtfbamkgmnbobeaaDoor
set_option linter.unusedSectionVars false
open Go Go.RowKit
set_option linter.unusedVariables false
set_option linter.unusedSimpArgs false
theorem wrap_u64n {j : Int} (h : 0 ≤ j ∧ j < 18446744073709551616) : IntKind.u64.wrap j = j := by
  simp only [IntKind.wrap, IntKind.signed, IntKind.bits]
  simp
  omega
theorem wrap_u32n {j : Int} (h : 0 ≤ j ∧ j < 4294967296) : IntKind.u32.wrap j = j := by
  simp only [IntKind.wrap, IntKind.signed, IntKind.bits]
  simp
  omega
theorem wrap_u8n {j : Int} (h : 0 ≤ j ∧ j < 256) : IntKind.u8.wrap j = j := by
  simp only [IntKind.wrap, IntKind.signed, IntKind.bits]
  simp
  omega
theorem shr8n {t : TypeId} (m k : Nat) (hk : k < 8) (yk : IntKind) : binOp .shr t (.int .u8 (m : Int)) (.int yk (k : Int)) = pure (.int .u8 ((m / 2 ^ k : Nat) : Int)) := by
  show Op.shift .shr .u8 (m : Int) yk (k : Int) = _
  unfold Op.shift
  rw [if_neg (by omega)]
  have hm : min (((k : Nat) : Int).toNat) IntKind.u8.bits = k := by simp [IntKind.bits]; omega
  simp only [hm]
  congr 2
  rw [Int.fdiv_eq_ediv_of_nonneg _ (by exact_mod_cast Nat.zero_le _)]
  simp
theorem shr32n {t : TypeId} (m k : Nat) (hk : k < 32) (yk : IntKind) : binOp .shr t (.int .u32 (m : Int)) (.int yk (k : Int)) = pure (.int .u32 ((m / 2 ^ k : Nat) : Int)) := by
  show Op.shift .shr .u32 (m : Int) yk (k : Int) = _
  unfold Op.shift
  rw [if_neg (by omega)]
  have hm : min (((k : Nat) : Int).toNat) IntKind.u32.bits = k := by simp [IntKind.bits]; omega
  simp only [hm]
  congr 2
  rw [Int.fdiv_eq_ediv_of_nonneg _ (by exact_mod_cast Nat.zero_le _)]
  simp
theorem and8n {t : TypeId} (m : Nat) (hm : m < 256) : binOp .and t (.int .u8 (m : Int)) (.int .u8 1) = pure (.int .u8 ((m % 2 : Nat) : Int)) := by
  show Op.intBits .and .u8 (m : Int) 1 = _
  show (pure (Value.int .u8 (IntKind.u8.wrap (((BitVec.ofInt 8 (m : Int) &&& BitVec.ofInt 8 1).toNat : Nat) : Int))) : Sem Value) = _
  congr 2
  rw [BitVec.toNat_and, BitVec.toNat_ofInt, BitVec.toNat_ofInt]
  have e1 : ((m : Int) % (2 ^ 8 : Nat)).toNat = m := by omega
  have e2 : ((1 : Int) % (2 ^ 8 : Nat)).toNat = 1 := by decide
  rw [e1, e2, Nat.and_one_is_mod, wrap_u8n (by omega)]
theorem and32n {t : TypeId} (m : Nat) (hm : m < 4294967296) : binOp .and t (.int .u32 (m : Int)) (.int .u32 1) = pure (.int .u32 ((m % 2 : Nat) : Int)) := by
  show Op.intBits .and .u32 (m : Int) 1 = _
  show (pure (Value.int .u32 (IntKind.u32.wrap (((BitVec.ofInt 32 (m : Int) &&& BitVec.ofInt 32 1).toNat : Nat) : Int))) : Sem Value) = _
  congr 2
  rw [BitVec.toNat_and, BitVec.toNat_ofInt, BitVec.toNat_ofInt]
  have e1 : ((m : Int) % (2 ^ 32 : Nat)).toNat = m := by omega
  have e2 : ((1 : Int) % (2 ^ 32 : Nat)).toNat = 1 := by decide
  rw [e1, e2, Nat.and_one_is_mod, wrap_u32n (by omega)]
theorem xor8n {t : TypeId} (x y : UInt8) : binOp .xor t (.int .u8 (x.toNat : Int)) (.int .u8 (y.toNat : Int)) = pure (.int .u8 ((x ^^^ y).toNat : Int)) := by
  show Op.intBits .xor .u8 (x.toNat : Int) (y.toNat : Int) = _
  show (pure (Value.int .u8 (IntKind.u8.wrap (((BitVec.ofInt 8 (x.toNat : Int) ^^^ BitVec.ofInt 8 (y.toNat : Int)).toNat : Nat) : Int))) : Sem Value) = _
  congr 2
  rw [BitVec.toNat_xor, BitVec.toNat_ofInt, BitVec.toNat_ofInt]
  have hx := x.toNat_lt
  have hy := y.toNat_lt
  have e1 : ((x.toNat : Int) % (2 ^ 8 : Nat)).toNat = x.toNat := by omega
  have e2 : ((y.toNat : Int) % (2 ^ 8 : Nat)).toNat = y.toNat := by omega
  rw [e1, e2, ← UInt8.toNat_xor, wrap_u8n]
  have := (x ^^^ y).toNat_lt
  omega
theorem y_not32 {P : Program} {ops : Array Oper} {S : World → Prop} {o : Oper} {a : Act} {x : Operand} {t : TypeId} {u : UInt32} (hw : Region.wanted o (yielded ops a.tmps) = true) (ho : o.op = .unOp .xor t x) (hx : a.eval x = .int .u32 (u.toNat : Int)) : YieldsIf P ops S o (.int .u32 ((~~~ u).toNat : Int)) a :=
  y_run hw fun w _ => by
    have h : Op.unary .xor (.int .u32 (u.toNat : Int)) = pure (.int .u32 ((~~~ u).toNat : Int)) := uv_not u
    unfold execOp
    simp only [ho, hx, h]
    rfl
theorem take_getD {l : List UInt8} {i : Nat} (h : i < l.length) : l.take i ++ [l.getD i 0] = l.take (i + 1) := by
  rw [List.take_succ_eq_append_getElem h, List.getD_eq_getElem?_getD, List.getElem?_eq_getElem h]; rfl
theorem getD_bitsB (x : UInt8) {j : Nat} (hj : j < 8) : ((bitsB x).getD j 0).toNat = x.toNat / 2 ^ j % 2 := by
  unfold bitsB
  rw [getD_bitsN 8 _ j hj (by decide), UInt8.toNat_toUInt32]
theorem bit8 {t : TypeId} (x : UInt8) {j : Nat} (hj : j < 8) : binOp .and t (.int .u8 ((x.toNat / 2 ^ j : Nat) : Int)) (.int .u8 1) = pure (.int .u8 (((bitsB x).getD j 0).toNat : Int)) := by
  have := x.toNat_lt
  rw [and8n _ (Nat.lt_of_le_of_lt (Nat.div_le_self _ _) this), getD_bitsB x hj]
theorem bits_next (l : List UInt8) {i : Nat} (hi : i < l.length) : bitsL (l.take i) ++ bitsB (l.getD i 0) = bitsL (l.take (i + 1)) := by
  rw [← take_getD hi]
  unfold bitsL
  rw [List.flatMap_append]; simp
theorem zerosL_succ (k : Nat) : zerosL k ++ [0] = zerosL (k + 1) := by unfold zerosL; rw [← List.replicate_succ']
theorem getD_append_right' {l m : List UInt8} {i j : Nat} (h : l.length = i) : (l ++ m).getD (i + j) 0 = m.getD j 0 := by
  subst h
  rw [List.getD_eq_getElem?_getD, List.getD_eq_getElem?_getD, List.getElem?_append_right (by omega)]
  congr 2; omega
theorem set_append_right' {l m : List UInt8} {i j : Nat} (x : UInt8) (h : l.length = i) : (l ++ m).set (i + j) x = l ++ m.set j x := by
  subst h
  rw [List.set_append_right _ _ (by omega)]
  congr 2; omega
theorem getD_append_at {l m : List UInt8} {i : Nat} (h : l.length = i) : (l ++ m).getD i 0 = m.getD 0 0 := getD_append_right' (j := 0) h
theorem append_head {p X : List UInt8} (h : 0 < X.length) : p ++ X = (p ++ [X.getD 0 0]) ++ X.drop 1 := by
  match X, h with
  | x :: X, _ => simp
end Go.Proofs.YtfbamkgmnbobeaaDoor

/- The reference's checksum: bits, the division. -/
namespace Go.Proofs.YtfbamkgmnbobeaaDoor
set_option linter.unusedSectionVars false
open Go Go.RowKit
set_option maxRecDepth 100000
set_option maxHeartbeats 40000000
set_option linter.unusedVariables false
set_option linter.unusedSimpArgs false
variable {gT0 : TypeId}
theorem bits_any (ao : Option Addr) (n c : Nat) (l : List UInt8) {w : World} (hr : Row w ao n l) (hn : n ≤ 1099511627776) : zC 71 [.slice ao n c] w fun e w' => ∃ a c', e = .returned (.slice a (bitsL l).length c') ∧ Mem w [] w' [lst 5 1 (.slice a (bitsL l).length c') (bitsL l).length (bvs (bitsL l))] := by
 have M := Mem.nil w;go_enter Tryd.func71, Tryd.ntmps71;refine zin ?_;refine zk fun K1 hK1 => zr ?_;refine zp 1 rfl ?_;refine zw (hK1 _ _ (zk fun K2 hK2 => zr ?_));refine zp 1 rfl ?_;refine zw (hK2 _ _ (zk fun K3 hK3 => zk fun K4 hK4 => zr ?_));refine zp 1 rfl ?_;refine zw (hK4 _ _ (zbl ?_));refine zlp (fun n' a' w' => ∃ (i m : Nat) (av : Option Addr) (cv : Nat) (us5 : List Value), n' = (n - ((i : Int)).toNat) ∧ a' = (⟨#[.slice ao n c, undef, zN, .slice av m cv, zI (i : Int), (zU us5 0), (zU us5 1), (zU us5 2), (zU us5 3), (zU us5 4), (zU us5 5), (zU us5 6), (zU us5 7), (zU us5 8), (zU us5 9), (zU us5 10), (zU us5 11), (zU us5 12), (zU us5 13), (zU us5 14), (zU us5 15), (zU us5 16), (zU us5 17), (zU us5 18), (zU us5 19), (zU us5 20), (zU us5 21), undef], []⟩ : Act) ∧ (i ≤ n) ∧ (m = 8 * i) ∧ Mem w [] w' [lst 5 1 (.slice av m cv) m (bvs (bitsL (l.take i)))]) _ ⟨0, 0, none, 0, [undef, undef, undef, undef, undef, undef, undef, undef, undef, undef, undef, undef, undef, undef, undef, undef, undef, undef, undef, undef, undef, undef], rfl, (zmk (by kernel_rfl)), Nat.zero_le _, rfl, (M.nilst 5 1)⟩ ?_;clear M;rintro n' a' w6 ⟨i, m, av, cv, us5, rfl, rfl, hi, hm, M6⟩;refine zin ?_;refine zk fun K7 hK7 => zk fun K8 hK8 => zr ?_;refine zp 2 rfl (zo M6 (y_len (zwn rfl) rfl (zev rfl) zu23) ?_);rcases zem ((i : Int) < (n : Int)) with h9 | h9
 ·have hin : i < n := by omega
  obtain ⟨b, o, rfl⟩ := hr.at0 (by omega);refine zo M6 (zlss rfl (zT h9)) ?_;refine zw (hK8 _ _ (zct rfl (zsk (hK7 _ _ (zk fun K10 hK10 => ?_)))));refine zbl (zk fun K11 hK11 => zr ?_);refine zp 1 rfl ?_;refine zw (hK11 _ _ (zbl ?_));refine zlp (fun n' a' w' => ∃ (j m2 : Nat) (a2 : Option Addr) (c2 : Nat) (us12 : List Value), n' = (8 - ((j : Int)).toNat) ∧ a' = (⟨#[.slice (some ⟨b, o, none⟩) n c, undef, zN, .slice a2 m2 c2, zI (i : Int), zI (j : Int), zI (i : Int), .slice (some ⟨b, o, none⟩) n c, zI (n : Int), .bool true, (zU us5 5), (zU us5 6), (zU us12 0), (zU us12 1), (zU us12 2), (zU us12 3), (zU us12 4), (zU us12 5), (zU us12 6), (zU us12 7), (zU us12 8), (zU us12 9), (zU us12 10), (zU us12 11), (zU us12 12), (zU us12 13), (zU us12 14), undef], []⟩ : Act) ∧ (j ≤ 8) ∧ (m2 = 8 * i + j) ∧ Mem w [] w' [lst 5 1 (.slice a2 m2 c2) m2 (bvs (bitsL (l.take i) ++ (bitsB (l.getD i 0)).take j))]) _ ⟨0, m, av, cv, [(zU us5 7), (zU us5 8), (zU us5 9), (zU us5 10), (zU us5 11), (zU us5 12), (zU us5 13), (zU us5 14), (zU us5 15), (zU us5 16), (zU us5 17), (zU us5 18), (zU us5 19), (zU us5 20), (zU us5 21)], rfl, (zmk (by kernel_rfl)), by omega, by omega, (by rw [List.take_zero, List.append_nil]; exact M6)⟩ ?_;rintro n' a' w13 ⟨j, m2, a2, c2, us12, rfl, rfl, hj, hm2, M13⟩;refine zin ?_;refine zk fun K14 hK14 => zk fun K15 hK15 => zr ?_;refine zp 1 rfl ?_;rcases zem ((j : Int) < 8) with h16 | h16
  ·have hj8 : j < 8 := by omega
   refine zo M13 (zlss rfl (zT h16)) ?_;refine zw (hK15 _ _ (zct rfl (zsk (hK14 _ _ (zk fun K17 hK17 => ?_)))));refine zbl (zr ?_);refine zp 3 rfl (zo M13 (y_ias (r := o + i) (zwn rfl) rfl (zev rfl) (zev rfl) zu23 zz5 (by first | omega | (dsimp only; omega)) (by first | omega | (dsimp only; omega))) (zo M13 (y_loadc (v := .int .u8 ((l.getD i 0).toNat)) (zwn rfl) rfl (zev rfl) zg5 (fun W hW => Row.cellD (hW.row hr (by simp)) (by omega))) (zp 1 rfl (zo M13 (y_conv (r := (j : Int)) (zwn rfl) rfl (zev rfl) zu3 Tryd.underlying84 (wrap_u64n (by omega))) (zo M13 (y_int (r := .int .u8 (((l.getD i 0).toNat / 2 ^ j : Nat) : Int)) (zwn rfl) rfl (zev rfl) (zev rfl) (shr8n _ _ hj8 _)) ?_)))));refine zo M13 (y_int (r := .int .u8 (((bitsB (l.getD i 0)).getD j 0).toNat : Int)) (zwn rfl) rfl (zev rfl) (zev rfl) (bit8 _ hj8)) ?_;refine pe (zwn rfl) fun K hK => e_bslice M13 ([.int .u8 (((bitsB (l.getD i 0)).getD j 0).toNat : Int)]) (pv := [(0, .int .u8 (((bitsB (l.getD i 0)).getD j 0).toNat : Int))]) rfl (zep rfl) zu23 zz5 Tryd.zeroValue5 (by decide) (by kernel_rfl) ?_;intro g18 w19 (M19 : Mem w [] w19 [blk g18 5 ([.int .u8 (((bitsB (l.getD i 0)).getD j 0).toNat : Int)]), lst 5 1 (.slice a2 m2 c2) m2 (bvs (bitsL (l.take i) ++ (bitsB (l.getD i 0)).take j))]);refine hK.out _ _ (zpu ?_);refine pe (zwn rfl) fun K hK => e_append M19 1 bytesT (by decide) (news := bvs [((bitsB (l.getD i 0)).getD j 0)]) rfl rfl (zev rfl) (zev rfl) (rfl) (by intro h; cases h) (fun ad e j u hj => by cases e; match j with | 0 => cases hj; exact cell_of_blk (M19.get 0 rfl) rfl | j + 1 => cases hj) (by intro u hu; cases hu with | head => rfl | tail _ h => cases h) (⟨by unfold maxLen; omega, by omega⟩) ?_;intro v20 w20 M20;replace M20 : Mem w [] w20 [blk g18 5 ([.int .u8 (((bitsB (l.getD i 0)).getD j 0).toNat : Int)]), lst 5 1 v20 (m2 + 1) (bvs (bitsL (l.take i) ++ (bitsB (l.getD i 0)).take (j + 1)))] := (by have N := M20; rw [← bvs_append, List.append_assoc, take_getD (by rw [length_bitsB]; exact hj8)] at N; exact N);obtain ⟨a20, c20, rfl⟩ := qv_at (M20.get 1 rfl);refine hK.out _ _ (zpu ?_);refine zp 1 rfl ?_;refine zw (hK17 _ _ (zr ?_));refine zp 1 rfl (zo M20 (y_add (r := (j : Int) + 1) (zwn rfl) rfl (zev rfl) (zev rfl) (rfl) (by omega)) (zp 1 rfl ?_));refine zw ?_;refine ⟨_, ?_, ⟨j + 1, m2 + 1, a20, c20, [zI (j : Int), .bool true, zI (j : Int), zI ((j : Int) + 1), .slice a2 m2 c2, .slice (some ⟨b, o, none⟩) n c, zI (i : Int), zP b (o + i), .int .u8 ((l.getD i 0).toNat), zI (j : Int), .int .u64 (j : Int), .int .u8 (((l.getD i 0).toNat / 2 ^ j : Nat) : Int), .int .u8 (((bitsB (l.getD i 0)).getD j 0).toNat : Int), zS g18 1 1, .slice a20 (m2 + 1) c20], rfl, (zmk (by kernel_rfl)), by omega, by omega, (M20.arr [1] (by decide))⟩⟩;simp [intOf]; omega
  ·have e8 : j = 8 := by omega
   rw [e8, List.take_of_length_le (l := bitsB (l.getD i 0)) (by rw [length_bitsB]; decide), bits_next l (by rw [hr.1]; exact hin)] at M13;refine zo M13 (zlss rfl (zF h16)) ?_;refine zw (hK15 _ _ (zcf rfl (zx (hK10 _ _ (zr ?_)))));refine zp 1 rfl (zo M13 (y_add (r := (i : Int) + 1) (zwn rfl) rfl (zev rfl) (zev rfl) (rfl) (by omega)) (zp 1 rfl ?_));refine zw ?_;refine ⟨_, ?_, ⟨i + 1, m2, a2, c2, [zI (j : Int), zI (i : Int), .slice (some ⟨b, o, none⟩) n c, zI (n : Int), .bool true, zI (i : Int), zI ((i : Int) + 1), zI (j : Int), .bool false, (zU us12 2), (zU us12 3), (zU us12 4), (zU us12 5), (zU us12 6), (zU us12 7), (zU us12 8), (zU us12 9), (zU us12 10), (zU us12 11), (zU us12 12), (zU us12 13), (zU us12 14)], rfl, (zmk (by kernel_rfl)), by omega, by omega, (M13.arr [0] (by decide))⟩⟩;simp [intOf]; omega
 ·refine zo M6 (zlss rfl (zF h9)) ?_;refine zw (hK8 _ _ (zcf rfl (zx (hK3 _ _ (zk fun K21 hK21 => ?_)))));refine zr ?_;refine zp 2 rfl ?_;refine zw (hK21 _ _ (zrt ?_));(try simp only[zi,zj]);refine zR (v := .slice av m cv) (res1 rfl (zgd rfl)) (zdf _) ?_;have e2 : m = (bitsL l).length := by rw [length_bitsL, hr.1]; omega
  have e1 : l.take i = l := List.take_of_length_le (by rw [hr.1]; omega);rw [e1] at M6;subst e2;exact ⟨_, _, rfl, M6⟩
theorem divide_any (start : UInt32) (ao : Option Addr) (n c : Nat) (l : List UInt8) {w : World} (hM : zM w [blk 0 gT0 (bvs divisorL)]) (hr : Row w ao n l) (ho : ∀ b o, ao = some ⟨b, o, none⟩ → 0 < n → b ∉ foots [blk 0 gT0 (bvs divisorL)]) (hn : n ≤ 1099511627776) : zC 56 [.int .u32 (start.toNat : Int), .slice ao n c] w fun e w' => e = .returned (.int .u32 ((feedL start l).toNat : Int)) ∧ zD w [blk 0 gT0 (bvs divisorL)] w' [blk 0 gT0 (bvs divisorL)] := by
 have M := hM;clear hM;go_enter Tryd.func56, Tryd.ntmps56;refine zin ?_;refine zk fun K1 hK1 => zr ?_;refine zp 1 rfl ?_;refine zw (hK1 _ _ (zk fun K2 hK2 => zr ?_));refine zp 1 rfl ?_;obtain ⟨bl, hbl⟩ : ∃ bl, bl = bitsL l := ⟨_, rfl⟩;have h01 : ∀ b ∈ bl, b = 0 ∨ b = 1 := by rw [hbl]; exact bitsL_01 l
 have hB := bits_any ao n c l (M.row hr ho) hn;rw [← hbl] at hB;have hbll : bl.length = 8 * n := by rw [hbl, length_bitsL, hr.1]
 refine zca 71 [.slice ao n c] rfl Tryd.call71 (hB) ?_;rintro e w3 ⟨ba, bc, rfl, H3⟩;have M3 := M.step H3;simp only[Y1,Y2]at M3;refine ⟨_, rfl, ?_⟩;refine zp 1 rfl ?_;refine zw (hK2 _ _ (zk fun K4 hK4 => zr ?_));refine zp 1 rfl (zo M3 (y_len (zwn rfl) rfl (zev rfl) zu23) (zp 1 rfl ?_));refine zw (hK4 _ _ (zk fun K5 hK5 => zk fun K6 hK6 => zr ?_));refine zp 1 rfl ?_;refine zw (hK6 _ _ (zbl ?_));refine zlp (fun n' a' w' => ∃ (i4 m : Nat) (a : Option Addr) (c2 : Nat) (us7 : List Value), n' = (32 - ((i4 : Int)).toNat) ∧ a' = (⟨#[.int .u32 (start.toNat : Int), .slice ao n c, undef, undef, .int .u32 0, .slice a m c2, zI (bl.length : Int), zI (i4 : Int), undef, undef, undef, undef, undef, .slice ao n c, .slice ba bl.length bc, .slice ba bl.length bc, zI (bl.length : Int), (zU us7 0), (zU us7 1), (zU us7 2), (zU us7 3), (zU us7 4), (zU us7 5), (zU us7 6), undef, undef, undef, undef, undef, undef, undef, undef, undef, undef, undef, undef, undef, undef, undef, undef, undef, undef, undef, undef, undef, undef, undef, undef, undef, undef, undef, undef, undef, undef, undef, undef, undef, undef, undef, undef, undef, undef, undef, undef, undef, undef, undef, undef, undef, undef, undef, undef, undef, undef, undef, undef, undef, undef, undef, undef, undef, undef, undef, undef, undef, undef, undef, undef], []⟩ : Act) ∧ (i4 ≤ 32) ∧ (m = bl.length + i4) ∧ zD w [blk 0 gT0 (bvs divisorL)] w' [lst 5 1 (.slice a m c2) m (bvs (bl ++ zerosL i4)), blk 0 gT0 (bvs divisorL)]) _ ⟨0, bl.length, ba, bc, [undef, undef, undef, undef, undef, undef, undef], rfl, (zmk (by kernel_rfl)), by omega, rfl, (by rw [show zerosL 0 = [] from rfl, List.append_nil]; exact M3)⟩ ?_;rintro n' a' w8 ⟨i4, m, a, c2, us7, rfl, rfl, hi, hm, M8⟩;refine zin ?_;refine zk fun K9 hK9 => zk fun K10 hK10 => zr ?_;refine zp 1 rfl ?_;rcases zem ((i4 : Int) < 32) with h11 | h11
 ·refine zo M8 (zlss rfl (zT h11)) ?_;refine zw (hK10 _ _ (zct rfl (zsk (hK9 _ _ (zk fun K12 hK12 => ?_)))));refine zbl (zr ?_);refine zp 1 rfl ?_;refine pe (zwn rfl) fun K hK => e_bslice M8 ([.int .u8 0]) (pv := [(0, .int .u8 0)]) rfl (zep rfl) zu23 zz5 Tryd.zeroValue5 (by decide) (by kernel_rfl) ?_;intro g13 w14 (M14 : zD w [blk 0 gT0 (bvs divisorL)] w14 [blk g13 5 ([.int .u8 0]), lst 5 1 (.slice a m c2) m (bvs (bl ++ zerosL i4)), blk 0 gT0 (bvs divisorL)]);refine hK.out _ _ (zpu ?_);refine pe (zwn rfl) fun K hK => e_append M14 1 bytesT (by decide) (news := bvs [0]) rfl rfl (zev rfl) (zev rfl) (rfl) (by intro h; cases h) (fun ad e j u hj => by cases e; match j with | 0 => cases hj; exact cell_of_blk (M14.get 0 rfl) rfl | j + 1 => cases hj) (by intro u hu; cases hu with | head => rfl | tail _ h => cases h) (⟨by unfold maxLen; omega, by omega⟩) ?_;intro v15 w15 M15;replace M15 : zD w [blk 0 gT0 (bvs divisorL)] w15 [blk g13 5 ([.int .u8 0]), lst 5 1 v15 (m + 1) (bvs (bl ++ zerosL (i4 + 1))), blk 0 gT0 (bvs divisorL)] := (by have N := M15; rw [← bvs_append, List.append_assoc, zerosL_succ] at N; exact N);obtain ⟨a15, c15, rfl⟩ := qv_at (M15.get 1 rfl);refine hK.out _ _ (zpu ?_);refine zp 1 rfl ?_;refine zw (hK12 _ _ (zr ?_));refine zp 1 rfl (zo M15 (y_add (r := (i4 : Int) + 1) (zwn rfl) rfl (zev rfl) (zev rfl) (rfl) (by omega)) (zp 1 rfl ?_));refine zw ?_;refine ⟨_, ?_, ⟨i4 + 1, m + 1, a15, c15, [zI (i4 : Int), .bool true, zI (i4 : Int), zI ((i4 : Int) + 1), .slice a m c2, zS g13 1 1, .slice a15 (m + 1) c15], rfl, (zmk (by kernel_rfl)), by omega, by omega, (M15.arr [1, 2] (by decide))⟩⟩;simp [intOf]; omega
 ·have e32 : i4 = 32 := by omega
  rw [e32] at M8;refine zo M8 (zlss rfl (zF h11)) ?_;refine zw (hK10 _ _ (zcf rfl (zx (hK5 _ _ (zk fun K16 hK16 => ?_)))));refine zk fun K17 hK17 => zr ?_;have hN := M8.arr [0, 1] (by decide);obtain ⟨g, c9, e9⟩ := Mem.lstpt hN (by omega);cases e9
  obtain ⟨rest, hr1, hr2, hr3, hr4, hN2⟩ := Mem.lstblk hN;obtain ⟨m0, hm0⟩ : ∃ m0, m0 = bl ++ zerosL 32 := ⟨_, rfl⟩;have hm0l : m0.length = bl.length + 32 := by rw [hm0, List.length_append]; simp [zerosL]
  rw [← hm0] at hN2;have M18 : zD w [blk 0 gT0 (bvs divisorL)] w8 [blk g 5 (bvs (xorL m0 ((bitsN 32 start).take 0)) ++ rest), blk 0 gT0 (bvs divisorL)] := by rw [List.take_zero, xorL_nil]; exact hN2
  clear M8 hN hN2;refine zp 1 rfl ?_;refine zw (hK17 _ _ (zbl ?_));refine zlp (fun n' a' w' => ∃ (i8 : Nat) (us19 : List Value), n' = (32 - ((i8 : Int)).toNat) ∧ a' = (⟨#[.int .u32 (start.toNat : Int), .slice ao n c, undef, undef, .int .u32 0, zS g m c2, zI (bl.length : Int), zI (i4 : Int), zI (i8 : Int), undef, undef, undef, undef, .slice ao n c, .slice ba bl.length bc, .slice ba bl.length bc, zI (bl.length : Int), zI (i4 : Int), .bool false, (zU us7 2), (zU us7 3), (zU us7 4), (zU us7 5), (zU us7 6), (zU us19 0), (zU us19 1), (zU us19 2), (zU us19 3), (zU us19 4), (zU us19 5), (zU us19 6), (zU us19 7), (zU us19 8), (zU us19 9), (zU us19 10), (zU us19 11), (zU us19 12), (zU us19 13), (zU us19 14), (zU us19 15), (zU us19 16), (zU us19 17), undef, undef, undef, undef, undef, undef, undef, undef, undef, undef, undef, undef, undef, undef, undef, undef, undef, undef, undef, undef, undef, undef, undef, undef, undef, undef, undef, undef, undef, undef, undef, undef, undef, undef, undef, undef, undef, undef, undef, undef, undef, undef, undef, undef, undef, undef], []⟩ : Act) ∧ (i8 ≤ 32) ∧ zD w [blk 0 gT0 (bvs divisorL)] w' [blk g 5 (bvs (xorL m0 ((bitsN 32 start).take i8)) ++ rest), blk 0 gT0 (bvs divisorL)]) _ ⟨0, [undef, undef, undef, undef, undef, undef, undef, undef, undef, undef, undef, undef, undef, undef, undef, undef, undef, undef], rfl, (zmk (by kernel_rfl)), by omega, M18⟩ ?_;rintro n' a' w20 ⟨i8, us19, rfl, rfl, hi, M20⟩;refine zin ?_;refine zk fun K21 hK21 => zk fun K22 hK22 => zr ?_;refine zp 1 rfl ?_;rcases zem ((i8 : Int) < 32) with h23 | h23
  ·have hi32 : i8 < 32 := by omega
   have hxl : (xorL m0 ((bitsN 32 start).take i8)).length = bl.length + 32 := by rw [length_xorL, hm0l]
   refine zo M20 (zlss rfl (zT h23)) ?_;refine zw (hK22 _ _ (zct rfl (zsk (hK21 _ _ (zk fun K24 hK24 => ?_)))));refine zbl (zr ?_);refine zp 4 rfl (zo M20 (y_ias (r := i8) (zwn rfl) rfl (zev rfl) (zev rfl) zu23 zz5 (by first | omega | (dsimp only; omega)) (by first | omega | (dsimp only; omega))) (zo M20 (zm (v := .int .u8 (((xorL m0 ((bitsN 32 start).take i8)).getD i8 0).toNat)) 0 rfl zg5 (bvs_getD (by omega))) (zp 2 rfl ?_)));refine zo M20 (y_conv (r := (i8 : Int)) (zwn rfl) rfl (zev rfl) zu3 Tryd.underlying84 (wrap_u64n (by omega))) (zo M20 (y_int (r := .int .u32 ((start.toNat / 2 ^ i8 : Nat) : Int)) (zwn rfl) rfl (zev rfl) (zev rfl) (shr32n _ _ hi32 _)) (zo M20 (y_int (r := .int .u32 ((start.toNat / 2 ^ i8 % 2 : Nat) : Int)) (zwn rfl) rfl (zev rfl) (zev rfl) (and32n _ (Nat.lt_of_le_of_lt (Nat.div_le_self _ _) start.toNat_lt))) (zo M20 (y_conv (r := (((bitsN 32 start).getD i8 0).toNat : Int)) (zwn rfl) rfl (zev rfl) Tryd.underlying82 zu5 (by rw [getD_bitsN 32 start i8 hi32 (by decide)]; exact wrap_u8n (by omega))) (zo M20 (y_int (r := .int .u8 (((xorL m0 ((bitsN 32 start).take i8)).getD i8 0 ^^^ (bitsN 32 start).getD i8 0).toNat : Int)) (zwn rfl) rfl (zev rfl) (zev rfl) (xor8n _ _)) (zo M20 (y_ias (r := i8) (zwn rfl) rfl (zev rfl) (zev rfl) zu23 zz5 (by first | omega | (dsimp only; omega)) (by first | omega | (dsimp only; omega))) ?_)))));refine pe (zwn rfl) fun K hK => e_store M20 0 (v := .int .u8 (((xorL m0 ((bitsN 32 start).take i8)).getD i8 0 ^^^ (bitsN 32 start).getD i8 0).toNat : Int)) rfl rfl (zev rfl) (zev rfl) rfl rfl zz5 rfl (by rw [List.length_append, length_bvs]; omega) ?_;intro w25 M25
   replace M25 : zD w [blk 0 gT0 (bvs divisorL)] w25 [blk g 5 (bvs (xorL m0 ((bitsN 32 start).take (i8 + 1))) ++ rest), blk 0 gT0 (bvs divisorL)] := by
     have e : (bvs (xorL m0 ((bitsN 32 start).take i8)) ++ rest).set i8 (.int .u8 (((xorL m0 ((bitsN 32 start).take i8)).getD i8 0 ^^^ (bitsN 32 start).getD i8 0).toNat : Int)) = bvs (xorL m0 ((bitsN 32 start).take (i8 + 1))) ++ rest := by rw [bvs_setD _ (by omega), xorL_take_succ m0 (bitsN 32 start) i8 (by rw [length_bitsN]; exact hi32) (by omega)]
     rw [← e]; exact M25
   refine hK.out _ _ (zpu ?_);refine zw (hK24 _ _ (zr ?_));refine zp 1 rfl (zo M25 (y_add (r := (i8 : Int) + 1) (zwn rfl) rfl (zev rfl) (zev rfl) (rfl) (by omega)) (zp 1 rfl ?_));refine zw ?_;refine ⟨_, ?_, ⟨i8 + 1, [zI (i8 : Int), .bool true, zI (i8 : Int), zI ((i8 : Int) + 1), zS g m c2, zI (i8 : Int), zS g m c2, zI (i8 : Int), zP g i8, .int .u8 (((xorL m0 ((bitsN 32 start).take i8)).getD i8 0).toNat), .int .u32 (start.toNat : Int), zI (i8 : Int), .int .u64 (i8 : Int), .int .u32 ((start.toNat / 2 ^ i8 : Nat) : Int), .int .u32 ((start.toNat / 2 ^ i8 % 2 : Nat) : Int), .int .u8 (((bitsN 32 start).getD i8 0).toNat : Int), .int .u8 (((xorL m0 ((bitsN 32 start).take i8)).getD i8 0 ^^^ (bitsN 32 start).getD i8 0).toNat : Int), zP g i8], rfl, (zmk (by kernel_rfl)), by omega, M25⟩⟩;simp [intOf]; omega
  ·have e32 : i8 = 32 := by omega
   rw [e32, List.take_of_length_le (l := bitsN 32 start) (by rw [length_bitsN]; decide), show xorL m0 (bitsN 32 start) = [] ++ divAt bl start 0 by rw [hm0]; rfl] at M20;refine zo M20 (zlss rfl (zF h23)) ?_;refine zw (hK22 _ _ (zcf rfl (zx (hK16 _ _ (zk fun K26 hK26 => ?_)))));refine zk fun K27 hK27 => zr ?_;refine zp 1 rfl ?_;refine zw (hK27 _ _ (zbl ?_));refine zlp (fun n' a' w' => ∃ (i : Nat) (pre : List UInt8) (us28 : List Value), n' = (bl.length - ((i : Int)).toNat) ∧ a' = (⟨#[.int .u32 (start.toNat : Int), .slice ao n c, undef, undef, .int .u32 0, zS g m c2, zI (bl.length : Int), zI (i4 : Int), zI (i8 : Int), zI (i : Int), (zU us28 0), undef, undef, .slice ao n c, .slice ba bl.length bc, .slice ba bl.length bc, zI (bl.length : Int), zI (i4 : Int), .bool false, (zU us7 2), (zU us7 3), (zU us7 4), (zU us7 5), (zU us7 6), zI (i8 : Int), .bool false, (zU us19 2), (zU us19 3), (zU us19 4), (zU us19 5), (zU us19 6), (zU us19 7), (zU us19 8), (zU us19 9), (zU us19 10), (zU us19 11), (zU us19 12), (zU us19 13), (zU us19 14), (zU us19 15), (zU us19 16), (zU us19 17), (zU us28 1), (zU us28 2), (zU us28 3), (zU us28 4), (zU us28 5), (zU us28 6), (zU us28 7), (zU us28 8), (zU us28 9), (zU us28 10), (zU us28 11), (zU us28 12), (zU us28 13), (zU us28 14), (zU us28 15), (zU us28 16), (zU us28 17), (zU us28 18), (zU us28 19), (zU us28 20), (zU us28 21), (zU us28 22), (zU us28 23), (zU us28 24), (zU us28 25), (zU us28 26), (zU us28 27), (zU us28 28), (zU us28 29), undef, undef, undef, undef, undef, undef, undef, undef, undef, undef, undef, undef, undef, undef, undef, undef, undef], []⟩ : Act) ∧ (i ≤ bl.length) ∧ (pre.length = i) ∧ zD w [blk 0 gT0 (bvs divisorL)] w' [blk g 5 (bvs (pre ++ divAt bl start i) ++ rest), blk 0 gT0 (bvs divisorL)]) _ ⟨0, [], [undef, undef, undef, undef, undef, undef, undef, undef, undef, undef, undef, undef, undef, undef, undef, undef, undef, undef, undef, undef, undef, undef, undef, undef, undef, undef, undef, undef, undef, undef], rfl, (zmk (by kernel_rfl)), by omega, rfl, M20⟩ ?_;rintro n' a' w29 ⟨i, pre, us28, rfl, rfl, hi, hpre, M29⟩;refine zin ?_;refine zk fun K30 hK30 => zk fun K31 hK31 => zr ?_;refine zp 2 rfl ?_;rcases zem ((i : Int) < (bl.length : Int)) with h32 | h32
   ·have hib : i < bl.length := by omega
    obtain ⟨dv, hdv⟩ : ∃ dv, dv = divAt bl start i := ⟨_, rfl⟩;have hdl : dv.length = bl.length + 32 - i := by rw [hdv, length_divAt]
    have hpl : (pre ++ divAt bl start i).length = bl.length + 32 := by rw [List.length_append, hpre, length_divAt]; omega
    have hdl0 : 0 < (divS (divAt bl start i)).length := by
      unfold divS;split <;> (try rw [length_xorL]) <;> rw [length_divAt] <;> omega
    refine zo M29 (zlss rfl (zT h32)) ?_;refine zw (hK31 _ _ (zct rfl (zsk (hK30 _ _ (zk fun K33 hK33 => ?_)))));refine zbl (zk fun K34 hK34 => zr ?_);refine zp 2 rfl (zo M29 (y_ias (r := i) (zwn rfl) rfl (zev rfl) (zev rfl) zu23 zz5 (by first | omega | (dsimp only; omega)) (by first | omega | (dsimp only; omega))) (zo M29 (zm (v := .int .u8 (((pre ++ divAt bl start i).getD i 0).toNat : Int)) 0 rfl zg5 (bvs_getD (by omega))) ?_));rcases zem ((((pre ++ divAt bl start i).getD i 0).toNat : Int) = 1) with h35 | h35
    ·have hd1 : (divAt bl start i).getD 0 0 = 1 := by rw [getD_append_at hpre] at h35; apply UInt8.toNat_inj.1; have h3 : (1 : UInt8).toNat = 1 := rfl; omega
     have hS : divS (divAt bl start i) = xorL (divAt bl start i) divisorL := if_pos hd1;refine zo M29 (zeql rfl (zT h35)) ?_;refine zw (hK34 _ _ (zct rfl (zk fun K36 hK36 => zr ?_)));refine zp 1 rfl ?_;refine zw (hK36 _ _ (zbl ?_));refine zlp (fun n' a' w' => ∃ (j : Nat) (us37 : List Value), n' = (33 - ((j : Int)).toNat) ∧ a' = (⟨#[.int .u32 (start.toNat : Int), .slice ao n c, undef, undef, .int .u32 0, zS g m c2, zI (bl.length : Int), zI (i4 : Int), zI (i8 : Int), zI (i : Int), zI (j : Int), undef, undef, .slice ao n c, .slice ba bl.length bc, .slice ba bl.length bc, zI (bl.length : Int), zI (i4 : Int), .bool false, (zU us7 2), (zU us7 3), (zU us7 4), (zU us7 5), (zU us7 6), zI (i8 : Int), .bool false, (zU us19 2), (zU us19 3), (zU us19 4), (zU us19 5), (zU us19 6), (zU us19 7), (zU us19 8), (zU us19 9), (zU us19 10), (zU us19 11), (zU us19 12), (zU us19 13), (zU us19 14), (zU us19 15), (zU us19 16), (zU us19 17), zI (i : Int), zI (bl.length : Int), .bool true, (zU us28 4), (zU us28 5), zS g m c2, zI (i : Int), zP g i, .int .u8 (((pre ++ divAt bl start i).getD i 0).toNat : Int), .bool true, (zU us37 0), (zU us37 1), (zU us37 2), (zU us37 3), (zU us37 4), (zU us37 5), (zU us37 6), (zU us37 7), (zU us37 8), (zU us37 9), (zU us37 10), (zU us37 11), (zU us37 12), (zU us37 13), (zU us37 14), (zU us37 15), (zU us37 16), (zU us37 17), (zU us37 18), undef, undef, undef, undef, undef, undef, undef, undef, undef, undef, undef, undef, undef, undef, undef, undef, undef], []⟩ : Act) ∧ (j ≤ 33) ∧ zD w [blk 0 gT0 (bvs divisorL)] w' [blk g 5 (bvs (pre ++ xorL (divAt bl start i) (divisorL.take j)) ++ rest), blk 0 gT0 (bvs divisorL)]) _ ⟨0, [(zU us28 11), (zU us28 12), (zU us28 13), (zU us28 14), (zU us28 15), (zU us28 16), (zU us28 17), (zU us28 18), (zU us28 19), (zU us28 20), (zU us28 21), (zU us28 22), (zU us28 23), (zU us28 24), (zU us28 25), (zU us28 26), (zU us28 27), (zU us28 28), (zU us28 29)], rfl, (zmk (by kernel_rfl)), by omega, (by rw [List.take_zero, xorL_nil]; exact M29)⟩ ?_;rintro n' a' w38 ⟨j, us37, rfl, rfl, hj, M38⟩;refine zin ?_;refine zk fun K39 hK39 => zk fun K40 hK40 => zr ?_;refine zp 1 rfl ?_;rcases zem ((j : Int) < 33) with h41 | h41
     ·have hj33 : j < 33 := by omega
      have hxl2 : (pre ++ xorL (divAt bl start i) (divisorL.take j)).length = bl.length + 32 := by rw [List.length_append, length_xorL, length_divAt, hpre]; omega
      have hdv33 : divisorL.length = 33 := rfl;refine zo M38 (zlss rfl (zT h41)) ?_;refine zw (hK40 _ _ (zct rfl (zsk (hK39 _ _ (zk fun K42 hK42 => ?_)))));refine zbl ?_;have M43 := M38.drew;refine wp_region_tail 15 (by kernel_rfl) (by kernel_rfl) ?_;simp only [List.take_succ_cons, List.take_zero, List.drop_succ_cons, List.drop_zero];refine Zs 3 rfl (zq M43 (y_add (r := (i : Int) + (j : Int)) (zwn rfl) rfl (zev rfl) (zev rfl) (rfl) (by omega)) (Zs 3 rfl (zq M43 (y_add (r := (i : Int) + (j : Int)) (zwn rfl) rfl (zev rfl) (zev rfl) (rfl) (by omega)) ?_)));refine zq M43 (y_ias (r := i + j) (zwn rfl) rfl (zev rfl) (zev rfl) zu23 zz5 (by first | omega | (dsimp only; omega)) (by first | omega | (dsimp only; omega))) (zq M43 (zm (v := .int .u8 (((pre ++ xorL (divAt bl start i) (divisorL.take j)).getD (i + j) 0).toNat)) 0 rfl zg5 (bvs_getD (by omega))) (Zs 1 rfl (zq M43 (y_iaa (r := j) (zwn rfl) rfl (zev rfl) (zev rfl) Tryd.underlying120 zz5 (by first | omega | (dsimp only; omega)) (by first | omega | (dsimp only; omega))) (zq M43 (zm (v := .int .u8 ((divisorL.getD j 0).toNat)) 1 rfl zg5 (bvs_getD' (by omega))) (zq M43 (y_int (r := .int .u8 (((pre ++ xorL (divAt bl start i) (divisorL.take j)).getD (i + j) 0 ^^^ divisorL.getD j 0).toNat : Int)) (zwn rfl) rfl (zev rfl) (zev rfl) (xor8n _ _)) (zq M43 (y_ias (r := i + j) (zwn rfl) rfl (zev rfl) (zev rfl) zu23 zz5 (by first | omega | (dsimp only; omega)) (by first | omega | (dsimp only; omega))) ?_))))));refine wpStill_nil ?_;refine pe (zwn rfl) fun K hK => e_store M43 0 (v := .int .u8 (((pre ++ xorL (divAt bl start i) (divisorL.take j)).getD (i + j) 0 ^^^ divisorL.getD j 0).toNat : Int)) rfl rfl (zev rfl) (zev rfl) rfl rfl zz5 rfl (by rw [List.length_append, length_bvs]; omega) ?_;intro w44 M44
      replace M44 : zD w [blk 0 gT0 (bvs divisorL)] w44 [blk g 5 (bvs (pre ++ xorL (divAt bl start i) (divisorL.take (j + 1))) ++ rest), blk 0 gT0 (bvs divisorL)] := by
        have e : (bvs (pre ++ xorL (divAt bl start i) (divisorL.take j)) ++ rest).set (i + j) (.int .u8 (((pre ++ xorL (divAt bl start i) (divisorL.take j)).getD (i + j) 0 ^^^ divisorL.getD j 0).toNat : Int)) = bvs (pre ++ xorL (divAt bl start i) (divisorL.take (j + 1))) ++ rest := by rw [bvs_setD _ (by omega), set_append_right' _ hpre, getD_append_right' hpre, xorL_take_succ (divAt bl start i) divisorL j (by omega) (by rw [length_divAt]; omega)]
        rw [← e]; exact M44
      refine hK.out _ _ (zpu ?_);refine zw (hK42 _ _ (zr ?_));refine zp 1 rfl (zo M44 (y_add (r := (j : Int) + 1) (zwn rfl) rfl (zev rfl) (zev rfl) (rfl) (by omega)) (zp 1 rfl ?_));refine zw ?_;refine ⟨_, ?_, ⟨j + 1, [zI (j : Int), .bool true, zI (j : Int), zI ((j : Int) + 1), zS g m c2, zI (i : Int), zI (j : Int), zI ((i : Int) + (j : Int)), zS g m c2, zI (i : Int), zI (j : Int), zI ((i : Int) + (j : Int)), zP g (i + j), .int .u8 (((pre ++ xorL (divAt bl start i) (divisorL.take j)).getD (i + j) 0).toNat), zI (j : Int), zP 0 j, .int .u8 ((divisorL.getD j 0).toNat), .int .u8 (((pre ++ xorL (divAt bl start i) (divisorL.take j)).getD (i + j) 0 ^^^ divisorL.getD j 0).toNat : Int), zP g (i + j)], rfl, (zmk (by kernel_rfl)), by omega, M44⟩⟩;simp [intOf]; omega
     ·have e33 : j = 33 := by omega
      rw [e33, List.take_of_length_le (l := divisorL) (Nat.le_refl 33), ← hS] at M38;refine zo M38 (zlss rfl (zF h41)) ?_;refine zw (hK40 _ _ (zcf rfl (zx (hK33 _ _ (zr ?_)))));refine zp 1 rfl (zo M38 (y_add (r := (i : Int) + 1) (zwn rfl) rfl (zev rfl) (zev rfl) (rfl) (by omega)) (zp 1 rfl ?_));refine zw ?_;refine ⟨_, ?_, ⟨i + 1, pre ++ [(divS (divAt bl start i)).getD 0 0], [zI (j : Int), zI (i : Int), zI (bl.length : Int), .bool true, zI (i : Int), zI ((i : Int) + 1), zS g m c2, zI (i : Int), zP g i, .int .u8 (((pre ++ divAt bl start i).getD i 0).toNat : Int), .bool true, zI (j : Int), .bool false, (zU us37 2), (zU us37 3), (zU us37 4), (zU us37 5), (zU us37 6), (zU us37 7), (zU us37 8), (zU us37 9), (zU us37 10), (zU us37 11), (zU us37 12), (zU us37 13), (zU us37 14), (zU us37 15), (zU us37 16), (zU us37 17), (zU us37 18)], rfl, (zmk (by kernel_rfl)), by omega, by rw [List.length_append, hpre]; rfl, (by rw [← divAt_step h01 start hib, ← append_head (p := pre) (X := divS (divAt bl start i)) hdl0]; exact M38)⟩⟩;simp [intOf]; omega
    ·have hS : divS (divAt bl start i) = divAt bl start i := if_neg (fun h => by rw [getD_append_at hpre] at h35; rw [h] at h35; exact h35 rfl);rw [← hS] at M29;refine zo M29 (zeql rfl (zF h35)) ?_;refine zw (hK34 _ _ (zcf rfl (zsk (hK33 _ _ (zr ?_)))));refine zp 1 rfl (zo M29 (y_add (r := (i : Int) + 1) (zwn rfl) rfl (zev rfl) (zev rfl) (rfl) (by omega)) (zp 1 rfl ?_));refine zw ?_;refine ⟨_, ?_, ⟨i + 1, pre ++ [(divS (divAt bl start i)).getD 0 0], [(zU us28 0), zI (i : Int), zI (bl.length : Int), .bool true, zI (i : Int), zI ((i : Int) + 1), zS g m c2, zI (i : Int), zP g i, .int .u8 (((pre ++ divAt bl start i).getD i 0).toNat : Int), .bool false, (zU us28 11), (zU us28 12), (zU us28 13), (zU us28 14), (zU us28 15), (zU us28 16), (zU us28 17), (zU us28 18), (zU us28 19), (zU us28 20), (zU us28 21), (zU us28 22), (zU us28 23), (zU us28 24), (zU us28 25), (zU us28 26), (zU us28 27), (zU us28 28), (zU us28 29)], rfl, (zmk (by kernel_rfl)), by omega, by rw [List.length_append, hpre]; rfl, (by rw [← divAt_step h01 start hib, ← append_head (p := pre) (X := divS (divAt bl start i)) hdl0]; exact M29)⟩⟩;simp [intOf]; omega
   ·have ek : i = bl.length := by omega
    rw [ek, divAt_end] at M29;refine zo M29 (zlss rfl (zF h32)) ?_;refine zw (hK31 _ _ (zcf rfl (zx (hK26 _ _ (zk fun K45 hK45 => ?_)))));refine zr ?_;refine zp 1 rfl ?_;refine zw (hK45 _ _ (zk fun K46 hK46 => zk fun K47 hK47 => zr ?_));refine zp 1 rfl ?_;refine zw (hK47 _ _ (zbl ?_));refine zlp (fun n' a' w' => ∃ (i2 : Nat) (rv : UInt32) (us48 : List Value), n' = (32 - ((i2 : Int)).toNat) ∧ a' = (⟨#[.int .u32 (start.toNat : Int), .slice ao n c, undef, undef, .int .u32 0, zS g m c2, zI (bl.length : Int), zI (i4 : Int), zI (i8 : Int), zI (i : Int), (zU us28 0), .int .u32 (rv.toNat : Int), zI (i2 : Int), .slice ao n c, .slice ba bl.length bc, .slice ba bl.length bc, zI (bl.length : Int), zI (i4 : Int), .bool false, (zU us7 2), (zU us7 3), (zU us7 4), (zU us7 5), (zU us7 6), zI (i8 : Int), .bool false, (zU us19 2), (zU us19 3), (zU us19 4), (zU us19 5), (zU us19 6), (zU us19 7), (zU us19 8), (zU us19 9), (zU us19 10), (zU us19 11), (zU us19 12), (zU us19 13), (zU us19 14), (zU us19 15), (zU us19 16), (zU us19 17), zI (i : Int), zI (bl.length : Int), .bool false, (zU us28 4), (zU us28 5), (zU us28 6), (zU us28 7), (zU us28 8), (zU us28 9), (zU us28 10), (zU us28 11), (zU us28 12), (zU us28 13), (zU us28 14), (zU us28 15), (zU us28 16), (zU us28 17), (zU us28 18), (zU us28 19), (zU us28 20), (zU us28 21), (zU us28 22), (zU us28 23), (zU us28 24), (zU us28 25), (zU us28 26), (zU us28 27), (zU us28 28), (zU us28 29), (zU us48 0), (zU us48 1), (zU us48 2), (zU us48 3), (zU us48 4), (zU us48 5), (zU us48 6), (zU us48 7), (zU us48 8), (zU us48 9), (zU us48 10), (zU us48 11), (zU us48 12), (zU us48 13), (zU us48 14), (zU us48 15), undef], []⟩ : Act) ∧ (i2 ≤ 32) ∧ (rv = gather (bl.foldl bstep start) i2) ∧ zD w [blk 0 gT0 (bvs divisorL)] w' [blk g 5 (bvs (pre ++ bitsN 32 (bl.foldl bstep start)) ++ rest), blk 0 gT0 (bvs divisorL)]) _ ⟨0, 0, [undef, undef, undef, undef, undef, undef, undef, undef, undef, undef, undef, undef, undef, undef, undef, undef], rfl, (zmk (by kernel_rfl)), by omega, (gather_zero _).symm, M29⟩ ?_;rintro n' a' w49 ⟨i2, rv, us48, rfl, rfl, hi2, hrv, M49⟩;refine zin ?_;refine zk fun K50 hK50 => zk fun K51 hK51 => zr ?_;refine zp 1 rfl ?_;rcases zem ((i2 : Int) < 32) with h52 | h52
    ·have hi32 : i2 < 32 := by omega
     have hpl2 : (pre ++ bitsN 32 (bl.foldl bstep start)).length = bl.length + 32 := by rw [List.length_append, hpre, length_bitsN, ek]
     refine zo M49 (zlss rfl (zT h52)) ?_;refine zw (hK51 _ _ (zct rfl (zsk (hK50 _ _ (zk fun K53 hK53 => ?_)))));refine zbl (zr ?_);refine zp 4 rfl (zo M49 (y_add (r := (bl.length : Int) + (i2 : Int)) (zwn rfl) rfl (zev rfl) (zev rfl) (rfl) (by omega)) (zo M49 (y_ias (r := bl.length + i2) (zwn rfl) rfl (zev rfl) (zev rfl) zu23 zz5 (by first | omega | (dsimp only; omega)) (by first | omega | (dsimp only; omega))) (zo M49 (zm (v := .int .u8 (((pre ++ bitsN 32 (bl.foldl bstep start)).getD (bl.length + i2) 0).toNat)) 0 rfl zg5 (bvs_getD (by omega))) (zo M49 (y_conv (r := (((bitsN 32 (bl.foldl bstep start)).getD i2 0).toUInt32.toNat : Int)) (zwn rfl) rfl (zev rfl) zu5 Tryd.underlying82 (by rw [getD_append_right' (hpre.trans ek), UInt8.toNat_toUInt32]; exact wrap_u32n (by have := ((bitsN 32 (bl.foldl bstep start)).getD i2 0).toNat_lt; omega))) ?_))));refine zp 1 rfl (zo M49 (y_conv (r := (i2 : Int)) (zwn rfl) rfl (zev rfl) zu3 Tryd.underlying84 (wrap_u64n (by omega))) (zo M49 (y_int (r := .int .u32 ((((bitsN 32 (bl.foldl bstep start)).getD i2 0).toUInt32 <<< UInt32.ofNat i2).toNat : Int)) (zwn rfl) rfl (zev rfl) (zev rfl) (uv_shl _ _ .u64 i2 hi32)) (zo M49 (y_int (r := .int .u32 ((gather (bl.foldl bstep start) (i2 + 1)).toNat : Int)) (zwn rfl) rfl (zev rfl) (zev rfl) (by rw [hrv, ← gather_step _ _ hi32]; exact uv_or _ _ _)) (zp 1 rfl ?_))));refine zw (hK53 _ _ (zr ?_));refine zp 1 rfl (zo M49 (y_add (r := (i2 : Int) + 1) (zwn rfl) rfl (zev rfl) (zev rfl) (rfl) (by omega)) (zp 1 rfl ?_));refine zw ?_;refine ⟨_, ?_, ⟨i2 + 1, gather (bl.foldl bstep start) (i2 + 1), [zI (i2 : Int), .bool true, zI (i2 : Int), zI ((i2 : Int) + 1), .int .u32 (rv.toNat : Int), zS g m c2, zI (bl.length : Int), zI (i2 : Int), zI ((bl.length : Int) + (i2 : Int)), zP g (bl.length + i2), .int .u8 (((pre ++ bitsN 32 (bl.foldl bstep start)).getD (bl.length + i2) 0).toNat), .int .u32 (((bitsN 32 (bl.foldl bstep start)).getD i2 0).toUInt32.toNat : Int), zI (i2 : Int), .int .u64 (i2 : Int), .int .u32 ((((bitsN 32 (bl.foldl bstep start)).getD i2 0).toUInt32 <<< UInt32.ofNat i2).toNat : Int), .int .u32 ((gather (bl.foldl bstep start) (i2 + 1)).toNat : Int)], rfl, (zmk (by kernel_rfl)), by omega, rfl, M49⟩⟩;simp [intOf]; omega
    ·have e32 : i2 = 32 := by omega
     rw [e32] at hrv;refine zo M49 (zlss rfl (zF h52)) ?_;refine zw (hK51 _ _ (zcf rfl (zx (hK46 _ _ (zk fun K54 hK54 => ?_)))));refine zr ?_;refine zp 2 rfl ?_;refine zw (hK54 _ _ (zrt ?_));(try simp only[zi,zj]);refine zR (v := .int .u32 (rv.toNat : Int)) (res1 rfl (zgd rfl)) (zdf _) ?_;have e1 : rv = feedL start l := by rw [hrv, gather_all, hbl, div_feed]
     rw [e1];exact ⟨rfl, M49.arr [1] (by decide)⟩
end Go.Proofs.YtfbamkgmnbobeaaDoor

/- The reference's checksum: Sum, Seal, Whole. -/
namespace Go.Proofs.YtfbamkgmnbobeaaDoor
set_option linter.unusedSectionVars false
open Go Go.RowKit
set_option maxRecDepth 100000
set_option maxHeartbeats 40000000
set_option linter.unusedVariables false
set_option linter.unusedSimpArgs false
variable {gT0 : TypeId}
theorem sum4_getD (s : UInt32) {i : Nat} (hi : i < 4) : ((sum4 s).getD i 0).toNat = s.toNat / 2 ^ (8 * i) % 256 := by
  have h : ∀ k, k < 32 → ((s >>> UInt32.ofNat k).toUInt8).toNat = s.toNat / 2 ^ k % 256 := fun k hk => by
    rw [UInt32.toNat_toUInt8, shr_toNat s k hk]
  match i, hi with
  | 0, _ => show (s.toUInt8).toNat = _; rw [UInt32.toNat_toUInt8]; simp
  | 1, _ => exact h 8 (by decide)
  | 2, _ => exact h 16 (by decide)
  | 3, _ => exact h 24 (by decide)
theorem length_sum4 (s : UInt32) : (sum4 s).length = 4 := rfl
theorem divide_full (ao : Option Addr) (n c : Nat) (l : List UInt8) {w : World} (hM : Mem w (foots [blk 0 gT0 (bvs divisorL)]) w [blk 0 gT0 (bvs divisorL)]) (hr : Row w ao n l) (ho : ∀ b o, ao = some ⟨b, o, none⟩ → 0 < n → b ∉ foots [blk 0 gT0 (bvs divisorL)]) (hn : n ≤ 1099511627776) : Calls Tryd.prog 56 #[.int .u32 4294967295, .slice ao n c] w fun e w' => e = .returned (.int .u32 ((feedL 4294967295 l).toNat : Int)) ∧ Mem w (foots [blk 0 gT0 (bvs divisorL)]) w' [blk 0 gT0 (bvs divisorL)] := by
  have h := divide_any 4294967295 ao n c l hM hr ho hn
  rw [show ((4294967295 : UInt32).toNat : Int) = 4294967295 by decide] at h
  exact h
theorem rsum_any (ao : Option Addr) (n c : Nat) (l : List UInt8) {w : World} (hM : zM w [blk 0 gT0 (bvs divisorL)]) (hr : Row w ao n l) (ho : ∀ b o, ao = some ⟨b, o, none⟩ → 0 < n → b ∉ foots [blk 0 gT0 (bvs divisorL)]) (hn : n ≤ 1099511627776) : zC 38 [.slice ao n c] w fun e w' => e = .returned (.int .u32 ((crcL l).toNat : Int)) ∧ zD w [blk 0 gT0 (bvs divisorL)] w' [blk 0 gT0 (bvs divisorL)] := by
 have M := hM;clear hM;go_enter Tryd.func38, Tryd.ntmps38;refine zin ?_;refine zk fun K1 hK1 => zr ?_;refine zp 1 rfl ?_;refine zw (hK1 _ _ (zk fun K2 hK2 => zr ?_));refine zp 1 rfl ?_;have hX3 : zD w [blk 0 gT0 (bvs divisorL)] w ([blk 0 gT0 (bvs divisorL)] ++ []) := M.arr [0] (by decide);refine zca 56 [.int .u32 4294967295, .slice ao n c] rfl Tryd.call56 (divide_full ao n c l (Mem.h1 hX3) (M.row hr ho) (fun b o e h => ho b o e h) hn) ?_;rintro e w3 ⟨rfl, H3⟩;have M3 : zD w [blk 0 gT0 (bvs divisorL)] w3 [blk 0 gT0 (bvs divisorL)] := Mem.f1 hX3 H3;refine ⟨_, rfl, ?_⟩;refine zo M3 (y_not32 (zwn rfl) rfl (zev rfl)) (zp 1 rfl ?_);refine zw (hK2 _ _ (zrt ?_));(try simp only[zi,zj]);refine zR (res1 rfl (zgd rfl)) (zdf _) ?_;exact ⟨rfl, M3.arr [0] (by decide)⟩
theorem rseal_any (ao : Option Addr) (n c : Nat) (l : List UInt8) {w : World} (hM : zM w [blk 0 gT0 (bvs divisorL)]) (hr : Row w ao n l) (ho : ∀ b o, ao = some ⟨b, o, none⟩ → 0 < n → b ∉ foots [blk 0 gT0 (bvs divisorL)]) (hn : n ≤ 1099511627776) : zC 25 [.slice ao n c] w fun e w' => ∃ a c', e = .returned (.slice a (sealB l).length c') ∧ zD w [blk 0 gT0 (bvs divisorL)] w' [blk 0 gT0 (bvs divisorL), lst 5 1 (.slice a (sealB l).length c') (sealB l).length (bvs (sealB l))] := by
 have M := hM;clear hM;go_enter Tryd.func25, Tryd.ntmps25;refine zin ?_;refine zk fun K1 hK1 => zr ?_;refine zp 1 rfl ?_;refine zw (hK1 _ _ (zk fun K2 hK2 => zr ?_));refine zp 1 rfl ?_;have hX3 : zD w [blk 0 gT0 (bvs divisorL)] w ([blk 0 gT0 (bvs divisorL)] ++ []) := M.arr [0] (by decide);refine zca 38 [.slice ao n c] rfl Tryd.call38 (rsum_any ao n c l (Mem.h1 hX3) (M.row hr ho) (fun b o e h => ho b o e h) hn) ?_;rintro e w3 ⟨rfl, H3⟩;have M3 : zD w [blk 0 gT0 (bvs divisorL)] w3 [blk 0 gT0 (bvs divisorL)] := Mem.f1 hX3 H3;refine ⟨_, rfl, ?_⟩;refine zp 1 rfl ?_;refine zw (hK2 _ _ (zk fun K4 hK4 => zr ?_));refine zp 1 rfl ?_;refine zw (hK4 _ _ (zk fun K5 hK5 => zk fun K6 hK6 => zr ?_));refine zp 1 rfl ?_;refine zw (hK6 _ _ (zbl ?_));refine zlp (fun n' a' w' => ∃ (i m : Nat) (a : Option Addr) (c2 : Nat) (us7 : List Value), n' = (n - ((i : Int)).toNat) ∧ a' = (⟨#[.slice ao n c, undef, zN, .int .u32 ((crcL l).toNat : Int), .slice a m c2, zI (i : Int), undef, .slice ao n c, .int .u32 ((crcL l).toNat : Int), (zU us7 0), (zU us7 1), (zU us7 2), (zU us7 3), (zU us7 4), (zU us7 5), (zU us7 6), (zU us7 7), (zU us7 8), (zU us7 9), (zU us7 10), (zU us7 11), (zU us7 12), undef, undef, undef, undef, undef, undef, undef, undef, undef, undef, undef, undef, undef, undef], []⟩ : Act) ∧ (i ≤ n) ∧ (m = i) ∧ zD w [blk 0 gT0 (bvs divisorL)] w' [lst 5 1 (.slice a m c2) m (bvs (l.take i)), blk 0 gT0 (bvs divisorL)]) _ ⟨0, 0, none, 0, [undef, undef, undef, undef, undef, undef, undef, undef, undef, undef, undef, undef, undef], rfl, (zmk (by kernel_rfl)), Nat.zero_le _, rfl, (M3.nilst 5 1)⟩ ?_;rintro n' a' w8 ⟨i, m, a, c2, us7, rfl, rfl, hi, hm, M8⟩;refine zin ?_;refine zk fun K9 hK9 => zk fun K10 hK10 => zr ?_;refine zp 2 rfl (zo M8 (y_len (zwn rfl) rfl (zev rfl) zu23) ?_);rcases zem ((i : Int) < (n : Int)) with h11 | h11
 ·have hin : i < n := by omega
  obtain ⟨b, o, rfl⟩ := hr.at0 (by omega);refine zo M8 (zlss rfl (zT h11)) ?_;refine zw (hK10 _ _ (zct rfl (zsk (hK9 _ _ (zk fun K12 hK12 => ?_)))));refine zbl (zr ?_);refine zp 3 rfl (zo M8 (y_ias (r := o + i) (zwn rfl) rfl (zev rfl) (zev rfl) zu23 zz5 (by first | omega | (dsimp only; omega)) (by first | omega | (dsimp only; omega))) (zo M8 (y_loadc (v := .int .u8 ((l.getD i 0).toNat)) (zwn rfl) rfl (zev rfl) zg5 (fun W hW => Row.cellD (hW.row hr ho) (by omega))) ?_));refine pe (zwn rfl) fun K hK => e_bslice M8 ([.int .u8 ((l.getD i 0).toNat)]) (pv := [(0, .int .u8 ((l.getD i 0).toNat))]) rfl (zep rfl) zu23 zz5 Tryd.zeroValue5 (by decide) (by kernel_rfl) ?_;intro g13 w14 (M14 : zD w [blk 0 gT0 (bvs divisorL)] w14 [blk g13 5 ([.int .u8 ((l.getD i 0).toNat)]), lst 5 1 (.slice a m c2) m (bvs (l.take i)), blk 0 gT0 (bvs divisorL)]);refine hK.out _ _ (zpu ?_);refine pe (zwn rfl) fun K hK => e_append M14 1 bytesT (by decide) (news := bvs [(l.getD i 0)]) rfl rfl (zev rfl) (zev rfl) (rfl) (by intro h; cases h) (fun ad e j u hj => by cases e; match j with | 0 => cases hj; exact cell_of_blk (M14.get 0 rfl) rfl | j + 1 => cases hj) (by intro u hu; cases hu with | head => rfl | tail _ h => cases h) (⟨by unfold maxLen; omega, by omega⟩) ?_;intro v15 w15 M15;replace M15 : zD w [blk 0 gT0 (bvs divisorL)] w15 [blk g13 5 ([.int .u8 ((l.getD i 0).toNat)]), lst 5 1 v15 (m + 1) (bvs (l.take (i + 1))), blk 0 gT0 (bvs divisorL)] := (by have N := M15; rw [← bvs_append, take_getD (by rw [hr.1]; exact hin)] at N; exact N);obtain ⟨a15, c15, rfl⟩ := qv_at (M15.get 1 rfl);refine hK.out _ _ (zpu ?_);refine zp 1 rfl ?_;refine zw (hK12 _ _ (zr ?_));refine zp 1 rfl (zo M15 (y_add (r := (i : Int) + 1) (zwn rfl) rfl (zev rfl) (zev rfl) (rfl) (by omega)) (zp 1 rfl ?_));refine zw ?_;refine ⟨_, ?_, ⟨i + 1, m + 1, a15, c15, [zI (i : Int), .slice (some ⟨b, o, none⟩) n c, zI (n : Int), .bool true, zI (i : Int), zI ((i : Int) + 1), .slice a m c2, .slice (some ⟨b, o, none⟩) n c, zI (i : Int), zP b (o + i), .int .u8 ((l.getD i 0).toNat), zS g13 1 1, .slice a15 (m + 1) c15], rfl, (zmk (by kernel_rfl)), by omega, by omega, (M15.arr [1, 2] (by decide))⟩⟩;simp [intOf]; omega
 ·have en : i = n := by omega
  rw [en, List.take_of_length_le (Nat.le_of_eq hr.1)] at M8;refine zo M8 (zlss rfl (zF h11)) ?_;refine zw (hK10 _ _ (zcf rfl (zx (hK5 _ _ (zk fun K16 hK16 => ?_)))));refine zk fun K17 hK17 => zr ?_;refine zp 1 rfl ?_;refine zw (hK17 _ _ (zbl ?_));refine zlp (fun n' a' w' => ∃ (i2 m2 : Nat) (a2 : Option Addr) (c3 : Nat) (us18 : List Value), n' = (4 - ((i2 : Int)).toNat) ∧ a' = (⟨#[.slice ao n c, undef, zN, .int .u32 ((crcL l).toNat : Int), .slice a2 m2 c3, zI (i : Int), zI (i2 : Int), .slice ao n c, .int .u32 ((crcL l).toNat : Int), zI (i : Int), .slice ao n c, zI (n : Int), .bool false, (zU us7 4), (zU us7 5), (zU us7 6), (zU us7 7), (zU us7 8), (zU us7 9), (zU us7 10), (zU us7 11), (zU us7 12), (zU us18 0), (zU us18 1), (zU us18 2), (zU us18 3), (zU us18 4), (zU us18 5), (zU us18 6), (zU us18 7), (zU us18 8), (zU us18 9), (zU us18 10), (zU us18 11), (zU us18 12), undef], []⟩ : Act) ∧ (i2 ≤ 4) ∧ (m2 = n + i2) ∧ zD w [blk 0 gT0 (bvs divisorL)] w' [lst 5 1 (.slice a2 m2 c3) m2 (bvs (l ++ (sum4 (crcL l)).take i2)), blk 0 gT0 (bvs divisorL)]) _ ⟨0, m, a, c2, [undef, undef, undef, undef, undef, undef, undef, undef, undef, undef, undef, undef, undef], rfl, (zmk (by kernel_rfl)), by omega, by omega, (by rw [List.take_zero, List.append_nil]; exact M8)⟩ ?_;rintro n' a' w19 ⟨i2, m2, a2, c3, us18, rfl, rfl, hi2, hm2, M19⟩;refine zin ?_;refine zk fun K20 hK20 => zk fun K21 hK21 => zr ?_;refine zp 1 rfl ?_;rcases zem ((i2 : Int) < 4) with h22 | h22
  ·have hi4 : i2 < 4 := by omega
   refine zo M19 (zlss rfl (zT h22)) ?_;refine zw (hK21 _ _ (zct rfl (zsk (hK20 _ _ (zk fun K23 hK23 => ?_)))));refine zbl (zr ?_);refine zp 3 rfl (zo M19 (y_mul (r := ((8 * i2 : Nat) : Int)) (zwn rfl) rfl (zev rfl) (zev rfl) (by omega) (by omega)) (zo M19 (y_conv (r := ((8 * i2 : Nat) : Int)) (zwn rfl) rfl (zev rfl) zu3 Tryd.underlying84 (wrap_u64n (by omega))) (zo M19 (y_int (r := .int .u32 (((crcL l).toNat / 2 ^ (8 * i2) : Nat) : Int)) (zwn rfl) rfl (zev rfl) (zev rfl) (shr32n _ _ (by omega) _)) (zo M19 (y_conv (r := (((sum4 (crcL l)).getD i2 0).toNat : Int)) (zwn rfl) rfl (zev rfl) Tryd.underlying82 zu5 (by rw [sum4_getD _ hi4]; exact wrap_u8 _)) ?_))));refine pe (zwn rfl) fun K hK => e_bslice M19 ([.int .u8 (((sum4 (crcL l)).getD i2 0).toNat : Int)]) (pv := [(0, .int .u8 (((sum4 (crcL l)).getD i2 0).toNat : Int))]) rfl (zep rfl) zu23 zz5 Tryd.zeroValue5 (by decide) (by kernel_rfl) ?_;intro g24 w25 (M25 : zD w [blk 0 gT0 (bvs divisorL)] w25 [blk g24 5 ([.int .u8 (((sum4 (crcL l)).getD i2 0).toNat : Int)]), lst 5 1 (.slice a2 m2 c3) m2 (bvs (l ++ (sum4 (crcL l)).take i2)), blk 0 gT0 (bvs divisorL)]);refine hK.out _ _ (zpu ?_);refine pe (zwn rfl) fun K hK => e_append M25 1 bytesT (by decide) (news := bvs [((sum4 (crcL l)).getD i2 0)]) rfl rfl (zev rfl) (zev rfl) (rfl) (by intro h; cases h) (fun ad e j u hj => by cases e; match j with | 0 => cases hj; exact cell_of_blk (M25.get 0 rfl) rfl | j + 1 => cases hj) (by intro u hu; cases hu with | head => rfl | tail _ h => cases h) (⟨by unfold maxLen; omega, by omega⟩) ?_;intro v26 w26 M26;replace M26 : zD w [blk 0 gT0 (bvs divisorL)] w26 [blk g24 5 ([.int .u8 (((sum4 (crcL l)).getD i2 0).toNat : Int)]), lst 5 1 v26 (m2 + 1) (bvs (l ++ (sum4 (crcL l)).take (i2 + 1))), blk 0 gT0 (bvs divisorL)] := (by have N := M26; rw [← bvs_append, List.append_assoc, take_getD hi4] at N; exact N);obtain ⟨a26, c26, rfl⟩ := qv_at (M26.get 1 rfl);refine hK.out _ _ (zpu ?_);refine zp 1 rfl ?_;refine zw (hK23 _ _ (zr ?_));refine zp 1 rfl (zo M26 (y_add (r := (i2 : Int) + 1) (zwn rfl) rfl (zev rfl) (zev rfl) (rfl) (by omega)) (zp 1 rfl ?_));refine zw ?_;refine ⟨_, ?_, ⟨i2 + 1, m2 + 1, a26, c26, [zI (i2 : Int), .bool true, zI (i2 : Int), zI ((i2 : Int) + 1), .slice a2 m2 c3, .int .u32 ((crcL l).toNat : Int), zI (i2 : Int), zI ((8 * i2 : Nat) : Int), .int .u64 ((8 * i2 : Nat) : Int), .int .u32 (((crcL l).toNat / 2 ^ (8 * i2) : Nat) : Int), .int .u8 (((sum4 (crcL l)).getD i2 0).toNat : Int), zS g24 1 1, .slice a26 (m2 + 1) c26], rfl, (zmk (by kernel_rfl)), by omega, by omega, (M26.arr [1, 2] (by decide))⟩⟩;simp [intOf]; omega
  ·refine zo M19 (zlss rfl (zF h22)) ?_;refine zw (hK21 _ _ (zcf rfl (zx (hK16 _ _ (zk fun K27 hK27 => ?_)))));refine zr ?_;refine zp 2 rfl ?_;refine zw (hK27 _ _ (zrt ?_));(try simp only[zi,zj]);refine zR (v := .slice a2 m2 c3) (res1 rfl (zgd rfl)) (zdf _) ?_;have e1 : m2 = (sealB l).length := by rw [length_sealB, hr.1]; omega
   have e2 : l ++ (sum4 (crcL l)).take i2 = sealB l := by rw [List.take_of_length_le (by rw [length_sum4]; omega)]; rfl
   rw [e2] at M19;subst e1;exact ⟨_, _, rfl, M19.arr [1, 0] (by decide)⟩
end Go.Proofs.YtfbamkgmnbobeaaDoor
