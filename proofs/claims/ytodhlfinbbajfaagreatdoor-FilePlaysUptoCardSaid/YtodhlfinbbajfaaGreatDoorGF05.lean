/- Texts joined. -/
import Derived.Test.YtodhlfinbbajfaaGreatDoorGF04
import Derived.Test.YtodhlfinbbajfaaGreatDoorGF03
import Derived.Test.YtodhlfinbbajfaaGreatDoorRows
import Derived.Test.YtodhlfinbbajfaaGreatDoorGF00
namespace Go.Proofs.YtodhlfinbbajfaaGreatDoor
open Go Go.RowKit
set_option linter.unusedVariables false
set_option linter.unusedSimpArgs false
set_option linter.unusedSectionVars false
set_option maxRecDepth 100000
set_option maxHeartbeats 40000000
def Jbv : Nat → UInt32 → List UInt8
  | 0, _ => []
  | n + 1, x => (x &&& 1).toUInt8 :: Jbv n (x >>> 1)
theorem Jdp : ∀ (n : Nat) (x : UInt32), (Jbv n x).length = n
  | 0, _ => rfl
  | n + 1, x => by rw [Jbv, List.length_cons, Jdp n]
theorem Jfg (x : UInt32) (n : Nat) (hn : n < 32) : (x >>> UInt32.ofNat n).toNat = x.toNat / 2 ^ n := by
 rw [UInt32.toNat_shiftRight, UInt32.toNat_ofNat', Nat.mod_eq_of_lt (show n < 2 ^ 32 by omega), Nat.mod_eq_of_lt hn, Nat.shiftRight_eq_div_pow]
theorem Jlg (x : UInt32) : (x &&& 1).toNat = x.toNat % 2 := by rw [UInt32.toNat_and]; exact Nat.and_one_is_mod _
theorem Jra (x : UInt32) : (x &&& 1).toUInt8.toNat = x.toNat % 2 := by
 rw [UInt32.toNat_toUInt8, Jlg]; omega
theorem Jic : ∀ (n : Nat) (x : UInt32) (j : Nat), j < n → n ≤ 32 → ((Jbv n x).getD j 0).toNat = x.toNat / 2 ^ j % 2
  | n + 1, x, 0, _, _ => by
    show (x &&& 1).toUInt8.toNat = _
    rw [Jra, Nat.pow_zero, Nat.div_one]
  | n + 1, x, j + 1, h, hn => by
    show ((Jbv n (x >>> 1)).getD j 0).toNat = _
    rw [Jic n _ j (by omega) (by omega)]
    have := Jfg x 1 (by decide)
    rw [show (x >>> UInt32.ofNat 1) = x >>> 1 from rfl] at this
    rw [this, Nat.div_div_eq_div_mul, Nat.pow_one, Nat.pow_succ, Nat.mul_comm]
def Jg0 (x : UInt8) : List UInt8 := Jbv 8 x.toUInt32
def Jg1 (l : List UInt8) : List UInt8 := l.flatMap Jg0
theorem Jhp (x : UInt8) : (Jg0 x).length = 8 := Jdp _ _
theorem Jhq : ∀ l : List UInt8, (Jg1 l).length = 8 * l.length
  | [] => rfl
  | x :: l => by
    show (Jg0 x ++ Jg1 l).length = _
    rw [List.length_append, Jhp, Jhq l, List.length_cons]; omega
def Jfo (r : UInt32) (b : UInt8) : UInt32 := Jik (r ^^^ b.toUInt32)
theorem Jmk : ∀ (n : Nat) (r x : UInt32), n ≤ 32 → x.toNat < 2 ^ n → stp n (r ^^^ x) = (Jbv n x).foldl Jfo r
  | 0, r, x, _, h => by
    have : x = 0 := by apply UInt32.toNat_inj.1; have h2 : (0 : UInt32).toNat = 0 := rfl; rw [Nat.pow_zero] at h; omega
    rw [this, UInt32.xor_zero]; rfl
  | n + 1, r, x, hn, h => by
    have hs := Jfg x 1 (by decide)
    rw [show (x >>> UInt32.ofNat 1) = x >>> 1 from rfl, Nat.pow_one] at hs
    show stp n (Jik (r ^^^ x)) = (Jbv n (x >>> 1)).foldl Jfo (Jfo r (x &&& 1).toUInt8)
    rw [← Jmk n (Jfo r (x &&& 1).toUInt8) (x >>> 1) (by omega) (by rw [hs]; rw [Nat.pow_succ] at h; omega)]
    congr 1
    have hb : (x &&& 1).toUInt8.toUInt32 = x &&& 1 := by
      apply UInt32.toNat_inj.1
      rw [UInt8.toNat_toUInt32, Jra, Jlg]
    unfold Jfo
    rw [hb, Jk6, Jpo x, Jk6, UInt32.xor_assoc]
theorem Jml : ∀ (l : List UInt8) (r : UInt32), Jj1 r l = (Jg1 l).foldl Jfo r
  | [], _ => rfl
  | x :: l, r => by
    show Jj1 (Jst r x) l = (Jg0 x ++ Jg1 l).foldl Jfo r
    rw [List.foldl_append, Jml l, Jsx]
    unfold Jg0
    rw [← Jmk 8 r x.toUInt32 (by decide) (by rw [UInt8.toNat_toUInt32]; exact x.toNat_lt)]
def xorL : List UInt8 → List UInt8 → List UInt8
  | [], _ => []
  | a :: l, [] => a :: l
  | a :: l, m :: ms => (a ^^^ m) :: xorL l ms
theorem Jfh : ∀ l m : List UInt8, (xorL l m).length = l.length
  | [], _ => rfl
  | a :: l, [] => rfl
  | a :: l, m :: ms => by rw [xorL, List.length_cons, List.length_cons, Jfh l ms]
theorem Jkz (l : List UInt8) : xorL l [] = l := by cases l <;> rfl
theorem Jlh : ∀ l m : List UInt8, xorL l (m ++ [0]) = xorL l m
  | [], m => by cases m <;> rfl
  | a :: l, [] => by show (a ^^^ 0) :: xorL l [] = _; rw [UInt8.xor_zero, Jkz]; rfl
  | a :: l, m :: ms => by show (a ^^^ m) :: xorL l (ms ++ [0]) = _; rw [Jlh l ms]; rfl
theorem Jor : ∀ l m d : List UInt8, m.length = d.length → xorL (xorL l m) d = xorL l (List.zipWith (· ^^^ ·) m d)
  | [], m, d, _ => by cases m <;> rfl
  | a :: l, [], [], _ => rfl
  | a :: l, x :: m, y :: d, h => by
    show ((a ^^^ x) ^^^ y) :: xorL (xorL l m) d = (a ^^^ (x ^^^ y)) :: _
    rw [Jor l m d (by simpa using h), UInt8.xor_assoc]
theorem Jf3 : ∀ (l m : List UInt8) (j : Nat), j < m.length → j < l.length → (xorL l (m.take j)).set j ((xorL l (m.take j)).getD j 0 ^^^ m.getD j 0) = xorL l (m.take (j + 1))
  | a :: l, x :: m, 0, _, _ => by
    show (a ^^^ x) :: l = (a ^^^ x) :: xorL l []
    rw [Jkz]
  | a :: l, x :: m, j + 1, h1, h2 => by
    show (a ^^^ x) :: (xorL l (m.take j)).set j ((xorL l (m.take j)).getD j 0 ^^^ m.getD j 0) = (a ^^^ x) :: xorL l (m.take (j + 1))
    rw [Jf3 l m j (by simpa using h1) (by simpa using h2)]
theorem Jt7 (a b : UInt32) : ((a ^^^ b) &&& 1).toUInt8 = (a &&& 1).toUInt8 ^^^ (b &&& 1).toUInt8 := by
 rw [Jpn];rcases Jhf a with h | h <;> rcases Jhf b with h' | h' <;> rw [h, h'] <;> decide
theorem Jos : ∀ (n : Nat) (a b : UInt32), Jbv n (a ^^^ b) = List.zipWith (· ^^^ ·) (Jbv n a) (Jbv n b)
  | 0, _, _ => rfl
  | n + 1, a, b => by
    show ((a ^^^ b) &&& 1).toUInt8 :: Jbv n ((a ^^^ b) >>> 1) = ((a &&& 1).toUInt8 ^^^ (b &&& 1).toUInt8) :: List.zipWith _ (Jbv n (a >>> 1)) (Jbv n (b >>> 1))
    rw [Jt7, UInt32.shiftRight_xor, Jos n]
theorem Jot : ∀ (n : Nat) (x : UInt32), x.toNat < 2 ^ n → n < 32 → Jbv (n + 1) x = Jbv n x ++ [0]
  | 0, x, h, _ => by
    have : x = 0 := by apply UInt32.toNat_inj.1; have h2 : (0 : UInt32).toNat = 0 := rfl; rw [Nat.pow_zero] at h; omega
    rw [this]; rfl
  | n + 1, x, h, hn => by
    have hs := Jfg x 1 (by decide)
    rw [show (x >>> UInt32.ofNat 1) = x >>> 1 from rfl, Nat.pow_one] at hs
    show (x &&& 1).toUInt8 :: Jbv (n + 1) (x >>> 1) = (x &&& 1).toUInt8 :: Jbv n (x >>> 1) ++ [0]
    rw [Jot n (x >>> 1) (by rw [hs]; rw [Nat.pow_succ] at h; omega) (by omega)]; rfl
def Jaa : List UInt8 := [1, 0, 0, 0, 0, 0, 1, 0, 0, 1, 1, 0, 0, 0, 0, 0, 1, 0, 0, 0, 1, 1, 1, 0, 1, 1, 0, 1, 1, 0, 1, 1, 1]
theorem Jou : Jaa = 1 :: Jbv 32 0xEDB88320 := by decide
def divS (l : List UInt8) : List UInt8 := if l.getD 0 0 = 1 then xorL l Jaa else l
theorem Jwc (r : UInt32) (x : UInt8) (hx : x = 0 ∨ x = 1) : Jfo r x = (r >>> 1) ^^^ Jk5 ((r &&& 1) ^^^ x.toUInt32) := by
 unfold Jfo Jik;rcases hx with rfl | rfl
 ·rw [show (0 : UInt8).toUInt32 = 0 from rfl, UInt32.xor_zero, UInt32.xor_zero]
 ·rw [show (1 : UInt8).toUInt32 = 1 from rfl, UInt32.shiftRight_xor, Jpn, show (1 : UInt32) >>> 1 = 0 by decide, show (1 : UInt32) &&& 1 = 1 by decide, UInt32.xor_zero]
theorem Jt8 (x : UInt8) (m : List UInt8) (r : UInt32) (hx : x = 0 ∨ x = 1) (hm : 32 ≤ m.length) :
    (divS (xorL (x :: m) (Jbv 32 r))).drop 1 = xorL m (Jbv 32 (Jfo r x)) := by
 have hs := Jfg r 1 (by decide);rw [show (r >>> UInt32.ofNat 1) = r >>> 1 from rfl, Nat.pow_one] at hs;have hr := r.toNat_lt;have e1 : Jbv 32 (r >>> 1) = Jbv 31 (r >>> 1) ++ [0] := Jot 31 _ (by rw [hs]; show _ < 2147483648; omega) (by decide);have e2 : xorL (x :: m) (Jbv 32 r) = (x ^^^ (r &&& 1).toUInt8) :: xorL m (Jbv 31 (r >>> 1)) := rfl;rw [e2, Jwc r x hx];have key : ∀ b : UInt32, Jk5 b = 0 → xorL m (Jbv 31 (r >>> 1)) = xorL m (Jbv 32 ((r >>> 1) ^^^ Jk5 b)) := fun b hb => by rw [hb, UInt32.xor_zero, e1, Jlh]
 have key2 : ∀ b : UInt32, Jk5 b = 0xEDB88320 → (xorL ((1 : UInt8) :: xorL m (Jbv 31 (r >>> 1))) Jaa).drop 1 = xorL m (Jbv 32 ((r >>> 1) ^^^ Jk5 b)) := fun b hb => by
   rw [hb, Jou, Jos];show xorL (xorL m (Jbv 31 (r >>> 1))) (Jbv 32 0xEDB88320) = _;rw [← Jlh m (Jbv 31 (r >>> 1)), ← e1, Jor _ _ _ (by rw [Jdp, Jdp])]
 unfold divS;rw [show ((x ^^^ (r &&& 1).toUInt8) :: xorL m (Jbv 31 (r >>> 1))).getD 0 0 = x ^^^ (r &&& 1).toUInt8 from rfl];rcases hx with rfl | rfl <;> rcases Jhf r with h | h <;> rw [h]
 ·rw [if_neg (by decide)]; exact key _ (by decide)
 ·rw [if_pos (by decide)]; exact key2 _ (by decide)
 ·rw [if_pos (by decide)]; exact key2 _ (by decide)
 ·rw [if_neg (by decide)]; exact key _ (by decide)
theorem Jrb : ∀ (n : Nat) (x : UInt32), ∀ b ∈ Jbv n x, b = 0 ∨ b = 1
  | 0, _, b, h => by cases h
  | n + 1, x, b, h => by
    rcases List.mem_cons.1 h with rfl | h
    · rcases Jhf x with h | h <;> rw [h]
      · exact .inl rfl
      · exact .inr rfl
    · exact Jrb n _ b h
theorem Jwd (l : List UInt8) : ∀ b ∈ Jg1 l, b = 0 ∨ b = 1 := by
 intro b hb;obtain ⟨x, _, hb⟩ := List.mem_flatMap.1 hb;exact Jrb _ _ b hb
def Je3 (n : Nat) : List UInt8 := List.replicate n 0
def Jdu (m : List UInt8) (r : UInt32) (i : Nat) : List UInt8 := xorL ((m ++ Je3 32).drop i) (Jbv 32 ((m.take i).foldl Jfo r))
theorem Jey (m : List UInt8) (r : UInt32) (i : Nat) : (Jdu m r i).length = m.length + 32 - i := by
 unfold Jdu;rw [Jfh, List.length_drop, List.length_append]; simp [Je3]
theorem Jmm {m : List UInt8} (h01 : ∀ b ∈ m, b = 0 ∨ b = 1) (r : UInt32) {i : Nat} (hi : i < m.length) : (divS (Jdu m r i)).drop 1 = Jdu m r (i + 1) := by
 unfold Jdu
 have e : (m ++ Je3 32).drop i = m[i] :: (m ++ Je3 32).drop (i + 1) := by
   rw [List.drop_eq_getElem_cons (by rw [List.length_append]; omega), List.getElem_append_left hi]
 rw [e, Jt8 _ _ _ (h01 _ (List.getElem_mem hi)) (by rw [List.length_drop, List.length_append]; simp [Je3]; omega), List.take_succ_eq_append_getElem hi, List.foldl_append]; rfl
theorem Jt9 (m : List UInt8) (r : UInt32) : Jdu m r m.length = Jbv 32 (m.foldl Jfo r) := by
 unfold Jdu;rw [List.drop_left' rfl, List.take_length]
 have : ∀ (n : Nat) (x : UInt32), xorL (Je3 n) (Jbv n x) = Jbv n x := by
   intro n;induction n with
   | zero => intro x; rfl;| succ n ih => intro x; show ((0 : UInt8) ^^^ (x &&& 1).toUInt8) :: xorL (Je3 n) (Jbv n (x >>> 1)) = (x &&& 1).toUInt8 :: Jbv n (x >>> 1); rw [ih, UInt8.zero_xor]
 exact this 32 _
def Jis (r : UInt32) (i : Nat) : UInt32 := UInt32.ofNat (r.toNat % 2 ^ i)
theorem Jp4 (r : UInt32) (i : Nat) (hi : i < 32) : Jis r i ||| (((Jbv 32 r).getD i 0).toUInt32 <<< UInt32.ofNat i) = Jis r (i + 1) := by
 have hr := r.toNat_lt;have hp : ∀ j, r.toNat % 2 ^ j < 2 ^ 32 := fun j => Nat.lt_of_le_of_lt (Nat.mod_le _ _) hr;apply UInt32.toNat_inj.1;unfold Jis;rw [UInt32.toNat_or, UInt32.toNat_shiftLeft, UInt32.toNat_ofNat', UInt32.toNat_ofNat', UInt32.toNat_ofNat', Nat.mod_eq_of_lt (hp i), Nat.mod_eq_of_lt (hp (i + 1)), Nat.mod_eq_of_lt (show i < 2 ^ 32 by omega), Nat.mod_eq_of_lt hi, UInt8.toNat_toUInt32, Jic 32 r i hi (by decide)];apply Nat.eq_of_testBit_eq;intro j;rw [Nat.testBit_or, Nat.testBit_mod_two_pow, Nat.testBit_mod_two_pow, Nat.testBit_mod_two_pow, Nat.shiftLeft_eq, Nat.mul_comm _ (2 ^ i), Nat.testBit_two_pow_mul];have h2 : r.toNat / 2 ^ i % 2 = (r.toNat.testBit i).toNat := by rw [Nat.testBit_eq_decide_div_mod_eq]; rcases Nat.mod_two_eq_zero_or_one (r.toNat / 2 ^ i) with h | h <;> rw [h] <;> rfl
 rw [h2];rcases Nat.lt_trichotomy j i with h | h | h
 ·rw [decide_eq_true h, decide_eq_true (show j < i + 1 by omega), decide_eq_false (show ¬ j ≥ i by omega)]; simp
 ·subst h;rw [decide_eq_false (show ¬ j < j by omega), decide_eq_true (show j < j + 1 by omega), decide_eq_true (show j ≥ j by omega), decide_eq_true (show j < 32 by omega), Nat.sub_self];cases r.toNat.testBit j <;> rfl
 ·rw [decide_eq_false (show ¬ j < i by omega), decide_eq_false (show ¬ j < i + 1 by omega)]
  have : ((r.toNat.testBit i).toNat).testBit (j - i) = false := by
    obtain ⟨n, hn⟩ : ∃ n, j - i = n + 1 := ⟨j - i - 1, by omega⟩;rw [hn];cases r.toNat.testBit i
    ·exact Nat.zero_testBit _
    ·show Nat.testBit 1 (n + 1) = false;rw [Nat.testBit_succ]; exact Nat.zero_testBit _
  rw [this]; simp
theorem Jp5 (r : UInt32) : Jis r 0 = 0 := by unfold Jis; rw [Nat.pow_zero, Nat.mod_one]; rfl
theorem Jr6 (r : UInt32) : Jis r 32 = r := by
 unfold Jis;rw [Nat.mod_eq_of_lt r.toNat_lt, UInt32.ofNat_toNat]
theorem Jwe (l : List UInt8) (r : UInt32) : (Jg1 l).foldl Jfo r = Jj1 r l := (Jml l r).symm
theorem Jpc {l m : List UInt8} {k : Nat} (h1 : k < l.length) (h2 : k < m.length) (he : l[k] = m[k]) (h : l.take k = m.take k) : l.take (k+1) = m.take (k+1) := by
 rw [List.take_succ_eq_append_getElem h1, List.take_succ_eq_append_getElem h2, h, he]
theorem Jyy {l m : List UInt8} {k : Nat} (h1 : k < l.length) (h2 : k < m.length) (he : l[k] ≠ m[k]) : l ≠ m := by
 intro h; subst h; exact he rfl
theorem Jyz {a b : UInt8} : (((a.toNat : Int) != (b.toNat : Int)) = true) ↔ a ≠ b := by
 rw [bne_iff_ne, ne_eq, ne_eq, Int.ofNat_inj, UInt8.toNat_inj]
theorem Jy0 {a b : UInt8} : (((a.toNat : Int) != (b.toNat : Int)) = false) ↔ a = b := by
 rw [bne_eq_false_iff_eq, Int.ofNat_inj, UInt8.toNat_inj]
theorem Jrh {l m : List UInt8} (h : l = m) : Value.bool true = Value.bool (eqB l m) := by rw [Jqw h]
theorem Jpd {l m : List UInt8} (h : l ≠ m) : Value.bool false = Value.bool (eqB l m) := by rw [Jsq h]
theorem Jnv (a0 a1 : Option Addr) (n0 c0 n1 c1 : Nat) (l0 l1 : List UInt8) (w : World) (h0 : Row w a0 n0 l0) (h1 : Row w a1 n1 l1) (m0 : n0 ≤ maxLen) (m1 : n1 ≤ maxLen) :
    zC 30 [.slice a0 n0 c0, .slice a1 n1 c1] w fun e w' => e = .returned (.bool (eqB l0 l1)) ∧ ∃ q, w' = w.drewN q := by
 unfold maxLen at m0 m1;have hl0 := h0.1;have hl1 := h1.1;by_cases hn : n0 = n1
 ·subst hn;by_cases hz : n0 = 0
  ·subst hz;obtain rfl : l0 = [] := List.length_eq_zero_iff.1 hl0;obtain rfl : l1 = [] := List.length_eq_zero_iff.1 hl1;clear h0 h1 hl0 hl1;go_enter Tryz.func30, Tryz.ntmps30;go_wp2;refine wp_loop_rounds 1 ?_; rw [rounds_succ];go_wp2;go_ret;exact ⟨congrArg Ending.returned (Jrh rfl), 0, rfl⟩
  ·obtain ⟨b0, o0, rfl⟩ := h0.at0 (by omega);obtain ⟨b1, o1, rfl⟩ := h1.at0 (by omega);have H0 := Lib.hid hl0;have H1 := Lib.hid hl1;clear hl0 hl1;go_enter Tryz.func30, Tryz.ntmps30;go_wp2;go_loopw [5] (fun i wr => ∃ k q : Nat, k ≤ n0 ∧ i = zI k ∧ wr = w.drewN q ∧ l0.take k = l1.take k) (fun i _ => n0 - (intOf i).toNat);case atStart => exact ⟨0, 0, Nat.zero_le _, rfl, rfl, rfl⟩
   case round =>
     obtain ⟨k, q, hk, rfl, rfl, ht⟩ := hrel;have HT := Lib.hid ht;clear ht;by_cases hlt : k < n0
     ·have e0 : w.cell? ⟨b0, o0 + k, none⟩ = some (.int .u8 (l0[k]'(by have := H0.out; omega)).toNat) := h0.cell k (by have := H0.out; omega);have e1 : w.cell? ⟨b1, o1 + k, none⟩ = some (.int .u8 (l1[k]'(by have := H1.out; omega)).toNat) := h1.cell k (by have := H1.out; omega);go_wp2;go_quiet (fail);go_wp2
      ·have hne := Jyz.1 (by assumption);go_ret;exact ⟨congrArg Ending.returned (Jpd (Jyy _ _ hne)), q + nq, by simp⟩
      ·have heq := Jy0.1 (by assumption);go_roundw;case rel => exact ⟨k + 1, _, by omega, by go_num, rfl, Jpc _ _ heq HT.out⟩
       case measure => simp [intOf]; omega
     ·go_wp2;go_ret;refine ⟨congrArg Ending.returned (Jrh ?_), _, rfl⟩;have := HT.out;rwa [List.take_of_length_le (by have := H0.out; omega), List.take_of_length_le (by have := H1.out; omega)] at this
 ·have hf : ((n0 : Int) != (n1 : Int)) = true := by rw [bne_iff_ne]; omega
  go_enter Tryz.func30, Tryz.ntmps30;go_wp2;go_ret;refine ⟨congrArg Ending.returned (Jpd ?_), 0, rfl⟩;intro h; subst h; omega
theorem Jm6 : Jny Tryz.prog 22 5 := by
 obtain ⟨i, hi⟩ := Option.isSome_iff_exists.1 (show (Tryz.prog.info? 5).isSome = true by kernel_rfl);have h : (Tryz.prog.info? 5).map (fun i => (i.zero, i.size, i.bytes)) = some (some (.int .u8 0), 1, 1) := by kernel_rfl
 rw [hi] at h;simp only [Option.map_some, Option.some.injEq, Prod.mk.injEq] at h;exact ⟨i, Tryz.underlying22, hi, h.1, h.2.1, h.2.2⟩
theorem Jnz {B : Nat} {w w' : World} (h : Below B w w') (q : Nat) : Below B w (w'.drewN q) := ⟨h.os, h.tape, h.output, h.size, h.block⟩
theorem Jsr {w wr w' : World} {base : Nat} {e : TypeId} {v : Value} {l : List UInt8} (hB : Below base w wr) (ho : Own wr base e v l) (G : wr.grownBy w' v.ownBlock) (hb : base ≤ w.heap.size) : Below base w w' :=
  hB.grown G (Nat.le_trans hb hB.size) fun k hk => (ho.lt k hk).1
theorem Jm7 (ao : Option Addr) (n c : Nat) (l : List UInt8) (w : World) (h0 : Row w ao n l) (hb : n ≤ 140737488351400) :
    zC 34 [.slice ao n c] w fun e w' => (∃ v, e = .returned v ∧ Own w' w.heap.size 5 v l) ∧ Below w.heap.size w w' := by
 have h := Box.mk h0;have hl := Box.mk h0.1;clear h0;go_enter Tryz.func34, Tryz.ntmps34;go_wp2;go_loopw [3, 4] (fun v i wr => ∃ k : Nat, k ≤ n ∧ i = zI k ∧ Below w.heap.size w wr ∧ Own wr w.heap.size 5 v (l.take k)) (fun v i _ => n - (intOf i).toNat);case atStart => exact ⟨0, Nat.zero_le _, rfl, Below.refl _ w, by rw [List.take_zero]; exact ⟨rfl, .inl ⟨rfl, rfl⟩⟩⟩
 case round =>
   obtain ⟨k, hk, rfl, hB0, hO0⟩ := hrel;have HB := Box.mk hB0;have HO := Box.mk hO0;clear hB0 hO0;by_cases hlt : k < n
   ·obtain ⟨b, o, rfl⟩ := h.out.at0 (by omega);have hkl : k < l.length := by rw [hl.out]; exact hlt
    have e0 : wr.cell? ⟨b, o + k, none⟩ = some (.int .u8 (l[k]'hkl).toNat) := (h.out.old HB.out).cell k hkl;obtain ⟨u, hu⟩ : ∃ u, l[k]'hkl = u := ⟨_, rfl⟩;rw [hu] at e0;have HU := Box.mk (show l.take (k + 1) = l.take k ++ [u] by rw [List.take_succ_eq_append_getElem hkl, hu]);have hlen := Box.mk (show (l.take k).length = k by rw [List.length_take]; omega);have hsz := Box.mk (HB.out.size);clear hu hkl;generalize l.take k = lk at *;go_wp2_with ((with_reducible refine Jrj Jm6 (.tmp 11) (.tmp 16) ?_ rfl w.heap.size _ lk ?_ (HO.out.alloc _) (some ⟨wr.heap.size, 0, none⟩) 1 1 [u] ?_ (by intro h; cases h) (Row.lit1 wr 5 u) (by rw [hlen.out]; omega) (by have := hsz.out; simp; omega) ?_); rfl; rfl; rfl);intro v' w' own' G;have hB' := Box.mk (Jsr (HB.out.alloc HB.out.size (.cells #[.int .u8 (u.toNat : Int)] 5)) (HO.out.alloc _) G (Nat.le_refl _));go_wp2;go_roundw;case rel => exact ⟨k + 1, by omega, by go_num, hB'.out, by rw [HU.out]; exact own'⟩
    case measure => simp [intOf]; omega
   ·obtain rfl : k = n := by omega
    have HO2 := HO.out;rw [List.take_of_length_le (by rw [hl.out]; omega)] at HO2;have HO3 := Box.mk HO2;clear HO HO2;go_wp2;go_ret;exact ⟨⟨_, rfl, HO3.out⟩, HB.out⟩
section
variable (t : TypeId) (x y : UInt32)
@[go_sem] theorem Jz2 : binOp .and t (uv x) (.int .u32 15) = pure (uv (x &&& 15)) := Jxo t x 15
@[go_sem ↓ high] theorem Jy6 : Op.unary .xor (uv x) = pure (uv (~~~ x)) := by
  show Op.intBits .xor .u32 _ (x.toNat : Int) = _
  have h := Jzw 0 0xFFFFFFFF x
  have e : (0xFFFFFFFF : UInt32) ^^^ x = ~~~ x := by
    apply UInt32.toBitVec_inj.1
    rw [UInt32.toBitVec_xor, UInt32.toBitVec_not]
    show BitVec.allOnes 32 ^^^ x.toBitVec = _
    rw [BitVec.xor_comm, BitVec.xor_allOnes]
  rw [e] at h
  rw [← h]
  rfl
end
@[go_sem] theorem bv_eql (t : TypeId) (a b : UInt8) : binOp .eql t (bv a) (bv b) = pure (.bool (decide (a = b))) := by
  show binOp .eql t (.int .u8 _) (.int .u8 _) = _
  rw [binOp_eql]
  congr 2
  rw [Bool.eq_iff_iff, beq_iff_eq, decide_eq_true_iff, Int.ofNat_inj, UInt8.toNat_inj]
@[go_sem] theorem Jy2 (op : BinOp) (t : TypeId) (x y : Operand) (a b : UInt8) : eqGuard op t x y (bv a) (bv b) = pure () := by
  unfold eqGuard bv
  split <;> rfl
theorem Row.bcell {w : World} {b o n : Nat} {l : List UInt8} (h : Row w (some ⟨b, o, none⟩) n l) (i : Nat) (hi : i < l.length) : w.cell? ⟨b, o + i, none⟩ = some (bv l[i]) := h.cell i hi
def ix (x : UInt32) : Nat := (x &&& 15).toNat
def z16 : Array Value := #[.int .u32 0, .int .u32 0, .int .u32 0, .int .u32 0, .int .u32 0, .int .u32 0, .int .u32 0, .int .u32 0, .int .u32 0, .int .u32 0, .int .u32 0, .int .u32 0, .int .u32 0, .int .u32 0, .int .u32 0, .int .u32 0]
theorem Jrn (w : World) (B : Nat) (h : w.heap[B]? = some (.cells (uvs Jn0).toArray 174 (0, 0))) (x : UInt32) : w.cell? ⟨B, ix x, none⟩ = some (uv (Jss (x &&& 15))) := by
 show w.cell? ⟨B, (x &&& 15).toNat, none⟩ = _;rw [cell_of_row w B _ _ _ _ h, ← Array.getElem?_toList];show (uvs Jn0)[_]? = _;have hl : Jn0.length = 16 := rfl;have hx := Jy7 x;rw [Jpf, List.getElem?_eq_getElem (by omega)];unfold Jss;rw [List.getD_eq_getElem?_getD, List.getElem?_eq_getElem (by omega)];rfl
theorem Jvl (r : UInt32) (ao : Option Addr) (n c : Nat) (l : List UInt8) (w : World) (h0 : Row w ao n l) (hm : n ≤ maxLen) :
    zC 125 [uv r, .slice ao n c] w fun e w' => e = .returned (uv (Jj1 r l)) ∧ Below w.heap.size w w' := by
 unfold maxLen at hm;have h := Box.mk h0;have hl := Box.mk h0.1;have hi : Box ((Tryz.prog.info? 174).map (·.size) = some (uvs Jn0).toArray.size) := ⟨by kernel_rfl⟩;have hal : Box ((uvs Jn0).toArray.all (·.oneCell') = true) := ⟨by kernel_rfl⟩;have hb : Box (Tryz.prog.built 174 [(0, .int .u32 0), (1, .int .u32 498536548), (2, .int .u32 997073096), (3, .int .u32 651767980), (4, .int .u32 1994146192), (5, .int .u32 1802195444), (6, .int .u32 1303535960), (7, .int .u32 1342533948), (8, .int .u32 3988292384), (9, .int .u32 4027552580), (10, .int .u32 3604390888), (11, .int .u32 3412177804), (12, .int .u32 2607071920), (13, .int .u32 2262029012), (14, .int .u32 2685067896), (15, .int .u32 3183342108)] = some (uvs Jn0).toArray) := ⟨by kernel_rfl⟩
 have hidx : ∀ (x : UInt32) (W : World), (Instr.indexAt 174 (.pointer (some ⟨w.heap.size, 0, none⟩)) (uv (x &&& 15))).run Tryz.prog W = .ok (.pointer (some ⟨w.heap.size, ix x, none⟩)) W := fun x W => by
   show _ = Result.ok (Value.pointer (some ⟨w.heap.size, (x &&& 15).toNat, none⟩)) W;have hx := Jy7 x;have hs : ∀ W', (sizeOf (Tryz.prog.elem 174)).run Tryz.prog W' = .ok 1 W' := fun W' => by kernel_rfl
   have hn : Tryz.prog.arrayLen 174 = 16 := by kernel_rfl
   unfold uv;rw [run_indexAt_array (P := Tryz.prog) W 174 _ .u32 _ (by kernel_rfl), hn, if_pos (by omega), hs];simp [Result.andThen, Addr.add_mid]
 clear h0;go_enter Tryz.func125, Tryz.ntmps125;go_upto_region 1 with fail;obtain ⟨st, hst⟩ : ∃ z, (uvs Jn0).toArray = z := ⟨_, rfl⟩;have HST := Box.mk hst;rw [hst] at hi hal hb;clear hst
 go_upto_region 2 with (first
   | ((with_reducible refine Jfd 174 [(0, .const (.int .u32 0)), (1, .const (.int .u32 498536548)), (2, .const (.int .u32 997073096)), (3, .const (.int .u32 651767980)), (4, .const (.int .u32 1994146192)), (5, .const (.int .u32 1802195444)), (6, .const (.int .u32 1303535960)), (7, .const (.int .u32 1342533948)), (8, .const (.int .u32 3988292384)), (9, .const (.int .u32 4027552580)), (10, .const (.int .u32 3604390888)), (11, .const (.int .u32 3412177804)), (12, .const (.int .u32 2607071920)), (13, .const (.int .u32 2262029012)), (14, .const (.int .u32 2685067896)), (15, .const (.int .u32 3183342108))] ?_ ?_ _ ?_ st hb.out ?_); rfl; rfl; rfl);| ((with_reducible refine Jhc rfl 174 (.tmp 5) (.tmp 8) ?_ w.heap.size z16 st 174 ?_ ?_ ?_ ?_ hi.out hal.out ?_); rfl; rfl; rfl; exact Jgp rfl; (rw [← HST.out]; rfl)))
 intro w1 g1 G1;have F1 := Box.mk g1.out;rw [← HST.out] at F1;have B1 := Box.mk ((Below.refl_alloc w _).grown G1 (by simp) (fun k hk => by cases hk; exact Nat.le_refl _));have hC := Jrn w1 w.heap.size F1.out;clear g1 G1 F1 HST hb hi hal;go_wp2;go_loopw [0, 11] (fun r' i wr => ∃ k : Nat, k ≤ n ∧ r' = uv (Jj1 r (l.take k)) ∧ i = zI k ∧ wr = w1) (fun _ i _ => n - (intOf i).toNat);case atStart => exact ⟨0, Nat.zero_le _, rfl, rfl, rfl⟩
 case round =>
   obtain ⟨k, hk, rfl, rfl, rfl⟩ := hrel;by_cases hlt : k < n
   ·obtain ⟨b, o, rfl⟩ := h.out.at0 (by omega);have hkl : k < l.length := by rw [hl.out]; exact hlt
    have e0 : wr.cell? ⟨b, o + k, none⟩ = some (bv (l[k]'hkl)) := (h.out.old B1.out).bcell k hkl;have HF := Box.mk (Jrq r l k hkl);generalize l[k]'hkl = u at *;generalize Jj1 r (l.take k) = q at *;clear hkl;go_wp2;go_roundw;case rel => exact ⟨k + 1, by omega, by rw [HF.out]; rfl, by go_num, trivial⟩
    case measure => simp [intOf]; omega
   ·obtain rfl : k = n := by omega
    have HF := Box.mk (show l.take k = l by rw [← hl.out, List.take_length]);clear hl h;go_wp2;go_ret;exact ⟨by rw [HF.out]; rfl, B1.out⟩
theorem Jro (r : UInt32) (ao : Option Addr) (n c : Nat) (l : List UInt8) (w : World) (h0 : Row w ao n l) (hm : n ≤ maxLen) :
    zC 124 [uv r, .slice ao n c] w fun e w' => e = .returned (uv (updL r l)) ∧ Below w.heap.size w w' := by
 have h := Box.mk h0;have hf := Box.mk (Jvl (~~~ r) ao n c l w h0 hm);clear h0;go_enter Tryz.func124, Tryz.ntmps124;go_wp2_with (go_at_call 125; refine (Ji8 hf.out).mono ?_);rintro e w1 ⟨⟨rfl, hB⟩⟩;have B := Box.mk hB;clear hB;go_wp2;go_ret;exact ⟨rfl, B.out⟩
theorem Jqx (ao : Option Addr) (n c : Nat) (l : List UInt8) (w : World) (h0 : Row w ao n l) (hm : n ≤ maxLen) :
    zC 122 [.slice ao n c] w fun e w' => e = .returned (uv (crcL l)) ∧ Below w.heap.size w w' := by
 have hf := Box.mk (show zC 124 [.int .u32 0, .slice ao n c] w fun e w' => e = .returned (uv (updL 0 l)) ∧ Below w.heap.size w w' from Jro 0 ao n c l w h0 hm);clear h0;go_enter Tryz.func122, Tryz.ntmps122;go_wp2_with (go_at_call 124; refine (Ji8 hf.out).mono ?_);rintro e w1 ⟨⟨rfl, hB⟩⟩;have B := Box.mk hB;clear hB;go_wp2;go_ret;exact ⟨rfl, B.out⟩
theorem Jqy (ao : Option Addr) (n c : Nat) (l : List UInt8) (w : World) (h0 : Row w ao n l) (hn : ao = none → n = 0 ∧ c = 0) (hm : n ≤ 140737488351232) :
    zC 115 [.slice ao n c] w fun e w' => (∃ g cap, e = .returned (zS g (n + 4) cap) ∧ Own w' w.heap.size 5 (zS g (n + 4) cap) (Jer l)) ∧ Below w.heap.size w w' := by
 have h := Box.mk h0;have hl := Box.mk h0.1;have hnil := Box.mk hn;have hf := Box.mk (Jqx ao n c l w h0 (by unfold maxLen; omega));have hadd : wrap64 ((n : Int) + 4) = ((n + 4 : Nat) : Int) := by unfold wrap64; omega
 clear h0 hn;go_enter Tryz.func115, Tryz.ntmps115;go_upto_region 2 with (go_at_call 122; refine (Ji8 hf.out).mono ?_);rintro e w1 ⟨⟨rfl, hB⟩⟩;have B1 := Box.mk hB;have R1 := Box.mk (h.out.old hB);have HE := Box.mk (show Jer l = ([] ++ l) ++ sum4 (crcL l) from rfl);clear hB hf h;generalize crcL l = s at *;go_wp2_with ((with_reducible refine Jjz Jm6 _ rfl (.const (zI 0)) (.tmp 9) ?_ w.heap.size .i64 .i64 ((n : Int) + 4) (n + 4) ?_ ?_ (by omega) (by omega) B1.out.size ?_); rfl; rfl; rfl);intro w2 own2 G2 hs2;have B2 := Box.mk (B1.out.grown G2 B1.out.size (fun k hk => by cases hk));have O2 := Box.mk own2;have R2 := Box.mk (R1.out.grownAny G2 (fun _ _ _ => by simp));have hg := Box.mk B1.out.size;clear own2 G2 B1 R1;go_wp2_with ((with_reducible refine Jfp Jm6 _ rfl (.tmp 11) (.tmp 12) ?_ w.heap.size _ 0 (n + 4) [] ?_ rfl O2.out ao n c l ?_ hnil.out R2.out (by omega) ?_); rfl; rfl; rfl);intro w3 own3 G3;have B3 := Box.mk (B2.out.grown G3 (by have := hg.out; omega) (fun k hk => by cases hk; exact hg.out));have O3 := Box.mk own3;clear own3 G3 O2 B2 R2;have hsz3 := Box.mk (show w.heap.size ≤ w3.heap.size from B3.out.size);go_wp2_with ((with_reducible refine Jfp Jm6 _ rfl (.tmp 14) (.tmp 26) ?_ w.heap.size _ n (n + 4) l ?_ hl.out (O3.out.alloc _) (some ⟨w3.heap.size, 0, none⟩) 4 4 (sum4 s) ?_ (by intro h; cases h) ?_ (by omega) ?_); rfl; rfl; rfl; exact Row.lit w3 _ 5 (sum4 s) (Jrp s));intro w4 own4 G4;have B4 := Box.mk ((B3.out.alloc B3.out.size _).grown G4 (by have := hsz3.out; simp; omega) (fun k hk => by cases hk; exact hg.out));have O4 := Box.mk own4;clear own4 G4;go_wp2;go_ret;exact ⟨⟨_, _, rfl, by rw [HE.out]; exact O4.out⟩, B4.out⟩
end Go.Proofs.YtodhlfinbbajfaaGreatDoor
