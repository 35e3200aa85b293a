/- Texts joined. -/
import Derived.Test.YtodhlfinbbajfaaGreatDoorGF03
import Derived.Test.YtodhlfinbbajfaaGreatDoorGF00
namespace Go.Proofs.YtodhlfinbbajfaaGreatDoor
open Go Go.RowKit
set_option linter.unusedVariables false
set_option linter.unusedSimpArgs false
set_option linter.unusedSectionVars false
set_option maxRecDepth 100000
set_option maxHeartbeats 40000000
theorem take1 {α : Type} {xs : List α} {i : Nat} (h : i < xs.length) : (xs.drop i).take 1 = [xs[i]] := by
 rw [List.drop_eq_getElem_cons h]; rfl
def Jed (v : Value) (l : List UInt8) : Asn := lst 5 1 v l.length (bvs l)
def Jkq (vs : List Value) (ls : List (List UInt8)) : List Asn := List.zipWith Jed vs ls
def Ja3 (vs : List Value) (ls : List (List UInt8)) : Asn := star True (Jkq vs ls)
theorem Jvb {L L' : List Asn} (h : L'.Sublist L) : (Jag L').Sublist (Jag L) := by
 induction h with
 | slnil => exact List.Sublist.refl _;| cons A _ ih => rw [Jcm]; exact List.Sublist.trans ih (List.sublist_append_right _ _);| cons_cons A _ ih => rw [Jcm, Jcm]; exact List.Sublist.append (List.Sublist.refl _) ih
theorem Mem.sub {w0 w : World} {F : List Nat} {L L' : List Asn} (h : Mem w0 F w L) (hs : L'.Sublist L) : Mem w0 F w L' := by
 have hf := Jvb hs;exact ⟨h.grew, fun A hA => h.all A (hs.subset hA), h.nodup.sublist hf, fun b hb => h.new b (hf.subset hb)⟩
theorem Jsm {vs : List Value} {ls : List (List UInt8)} (h : vs.length = ls.length) (v : Value) (l : List UInt8) : Jkq (vs ++ [v]) (ls ++ [l]) = Jkq vs ls ++ [Jed v l] := by
 unfold Jkq;rw [List.zipWith_append h]; rfl
theorem Jfl {e : TypeId} {v u : Value} {n g c i : Nat} {xs : List Value} {w : World} (h : (lst e 1 v n xs).holds w) (hv : v = .slice (some ⟨g, 0, none⟩) n c) (hi : xs[i]? = some u) : w.cell? ⟨g, i, none⟩ = some u := by
 subst hv;have hlt : i < xs.length := (List.getElem?_eq_some_iff.1 hi).1;exact Jgd h i (ys := [u]) (by rw [List.length_singleton, take1 hlt, ← (List.getElem?_eq_some_iff.1 hi).2]) 0 u rfl
section
variable {w0 w : World} {F : List Nat} {R : List Asn} {lv : Value} {vs : List Value} {ls : List (List UInt8)}
end
def uv (x : UInt32) : Value := .int .u32 (x.toNat : Int)
def uvs (l : List UInt32) : List Value := l.map uv
@[simp] theorem Jy3 (l : List UInt32) : (uvs l).length = l.length := by simp [uvs]
theorem Jpf (l : List UInt32) (i : Nat) : (uvs l)[i]? = l[i]?.map uv := by simp [uvs]
@[go_sem ↓ high] theorem Jz3 (x : UInt32) : (uv x).cells = #[uv x] := rfl
@[go_sem ↓ high] theorem Jz4 (x : UInt8) : (bv x).cells = #[bv x] := rfl
theorem Jij (n : Nat) : IntKind.u32.wrap (n : Int) = ((UInt32.ofNat n).toNat : Int) := by
 rw [UInt32.toNat_ofNat']; simp [IntKind.wrap, IntKind.signed, IntKind.bits]
theorem Jgm (x : UInt32) : BitVec.ofInt 32 (x.toNat : Int) = x.toBitVec := by
 apply BitVec.eq_of_toNat_eq; simp
theorem Jqt (x : UInt32) : UInt32.ofNat x.toNat = x := by simp
theorem Jee (n : Nat) : IntKind.u8.wrap (n : Int) = ((UInt8.ofNat n).toNat : Int) := by
 rw [UInt8.toNat_ofNat']; simp [IntKind.wrap, IntKind.signed, IntKind.bits]
section
variable (t : TypeId) (x y : UInt32)
@[go_sem] theorem uv_add : binOp .add t (uv x) (uv y) = pure (uv (x + y)) := by
  show binOp .add t (.int .u32 _) (.int .u32 _) = _
  rw [binOp_add]
  simp only [Op.intArith, uv]
  rw [← Int.natCast_add, Jij]
  simp
@[go_sem] theorem Jzw : binOp .xor t (uv x) (uv y) = pure (uv (x ^^^ y)) := by
  show binOp .xor t (.int .u32 _) (.int .u32 _) = _
  rw [binOp_xor]
  show pure (Value.int .u32 (IntKind.u32.wrap ((BitVec.ofInt 32 (x.toNat : Int) ^^^ BitVec.ofInt 32 (y.toNat : Int)).toNat : Int))) = _
  rw [Jij, Jgm, Jgm]
  show pure (uv (UInt32.ofNat (x ^^^ y).toNat)) = _
  rw [Jqt]
@[go_sem] theorem Jxo : binOp .and t (uv x) (uv y) = pure (uv (x &&& y)) := by
  show binOp .and t (.int .u32 _) (.int .u32 _) = _
  rw [binOp_and]
  show pure (Value.int .u32 (IntKind.u32.wrap ((BitVec.ofInt 32 (x.toNat : Int) &&& BitVec.ofInt 32 (y.toNat : Int)).toNat : Int))) = _
  rw [Jij, Jgm, Jgm]
  show pure (uv (UInt32.ofNat (x &&& y).toNat)) = _
  rw [Jqt]
@[go_sem] theorem uv_or : binOp .or t (uv x) (uv y) = pure (uv (x ||| y)) := by
  show binOp .or t (.int .u32 _) (.int .u32 _) = _
  rw [binOp_or]
  show pure (Value.int .u32 (IntKind.u32.wrap ((BitVec.ofInt 32 (x.toNat : Int) ||| BitVec.ofInt 32 (y.toNat : Int)).toNat : Int))) = _
  rw [Jij, Jgm, Jgm]
  show pure (uv (UInt32.ofNat (x ||| y).toNat)) = _
  rw [Jqt]
theorem Jzx (yk : IntKind) (n : Nat) (hn : n < 32) : binOp .shl t (uv x) (.int yk (n : Int)) = pure (uv (x <<< UInt32.ofNat n)) := by
 show Op.shift .shl .u32 (x.toNat : Int) yk (n : Int) = _;unfold Op.shift;rw [if_neg (by omega)];have hm : min ((n : Int).toNat) IntKind.u32.bits = n := by simp [IntKind.bits]; omega
 simp only [hm];have : (x.toNat : Int) * 2 ^ n = ((x.toNat * 2 ^ n : Nat) : Int) := by simp
 rw [this, Jij];show pure (uv _) = _;congr 2;apply UInt32.toNat_inj.1;rw [UInt32.toNat_shiftLeft, UInt32.toNat_ofNat', UInt32.toNat_ofNat', Nat.shiftLeft_eq, Nat.mod_eq_of_lt (show n < 2 ^ 32 by omega), Nat.mod_eq_of_lt hn]
theorem Jpg (yk : IntKind) (n : Nat) (hn : n < 32) : binOp .shr t (uv x) (.int yk (n : Int)) = pure (uv (x >>> UInt32.ofNat n)) := by
 show Op.shift .shr .u32 (x.toNat : Int) yk (n : Int) = _;unfold Op.shift;rw [if_neg (by omega)];have hm : min ((n : Int).toNat) IntKind.u32.bits = n := by simp [IntKind.bits]; omega
 simp only [hm]
 have : (x.toNat : Int).fdiv (2 ^ n) = ((x.toNat / 2 ^ n : Nat) : Int) := by
   rw [Int.fdiv_eq_ediv_of_nonneg _ (by exact_mod_cast Nat.zero_le _)]; simp
 rw [this];show pure (Value.int .u32 _) = pure (Value.int .u32 _);congr 3;rw [UInt32.toNat_shiftRight, UInt32.toNat_ofNat', Nat.shiftRight_eq_div_pow, Nat.mod_eq_of_lt (show n < 2 ^ 32 by omega), Nat.mod_eq_of_lt hn]
@[go_sem] theorem Jz5 (yk : IntKind) : binOp .shr t (uv x) (.int yk 4) = pure (uv (x >>> 4)) := Jpg t x yk 4 (by decide)
@[go_sem] theorem Jz6 (yk : IntKind) : binOp .shr t (uv x) (.int yk 8) = pure (uv (x >>> 8)) := Jpg t x yk 8 (by decide)
@[go_sem] theorem Jzy (yk : IntKind) : binOp .shr t (uv x) (.int yk 16) = pure (uv (x >>> 16)) := Jpg t x yk 16 (by decide)
@[go_sem] theorem Jzz (yk : IntKind) : binOp .shr t (uv x) (.int yk 24) = pure (uv (x >>> 24)) := Jpg t x yk 24 (by decide)
end
section
variable {P : Program} (w : World) (src dst : TypeId)
@[go_sem high] theorem Jsn (b : UInt8) (hs : (P.underlying src).isSome = true) (hd : P.underlying dst = some (.int .u32)) : (convert src dst (bv b)).run P w = .ok (uv b.toUInt32) w := by
  obtain ⟨d, hd'⟩ := Option.isSome_iff_exists.1 hs
  simp only [convert, bv, Sem.run_bind, run_underlying hd', run_underlying hd, Result.andThen_ok]
  show Result.ok (Value.int .u32 (IntKind.u32.wrap (b.toNat : Int))) w = _
  rw [Jij]
  unfold uv
  congr 4
  apply UInt32.toNat_inj.1
  rw [UInt32.toNat_ofNat', UInt8.toNat_toUInt32]
  have := b.toNat_lt
  omega
@[go_sem high] theorem Jso (x : UInt32) (hs : (P.underlying src).isSome = true) (hd : P.underlying dst = some (.int .u8)) : (convert src dst (uv x)).run P w = .ok (bv x.toUInt8) w := by
  obtain ⟨d, hd'⟩ := Option.isSome_iff_exists.1 hs
  simp only [convert, uv, Sem.run_bind, run_underlying hd', run_underlying hd, Result.andThen_ok]
  show Result.ok (Value.int .u8 (IntKind.u8.wrap (x.toNat : Int))) w = _
  rw [Jee]
  unfold bv
  congr 4
end
def Jn0 : List UInt32 := [0x00000000, 0x1DB71064, 0x3B6E20C8, 0x26D930AC, 0x76DC4190, 0x6B6B51F4, 0x4DB26158, 0x5005713C, 0xEDB88320, 0xF00F9344, 0xD6D6A3E8, 0xCB61B38C, 0x9B64C2B0, 0x86D3D2D4, 0xA00AE278, 0xBDBDF21C]
def Jss (i : UInt32) : UInt32 := Jn0.getD i.toNat 0
def Jvm (r : UInt32) : UInt32 := Jss (r &&& 15) ^^^ (r >>> 4)
def Jst (r : UInt32) (x : UInt8) : UInt32 := Jvm (Jvm (r ^^^ x.toUInt32))
def Jj1 (r : UInt32) (l : List UInt8) : UInt32 := l.foldl Jst r
def updL (c : UInt32) (l : List UInt8) : UInt32 := ~~~ (Jj1 (~~~ c) l)
def crcL (l : List UInt8) : UInt32 := updL 0 l
def sum4 (s : UInt32) : List UInt8 := [s.toUInt8, (s >>> 8).toUInt8, (s >>> 16).toUInt8, (s >>> 24).toUInt8]
def Jer (l : List UInt8) : List UInt8 := l ++ sum4 (crcL l)
def Jb9 (l : List UInt8) : Bool := decide (4 ≤ l.length ∧ l.drop (l.length - 4) = sum4 (crcL (l.take (l.length - 4))))
theorem Ja6 (l : List UInt8) : (Jer l).length = l.length + 4 := by simp [Jer, sum4]
theorem Jrp (s : UInt32) : [bv s.toUInt8, bv (s >>> 8).toUInt8, bv (s >>> 16).toUInt8, bv (s >>> 24).toUInt8] = bvs (sum4 s) := rfl
theorem Jrq (r : UInt32) (l : List UInt8) (k : Nat) (h : k < l.length) : Jj1 r (l.take (k + 1)) = Jst (Jj1 r (l.take k)) l[k] := by
 unfold Jj1;rw [List.take_succ_eq_append_getElem h, List.foldl_append]; rfl
theorem Jy7 (r : UInt32) : (r &&& 15).toNat < 16 := by
 rw [UInt32.toNat_and];have h := @Nat.and_two_pow_sub_one_eq_mod r.toNat 4;have e : UInt32.toNat 15 = 2 ^ 4 - 1 := rfl;rw [e, h];exact Nat.mod_lt _ (by decide)
def Jk5 (b : UInt32) : UInt32 := if b = 1 then 0xEDB88320 else 0
def Jik (r : UInt32) : UInt32 := (r >>> 1) ^^^ Jk5 (r &&& 1)
def stp : Nat → UInt32 → UInt32
  | 0, r => r
  | n + 1, r => stp n (Jik r)
theorem Jsu (m : Nat) : ∀ (n : Nat) (r : UInt32), stp (n + m) r = stp m (stp n r)
  | 0, r => by rw [Nat.zero_add]; rfl
  | n + 1, r => by rw [show n + 1 + m = (n + m) + 1 by omega]; exact Jsu m n (Jik r)
theorem Jhf (a : UInt32) : a &&& 1 = 0 ∨ a &&& 1 = 1 := by
 have h : (a &&& 1).toNat = a.toNat % 2 := by rw [UInt32.toNat_and]; exact Nat.and_one_is_mod _
 rcases Nat.mod_two_eq_zero_or_one a.toNat with h0 | h0
 ·left; apply UInt32.toNat_inj.1; rw [h, h0]; rfl
 ·right; apply UInt32.toNat_inj.1; rw [h, h0]; rfl
theorem Jpn (a b c : UInt32) : (a ^^^ b) &&& c = (a &&& c) ^^^ (b &&& c) := by
 apply UInt32.toNat_inj.1;rw [UInt32.toNat_and, UInt32.toNat_xor, UInt32.toNat_xor, UInt32.toNat_and, UInt32.toNat_and];apply Nat.eq_of_testBit_eq;intro i;simp only [Nat.testBit_and, Nat.testBit_xor];cases a.toNat.testBit i <;> cases b.toNat.testBit i <;> cases c.toNat.testBit i <;> rfl
theorem xor4 (a b c d : UInt32) : (a ^^^ b) ^^^ (c ^^^ d) = (a ^^^ c) ^^^ (b ^^^ d) := by
 rw [UInt32.xor_assoc, UInt32.xor_assoc, ← UInt32.xor_assoc b c d, ← UInt32.xor_assoc c b d, UInt32.xor_comm b c]
theorem Jk6 (a b : UInt32) : Jik (a ^^^ b) = Jik a ^^^ Jik b := by
 unfold Jik;rw [UInt32.shiftRight_xor, Jpn, xor4];congr 1;rcases Jhf a with h | h <;> rcases Jhf b with h' | h' <;> rw [h, h'] <;> decide
theorem Jsv : ∀ (n : Nat) (a b : UInt32), stp n (a ^^^ b) = stp n a ^^^ stp n b
  | 0, _, _ => rfl
  | n + 1, a, b => by show stp n (Jik (a ^^^ b)) = _; rw [Jk6]; exact Jsv n _ _
theorem Jn1 : ∀ (n : Nat) (r : UInt32), r.toNat % 2 ^ n = 0 → (stp n r).toNat = r.toNat / 2 ^ n
  | 0, r, _ => by show r.toNat = r.toNat / 1; omega
  | n + 1, r, h => by
    have hp : 0 < 2 ^ n := Nat.pow_pos (by decide)
    rw [Nat.pow_succ] at h ⊢
    have h2 : r.toNat % 2 = 0 := by
      have : 2 ∣ r.toNat := Nat.dvd_trans (Nat.dvd_mul_left 2 (2 ^ n)) (Nat.dvd_of_mod_eq_zero h)
      omega
    have hs : (r >>> 1).toNat = r.toNat / 2 := by rw [UInt32.toNat_shiftRight]; exact Nat.shiftRight_eq_div_pow _ _
    have hb : (r &&& 1).toNat = r.toNat % 2 := by rw [UInt32.toNat_and]; exact Nat.and_one_is_mod _
    have h0 : r &&& 1 = 0 := by apply UInt32.toNat_inj.1; rw [hb, h2]; rfl
    have e : Jik r = r >>> 1 := by unfold Jik; rw [h0, show Jk5 0 = 0 by decide, UInt32.xor_zero]
    show (stp n (Jik r)).toNat = _
    rw [e]
    have hd : r.toNat / 2 % 2 ^ n = 0 := by
      obtain ⟨q, hq⟩ := Nat.dvd_of_mod_eq_zero h
      rw [hq, show 2 ^ n * 2 * q = 2 * (2 ^ n * q) by rw [Nat.mul_comm (2 ^ n) 2, Nat.mul_assoc], Nat.mul_div_cancel_left _ (by decide)]
      exact Nat.mul_mod_right _ _
    rw [Jn1 n (r >>> 1) (by rw [hs]; exact hd), hs, Nat.div_div_eq_div_mul, Nat.mul_comm 2]
theorem Jsw : ∀ i : Fin 16, Jss (UInt32.ofNat i.val) = stp 4 (UInt32.ofNat i.val) := by decide
theorem Jn2 (r : UInt32) : Jvm r = stp 4 r := by
 have hb : (r &&& 15).toNat = r.toNat % 16 := by rw [UInt32.toNat_and]; exact Nat.and_two_pow_sub_one_eq_mod r.toNat 4
 have hs : (r >>> 4).toNat = r.toNat / 16 := by rw [UInt32.toNat_shiftRight]; exact Nat.shiftRight_eq_div_pow _ _
 have hr := r.toNat_lt
 have hh : ((r >>> 4) <<< 4).toNat = r.toNat / 16 * 16 := by
   rw [UInt32.toNat_shiftLeft, hs];show (r.toNat / 16) <<< 4 % 2 ^ 32 = _;rw [Nat.shiftLeft_eq, Nat.mod_eq_of_lt (by show r.toNat / 16 * 16 < 4294967296; omega)]
 have hx : (r &&& (15 : UInt32)) ^^^ ((r >>> (4 : UInt32)) <<< (4 : UInt32)) = r := by
   apply UInt32.toNat_inj.1;rw [UInt32.toNat_xor, hb, hh];apply Nat.eq_of_testBit_eq;intro i;rw [Nat.testBit_xor, show (16 : Nat) = 2 ^ 4 from rfl, Nat.testBit_mod_two_pow, Nat.mul_comm, Nat.testBit_two_pow_mul, Nat.testBit_div_two_pow];rcases Nat.lt_or_ge i 4 with h | h
   ·rw [decide_eq_true h, decide_eq_false (by omega : ¬ i ≥ 4)]; simp
   ·rw [decide_eq_false (by omega : ¬ i < 4), decide_eq_true h, show i - 4 + 4 = i by omega]; simp
 have h1 : Jss (r &&& 15) = stp 4 (r &&& 15) := by
   have := Jsw ⟨(r &&& 15).toNat, by rw [hb]; omega⟩;rwa [show UInt32.ofNat (⟨(r &&& 15).toNat, by rw [hb]; omega⟩ : Fin 16).val = r &&& 15 from UInt32.ofNat_toNat] at this
 have h2 : r >>> 4 = stp 4 ((r >>> 4) <<< 4) := by
   apply UInt32.toNat_inj.1;rw [Jn1 4 _ (by rw [hh]; omega), hh, hs];omega
 unfold Jvm;rw [h1];conv => lhs; rw [h2]
 rw [← Jsv, hx]
theorem Jsx (r : UInt32) (x : UInt8) : Jst r x = stp 8 (r ^^^ x.toUInt32) := by
 unfold Jst;rw [Jn2, Jn2, ← Jsu 4 4]
theorem Jpo (x : UInt32) : Jik x = Jik (x &&& 1) ^^^ (x >>> 1) := by
 unfold Jik;rcases Jhf x with h | h
 ·rw [h, show ((0 : UInt32) >>> 1) ^^^ Jk5 (0 &&& 1) = 0 by decide, show Jk5 0 = 0 by decide, UInt32.xor_zero, UInt32.zero_xor]
 ·rw [h, show ((1 : UInt32) >>> 1) ^^^ Jk5 (1 &&& 1) = Jk5 1 by decide, UInt32.xor_comm]
end Go.Proofs.YtodhlfinbbajfaaGreatDoor
