/- Texts joined: Sep2, RowsL, Sha, CrcP. -/
import Derived.Test.YtopdhanbmnfeeaaDoorIR03
import Derived.Test.YtopdhanbmnfeeaaDoorIR01
import Derived.Test.YtopdhanbmnfeeaaDoorIR00
/- More moves over memory: a list's block as cells, two assertions at once; bytes of rows. No program in sight. -/
namespace Go.Proofs.YtopdhanbmnfeeaaDoor
set_option linter.unusedSectionVars false
open Go Go.RowKit
set_option linter.unusedVariables false
set_option linter.unusedSimpArgs false
section
variable {w0 w w' : World} {F : List Nat} {L R : List Asn}
end
end Go.Proofs.YtopdhanbmnfeeaaDoor

/- Lists of lists of bytes as assertions. No program in sight. -/
namespace Go.Proofs.YtopdhanbmnfeeaaDoor
set_option linter.unusedSimpArgs false
open Go Go.RowKit
set_option linter.unusedVariables false
set_option linter.unusedSectionVars false
def bytesL (v : Value) (l : List UInt8) : Asn := lst 5 1 v l.length (bvs l)
theorem foots_sub {L L' : List Asn} (h : L'.Sublist L) : (foots L').Sublist (foots L) := by
  induction h with
  | slnil => exact List.Sublist.refl _
  | cons A _ ih => rw [foots_cons]; exact List.Sublist.trans ih (List.sublist_append_right _ _)
  | cons_cons A _ ih => rw [foots_cons, foots_cons]; exact List.Sublist.append (List.Sublist.refl _) ih
theorem Mem.sub {w0 w : World} {F : List Nat} {L L' : List Asn} (h : Mem w0 F w L) (hs : L'.Sublist L) : Mem w0 F w L' := by
  have hf := foots_sub hs
  exact ⟨h.grew, fun A hA => h.all A (hs.subset hA), h.nodup.sublist hf, fun b hb => h.new b (hf.subset hb)⟩
section
variable {w0 w : World} {F : List Nat} {R : List Asn} {lv : Value} {vs : List Value} {ls : List (List UInt8)}
end
theorem bytesL_row {ao : Option Addr} {n c : Nat} {l : List UInt8} {w : World} (h : (bytesL (.slice ao n c) l).holds w) : Row w ao l.length l := by
  rcases lst_at h with ⟨e1, e2, e3⟩ | ⟨g2, c2, e1, e2, e3⟩
  · cases e1
    rw [List.eq_nil_of_length_eq_zero e2]; exact Row.nil
  · cases e1
    exact lst_row h
end Go.Proofs.YtopdhanbmnfeeaaDoor

/- SHA-256 as this program reckons it, in plain Lean; words as values of the model. -/
namespace Go.Proofs.YtopdhanbmnfeeaaDoor
set_option linter.unusedSectionVars false
set_option linter.unusedSimpArgs false
set_option linter.unusedVariables false
open Go Go.RowKit
def uv (x : UInt32) : Value := .int .u32 (x.toNat : Int)
def uvs (l : List UInt32) : List Value := l.map uv
@[simp] theorem length_uvs (l : List UInt32) : (uvs l).length = l.length := by simp [uvs]
theorem uvs_getElem? (l : List UInt32) (i : Nat) : (uvs l)[i]? = l[i]?.map uv := by simp [uvs]
@[go_sem ↓ high] theorem uv_cells (x : UInt32) : (uv x).cells = #[uv x] := rfl
@[go_sem ↓ high] theorem bv_cells (x : UInt8) : (bv x).cells = #[bv x] := rfl
theorem wrap_u32 (n : Nat) : IntKind.u32.wrap (n : Int) = ((UInt32.ofNat n).toNat : Int) := by
  rw [UInt32.toNat_ofNat']; simp [IntKind.wrap, IntKind.signed, IntKind.bits]
theorem bitvec_uv (x : UInt32) : BitVec.ofInt 32 (x.toNat : Int) = x.toBitVec := by
  apply BitVec.eq_of_toNat_eq; simp
theorem uv_back (x : UInt32) : UInt32.ofNat x.toNat = x := by simp
theorem wrap_u8 (n : Nat) : IntKind.u8.wrap (n : Int) = ((UInt8.ofNat n).toNat : Int) := by
  rw [UInt8.toNat_ofNat']; simp [IntKind.wrap, IntKind.signed, IntKind.bits]
section
variable (t : TypeId) (x y : UInt32)
@[go_sem] theorem uv_add : binOp .add t (uv x) (uv y) = pure (uv (x + y)) := by
  show binOp .add t (.int .u32 _) (.int .u32 _) = _
  rw [binOp_add]
  simp only [Op.intArith, uv]
  rw [← Int.natCast_add, wrap_u32]
  simp
@[go_sem] theorem uv_xor : binOp .xor t (uv x) (uv y) = pure (uv (x ^^^ y)) := by
  show binOp .xor t (.int .u32 _) (.int .u32 _) = _
  rw [binOp_xor]
  show pure (Value.int .u32 (IntKind.u32.wrap ((BitVec.ofInt 32 (x.toNat : Int) ^^^ BitVec.ofInt 32 (y.toNat : Int)).toNat : Int))) = _
  rw [wrap_u32, bitvec_uv, bitvec_uv]
  show pure (uv (UInt32.ofNat (x ^^^ y).toNat)) = _
  rw [uv_back]
@[go_sem] theorem uv_and : binOp .and t (uv x) (uv y) = pure (uv (x &&& y)) := by
  show binOp .and t (.int .u32 _) (.int .u32 _) = _
  rw [binOp_and]
  show pure (Value.int .u32 (IntKind.u32.wrap ((BitVec.ofInt 32 (x.toNat : Int) &&& BitVec.ofInt 32 (y.toNat : Int)).toNat : Int))) = _
  rw [wrap_u32, bitvec_uv, bitvec_uv]
  show pure (uv (UInt32.ofNat (x &&& y).toNat)) = _
  rw [uv_back]
@[go_sem] theorem uv_or : binOp .or t (uv x) (uv y) = pure (uv (x ||| y)) := by
  show binOp .or t (.int .u32 _) (.int .u32 _) = _
  rw [binOp_or]
  show pure (Value.int .u32 (IntKind.u32.wrap ((BitVec.ofInt 32 (x.toNat : Int) ||| BitVec.ofInt 32 (y.toNat : Int)).toNat : Int))) = _
  rw [wrap_u32, bitvec_uv, bitvec_uv]
  show pure (uv (UInt32.ofNat (x ||| y).toNat)) = _
  rw [uv_back]
theorem uv_shl (yk : IntKind) (n : Nat) (hn : n < 32) : binOp .shl t (uv x) (.int yk (n : Int)) = pure (uv (x <<< UInt32.ofNat n)) := by
  show Op.shift .shl .u32 (x.toNat : Int) yk (n : Int) = _
  unfold Op.shift
  rw [if_neg (by omega)]
  have hm : min ((n : Int).toNat) IntKind.u32.bits = n := by simp [IntKind.bits]; omega
  simp only [hm]
  have : (x.toNat : Int) * 2 ^ n = ((x.toNat * 2 ^ n : Nat) : Int) := by simp
  rw [this, wrap_u32]
  show pure (uv _) = _
  congr 2
  apply UInt32.toNat_inj.1
  rw [UInt32.toNat_shiftLeft, UInt32.toNat_ofNat', UInt32.toNat_ofNat', Nat.shiftLeft_eq, Nat.mod_eq_of_lt (show n < 2 ^ 32 by omega), Nat.mod_eq_of_lt hn]
theorem uv_shr (yk : IntKind) (n : Nat) (hn : n < 32) : binOp .shr t (uv x) (.int yk (n : Int)) = pure (uv (x >>> UInt32.ofNat n)) := by
  show Op.shift .shr .u32 (x.toNat : Int) yk (n : Int) = _
  unfold Op.shift
  rw [if_neg (by omega)]
  have hm : min ((n : Int).toNat) IntKind.u32.bits = n := by simp [IntKind.bits]; omega
  simp only [hm]
  have : (x.toNat : Int).fdiv (2 ^ n) = ((x.toNat / 2 ^ n : Nat) : Int) := by
    rw [Int.fdiv_eq_ediv_of_nonneg _ (by exact_mod_cast Nat.zero_le _)]; simp
  rw [this]
  show pure (Value.int .u32 _) = pure (Value.int .u32 _)
  congr 3
  rw [UInt32.toNat_shiftRight, UInt32.toNat_ofNat', Nat.shiftRight_eq_div_pow, Nat.mod_eq_of_lt (show n < 2 ^ 32 by omega), Nat.mod_eq_of_lt hn]
@[go_sem] theorem uv_shl_1 (yk : IntKind) : binOp .shl t (uv x) (.int yk 1) = pure (uv (x <<< 1)) := uv_shl t x yk 1 (by decide)
@[go_sem] theorem uv_shr_1 (yk : IntKind) : binOp .shr t (uv x) (.int yk 1) = pure (uv (x >>> 1)) := uv_shr t x yk 1 (by decide)
@[go_sem] theorem uv_shl_2 (yk : IntKind) : binOp .shl t (uv x) (.int yk 2) = pure (uv (x <<< 2)) := uv_shl t x yk 2 (by decide)
@[go_sem] theorem uv_shr_2 (yk : IntKind) : binOp .shr t (uv x) (.int yk 2) = pure (uv (x >>> 2)) := uv_shr t x yk 2 (by decide)
@[go_sem] theorem uv_shl_3 (yk : IntKind) : binOp .shl t (uv x) (.int yk 3) = pure (uv (x <<< 3)) := uv_shl t x yk 3 (by decide)
@[go_sem] theorem uv_shr_3 (yk : IntKind) : binOp .shr t (uv x) (.int yk 3) = pure (uv (x >>> 3)) := uv_shr t x yk 3 (by decide)
@[go_sem] theorem uv_shl_4 (yk : IntKind) : binOp .shl t (uv x) (.int yk 4) = pure (uv (x <<< 4)) := uv_shl t x yk 4 (by decide)
@[go_sem] theorem uv_shr_4 (yk : IntKind) : binOp .shr t (uv x) (.int yk 4) = pure (uv (x >>> 4)) := uv_shr t x yk 4 (by decide)
@[go_sem] theorem uv_shl_5 (yk : IntKind) : binOp .shl t (uv x) (.int yk 5) = pure (uv (x <<< 5)) := uv_shl t x yk 5 (by decide)
@[go_sem] theorem uv_shr_5 (yk : IntKind) : binOp .shr t (uv x) (.int yk 5) = pure (uv (x >>> 5)) := uv_shr t x yk 5 (by decide)
@[go_sem] theorem uv_shl_6 (yk : IntKind) : binOp .shl t (uv x) (.int yk 6) = pure (uv (x <<< 6)) := uv_shl t x yk 6 (by decide)
@[go_sem] theorem uv_shr_6 (yk : IntKind) : binOp .shr t (uv x) (.int yk 6) = pure (uv (x >>> 6)) := uv_shr t x yk 6 (by decide)
@[go_sem] theorem uv_shl_7 (yk : IntKind) : binOp .shl t (uv x) (.int yk 7) = pure (uv (x <<< 7)) := uv_shl t x yk 7 (by decide)
@[go_sem] theorem uv_shr_7 (yk : IntKind) : binOp .shr t (uv x) (.int yk 7) = pure (uv (x >>> 7)) := uv_shr t x yk 7 (by decide)
@[go_sem] theorem uv_shl_8 (yk : IntKind) : binOp .shl t (uv x) (.int yk 8) = pure (uv (x <<< 8)) := uv_shl t x yk 8 (by decide)
@[go_sem] theorem uv_shr_8 (yk : IntKind) : binOp .shr t (uv x) (.int yk 8) = pure (uv (x >>> 8)) := uv_shr t x yk 8 (by decide)
@[go_sem] theorem uv_shl_9 (yk : IntKind) : binOp .shl t (uv x) (.int yk 9) = pure (uv (x <<< 9)) := uv_shl t x yk 9 (by decide)
@[go_sem] theorem uv_shr_9 (yk : IntKind) : binOp .shr t (uv x) (.int yk 9) = pure (uv (x >>> 9)) := uv_shr t x yk 9 (by decide)
@[go_sem] theorem uv_shl_10 (yk : IntKind) : binOp .shl t (uv x) (.int yk 10) = pure (uv (x <<< 10)) := uv_shl t x yk 10 (by decide)
@[go_sem] theorem uv_shr_10 (yk : IntKind) : binOp .shr t (uv x) (.int yk 10) = pure (uv (x >>> 10)) := uv_shr t x yk 10 (by decide)
@[go_sem] theorem uv_shl_11 (yk : IntKind) : binOp .shl t (uv x) (.int yk 11) = pure (uv (x <<< 11)) := uv_shl t x yk 11 (by decide)
@[go_sem] theorem uv_shr_11 (yk : IntKind) : binOp .shr t (uv x) (.int yk 11) = pure (uv (x >>> 11)) := uv_shr t x yk 11 (by decide)
@[go_sem] theorem uv_shl_12 (yk : IntKind) : binOp .shl t (uv x) (.int yk 12) = pure (uv (x <<< 12)) := uv_shl t x yk 12 (by decide)
@[go_sem] theorem uv_shr_12 (yk : IntKind) : binOp .shr t (uv x) (.int yk 12) = pure (uv (x >>> 12)) := uv_shr t x yk 12 (by decide)
@[go_sem] theorem uv_shl_13 (yk : IntKind) : binOp .shl t (uv x) (.int yk 13) = pure (uv (x <<< 13)) := uv_shl t x yk 13 (by decide)
@[go_sem] theorem uv_shr_13 (yk : IntKind) : binOp .shr t (uv x) (.int yk 13) = pure (uv (x >>> 13)) := uv_shr t x yk 13 (by decide)
@[go_sem] theorem uv_shl_14 (yk : IntKind) : binOp .shl t (uv x) (.int yk 14) = pure (uv (x <<< 14)) := uv_shl t x yk 14 (by decide)
@[go_sem] theorem uv_shr_14 (yk : IntKind) : binOp .shr t (uv x) (.int yk 14) = pure (uv (x >>> 14)) := uv_shr t x yk 14 (by decide)
@[go_sem] theorem uv_shl_15 (yk : IntKind) : binOp .shl t (uv x) (.int yk 15) = pure (uv (x <<< 15)) := uv_shl t x yk 15 (by decide)
@[go_sem] theorem uv_shr_15 (yk : IntKind) : binOp .shr t (uv x) (.int yk 15) = pure (uv (x >>> 15)) := uv_shr t x yk 15 (by decide)
@[go_sem] theorem uv_shl_16 (yk : IntKind) : binOp .shl t (uv x) (.int yk 16) = pure (uv (x <<< 16)) := uv_shl t x yk 16 (by decide)
@[go_sem] theorem uv_shr_16 (yk : IntKind) : binOp .shr t (uv x) (.int yk 16) = pure (uv (x >>> 16)) := uv_shr t x yk 16 (by decide)
@[go_sem] theorem uv_shl_17 (yk : IntKind) : binOp .shl t (uv x) (.int yk 17) = pure (uv (x <<< 17)) := uv_shl t x yk 17 (by decide)
@[go_sem] theorem uv_shr_17 (yk : IntKind) : binOp .shr t (uv x) (.int yk 17) = pure (uv (x >>> 17)) := uv_shr t x yk 17 (by decide)
@[go_sem] theorem uv_shl_18 (yk : IntKind) : binOp .shl t (uv x) (.int yk 18) = pure (uv (x <<< 18)) := uv_shl t x yk 18 (by decide)
@[go_sem] theorem uv_shr_18 (yk : IntKind) : binOp .shr t (uv x) (.int yk 18) = pure (uv (x >>> 18)) := uv_shr t x yk 18 (by decide)
@[go_sem] theorem uv_shl_19 (yk : IntKind) : binOp .shl t (uv x) (.int yk 19) = pure (uv (x <<< 19)) := uv_shl t x yk 19 (by decide)
@[go_sem] theorem uv_shr_19 (yk : IntKind) : binOp .shr t (uv x) (.int yk 19) = pure (uv (x >>> 19)) := uv_shr t x yk 19 (by decide)
@[go_sem] theorem uv_shl_20 (yk : IntKind) : binOp .shl t (uv x) (.int yk 20) = pure (uv (x <<< 20)) := uv_shl t x yk 20 (by decide)
@[go_sem] theorem uv_shr_20 (yk : IntKind) : binOp .shr t (uv x) (.int yk 20) = pure (uv (x >>> 20)) := uv_shr t x yk 20 (by decide)
@[go_sem] theorem uv_shl_21 (yk : IntKind) : binOp .shl t (uv x) (.int yk 21) = pure (uv (x <<< 21)) := uv_shl t x yk 21 (by decide)
@[go_sem] theorem uv_shr_21 (yk : IntKind) : binOp .shr t (uv x) (.int yk 21) = pure (uv (x >>> 21)) := uv_shr t x yk 21 (by decide)
@[go_sem] theorem uv_shl_22 (yk : IntKind) : binOp .shl t (uv x) (.int yk 22) = pure (uv (x <<< 22)) := uv_shl t x yk 22 (by decide)
@[go_sem] theorem uv_shr_22 (yk : IntKind) : binOp .shr t (uv x) (.int yk 22) = pure (uv (x >>> 22)) := uv_shr t x yk 22 (by decide)
@[go_sem] theorem uv_shl_23 (yk : IntKind) : binOp .shl t (uv x) (.int yk 23) = pure (uv (x <<< 23)) := uv_shl t x yk 23 (by decide)
@[go_sem] theorem uv_shr_23 (yk : IntKind) : binOp .shr t (uv x) (.int yk 23) = pure (uv (x >>> 23)) := uv_shr t x yk 23 (by decide)
@[go_sem] theorem uv_shl_24 (yk : IntKind) : binOp .shl t (uv x) (.int yk 24) = pure (uv (x <<< 24)) := uv_shl t x yk 24 (by decide)
@[go_sem] theorem uv_shr_24 (yk : IntKind) : binOp .shr t (uv x) (.int yk 24) = pure (uv (x >>> 24)) := uv_shr t x yk 24 (by decide)
@[go_sem] theorem uv_shl_25 (yk : IntKind) : binOp .shl t (uv x) (.int yk 25) = pure (uv (x <<< 25)) := uv_shl t x yk 25 (by decide)
@[go_sem] theorem uv_shr_25 (yk : IntKind) : binOp .shr t (uv x) (.int yk 25) = pure (uv (x >>> 25)) := uv_shr t x yk 25 (by decide)
@[go_sem] theorem uv_shl_26 (yk : IntKind) : binOp .shl t (uv x) (.int yk 26) = pure (uv (x <<< 26)) := uv_shl t x yk 26 (by decide)
@[go_sem] theorem uv_shr_26 (yk : IntKind) : binOp .shr t (uv x) (.int yk 26) = pure (uv (x >>> 26)) := uv_shr t x yk 26 (by decide)
@[go_sem] theorem uv_shl_27 (yk : IntKind) : binOp .shl t (uv x) (.int yk 27) = pure (uv (x <<< 27)) := uv_shl t x yk 27 (by decide)
@[go_sem] theorem uv_shr_27 (yk : IntKind) : binOp .shr t (uv x) (.int yk 27) = pure (uv (x >>> 27)) := uv_shr t x yk 27 (by decide)
@[go_sem] theorem uv_shl_28 (yk : IntKind) : binOp .shl t (uv x) (.int yk 28) = pure (uv (x <<< 28)) := uv_shl t x yk 28 (by decide)
@[go_sem] theorem uv_shr_28 (yk : IntKind) : binOp .shr t (uv x) (.int yk 28) = pure (uv (x >>> 28)) := uv_shr t x yk 28 (by decide)
@[go_sem] theorem uv_shl_29 (yk : IntKind) : binOp .shl t (uv x) (.int yk 29) = pure (uv (x <<< 29)) := uv_shl t x yk 29 (by decide)
@[go_sem] theorem uv_shr_29 (yk : IntKind) : binOp .shr t (uv x) (.int yk 29) = pure (uv (x >>> 29)) := uv_shr t x yk 29 (by decide)
@[go_sem] theorem uv_shl_30 (yk : IntKind) : binOp .shl t (uv x) (.int yk 30) = pure (uv (x <<< 30)) := uv_shl t x yk 30 (by decide)
@[go_sem] theorem uv_shr_30 (yk : IntKind) : binOp .shr t (uv x) (.int yk 30) = pure (uv (x >>> 30)) := uv_shr t x yk 30 (by decide)
@[go_sem] theorem uv_shl_31 (yk : IntKind) : binOp .shl t (uv x) (.int yk 31) = pure (uv (x <<< 31)) := uv_shl t x yk 31 (by decide)
@[go_sem] theorem uv_shr_31 (yk : IntKind) : binOp .shr t (uv x) (.int yk 31) = pure (uv (x >>> 31)) := uv_shr t x yk 31 (by decide)
end
section
variable {P : Program} (w : World) (src dst : TypeId)
@[go_sem high] theorem run_convert_bv_uv (b : UInt8) (hs : (P.underlying src).isSome = true) (hd : P.underlying dst = some (.int .u32)) : (convert src dst (bv b)).run P w = .ok (uv b.toUInt32) w := by
  obtain ⟨d, hd'⟩ := Option.isSome_iff_exists.1 hs
  simp only [convert, bv, Sem.run_bind, run_underlying hd', run_underlying hd, Result.andThen_ok]
  show Result.ok (Value.int .u32 (IntKind.u32.wrap (b.toNat : Int))) w = _
  rw [wrap_u32]
  unfold uv
  congr 4
  apply UInt32.toNat_inj.1
  rw [UInt32.toNat_ofNat', UInt8.toNat_toUInt32]
  have := b.toNat_lt
  omega
@[go_sem high] theorem run_convert_uv_bv (x : UInt32) (hs : (P.underlying src).isSome = true) (hd : P.underlying dst = some (.int .u8)) : (convert src dst (uv x)).run P w = .ok (bv x.toUInt8) w := by
  obtain ⟨d, hd'⟩ := Option.isSome_iff_exists.1 hs
  simp only [convert, uv, Sem.run_bind, run_underlying hd', run_underlying hd, Result.andThen_ok]
  show Result.ok (Value.int .u8 (IntKind.u8.wrap (x.toNat : Int))) w = _
  rw [wrap_u8]
  unfold bv
  congr 4
end
end Go.Proofs.YtopdhanbmnfeeaaDoor

/- The checksum, in plain Lean. No program in sight. -/
namespace Go.Proofs.YtopdhanbmnfeeaaDoor
set_option linter.unusedSectionVars false
set_option linter.unusedSimpArgs false
open Go Go.RowKit
set_option linter.unusedVariables false
def stepT : List UInt32 := [0x00000000, 0x1DB71064, 0x3B6E20C8, 0x26D930AC, 0x76DC4190, 0x6B6B51F4, 0x4DB26158, 0x5005713C, 0xEDB88320, 0xF00F9344, 0xD6D6A3E8, 0xCB61B38C, 0x9B64C2B0, 0x86D3D2D4, 0xA00AE278, 0xBDBDF21C]
def stepV (i : UInt32) : UInt32 := stepT.getD i.toNat 0
def stepR (r : UInt32) : UInt32 := stepV (r &&& 15) ^^^ (r >>> 4)
def feedB (r : UInt32) (x : UInt8) : UInt32 := stepR (stepR (r ^^^ x.toUInt32))
def feedL (r : UInt32) (l : List UInt8) : UInt32 := l.foldl feedB r
def updL (c : UInt32) (l : List UInt8) : UInt32 := ~~~ (feedL (~~~ c) l)
def crcL (l : List UInt8) : UInt32 := updL 0 l
def sum4 (s : UInt32) : List UInt8 := [s.toUInt8, (s >>> 8).toUInt8, (s >>> 16).toUInt8, (s >>> 24).toUInt8]
def sealB (l : List UInt8) : List UInt8 := l ++ sum4 (crcL l)
def wholeB (l : List UInt8) : Bool := decide (4 ≤ l.length ∧ l.drop (l.length - 4) = sum4 (crcL (l.take (l.length - 4))))
theorem length_sealB (l : List UInt8) : (sealB l).length = l.length + 4 := by simp [sealB, sum4]
theorem wholeB_sealB (l : List UInt8) : wholeB (sealB l) = true := by
  unfold wholeB
  rw [decide_eq_true_iff, length_sealB, Nat.add_sub_cancel]
  refine ⟨by omega, ?_⟩
  unfold sealB
  rw [List.drop_left' rfl, List.take_left' rfl]
theorem sum4_cells (s : UInt32) : [bv s.toUInt8, bv (s >>> 8).toUInt8, bv (s >>> 16).toUInt8, bv (s >>> 24).toUInt8] = bvs (sum4 s) := rfl
theorem feedL_succ (r : UInt32) (l : List UInt8) (k : Nat) (h : k < l.length) : feedL r (l.take (k + 1)) = feedB (feedL r (l.take k)) l[k] := by
  unfold feedL
  rw [List.take_succ_eq_append_getElem h, List.foldl_append]; rfl
theorem and15 (r : UInt32) : (r &&& 15).toNat < 16 := by
  rw [UInt32.toNat_and]
  have h := @Nat.and_two_pow_sub_one_eq_mod r.toNat 4
  have e : UInt32.toNat 15 = 2 ^ 4 - 1 := rfl
  rw [e, h]
  exact Nat.mod_lt _ (by decide)
end Go.Proofs.YtopdhanbmnfeeaaDoor
