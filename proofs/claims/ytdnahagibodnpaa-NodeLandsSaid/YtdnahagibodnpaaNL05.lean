/- Texts joined: CrcP. -/
import Derived.Test.YtdnahagibodnpaaNL04
/- The checksum, in plain Lean. No program in sight. -/
namespace Go.Proofs.Ytdnahagibodnpaa
set_option linter.unusedSectionVars false
set_option linter.unusedSimpArgs false
open Go Go.RowKit
set_option linter.unusedVariables false
def stepT : List UInt32 := [0x00000000, 0x1DB71064, 0x3B6E20C8, 0x26D930AC, 0x76DC4190, 0x6B6B51F4, 0x4DB26158, 0x5005713C, 0xEDB88320, 0xF00F9344, 0xD6D6A3E8, 0xCB61B38C, 0x9B64C2B0, 0x86D3D2D4, 0xA00AE278, 0xBDBDF21C]
def stepV (i : UInt32) : UInt32 := stepT.getD i.toNat 0
def stepR (r : UInt32) : UInt32 := stepV (r &&& 15) ^^^ (r >>> 4)
def feedB (r : UInt32) (x : UInt8) : UInt32 := stepR (stepR (r ^^^ x.toUInt32))
def feedL (r : UInt32) (l : List UInt8) : UInt32 := l.foldl feedB r
def updL (c : UInt32) (l : List UInt8) : UInt32 := ~~~ (feedL (~~~ c) l)
def crcL (l : List UInt8) : UInt32 := updL 0 l
def sum4 (s : UInt32) : List UInt8 := [s.toUInt8, (s >>> 8).toUInt8, (s >>> 16).toUInt8, (s >>> 24).toUInt8]
def sealB (l : List UInt8) : List UInt8 := l ++ sum4 (crcL l)
def wholeB (l : List UInt8) : Bool := decide (4 ≤ l.length ∧ l.drop (l.length - 4) = sum4 (crcL (l.take (l.length - 4))))
theorem length_sealB (l : List UInt8) : (sealB l).length = l.length + 4 := by simp [sealB, sum4]
theorem wholeB_sealB (l : List UInt8) : wholeB (sealB l) = true := by
  unfold wholeB
  rw [decide_eq_true_iff, length_sealB, Nat.add_sub_cancel]
  refine ⟨by omega, ?_⟩
  unfold sealB
  rw [List.drop_left' rfl, List.take_left' rfl]
theorem sum4_cells (s : UInt32) : [bv s.toUInt8, bv (s >>> 8).toUInt8, bv (s >>> 16).toUInt8, bv (s >>> 24).toUInt8] = bvs (sum4 s) := rfl
theorem feedL_succ (r : UInt32) (l : List UInt8) (k : Nat) (h : k < l.length) : feedL r (l.take (k + 1)) = feedB (feedL r (l.take k)) l[k] := by
  unfold feedL
  rw [List.take_succ_eq_append_getElem h, List.foldl_append]; rfl
theorem and15 (r : UInt32) : (r &&& 15).toNat < 16 := by
  rw [UInt32.toNat_and]
  have h := @Nat.and_two_pow_sub_one_eq_mod r.toNat 4
  have e : UInt32.toNat 15 = 2 ^ 4 - 1 := rfl
  rw [e, h]
  exact Nat.mod_lt _ (by decide)
end Go.Proofs.Ytdnahagibodnpaa
