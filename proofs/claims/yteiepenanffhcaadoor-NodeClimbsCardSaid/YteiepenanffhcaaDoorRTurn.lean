/- The rotations of the reference: ledgerref1.turn at the ten numbers that it is called with; the complement of a word. -/
import Derived.Test.YteiepenanffhcaaDoorRows
import Derived.Test.YteiepenanffhcaaDoorSha
namespace Go.Proofs.YteiepenanffhcaaDoor
open Go Go.RowKit

@[go_sem] theorem uv_not (x : UInt32) : Op.unary .xor (uv x) = pure (uv (~~~ x)) := by
  have h := uv_xor 0 4294967295 x
  have e : (4294967295 : UInt32) ^^^ x = ~~~ x := by
    apply UInt32.toBitVec_inj.1
    rw [UInt32.toBitVec_xor, UInt32.toBitVec_not]
    rw [show ((4294967295 : UInt32).toBitVec) = BitVec.allOnes 32 by decide, BitVec.allOnes_xor]
  rw [e] at h
  rw [← h]
  show _ = binOp .xor 0 (.int .u32 _) (.int .u32 _)
  rw [binOp_xor]
  rfl

theorem turn_17 (x : UInt32) (w : World) : Calls Tryd.prog 64 #[uv x, .int .u64 17] w fun e w' => e = .returned (uv ((x <<< 15) ||| (x >>> 17))) ∧ w' = w := by
  have hk : IntKind.u64.wrap (32 - 17) = 15 := by decide
  rw [UInt32.or_comm]
  go_enter Tryd.func64, Tryd.ntmps64
  go_wp2
  go_ret
  exact ⟨rfl, rfl⟩

theorem turn_19 (x : UInt32) (w : World) : Calls Tryd.prog 64 #[uv x, .int .u64 19] w fun e w' => e = .returned (uv ((x <<< 13) ||| (x >>> 19))) ∧ w' = w := by
  have hk : IntKind.u64.wrap (32 - 19) = 13 := by decide
  rw [UInt32.or_comm]
  go_enter Tryd.func64, Tryd.ntmps64
  go_wp2
  go_ret
  exact ⟨rfl, rfl⟩

theorem turn_7 (x : UInt32) (w : World) : Calls Tryd.prog 64 #[uv x, .int .u64 7] w fun e w' => e = .returned (uv ((x <<< 25) ||| (x >>> 7))) ∧ w' = w := by
  have hk : IntKind.u64.wrap (32 - 7) = 25 := by decide
  rw [UInt32.or_comm]
  go_enter Tryd.func64, Tryd.ntmps64
  go_wp2
  go_ret
  exact ⟨rfl, rfl⟩

theorem turn_18 (x : UInt32) (w : World) : Calls Tryd.prog 64 #[uv x, .int .u64 18] w fun e w' => e = .returned (uv ((x <<< 14) ||| (x >>> 18))) ∧ w' = w := by
  have hk : IntKind.u64.wrap (32 - 18) = 14 := by decide
  rw [UInt32.or_comm]
  go_enter Tryd.func64, Tryd.ntmps64
  go_wp2
  go_ret
  exact ⟨rfl, rfl⟩

theorem turn_6 (x : UInt32) (w : World) : Calls Tryd.prog 64 #[uv x, .int .u64 6] w fun e w' => e = .returned (uv ((x <<< 26) ||| (x >>> 6))) ∧ w' = w := by
  have hk : IntKind.u64.wrap (32 - 6) = 26 := by decide
  rw [UInt32.or_comm]
  go_enter Tryd.func64, Tryd.ntmps64
  go_wp2
  go_ret
  exact ⟨rfl, rfl⟩

theorem turn_11 (x : UInt32) (w : World) : Calls Tryd.prog 64 #[uv x, .int .u64 11] w fun e w' => e = .returned (uv ((x <<< 21) ||| (x >>> 11))) ∧ w' = w := by
  have hk : IntKind.u64.wrap (32 - 11) = 21 := by decide
  rw [UInt32.or_comm]
  go_enter Tryd.func64, Tryd.ntmps64
  go_wp2
  go_ret
  exact ⟨rfl, rfl⟩

theorem turn_25 (x : UInt32) (w : World) : Calls Tryd.prog 64 #[uv x, .int .u64 25] w fun e w' => e = .returned (uv ((x <<< 7) ||| (x >>> 25))) ∧ w' = w := by
  have hk : IntKind.u64.wrap (32 - 25) = 7 := by decide
  rw [UInt32.or_comm]
  go_enter Tryd.func64, Tryd.ntmps64
  go_wp2
  go_ret
  exact ⟨rfl, rfl⟩

theorem turn_2 (x : UInt32) (w : World) : Calls Tryd.prog 64 #[uv x, .int .u64 2] w fun e w' => e = .returned (uv ((x <<< 30) ||| (x >>> 2))) ∧ w' = w := by
  have hk : IntKind.u64.wrap (32 - 2) = 30 := by decide
  rw [UInt32.or_comm]
  go_enter Tryd.func64, Tryd.ntmps64
  go_wp2
  go_ret
  exact ⟨rfl, rfl⟩

theorem turn_13 (x : UInt32) (w : World) : Calls Tryd.prog 64 #[uv x, .int .u64 13] w fun e w' => e = .returned (uv ((x <<< 19) ||| (x >>> 13))) ∧ w' = w := by
  have hk : IntKind.u64.wrap (32 - 13) = 19 := by decide
  rw [UInt32.or_comm]
  go_enter Tryd.func64, Tryd.ntmps64
  go_wp2
  go_ret
  exact ⟨rfl, rfl⟩

theorem turn_22 (x : UInt32) (w : World) : Calls Tryd.prog 64 #[uv x, .int .u64 22] w fun e w' => e = .returned (uv ((x <<< 10) ||| (x >>> 22))) ∧ w' = w := by
  have hk : IntKind.u64.wrap (32 - 22) = 10 := by decide
  rw [UInt32.or_comm]
  go_enter Tryd.func64, Tryd.ntmps64
  go_wp2
  go_ret
  exact ⟨rfl, rfl⟩
end Go.Proofs.YteiepenanffhcaaDoor
