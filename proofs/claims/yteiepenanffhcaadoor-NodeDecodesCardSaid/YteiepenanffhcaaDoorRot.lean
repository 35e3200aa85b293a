/- The rotations of the round function. -/
import Derived.Test.YteiepenanffhcaaDoorRows
import Derived.Test.YteiepenanffhcaaDoorSha
namespace Go.Proofs.YteiepenanffhcaaDoor
open Go Go.RowKit

theorem rot_17 (x : UInt32) (w : World) : Calls Tryd.prog 63 #[uv x, .int .i64 (-17)] w fun e w' => e = .returned (uv ((x <<< 15) ||| (x >>> 17))) ∧ w = w' := by
  have hk : bits BinOp.and IntKind.u64 (IntKind.u64.wrap (-17)) 31 = 15 := by decide
  go_enter Tryd.func63, Tryd.ntmps63
  go_wp2
  go_ret
  exact ⟨rfl, rfl⟩

theorem rot_19 (x : UInt32) (w : World) : Calls Tryd.prog 63 #[uv x, .int .i64 (-19)] w fun e w' => e = .returned (uv ((x <<< 13) ||| (x >>> 19))) ∧ w = w' := by
  have hk : bits BinOp.and IntKind.u64 (IntKind.u64.wrap (-19)) 31 = 13 := by decide
  go_enter Tryd.func63, Tryd.ntmps63
  go_wp2
  go_ret
  exact ⟨rfl, rfl⟩

theorem rot_7 (x : UInt32) (w : World) : Calls Tryd.prog 63 #[uv x, .int .i64 (-7)] w fun e w' => e = .returned (uv ((x <<< 25) ||| (x >>> 7))) ∧ w = w' := by
  have hk : bits BinOp.and IntKind.u64 (IntKind.u64.wrap (-7)) 31 = 25 := by decide
  go_enter Tryd.func63, Tryd.ntmps63
  go_wp2
  go_ret
  exact ⟨rfl, rfl⟩

theorem rot_18 (x : UInt32) (w : World) : Calls Tryd.prog 63 #[uv x, .int .i64 (-18)] w fun e w' => e = .returned (uv ((x <<< 14) ||| (x >>> 18))) ∧ w = w' := by
  have hk : bits BinOp.and IntKind.u64 (IntKind.u64.wrap (-18)) 31 = 14 := by decide
  go_enter Tryd.func63, Tryd.ntmps63
  go_wp2
  go_ret
  exact ⟨rfl, rfl⟩

theorem rot_6 (x : UInt32) (w : World) : Calls Tryd.prog 63 #[uv x, .int .i64 (-6)] w fun e w' => e = .returned (uv ((x <<< 26) ||| (x >>> 6))) ∧ w = w' := by
  have hk : bits BinOp.and IntKind.u64 (IntKind.u64.wrap (-6)) 31 = 26 := by decide
  go_enter Tryd.func63, Tryd.ntmps63
  go_wp2
  go_ret
  exact ⟨rfl, rfl⟩

theorem rot_11 (x : UInt32) (w : World) : Calls Tryd.prog 63 #[uv x, .int .i64 (-11)] w fun e w' => e = .returned (uv ((x <<< 21) ||| (x >>> 11))) ∧ w = w' := by
  have hk : bits BinOp.and IntKind.u64 (IntKind.u64.wrap (-11)) 31 = 21 := by decide
  go_enter Tryd.func63, Tryd.ntmps63
  go_wp2
  go_ret
  exact ⟨rfl, rfl⟩

theorem rot_25 (x : UInt32) (w : World) : Calls Tryd.prog 63 #[uv x, .int .i64 (-25)] w fun e w' => e = .returned (uv ((x <<< 7) ||| (x >>> 25))) ∧ w = w' := by
  have hk : bits BinOp.and IntKind.u64 (IntKind.u64.wrap (-25)) 31 = 7 := by decide
  go_enter Tryd.func63, Tryd.ntmps63
  go_wp2
  go_ret
  exact ⟨rfl, rfl⟩

theorem rot_2 (x : UInt32) (w : World) : Calls Tryd.prog 63 #[uv x, .int .i64 (-2)] w fun e w' => e = .returned (uv ((x <<< 30) ||| (x >>> 2))) ∧ w = w' := by
  have hk : bits BinOp.and IntKind.u64 (IntKind.u64.wrap (-2)) 31 = 30 := by decide
  go_enter Tryd.func63, Tryd.ntmps63
  go_wp2
  go_ret
  exact ⟨rfl, rfl⟩

theorem rot_13 (x : UInt32) (w : World) : Calls Tryd.prog 63 #[uv x, .int .i64 (-13)] w fun e w' => e = .returned (uv ((x <<< 19) ||| (x >>> 13))) ∧ w = w' := by
  have hk : bits BinOp.and IntKind.u64 (IntKind.u64.wrap (-13)) 31 = 19 := by decide
  go_enter Tryd.func63, Tryd.ntmps63
  go_wp2
  go_ret
  exact ⟨rfl, rfl⟩

theorem rot_22 (x : UInt32) (w : World) : Calls Tryd.prog 63 #[uv x, .int .i64 (-22)] w fun e w' => e = .returned (uv ((x <<< 10) ||| (x >>> 22))) ∧ w = w' := by
  have hk : bits BinOp.and IntKind.u64 (IntKind.u64.wrap (-22)) 31 = 10 := by decide
  go_enter Tryd.func63, Tryd.ntmps63
  go_wp2
  go_ret
  exact ⟨rfl, rfl⟩

theorem rotq_17 (x : UInt32) (w : World) : Calls Tryd.prog 63 #[uv x, .int .i64 (-17)] w fun e w' => e = .returned (uv ((x <<< 15) ||| (x >>> 17))) ∧ w' = w :=
  (rot_17 x w).mono fun _ _ ⟨a, b⟩ => ⟨a, b.symm⟩
theorem rotq_19 (x : UInt32) (w : World) : Calls Tryd.prog 63 #[uv x, .int .i64 (-19)] w fun e w' => e = .returned (uv ((x <<< 13) ||| (x >>> 19))) ∧ w' = w :=
  (rot_19 x w).mono fun _ _ ⟨a, b⟩ => ⟨a, b.symm⟩
theorem rotq_7 (x : UInt32) (w : World) : Calls Tryd.prog 63 #[uv x, .int .i64 (-7)] w fun e w' => e = .returned (uv ((x <<< 25) ||| (x >>> 7))) ∧ w' = w :=
  (rot_7 x w).mono fun _ _ ⟨a, b⟩ => ⟨a, b.symm⟩
theorem rotq_18 (x : UInt32) (w : World) : Calls Tryd.prog 63 #[uv x, .int .i64 (-18)] w fun e w' => e = .returned (uv ((x <<< 14) ||| (x >>> 18))) ∧ w' = w :=
  (rot_18 x w).mono fun _ _ ⟨a, b⟩ => ⟨a, b.symm⟩
theorem rotq_6 (x : UInt32) (w : World) : Calls Tryd.prog 63 #[uv x, .int .i64 (-6)] w fun e w' => e = .returned (uv ((x <<< 26) ||| (x >>> 6))) ∧ w' = w :=
  (rot_6 x w).mono fun _ _ ⟨a, b⟩ => ⟨a, b.symm⟩
theorem rotq_11 (x : UInt32) (w : World) : Calls Tryd.prog 63 #[uv x, .int .i64 (-11)] w fun e w' => e = .returned (uv ((x <<< 21) ||| (x >>> 11))) ∧ w' = w :=
  (rot_11 x w).mono fun _ _ ⟨a, b⟩ => ⟨a, b.symm⟩
theorem rotq_25 (x : UInt32) (w : World) : Calls Tryd.prog 63 #[uv x, .int .i64 (-25)] w fun e w' => e = .returned (uv ((x <<< 7) ||| (x >>> 25))) ∧ w' = w :=
  (rot_25 x w).mono fun _ _ ⟨a, b⟩ => ⟨a, b.symm⟩
theorem rotq_2 (x : UInt32) (w : World) : Calls Tryd.prog 63 #[uv x, .int .i64 (-2)] w fun e w' => e = .returned (uv ((x <<< 30) ||| (x >>> 2))) ∧ w' = w :=
  (rot_2 x w).mono fun _ _ ⟨a, b⟩ => ⟨a, b.symm⟩
theorem rotq_13 (x : UInt32) (w : World) : Calls Tryd.prog 63 #[uv x, .int .i64 (-13)] w fun e w' => e = .returned (uv ((x <<< 19) ||| (x >>> 13))) ∧ w' = w :=
  (rot_13 x w).mono fun _ _ ⟨a, b⟩ => ⟨a, b.symm⟩
theorem rotq_22 (x : UInt32) (w : World) : Calls Tryd.prog 63 #[uv x, .int .i64 (-22)] w fun e w' => e = .returned (uv ((x <<< 10) ||| (x >>> 22))) ∧ w' = w :=
  (rot_22 x w).mono fun _ _ ⟨a, b⟩ => ⟨a, b.symm⟩
end Go.Proofs.YteiepenanffhcaaDoor