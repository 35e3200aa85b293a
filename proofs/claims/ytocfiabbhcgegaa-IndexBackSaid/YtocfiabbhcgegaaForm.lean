/- What a node is: the walk of node.formOf. -/
import Derived.Test.YtocfiabbhcgegaaLayB
namespace Go.Proofs.Ytocfiabbhcgegaa
open Go Go.RowKit
set_option linter.unusedVariables false

/-- A node as it comes: its value is the slice at ao. -/
structure NodeV where
  kind : Int
  left : Int
  right : Int
  lc : Int
  rc : Int
  ls : D32
  rs : D32
  key : D32
  ao : Option Addr
  n : Nat
  c : Nat
def NodeV.val (x : NodeV) : Value := .slice x.ao x.n x.c
/-- Its cells. -/
def nodeC (x : NodeV) : List Value := [.int .i64 x.kind, .int .i64 x.left, .int .i64 x.right, .int .i64 x.lc, .int .i64 x.rc] ++ (bvs x.ls.1 ++ (bvs x.rs.1 ++ (bvs x.key.1 ++ [x.val])))
theorem length_nodeC (x : NodeV) : (nodeC x).length = 102 := by simp [nodeC, x.ls.2, x.rs.2, x.key.2]
theorem nodeC_ls (x : NodeV) (j : Nat) (hj : j < 32) : (nodeC x).toArray[5 + j]? = (bvs x.ls.1)[j]? := by
  rw [← Array.getElem?_toList]
  show (nodeC x)[5 + j]? = _
  unfold nodeC
  rw [List.getElem?_append_right (by simp), List.getElem?_append_left (by simp [x.ls.2]; omega)]
  congr 1; simp
theorem nodeC_rs (x : NodeV) (j : Nat) (hj : j < 32) : (nodeC x).toArray[37 + j]? = (bvs x.rs.1)[j]? := by
  rw [← Array.getElem?_toList]
  show (nodeC x)[37 + j]? = _
  unfold nodeC
  rw [List.getElem?_append_right (by simp; omega), List.getElem?_append_right (by simp [x.ls.2]; omega), List.getElem?_append_left (by simp [x.ls.2, x.rs.2]; omega)]
  congr 1; simp [x.ls.2]; omega
theorem nodeC_key (x : NodeV) (j : Nat) (hj : j < 32) : (nodeC x).toArray[69 + j]? = (bvs x.key.1)[j]? := by
  rw [← Array.getElem?_toList]
  show (nodeC x)[69 + j]? = _
  unfold nodeC
  rw [List.getElem?_append_right (by simp; omega), List.getElem?_append_right (by simp [x.ls.2]; omega), List.getElem?_append_right (by simp [x.ls.2, x.rs.2]; omega), List.getElem?_append_left (by simp [x.ls.2, x.rs.2, x.key.2]; omega)]
  congr 1; simp [x.ls.2, x.rs.2]; omega
theorem nodeC_val (x : NodeV) : (nodeC x).toArray[101]? = some x.val := by
  rw [← Array.getElem?_toList]
  show (nodeC x)[101]? = _
  unfold nodeC
  rw [List.getElem?_append_right (by simp), List.getElem?_append_right (by simp [x.ls.2]), List.getElem?_append_right (by simp [x.ls.2, x.rs.2]), List.getElem?_append_right (by simp [x.ls.2, x.rs.2, x.key.2])]
  simp [x.ls.2, x.rs.2, x.key.2]

/-- 'or' of numbers is nothing if all are nothing. -/
theorem or64 (a b : Int) (ha : -9223372036854775808 ≤ a ∧ a ≤ 9223372036854775807) (hb : -9223372036854775808 ≤ b ∧ b ≤ 9223372036854775807) :
    (bits .or .i64 a b = 0 ↔ a = 0 ∧ b = 0) ∧ -9223372036854775808 ≤ bits .or .i64 a b ∧ bits .or .i64 a b ≤ 9223372036854775807 := by
  have hz : ∀ x : Int, -9223372036854775808 ≤ x ∧ x ≤ 9223372036854775807 → (BitVec.ofInt 64 x = 0#64 ↔ x = 0) := fun x hx => by
    rw [← BitVec.toNat_inj, BitVec.toNat_ofInt]
    simp
    omega
  have hw : bits .or .i64 a b = IntKind.i64.wrap (((BitVec.ofInt 64 a ||| BitVec.ofInt 64 b).toNat : Nat) : Int) := rfl
  have hlt := (BitVec.ofInt 64 a ||| BitVec.ofInt 64 b).isLt
  have h0 : (BitVec.ofInt 64 a ||| BitVec.ofInt 64 b).toNat = 0 ↔ a = 0 ∧ b = 0 := by
    rw [← hz a ha, ← hz b hb, ← BitVec.or_eq_zero_iff, ← BitVec.toNat_inj]
    simp
  rw [hw, IntKind.wrap_i64]
  generalize (BitVec.ofInt 64 a ||| BitVec.ofInt 64 b).toNat = m at *
  refine ⟨?_, by omega, by omega⟩
  rw [← h0]
  omega
/-- Is a node a leaf? -/
def isLeafB (x : NodeV) : Bool := decide (x.kind = 1) && decide (x.left = 0 ∧ x.right = 0 ∧ x.lc = 0 ∧ x.rc = 0) && eqD x.ls zero32 && eqD x.rs zero32
/-- Is it a branch? -/
def isBrB (x : NodeV) : Bool := decide (x.kind = 2) && eqD x.key zero32 && decide (x.n = 0)
/-- A node's form. -/
def formV (x : NodeV) : Value :=
  if isLeafB x = true then .iface 75 (.agg (leafC x.key x.val).toArray)
  else if isBrB x = true then .iface 79 (.agg (brC ⟨x.left, x.lc, x.ls⟩ ⟨x.right, x.rc, x.rs⟩).toArray) else .nilIface
theorem built_leaf (k : D32) (ao : Option Addr) (n c : Nat) : Try.prog.built 75 [(0, .agg (dc k)), (1, .slice ao n c)] = some (leafC k (.slice ao n c)).toArray := by
  match k with
  | ⟨[b0, b1, b2, b3, b4, b5, b6, b7, b8, b9, b10, b11, b12, b13, b14, b15, b16, b17, b18, b19, b20, b21, b22, b23, b24, b25, b26, b27, b28, b29, b30, b31], h⟩ => show _ = _; kernel_rfl
theorem built_child (p c : Int) (d : D32) : Try.prog.built 77 [(0, .int .i64 p), (1, .int .i64 c), (2, .agg (dc d))] = some (chC ⟨p, c, d⟩).toArray := by
  match d with
  | ⟨[b0, b1, b2, b3, b4, b5, b6, b7, b8, b9, b10, b11, b12, b13, b14, b15, b16, b17, b18, b19, b20, b21, b22, b23, b24, b25, b26, b27, b28, b29, b30, b31], h⟩ => show _ = _; kernel_rfl
theorem built_branch (l r : Child) : Try.prog.built 79 [(0, .agg (chC l).toArray), (1, .agg (chC r).toArray)] = some (brC l r).toArray := by
  match l, r with
  | ⟨p, c, ⟨[b0, b1, b2, b3, b4, b5, b6, b7, b8, b9, b10, b11, b12, b13, b14, b15, b16, b17, b18, b19, b20, b21, b22, b23, b24, b25, b26, b27, b28, b29, b30, b31], h⟩⟩, ⟨q, e, ⟨[a0, a1, a2, a3, a4, a5, a6, a7, a8, a9, a10, a11, a12, a13, a14, a15, a16, a17, a18, a19, a20, a21, a22, a23, a24, a25, a26, a27, a28, a29, a30, a31], h'⟩⟩ => show _ = _; kernel_rfl
end Go.Proofs.Ytocfiabbhcgegaa
