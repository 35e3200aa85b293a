/- The reference's Decode: number, and the leaf's way. -/
import Derived.Test.YteiepenanffhcaaDoorRRight
import Derived.Test.YteiepenanffhcaaDoorDecode
import Derived.Test.YteiepenanffhcaaDoorNear
import Derived.Test.YteiepenanffhcaaDoorCopy
namespace Go.Proofs.YteiepenanffhcaaDoor
open Go Go.RowKit
set_option linter.unusedVariables false

theorem row_getD {w : World} {b o n : Nat} {l : List UInt8} (h : Row w (some ⟨b, o, none⟩) n l) (i : Nat) (hi : i < l.length) : w.cell? ⟨b, o + i, none⟩ = some (.int .u8 ((l.getD i 0).toNat : Int)) := by
  rw [h.cell i hi]; simp [List.getD, List.getElem?_eq_getElem hi]
set_option maxRecDepth 100000 in
set_option maxHeartbeats 1000000 in
theorem rnumber_any (at1 : Nat) (at2 : Int) (hat : at2 = at1) (b o n c : Nat) (l : List UInt8) (w : World) (h : Row w (some ⟨b, o, none⟩) n l) (hn : at1 + 4 ≤ n) (hmx : n ≤ 140737488351232) :
    Calls Tryd.prog 41 #[.slice (some ⟨b, o, none⟩) n c, .int .i64 at2] w fun e w' => e = .returned (.int .i64 (dec4 (l.drop at1))) ∧ Below w.heap.size w w' := by
  subst hat
  have hl := h.1
  have r0 : w.cell? ⟨b, o + at1, none⟩ = some (.int .u8 ((l.getD at1 0).toNat : Int)) := row_getD h at1 (by omega)
  have r1 : w.cell? ⟨b, o + (at1 + 1), none⟩ = some (.int .u8 ((l.getD (at1 + 1) 0).toNat : Int)) := row_getD h (at1 + 1) (by omega)
  have r2 : w.cell? ⟨b, o + (at1 + 2), none⟩ = some (.int .u8 ((l.getD (at1 + 2) 0).toNat : Int)) := row_getD h (at1 + 2) (by omega)
  have r3 : w.cell? ⟨b, o + (at1 + 3), none⟩ = some (.int .u8 ((l.getD (at1 + 3) 0).toNat : Int)) := row_getD h (at1 + 3) (by omega)
  have hd : dec4 (l.drop at1) = (l.getD at1 0).toNat + 256 * (l.getD (at1 + 1) 0).toNat + 65536 * (l.getD (at1 + 2) 0).toNat + 16777216 * (l.getD (at1 + 3) 0).toNat := by
    unfold dec4
    simp only [List.getD_eq_getElem?_getD, List.getElem?_drop, Nat.add_zero]
  rw [hd]
  have x0 := (l.getD at1 0).toNat_lt
  have x1 := (l.getD (at1 + 1) 0).toNat_lt
  have x2 := (l.getD (at1 + 2) 0).toNat_lt
  have x3 := (l.getD (at1 + 3) 0).toNat_lt
  generalize (l.getD at1 0).toNat = y0 at *
  generalize (l.getD (at1 + 1) 0).toNat = y1 at *
  generalize (l.getD (at1 + 2) 0).toNat = y2 at *
  generalize (l.getD (at1 + 3) 0).toNat = y3 at *
  clear hd hl h
  have n0 : (0 : Int) ≤ (at1 : Int) := by omega
  have n1 : (0 : Int) ≤ (at1 : Int) + 1 := by omega
  have n2 : (0 : Int) ≤ (at1 : Int) + 2 := by omega
  have n3 : (0 : Int) ≤ (at1 : Int) + 3 := by omega
  have m0 : (at1 : Int) < (n : Int) := by omega
  have m1 : (at1 : Int) + 1 < (n : Int) := by omega
  have m2 : (at1 : Int) + 2 < (n : Int) := by omega
  have m3 : (at1 : Int) + 3 < (n : Int) := by omega
  have t1 : ((at1 : Int) + 1).toNat = at1 + 1 := by omega
  have t2 : ((at1 : Int) + 2).toNat = at1 + 2 := by omega
  have t3 : ((at1 : Int) + 3).toNat = at1 + 3 := by omega
  have e1 := IntWalk.i64_in ((at1 : Int) + 1) (by omega)
  have e2 := IntWalk.i64_in ((at1 : Int) + 2) (by omega)
  have e3 := IntWalk.i64_in ((at1 : Int) + 3) (by omega)
  have q1 := IntWalk.i64_in (256 * (y1 : Int)) (by omega)
  have q2 := IntWalk.i64_in (65536 * (y2 : Int)) (by omega)
  have q3 := IntWalk.i64_in (16777216 * (y3 : Int)) (by omega)
  have s1 := IntWalk.i64_in ((y0 : Int) + 256 * (y1 : Int)) (by omega)
  have s2 := IntWalk.i64_in ((y0 : Int) + 256 * (y1 : Int) + 65536 * (y2 : Int)) (by omega)
  have s3 := IntWalk.i64_in ((y0 : Int) + 256 * (y1 : Int) + 65536 * (y2 : Int) + 16777216 * (y3 : Int)) (by omega)
  go_enter Tryd.func41, Tryd.ntmps41
  go_wp2_with fail
  go_quiet (fail)
  go_wp2
  go_ret
  exact ⟨ret_int (by omega), below_drewN2 (Below.refl _ w) _⟩

/-- The first k bytes of a load, as a key. -/
def keyN (l : List UInt8) (k : Nat) : D32 := ⟨(l.take k ++ List.replicate 32 0).take 32, by simp⟩
theorem keyN_zero (l : List UInt8) : keyN l 0 = zero32 := Subtype.ext (by simp [keyN, zero32])
theorem keyN_full (l : List UInt8) (h : 32 ≤ l.length) : keyN l 32 = keyOf l := Subtype.ext (by
  show (l.take 32 ++ List.replicate 32 0).take 32 = (l ++ List.replicate 32 0).take 32
  rw [List.take_append_of_le_length (by simp; omega), List.take_append_of_le_length (by omega), List.take_take]
  simp)
theorem keyN_succ (l : List UInt8) (k : Nat) (hk : k < 32) (h : k < l.length) : setD (keyN l k) k l[k] = keyN l (k + 1) := Subtype.ext (by
  show ((l.take k ++ List.replicate 32 0).take 32).set k l[k] = (l.take (k + 1) ++ List.replicate 32 0).take 32
  apply List.ext_getElem?
  intro i
  rw [List.getElem?_set, List.length_take, List.length_append, List.length_replicate, List.length_take, List.getElem?_take, List.getElem?_take]
  have h1 : (l.take k).length = k := by rw [List.length_take]; omega
  have h2 : (l.take (k + 1)).length = k + 1 := by rw [List.length_take]; omega
  by_cases hi : i < 32
  · rw [if_pos hi, if_pos hi]
    by_cases hki : k = i
    · subst hki
      rw [if_pos rfl, if_pos (by omega), List.getElem?_append_left (by omega), List.getElem?_take, if_pos (by omega), List.getElem?_eq_getElem h]
    · rw [if_neg hki]
      by_cases hlt : i < k
      · rw [List.getElem?_append_left (by omega), List.getElem?_append_left (by omega), List.getElem?_take, List.getElem?_take, if_pos hlt, if_pos (by omega)]
      · rw [List.getElem?_append_right (by omega), List.getElem?_append_right (by omega), List.getElem?_replicate, List.getElem?_replicate, if_pos (by omega), if_pos (by omega)]
  · rw [if_neg hi, if_neg hi, if_neg (by omega)])
theorem nodeC_setkey (x : NodeV) (k : Nat) (hk : k < 32) (u : UInt8) : (nodeC x).set (69 + k) (bv u) = nodeC { x with key := setD x.key k u } := by
  have h : ∀ (A B C : List Value), A.length = 69 → B.length = 32 → (A ++ (B ++ C)).set (69 + k) (bv u) = A ++ (B.set k (bv u) ++ C) := fun A B C hA hB => by
    rw [List.set_append_right _ _ (by omega), hA, List.set_append_left _ _ (by omega), show 69 + k - 69 = k by omega]
  have e : ∀ y : D32, nodeC { x with key := y } = ([.int .i64 x.kind, .int .i64 x.left, .int .i64 x.right, .int .i64 x.lc, .int .i64 x.rc] ++ (bvs x.ls.1 ++ bvs x.rs.1)) ++ (bvs y.1 ++ [x.val]) := fun y => by
    show _ ++ _ = _
    simp only [List.append_assoc]
    rfl
  have e0 : nodeC x = _ := e x.key
  rw [e0, e, h _ _ _ (by simp [x.ls.2, x.rs.2]) (by simp [x.key.2]), bvs_put]
  rfl
end Go.Proofs.YteiepenanffhcaaDoor
