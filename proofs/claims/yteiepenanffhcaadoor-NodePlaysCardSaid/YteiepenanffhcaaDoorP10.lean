/- Texts joined: Rot, ShaSpec, Step. -/
import Derived.Test.YteiepenanffhcaaDoorRows
import Derived.Test.YteiepenanffhcaaDoorP09
/- The rotations of the round function. -/
namespace Go.Proofs.YteiepenanffhcaaDoor
open Go Go.RowKit

theorem rot_17 (x : UInt32) (w : World) : Calls Tryd.prog 63 #[uv x, .int .i64 (-17)] w fun e w' => e = .returned (uv ((x <<< 15) ||| (x >>> 17))) ∧ w = w' := by
  have hk : bits BinOp.and IntKind.u64 (IntKind.u64.wrap (-17)) 31 = 15 := by decide
  go_enter Tryd.func63, Tryd.ntmps63
  go_wp2
  go_ret
  exact ⟨rfl, rfl⟩

theorem rot_19 (x : UInt32) (w : World) : Calls Tryd.prog 63 #[uv x, .int .i64 (-19)] w fun e w' => e = .returned (uv ((x <<< 13) ||| (x >>> 19))) ∧ w = w' := by
  have hk : bits BinOp.and IntKind.u64 (IntKind.u64.wrap (-19)) 31 = 13 := by decide
  go_enter Tryd.func63, Tryd.ntmps63
  go_wp2
  go_ret
  exact ⟨rfl, rfl⟩

theorem rot_7 (x : UInt32) (w : World) : Calls Tryd.prog 63 #[uv x, .int .i64 (-7)] w fun e w' => e = .returned (uv ((x <<< 25) ||| (x >>> 7))) ∧ w = w' := by
  have hk : bits BinOp.and IntKind.u64 (IntKind.u64.wrap (-7)) 31 = 25 := by decide
  go_enter Tryd.func63, Tryd.ntmps63
  go_wp2
  go_ret
  exact ⟨rfl, rfl⟩

theorem rot_18 (x : UInt32) (w : World) : Calls Tryd.prog 63 #[uv x, .int .i64 (-18)] w fun e w' => e = .returned (uv ((x <<< 14) ||| (x >>> 18))) ∧ w = w' := by
  have hk : bits BinOp.and IntKind.u64 (IntKind.u64.wrap (-18)) 31 = 14 := by decide
  go_enter Tryd.func63, Tryd.ntmps63
  go_wp2
  go_ret
  exact ⟨rfl, rfl⟩

theorem rot_6 (x : UInt32) (w : World) : Calls Tryd.prog 63 #[uv x, .int .i64 (-6)] w fun e w' => e = .returned (uv ((x <<< 26) ||| (x >>> 6))) ∧ w = w' := by
  have hk : bits BinOp.and IntKind.u64 (IntKind.u64.wrap (-6)) 31 = 26 := by decide
  go_enter Tryd.func63, Tryd.ntmps63
  go_wp2
  go_ret
  exact ⟨rfl, rfl⟩

theorem rot_11 (x : UInt32) (w : World) : Calls Tryd.prog 63 #[uv x, .int .i64 (-11)] w fun e w' => e = .returned (uv ((x <<< 21) ||| (x >>> 11))) ∧ w = w' := by
  have hk : bits BinOp.and IntKind.u64 (IntKind.u64.wrap (-11)) 31 = 21 := by decide
  go_enter Tryd.func63, Tryd.ntmps63
  go_wp2
  go_ret
  exact ⟨rfl, rfl⟩

theorem rot_25 (x : UInt32) (w : World) : Calls Tryd.prog 63 #[uv x, .int .i64 (-25)] w fun e w' => e = .returned (uv ((x <<< 7) ||| (x >>> 25))) ∧ w = w' := by
  have hk : bits BinOp.and IntKind.u64 (IntKind.u64.wrap (-25)) 31 = 7 := by decide
  go_enter Tryd.func63, Tryd.ntmps63
  go_wp2
  go_ret
  exact ⟨rfl, rfl⟩

theorem rot_2 (x : UInt32) (w : World) : Calls Tryd.prog 63 #[uv x, .int .i64 (-2)] w fun e w' => e = .returned (uv ((x <<< 30) ||| (x >>> 2))) ∧ w = w' := by
  have hk : bits BinOp.and IntKind.u64 (IntKind.u64.wrap (-2)) 31 = 30 := by decide
  go_enter Tryd.func63, Tryd.ntmps63
  go_wp2
  go_ret
  exact ⟨rfl, rfl⟩

theorem rot_13 (x : UInt32) (w : World) : Calls Tryd.prog 63 #[uv x, .int .i64 (-13)] w fun e w' => e = .returned (uv ((x <<< 19) ||| (x >>> 13))) ∧ w = w' := by
  have hk : bits BinOp.and IntKind.u64 (IntKind.u64.wrap (-13)) 31 = 19 := by decide
  go_enter Tryd.func63, Tryd.ntmps63
  go_wp2
  go_ret
  exact ⟨rfl, rfl⟩

theorem rot_22 (x : UInt32) (w : World) : Calls Tryd.prog 63 #[uv x, .int .i64 (-22)] w fun e w' => e = .returned (uv ((x <<< 10) ||| (x >>> 22))) ∧ w = w' := by
  have hk : bits BinOp.and IntKind.u64 (IntKind.u64.wrap (-22)) 31 = 10 := by decide
  go_enter Tryd.func63, Tryd.ntmps63
  go_wp2
  go_ret
  exact ⟨rfl, rfl⟩

theorem rotq_17 (x : UInt32) (w : World) : Calls Tryd.prog 63 #[uv x, .int .i64 (-17)] w fun e w' => e = .returned (uv ((x <<< 15) ||| (x >>> 17))) ∧ w' = w :=
  (rot_17 x w).mono fun _ _ ⟨a, b⟩ => ⟨a, b.symm⟩
theorem rotq_19 (x : UInt32) (w : World) : Calls Tryd.prog 63 #[uv x, .int .i64 (-19)] w fun e w' => e = .returned (uv ((x <<< 13) ||| (x >>> 19))) ∧ w' = w :=
  (rot_19 x w).mono fun _ _ ⟨a, b⟩ => ⟨a, b.symm⟩
theorem rotq_7 (x : UInt32) (w : World) : Calls Tryd.prog 63 #[uv x, .int .i64 (-7)] w fun e w' => e = .returned (uv ((x <<< 25) ||| (x >>> 7))) ∧ w' = w :=
  (rot_7 x w).mono fun _ _ ⟨a, b⟩ => ⟨a, b.symm⟩
theorem rotq_18 (x : UInt32) (w : World) : Calls Tryd.prog 63 #[uv x, .int .i64 (-18)] w fun e w' => e = .returned (uv ((x <<< 14) ||| (x >>> 18))) ∧ w' = w :=
  (rot_18 x w).mono fun _ _ ⟨a, b⟩ => ⟨a, b.symm⟩
theorem rotq_6 (x : UInt32) (w : World) : Calls Tryd.prog 63 #[uv x, .int .i64 (-6)] w fun e w' => e = .returned (uv ((x <<< 26) ||| (x >>> 6))) ∧ w' = w :=
  (rot_6 x w).mono fun _ _ ⟨a, b⟩ => ⟨a, b.symm⟩
theorem rotq_11 (x : UInt32) (w : World) : Calls Tryd.prog 63 #[uv x, .int .i64 (-11)] w fun e w' => e = .returned (uv ((x <<< 21) ||| (x >>> 11))) ∧ w' = w :=
  (rot_11 x w).mono fun _ _ ⟨a, b⟩ => ⟨a, b.symm⟩
theorem rotq_25 (x : UInt32) (w : World) : Calls Tryd.prog 63 #[uv x, .int .i64 (-25)] w fun e w' => e = .returned (uv ((x <<< 7) ||| (x >>> 25))) ∧ w' = w :=
  (rot_25 x w).mono fun _ _ ⟨a, b⟩ => ⟨a, b.symm⟩
theorem rotq_2 (x : UInt32) (w : World) : Calls Tryd.prog 63 #[uv x, .int .i64 (-2)] w fun e w' => e = .returned (uv ((x <<< 30) ||| (x >>> 2))) ∧ w' = w :=
  (rot_2 x w).mono fun _ _ ⟨a, b⟩ => ⟨a, b.symm⟩
theorem rotq_13 (x : UInt32) (w : World) : Calls Tryd.prog 63 #[uv x, .int .i64 (-13)] w fun e w' => e = .returned (uv ((x <<< 19) ||| (x >>> 13))) ∧ w' = w :=
  (rot_13 x w).mono fun _ _ ⟨a, b⟩ => ⟨a, b.symm⟩
theorem rotq_22 (x : UInt32) (w : World) : Calls Tryd.prog 63 #[uv x, .int .i64 (-22)] w fun e w' => e = .returned (uv ((x <<< 10) ||| (x >>> 22))) ∧ w' = w :=
  (rot_22 x w).mono fun _ _ ⟨a, b⟩ => ⟨a, b.symm⟩
end Go.Proofs.YteiepenanffhcaaDoor

/- The compression of one block, in plain Lean, as the program reckons it. -/
namespace Go.Proofs.YteiepenanffhcaaDoor
open Go Go.RowKit

def rot (x : UInt32) (n m : UInt32) : UInt32 := (x <<< n) ||| (x >>> m)
def word (l : List UInt8) (t : Nat) : UInt32 :=
  (((l.getD (4 * t) 0).toUInt32 <<< 24) ||| ((l.getD (4 * t + 1) 0).toUInt32 <<< 16) ||| ((l.getD (4 * t + 2) 0).toUInt32 <<< 8)) ||| (l.getD (4 * t + 3) 0).toUInt32
def fill1 (l : List UInt8) : Nat → List UInt32
  | 0 => List.replicate 64 0
  | k + 1 => (fill1 l k).set k (word l k)
def low1 (x : UInt32) : UInt32 := (((x <<< 15) ||| (x >>> 17)) ^^^ ((x <<< 13) ||| (x >>> 19))) ^^^ (x >>> 10)
def low0 (x : UInt32) : UInt32 := (((x <<< 25) ||| (x >>> 7)) ^^^ ((x <<< 14) ||| (x >>> 18))) ^^^ (x >>> 3)
def sched (ws : List UInt32) (t : Nat) : UInt32 := low1 (ws.getD (t - 2) 0) + ws.getD (t - 7) 0 + low0 (ws.getD (t - 15) 0) + ws.getD (t - 16) 0
def fill2 (ws : List UInt32) : Nat → List UInt32
  | 0 => ws
  | j + 1 => (fill2 ws j).set (16 + j) (sched (fill2 ws j) (16 + j))
structure S8 where
  a : UInt32
  b : UInt32
  c : UInt32
  d : UInt32
  e : UInt32
  f : UInt32
  g : UInt32
  z : UInt32
def S8.list (s : S8) : List UInt32 := [s.a, s.b, s.c, s.d, s.e, s.f, s.g, s.z]
def S8.of (l : List UInt32) : S8 := ⟨l.getD 0 0, l.getD 1 0, l.getD 2 0, l.getD 3 0, l.getD 4 0, l.getD 5 0, l.getD 6 0, l.getD 7 0⟩
def one (k w : UInt32) (s : S8) : UInt32 :=
  s.z + ((((s.e <<< 26) ||| (s.e >>> 6)) ^^^ ((s.e <<< 21) ||| (s.e >>> 11))) ^^^ ((s.e <<< 7) ||| (s.e >>> 25))) + (s.g ^^^ (s.e &&& (s.f ^^^ s.g))) + k + w
def two (s : S8) : UInt32 :=
  ((((s.a <<< 30) ||| (s.a >>> 2)) ^^^ ((s.a <<< 19) ||| (s.a >>> 13))) ^^^ ((s.a <<< 10) ||| (s.a >>> 22))) + ((s.a &&& s.b) ||| (s.c &&& (s.a ||| s.b)))
def rnd (k w : UInt32) (s : S8) : S8 := ⟨one k w s + two s, s.a, s.b, s.c, s.d + one k w s, s.e, s.f, s.g⟩
def rounds (K ws : List UInt32) (s : S8) : Nat → S8
  | 0 => s
  | j + 1 => rnd (K.getD j 0) (ws.getD j 0) (rounds K ws s j)
def addTo (v st : List UInt32) : Nat → List UInt32
  | 0 => st
  | k + 1 => (addTo v st k).set k ((addTo v st k).getD k 0 + v.getD k 0)
/-- The state behind one block. -/
def compress (K st : List UInt32) (l : List UInt8) : List UInt32 := addTo (rounds K (fill2 (fill1 l 16) 48) (S8.of st) 64).list st 8

theorem length_fill1 (l : List UInt8) : ∀ k, (fill1 l k).length = 64
  | 0 => by simp [fill1]
  | k + 1 => by simp [fill1, length_fill1 l k]
theorem length_fill2 (ws : List UInt32) : ∀ k, (fill2 ws k).length = ws.length
  | 0 => rfl
  | k + 1 => by simp [fill2, length_fill2 ws k]
theorem length_addTo (v st : List UInt32) : ∀ k, (addTo v st k).length = st.length
  | 0 => rfl
  | k + 1 => by simp [addTo, length_addTo v st k]

/-- A row of words in a block of its own. -/
theorem uvs_cell {w : World} {B i : Nat} {ws : List UInt32} {t : TypeId} {fr : Nat × Nat} (h : w.heap[B]? = some (.cells (uvs ws).toArray t fr)) (hi : i < ws.length) : w.cell? ⟨B, i, none⟩ = some (uv (ws.getD i 0)) := by
  rw [cell_of_row w B i _ t fr h, ← Array.getElem?_toList]
  show (uvs ws)[i]? = _
  rw [uvs_getElem?, List.getElem?_eq_getElem hi]
  simp [List.getD, List.getElem?_eq_getElem hi]
theorem uvs_frozen {w : World} {B i : Nat} {ws : List UInt32} {t : TypeId} (h : w.heap[B]? = some (.cells (uvs ws).toArray t (0, 0))) : w.frozen? ⟨B, i, none⟩ = false := frozen_of_row w B i _ t h
theorem uvs_set {w : World} {B i : Nat} {ws : List UInt32} {t : TypeId} (x : UInt32) (h : w.heap[B]? = some (.cells (uvs ws).toArray t (0, 0))) :
    (w.setCell ⟨B, i, none⟩ (uv x)).heap[B]? = some (.cells (uvs (ws.set i x)).toArray t (0, 0)) := by
  rw [heap_setCell_same w B i _ t (uv x) h]
  simp [uvs, List.map_set]
theorem Row.byte {w : World} {b o n : Nat} {l : List UInt8} (h : Row w (some ⟨b, o, none⟩) n l) (i : Nat) (hi : i < l.length) : w.cell? ⟨b, o + i, none⟩ = some (bv (l.getD i 0)) := by
  rw [h.cell i hi]; simp [bv, List.getD, List.getElem?_eq_getElem hi]

/-- The cells of a hasher: its state, what rests, how much rests, how much was taken. -/
def hcells (st : List UInt32) (rest : List UInt8) (hv : Nat) (tk : UInt64) : List Value := uvs st ++ (bvs rest ++ [.int .i64 (hv : Int), .int .u64 (tk.toNat : Int)])
theorem hcells_state {w : World} {b i : Nat} {st : List UInt32} {rest : List UInt8} {hv : Nat} {tk : UInt64} {t : TypeId} {fr : Nat × Nat} (h : w.heap[b]? = some (.cells (hcells st rest hv tk).toArray t fr)) (hi : i < st.length) :
    w.cell? ⟨b, i, none⟩ = some (uv (st.getD i 0)) := by
  rw [cell_of_row w b i _ t fr h, ← Array.getElem?_toList]
  show (hcells st rest hv tk)[i]? = _
  unfold hcells
  rw [List.getElem?_append_left (by simpa using hi), uvs_getElem?, List.getElem?_eq_getElem hi]
  simp [List.getD, List.getElem?_eq_getElem hi]
theorem hcells_set {w : World} {b i : Nat} {st : List UInt32} {rest : List UInt8} {hv : Nat} {tk : UInt64} {t : TypeId} (x : UInt32) (h : w.heap[b]? = some (.cells (hcells st rest hv tk).toArray t (0, 0))) (hi : i < st.length) :
    (w.setCell ⟨b, i, none⟩ (uv x)).heap[b]? = some (.cells (hcells (st.set i x) rest hv tk).toArray t (0, 0)) := by
  rw [heap_setCell_same w b i _ t (uv x) h]
  congr 2
  simp only [List.setIfInBounds_toArray]
  congr 1
  unfold hcells
  rw [List.set_append_left _ _ (by simpa using hi)]
  simp [uvs, List.map_set]
theorem grownBy_setCell (w : World) (a : Addr) (u : Value) : w.grownBy (w.setCell a u) (some a.block) :=
  ⟨rfl, rfl, rfl, Nat.le_of_eq (by simp [World.setCell]), fun k _ hk => heap_setCell_other w a k u fun h => hk (by rw [h])⟩
/-- The state behind n blocks of a text. -/
def absorb (K : List UInt32) : List UInt32 → List UInt8 → Nat → List UInt32
  | st, _, 0 => st
  | st, l, n + 1 => absorb K (compress K st (l.take 64)) (l.drop 64) n
theorem absorb_cons (K st : List UInt32) (l : List UInt8) (n : Nat) : absorb K st l (n + 1) = absorb K (compress K st (l.take 64)) (l.drop 64) n := by rw [absorb]
theorem absorb_zero (K st : List UInt32) (l : List UInt8) : absorb K st l 0 = st := by rw [absorb]
theorem absorb_succ (K : List UInt32) : ∀ (n : Nat) (st : List UInt32) (l : List UInt8), absorb K st l (n + 1) = compress K (absorb K st l n) ((l.drop (64 * n)).take 64)
  | 0, st, l => by rw [absorb_cons, absorb_zero, absorb_zero, Nat.mul_zero, List.drop_zero]
  | n + 1, st, l => by
    rw [absorb_cons, absorb_succ K n, ← absorb_cons, List.drop_drop, show 64 + 64 * n = 64 * (n + 1) by omega]
theorem length_compress (K st : List UInt32) (l : List UInt8) : (compress K st l).length = st.length := length_addTo _ _ _
theorem length_absorb (K : List UInt32) : ∀ (n : Nat) (st : List UInt32) (l : List UInt8), (absorb K st l n).length = st.length
  | 0, _, _ => by rw [absorb_zero]
  | n + 1, st, l => by rw [absorb_cons, length_absorb K n, length_compress]

theorem hcells_at {w : World} {b : Nat} {st : List UInt32} {rest : List UInt8} {hv : Nat} {tk : UInt64} {t : TypeId} {fr : Nat × Nat} (h : w.heap[b]? = some (.cells (hcells st rest hv tk).toArray t fr)) (h8 : st.length = 8) (hr : rest.length = 64) :
    w.cell? ⟨b, 72, none⟩ = some (.int .i64 (hv : Int)) ∧ w.cell? ⟨b, 73, none⟩ = some (.int .u64 (tk.toNat : Int)) := by
  constructor
  · rw [cell_of_row w b 72 _ t fr h, ← Array.getElem?_toList]
    show (hcells st rest hv tk)[72]? = _
    unfold hcells
    rw [List.getElem?_append_right (by simp [h8]), List.getElem?_append_right (by simp [h8, hr])]
    simp [h8, hr]
  · rw [cell_of_row w b 73 _ t fr h, ← Array.getElem?_toList]
    show (hcells st rest hv tk)[73]? = _
    unfold hcells
    rw [List.getElem?_append_right (by simp [h8]), List.getElem?_append_right (by simp [h8, hr])]
    simp [h8, hr]
theorem hcells_set72 {w : World} {b : Nat} {st : List UInt32} {rest : List UInt8} {hv : Nat} {tk : UInt64} {t : TypeId} (n : Nat) (h : w.heap[b]? = some (.cells (hcells st rest hv tk).toArray t (0, 0))) (h8 : st.length = 8) (hr : rest.length = 64) :
    (w.setCell ⟨b, 72, none⟩ (.int .i64 (n : Int))).heap[b]? = some (.cells (hcells st rest n tk).toArray t (0, 0)) := by
  rw [heap_setCell_same w b 72 _ t _ h]
  congr 2
  simp only [List.setIfInBounds_toArray]
  congr 1
  unfold hcells
  rw [List.set_append_right _ _ (by simp [h8]), List.set_append_right _ _ (by simp [h8, hr])]
  simp [h8, hr]
theorem hcells_set73 {w : World} {b : Nat} {st : List UInt32} {rest : List UInt8} {hv : Nat} {tk : UInt64} {t : TypeId} (n : UInt64) (h : w.heap[b]? = some (.cells (hcells st rest hv tk).toArray t (0, 0))) (h8 : st.length = 8) (hr : rest.length = 64) :
    (w.setCell ⟨b, 73, none⟩ (.int .u64 (n.toNat : Int))).heap[b]? = some (.cells (hcells st rest hv n).toArray t (0, 0)) := by
  rw [heap_setCell_same w b 73 _ t _ h]
  congr 2
  simp only [List.setIfInBounds_toArray]
  congr 1
  unfold hcells
  rw [List.set_append_right _ _ (by simp [h8]), List.set_append_right _ _ (by simp [h8, hr])]
  simp [h8, hr]
theorem hcells_splice {st : List UInt32} {rest : List UInt8} {hv o : Nat} {tk : UInt64} (h8 : st.length = 8) (hr : rest.length = 64) (l : List UInt8) (ho : o + l.length ≤ 64) :
    splice (hcells st rest hv tk) (8 + o) (bvs l) = hcells st (splice rest o l) hv tk := by
  unfold splice hcells
  rw [length_bvs, List.take_append, List.drop_append, List.take_of_length_le (by simp [h8]), List.drop_of_length_le (by simp [h8]; omega)]
  rw [length_uvs, h8, show 8 + o - 8 = o by omega, show 8 + o + l.length - 8 = o + l.length by omega]
  rw [List.take_append_of_le_length (by simp [hr]; omega), List.drop_append_of_le_length (by simp [hr]; omega)]
  simp [bvs, uvs]
theorem length_splice' {rest l : List UInt8} {o : Nat} (h : o + l.length ≤ rest.length) : (splice rest o l).length = rest.length := length_splice rest o l h
theorem hcells_rest {w : World} {b : Nat} {st : List UInt32} {rest : List UInt8} {hv : Nat} {tk : UInt64} {t : TypeId} {fr : Nat × Nat} (h : w.heap[b]? = some (.cells (hcells st rest hv tk).toArray t fr)) (h8 : st.length = 8) :
    Row w (some ⟨b, 8, none⟩) rest.length rest :=
  Row.of_block h (by
    show ((hcells st rest hv tk).drop 8).take _ = _
    unfold hcells
    rw [List.drop_append, List.drop_of_length_le (by simp [h8]), length_uvs, h8]
    simp [bvs])
theorem wrap_taken (tk : UInt64) (n : Nat) : IntKind.u64.wrap ((tk.toNat : Int) + IntKind.u64.wrap (n : Int)) = ((tk + UInt64.ofNat n).toNat : Int) := by
  have h1 : ∀ m : Int, IntKind.u64.wrap m = m % 18446744073709551616 := fun m => by simp [IntKind.wrap, IntKind.signed, IntKind.bits]
  rw [h1, h1, UInt64.toNat_add, UInt64.toNat_ofNat']
  omega
theorem wrap_taken' (tk : UInt64) (n : Nat) : IntKind.u64.wrap ((tk.toNat : Int) + (n : Int)) = ((tk + UInt64.ofNat n).toNat : Int) := by
  have h1 : ∀ m : Int, IntKind.u64.wrap m = m % 18446744073709551616 := fun m => by simp [IntKind.wrap, IntKind.signed, IntKind.bits]
  rw [h1, UInt64.toNat_add, UInt64.toNat_ofNat']
  omega
theorem grownBy_of_below {w w' : World} (h : Below w.heap.size w w') (r : Option Nat) : w.grownBy w' r := ⟨h.os, h.tape, h.output, h.size, fun k hk _ => h.block k hk⟩
theorem grownBy_drewN {w w' : World} {r : Option Nat} (h : w.grownBy w' r) (q : Nat) : w.grownBy (w'.drewN q) r := ⟨h.os, h.tape, h.output, h.size, h.block⟩
theorem grownBy_set {w w' : World} {b i : Nat} (h : w.grownBy w' (some b)) (v : Value) : w.grownBy (w'.setCell ⟨b, i, none⟩ v) (some b) :=
  ⟨h.os, h.tape, h.output, by simpa [World.setCell] using h.size, fun k hk hne => (heap_setCell_other w' _ k v fun e => hne (by rw [e])).trans (h.block k hk hne)⟩
theorem grownBy_trans {w w1 w2 : World} {r : Option Nat} (h : w.grownBy w1 r) (h' : w1.grownBy w2 r) : w.grownBy w2 r :=
  ⟨h'.os.trans h.os, h'.tape.trans h.tape, h'.output.trans h.output, Nat.le_trans h.size h'.size, fun k hk hne => (h'.block k (Nat.lt_of_lt_of_le hk h.size) hne).trans (h.block k hk hne)⟩
end Go.Proofs.YteiepenanffhcaaDoor

/- One block taken: the walk of (*Hasher).step. -/
namespace Go.Proofs.YteiepenanffhcaaDoor
open Go Go.RowKit
set_option linter.unusedVariables false

theorem index8 (S : S8) (m : Nat) (hm : m < 8) (W : World) :
    (Instr.index 83 (.agg #[uv S.a, uv S.b, uv S.c, uv S.d, uv S.e, uv S.f, uv S.g, uv S.z]) (.int .i64 (m : Int))).run Tryd.prog W = .ok (uv (S.list.getD m 0)) W := by
  obtain rfl | rfl | rfl | rfl | rfl | rfl | rfl | rfl : m = 0 ∨ m = 1 ∨ m = 2 ∨ m = 3 ∨ m = 4 ∨ m = 5 ∨ m = 6 ∨ m = 7 := by omega
  all_goals kernel_rfl

set_option maxRecDepth 100000 in
set_option maxHeartbeats 4000000 in
theorem step_any (K st : List UInt32) (rest : List UInt8) (hv : Nat) (tk : UInt64) (b bp op cp : Nat) (l : List UInt8) (w : World) (hst : st.length = 8) (hK : K.length = 64)
    (hb : w.heap[b]? = some (.cells (hcells st rest hv tk).toArray 87 (0, 0))) (hp : Row w (some ⟨bp, op, none⟩) 64 l) (hc : 64 ≤ cp)
    (hk : ∀ i, i < 64 → w.cell? ⟨2, i, none⟩ = some (uv (K.getD i 0))) :
    Calls Tryd.prog 59 #[.pointer (some ⟨b, 0, none⟩), .slice (some ⟨bp, op, none⟩) 64 cp] w fun e w' =>
      e = .returned (.tuple #[]) ∧ w'.heap[b]? = some (.cells (hcells (compress K st l) rest hv tk).toArray 87 (0, 0)) ∧ w.grownBy w' (some b) := by
  have hbl := heap_lt hb
  have hpl := hp.lt (by omega)
  have hl := hp.1
  have hg1 : 2 < w.heap.size := block_lt_of_cell (hk 0 (by omega))
  have HL : Box (l.length = 64) := ⟨hl⟩
  have HB : Box (w.heap[b]? = some (.cells (hcells st rest hv tk).toArray 87 (0, 0))) := ⟨hb⟩
  have HK : Box (K.length = 64) := ⟨hK⟩
  clear hl hb hK
  have hi41 : Box ((Tryd.prog.info? 82).map (·.size) = some 1) := ⟨by kernel_rfl⟩
  have hal : Tryd.prog.arrayLen 93 = 64 := by kernel_rfl
  have hal8 : Tryd.prog.arrayLen 83 = 8 := by kernel_rfl
  go_enter Tryd.func59, Tryd.ntmps59
  go_wp2_with fail
  refine wp_anyWorld (fun W => Hid (W.heap[w.heap.size]? = some (.cells (uvs (List.replicate 64 0)).toArray 93 (0, 0))) ∧ Below w.heap.size w W ∧ w.heap.size < W.heap.size)
    ⟨heap_new rfl, Below.refl_alloc w _, by simp⟩ ?_
  rintro W ⟨g0, B0, s0⟩
  go_loopw [24, 5] (fun i t5 wr => ∃ k : Nat, k ≤ 16 ∧ i = .int .i64 k ∧ Hid (wr.heap[w.heap.size]? = some (.cells (uvs (fill1 l k)).toArray 93 (0, 0))) ∧ Below w.heap.size w wr ∧ w.heap.size < wr.heap.size) (fun i _ _ => 16 - (intOf i).toNat)
  case atStart => exact ⟨0, by omega, rfl, g0, B0, s0⟩
  case round =>
    obtain ⟨k, hk16, rfl, gr, Br, sr⟩ := hrel
    by_cases hlt : k < 16
    · have r0 := (hp.old Br).byte (4 * k) (by rw [HL.out]; omega)
      have r1 := (hp.old Br).byte (4 * k + 1) (by rw [HL.out]; omega)
      have r2 := (hp.old Br).byte (4 * k + 2) (by rw [HL.out]; omega)
      have r3 := (hp.old Br).byte (4 * k + 3) (by rw [HL.out]; omega)
      have hlen := length_fill1 l k
      have c0 := uvs_cell gr.out (i := k) (by omega)
      have z0 := uvs_frozen (i := k) gr.out
      clear hlen
      have k0 : (0 : Int) ≤ (k : Int) := by omega
      have k1 : (k : Int) < 64 := by omega
      have k2 : k < 64 := by omega
      have n0 : (0 : Int) ≤ 4 * (k : Int) := by omega
      have n1 : (0 : Int) ≤ 4 * (k : Int) + 1 := by omega
      have n2 : (0 : Int) ≤ 4 * (k : Int) + 2 := by omega
      have n3 : (0 : Int) ≤ 4 * (k : Int) + 3 := by omega
      have m0 : 4 * (k : Int) < 64 := by omega
      have m1 : 4 * (k : Int) + 1 < 64 := by omega
      have m2 : 4 * (k : Int) + 2 < 64 := by omega
      have m3 : 4 * (k : Int) + 3 < 64 := by omega
      have t0 : (4 * (k : Int)).toNat = 4 * k := by omega
      have t1 : (4 * (k : Int) + 1).toNat = 4 * k + 1 := by omega
      have t2 : (4 * (k : Int) + 2).toNat = 4 * k + 2 := by omega
      have t3 : (4 * (k : Int) + 3).toNat = 4 * k + 3 := by omega
      have e0 := IntWalk.i64_in (4 * (k : Int)) (by omega)
      have e1 := IntWalk.i64_in (4 * (k : Int) + 1) (by omega)
      have e2 := IntWalk.i64_in (4 * (k : Int) + 2) (by omega)
      have e3 := IntWalk.i64_in (4 * (k : Int) + 3) (by omega)
      go_wp2_with fail
      refine wp_region_tail 35 (by kernel_rfl) (by kernel_rfl) ?_
      simp only [List.take_succ_cons, List.take_zero, List.drop_succ_cons, List.drop_zero]
      repeat still_step
      refine wpStill_nil ?_
      clear n0 n1 n2 n3 m0 m1 m2 m3 t0 t1 t2 t3 e0 e1 e2 e3 r0 r1 r2 r3
      go_wp2_with (refine wpList_store_int rfl 82 (.tmp 61) (.tmp 60) rfl ⟨w.heap.size, k, none⟩ (uv (word l k)) rfl rfl ⟨_, _, rfl⟩ hi41.out ⟨_, c0⟩ z0 ?_)
      go_roundw
      case rel => exact ⟨k + 1, by omega, by go_num, uvs_set _ gr.out, Br.drew.setCell (by simp) _, by simpa using sr⟩
      case measure => simp [intOf]; omega
    · have g16 : Hid (wr.heap[w.heap.size]? = some (.cells (uvs (fill1 l 16)).toArray 93 (0, 0))) := by
        have e : k = 16 := by omega
        rw [← e]; exact gr
      clear gr
      go_wp2_with fail
      obtain ⟨wo, rfl⟩ : ∃ wo : World, wo = wr := ⟨_, rfl⟩
      go_loopw [6] (fun i wr => ∃ t : Nat, 16 ≤ t ∧ t ≤ 64 ∧ i = .int .i64 t ∧ Hid (wr.heap[w.heap.size]? = some (.cells (uvs (fill2 (fill1 l 16) (t - 16))).toArray 93 (0, 0))) ∧ Below w.heap.size w wr ∧ w.heap.size < wr.heap.size) (fun i _ => 64 - (intOf i).toNat)
      case atStart => exact ⟨16, by omega, by omega, rfl, g16, Br, sr⟩
      clear g16 Br sr
      case round =>
        obtain ⟨t, ht16, ht64, rfl, gr, Br, sr⟩ := hrel
        by_cases hlt : t < 64
        · have hlen : (fill2 (fill1 l 16) (t - 16)).length = 64 := by rw [length_fill2, length_fill1]
          have c2 := uvs_cell gr.out (i := t - 2) (by omega)
          have c15 := uvs_cell gr.out (i := t - 15) (by omega)
          have c7 := uvs_cell gr.out (i := t - 7) (by omega)
          have c16 := uvs_cell gr.out (i := t - 16) (by omega)
          have c0 := uvs_cell gr.out (i := t) (by omega)
          have z0 := uvs_frozen (i := t) gr.out
          have hnext : fill2 (fill1 l 16) (t + 1 - 16) = (fill2 (fill1 l 16) (t - 16)).set t (sched (fill2 (fill1 l 16) (t - 16)) t) := by
            rw [show t + 1 - 16 = (t - 16) + 1 by omega]
            show (fill2 (fill1 l 16) (t - 16)).set (16 + (t - 16)) (sched _ (16 + (t - 16))) = _
            rw [show 16 + (t - 16) = t by omega]
          have HN := Lib.hid hnext
          clear hlen hnext
          have k0 : (0 : Int) ≤ (t : Int) := by omega
          have k1 : (t : Int) < 64 := by omega
          have s7 : (7 : Int) ≤ (t : Int) := by omega
          have s16 : (16 : Int) ≤ (t : Int) := by omega
          have n2 : (0 : Int) ≤ (t : Int) - 2 := by omega
          have m2 : (t : Int) - 2 < 64 := by omega
          have t2 : ((t : Int) - 2).toNat = t - 2 := by omega
          have e2 := IntWalk.i64_in ((t : Int) - 2) (by omega)
          have n15 : (0 : Int) ≤ (t : Int) - 15 := by omega
          have m15 : (t : Int) - 15 < 64 := by omega
          have t15 : ((t : Int) - 15).toNat = t - 15 := by omega
          have e15 := IntWalk.i64_in ((t : Int) - 15) (by omega)
          have n7 : (0 : Int) ≤ (t : Int) - 7 := by omega
          have m7 : (t : Int) - 7 < 64 := by omega
          have t7 : ((t : Int) - 7).toNat = t - 7 := by omega
          have e7 := IntWalk.i64_in ((t : Int) - 7) (by omega)
          have n16 : (0 : Int) ≤ (t : Int) - 16 := by omega
          have m16 : (t : Int) - 16 < 64 := by omega
          have t16 : ((t : Int) - 16).toNat = t - 16 := by omega
          have e16 := IntWalk.i64_in ((t : Int) - 16) (by omega)
          go_wp2_with fail
          go_quiet (fail)
          go_wp2_with (go_at_call 63; (first | (with_reducible refine (rot_17 _ _).mono ?_) | (with_reducible refine (rot_19 _ _).mono ?_) | (with_reducible refine (rot_7 _ _).mono ?_) | (with_reducible refine (rot_18 _ _).mono ?_)); rintro e w' ⟨rfl, rfl⟩)
          refine wp_region_tail 15 (by kernel_rfl) (by kernel_rfl) ?_
          simp only [List.take_succ_cons, List.take_zero, List.drop_succ_cons, List.drop_zero]
          repeat still_step
          refine wpStill_nil ?_
          clear n2 m2 t2 e2 n15 m15 t15 e15 n7 m7 t7 e7 n16 m16 t16 e16 c2 c15 c7 c16
          go_wp2_with (refine wpList_store_int rfl 82 (.tmp 105) (.tmp 104) rfl ⟨w.heap.size, t, none⟩ (uv (sched (fill2 (fill1 l 16) (t - 16)) t)) rfl rfl ⟨_, _, rfl⟩ hi41.out ⟨_, c0⟩ z0 ?_)
          go_roundw
          case rel => exact ⟨t + 1, by omega, by omega, by go_num, by rw [HN.out]; exact uvs_set _ gr.out, (below_drewN Br _).setCell (by simp) _, by simpa using sr⟩
          case measure => simp [intOf]; omega
        · obtain ⟨ws, HWS, HW, g48⟩ : ∃ ws : List UInt32, Box (ws = fill2 (fill1 l 16) 48) ∧ Box (ws.length = 64) ∧ Hid (wr.heap[w.heap.size]? = some (.cells (uvs ws).toArray 93 (0, 0))) := by
            have e : t - 16 = 48 := by omega
            rw [e] at gr
            exact ⟨_, ⟨rfl⟩, ⟨by rw [length_fill2, length_fill1]⟩, gr⟩
          clear gr
          have hbr : Hid (wr.heap[b]? = some (.cells (hcells st rest hv tk).toArray 87 (0, 0))) := (Br.block b hbl).trans HB.out
          have HS : Box (st.length = 8) := ⟨hst⟩
          clear hst
          go_wp2_with fail
          have c0 := hcells_state hbr.out (i := 0) (by rw [HS.out]; omega)
          have c1 := hcells_state hbr.out (i := 1) (by rw [HS.out]; omega)
          have c2 := hcells_state hbr.out (i := 2) (by rw [HS.out]; omega)
          have c3 := hcells_state hbr.out (i := 3) (by rw [HS.out]; omega)
          have c4 := hcells_state hbr.out (i := 4) (by rw [HS.out]; omega)
          have c5 := hcells_state hbr.out (i := 5) (by rw [HS.out]; omega)
          have c6 := hcells_state hbr.out (i := 6) (by rw [HS.out]; omega)
          have c7 := hcells_state hbr.out (i := 7) (by rw [HS.out]; omega)
          go_quiet (fail)
          clear c0 c1 c2 c3 c4 c5 c6 c7
          go_wp2_with fail
          obtain ⟨wo, rfl⟩ : ∃ wo : World, wo = wr := ⟨_, rfl⟩
          go_loopw [146, 11, 12, 13, 14, 15, 16, 17, 18] (fun i va vb vc vd ve vf vg vz wr => ∃ j : Nat, j ≤ 64 ∧ i = .int .i64 j ∧ va = uv (rounds K ws (S8.of st) j).a ∧ vb = uv (rounds K ws (S8.of st) j).b ∧ vc = uv (rounds K ws (S8.of st) j).c ∧ vd = uv (rounds K ws (S8.of st) j).d ∧ ve = uv (rounds K ws (S8.of st) j).e ∧ vf = uv (rounds K ws (S8.of st) j).f ∧ vg = uv (rounds K ws (S8.of st) j).g ∧ vz = uv (rounds K ws (S8.of st) j).z ∧
              Hid (wr.heap[w.heap.size]? = some (.cells (uvs ws).toArray 93 (0, 0))) ∧ Below w.heap.size w wr ∧ w.heap.size < wr.heap.size) (fun i _ _ _ _ _ _ _ _ _ => 64 - (intOf i).toNat)
          case atStart => exact ⟨0, by omega, rfl, rfl, rfl, rfl, rfl, rfl, rfl, rfl, rfl, g48, below_drewN Br _, sr⟩
          clear g48 Br sr hbr
          case round =>
            obtain ⟨j, hj, rfl, rfl, rfl, rfl, rfl, rfl, rfl, rfl, rfl, g48, Br, sr⟩ := hrel
            generalize hS : rounds K ws (S8.of st) j = S
            have HSj : Box (rounds K ws (S8.of st) j = S) := ⟨hS⟩
            clear hS
            by_cases hlt : j < 64
            · have cW := uvs_cell g48.out (i := j) (by rw [HW.out]; exact hlt)
              have cK := (Br.cell (p := ⟨2, j, none⟩) hg1).trans (hk j hlt)
              have k0 : (0 : Int) ≤ (j : Int) := by omega
              have k1 : (j : Int) < 64 := by omega
              go_wp2_with fail
              refine wp_region_class (fun q => wr.drewN q) (by kernel_rfl) (by kernel_rfl) ⟨1, rfl⟩ ?_
              iterate 2 (go_big_quiet_step (fail))
              go_big_quiet_step (exact Calls.quiet_of_same (rotq_6 _ _))
              go_big_quiet_step (fail)
              go_big_quiet_step (exact Calls.quiet_of_same (rotq_11 _ _))
              iterate 2 (go_big_quiet_step (fail))
              go_big_quiet_step (exact Calls.quiet_of_same (rotq_25 _ _))
              repeat (go_big_quiet_step (fail))
              refine wpQuiet_nil ?_
              rintro _ ⟨nq, rfl⟩
              go_wp2_with (go_at_call 63; (first | (with_reducible refine (rot_2 _ _).mono ?_) | (with_reducible refine (rot_13 _ _).mono ?_) | (with_reducible refine (rot_22 _ _).mono ?_)); rintro e w' ⟨rfl, rfl⟩)
              go_roundw
              case rel =>
                refine ⟨j + 1, by omega, by go_num, ?_, ?_, ?_, ?_, ?_, ?_, ?_, ?_, g48, below_drewN Br _, sr⟩
                all_goals
                  have e : rounds K ws (S8.of st) (j + 1) = rnd (K.getD j 0) (ws.getD j 0) S := by rw [← HSj.out]; rfl
                  rw [e]; rfl
              case measure => simp [intOf]; omega
            · have hS64 : Box (rounds K ws (S8.of st) 64 = S) := by
                have e : j = 64 := by omega
                exact ⟨by rw [← e]; exact HSj.out⟩
              clear hk hp HK HSj
              go_wp2_with fail
              obtain ⟨wo2, rfl⟩ : ∃ wo2 : World, wo2 = wr := ⟨_, rfl⟩
              have hbr : Hid (wo2.heap[b]? = some (.cells (hcells st rest hv tk).toArray 87 (0, 0))) := (Br.block b hbl).trans HB.out
              go_loopw [215] (fun i wr => ∃ m : Nat, m ≤ 8 ∧ i = .int .i64 m ∧ Hid (wr.heap[b]? = some (.cells (hcells (addTo S.list st m) rest hv tk).toArray 87 (0, 0))) ∧ w.grownBy wr (some b)) (fun i _ => 8 - (intOf i).toNat)
              case atStart => exact ⟨0, by omega, rfl, hbr, grownBy_of_below Br _⟩
              clear hbr Br sr g48
              case round =>
                obtain ⟨m, hm, rfl, gb, Gr⟩ := hrel
                by_cases hlt : m < 8
                · have hla := length_addTo S.list st m
                  have cs := hcells_state gb.out (i := m) (by rw [hla, HS.out]; exact hlt)
                  have zs := frozen_of_row _ b m _ 87 gb.out
                  have hix : ∀ W : World, (Instr.index 83 (.agg #[uv S.a, uv S.b, uv S.c, uv S.d, uv S.e, uv S.f, uv S.g, uv S.z]) (.int .i64 (m : Int))).run Tryd.prog W = .ok (uv (S.list.getD m 0)) W := fun W => index8 S m hlt W
                  have hlm : Box (m < (addTo S.list st m).length) := ⟨by rw [hla, HS.out]; exact hlt⟩
                  clear hla
                  have k0 : (0 : Int) ≤ (m : Int) := by omega
                  have k1 : (m : Int) < 8 := by omega
                  go_wp2_with fail
                  refine wp_region_tail 11 (by kernel_rfl) (by kernel_rfl) ?_
                  simp only [List.take_succ_cons, List.take_zero, List.drop_succ_cons, List.drop_zero]
                  repeat still_step
                  refine wpStill_nil ?_
                  go_wp2_with (refine wpList_store_int rfl 82 (.tmp 229) (.tmp 226) rfl ⟨b, m, none⟩ (uv ((addTo S.list st m).getD m 0 + S.list.getD m 0)) rfl rfl ⟨_, _, rfl⟩ hi41.out ⟨_, cs⟩ zs ?_)
                  go_roundw
                  case rel => exact ⟨m + 1, by omega, by go_num, hcells_set _ gb.out hlm.out, grownBy_set (grownBy_drewN Gr 1) _⟩
                  case measure => simp [intOf]; omega
                · go_wp2_with fail
                  go_end0
                  have e8 : m = 8 := by omega
                  have hfin : compress K st l = addTo S.list st m := by
                    unfold compress
                    rw [← HWS.out, hS64.out, e8]
                  refine ⟨rfl, ?_, Gr⟩
                  rw [hfin]
                  exact gb.out
end Go.Proofs.YteiepenanffhcaaDoor
