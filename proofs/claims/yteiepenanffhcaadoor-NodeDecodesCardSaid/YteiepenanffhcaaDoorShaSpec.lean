/- The compression of one block, in plain Lean, as the program reckons it. -/
import Derived.Test.YteiepenanffhcaaDoorSha
namespace Go.Proofs.YteiepenanffhcaaDoor
open Go Go.RowKit

def rot (x : UInt32) (n m : UInt32) : UInt32 := (x <<< n) ||| (x >>> m)
def word (l : List UInt8) (t : Nat) : UInt32 :=
  (((l.getD (4 * t) 0).toUInt32 <<< 24) ||| ((l.getD (4 * t + 1) 0).toUInt32 <<< 16) ||| ((l.getD (4 * t + 2) 0).toUInt32 <<< 8)) ||| (l.getD (4 * t + 3) 0).toUInt32
def fill1 (l : List UInt8) : Nat → List UInt32
  | 0 => List.replicate 64 0
  | k + 1 => (fill1 l k).set k (word l k)
def low1 (x : UInt32) : UInt32 := (((x <<< 15) ||| (x >>> 17)) ^^^ ((x <<< 13) ||| (x >>> 19))) ^^^ (x >>> 10)
def low0 (x : UInt32) : UInt32 := (((x <<< 25) ||| (x >>> 7)) ^^^ ((x <<< 14) ||| (x >>> 18))) ^^^ (x >>> 3)
def sched (ws : List UInt32) (t : Nat) : UInt32 := low1 (ws.getD (t - 2) 0) + ws.getD (t - 7) 0 + low0 (ws.getD (t - 15) 0) + ws.getD (t - 16) 0
def fill2 (ws : List UInt32) : Nat → List UInt32
  | 0 => ws
  | j + 1 => (fill2 ws j).set (16 + j) (sched (fill2 ws j) (16 + j))
structure S8 where
  a : UInt32
  b : UInt32
  c : UInt32
  d : UInt32
  e : UInt32
  f : UInt32
  g : UInt32
  z : UInt32
def S8.list (s : S8) : List UInt32 := [s.a, s.b, s.c, s.d, s.e, s.f, s.g, s.z]
def S8.of (l : List UInt32) : S8 := ⟨l.getD 0 0, l.getD 1 0, l.getD 2 0, l.getD 3 0, l.getD 4 0, l.getD 5 0, l.getD 6 0, l.getD 7 0⟩
def one (k w : UInt32) (s : S8) : UInt32 :=
  s.z + ((((s.e <<< 26) ||| (s.e >>> 6)) ^^^ ((s.e <<< 21) ||| (s.e >>> 11))) ^^^ ((s.e <<< 7) ||| (s.e >>> 25))) + (s.g ^^^ (s.e &&& (s.f ^^^ s.g))) + k + w
def two (s : S8) : UInt32 :=
  ((((s.a <<< 30) ||| (s.a >>> 2)) ^^^ ((s.a <<< 19) ||| (s.a >>> 13))) ^^^ ((s.a <<< 10) ||| (s.a >>> 22))) + ((s.a &&& s.b) ||| (s.c &&& (s.a ||| s.b)))
def rnd (k w : UInt32) (s : S8) : S8 := ⟨one k w s + two s, s.a, s.b, s.c, s.d + one k w s, s.e, s.f, s.g⟩
def rounds (K ws : List UInt32) (s : S8) : Nat → S8
  | 0 => s
  | j + 1 => rnd (K.getD j 0) (ws.getD j 0) (rounds K ws s j)
def addTo (v st : List UInt32) : Nat → List UInt32
  | 0 => st
  | k + 1 => (addTo v st k).set k ((addTo v st k).getD k 0 + v.getD k 0)
/-- The state behind one block. -/
def compress (K st : List UInt32) (l : List UInt8) : List UInt32 := addTo (rounds K (fill2 (fill1 l 16) 48) (S8.of st) 64).list st 8

theorem length_fill1 (l : List UInt8) : ∀ k, (fill1 l k).length = 64
  | 0 => by simp [fill1]
  | k + 1 => by simp [fill1, length_fill1 l k]
theorem length_fill2 (ws : List UInt32) : ∀ k, (fill2 ws k).length = ws.length
  | 0 => rfl
  | k + 1 => by simp [fill2, length_fill2 ws k]
theorem length_addTo (v st : List UInt32) : ∀ k, (addTo v st k).length = st.length
  | 0 => rfl
  | k + 1 => by simp [addTo, length_addTo v st k]

/-- A row of words in a block of its own. -/
theorem uvs_cell {w : World} {B i : Nat} {ws : List UInt32} {t : TypeId} {fr : Nat × Nat} (h : w.heap[B]? = some (.cells (uvs ws).toArray t fr)) (hi : i < ws.length) : w.cell? ⟨B, i, none⟩ = some (uv (ws.getD i 0)) := by
  rw [cell_of_row w B i _ t fr h, ← Array.getElem?_toList]
  show (uvs ws)[i]? = _
  rw [uvs_getElem?, List.getElem?_eq_getElem hi]
  simp [List.getD, List.getElem?_eq_getElem hi]
theorem uvs_frozen {w : World} {B i : Nat} {ws : List UInt32} {t : TypeId} (h : w.heap[B]? = some (.cells (uvs ws).toArray t (0, 0))) : w.frozen? ⟨B, i, none⟩ = false := frozen_of_row w B i _ t h
theorem uvs_set {w : World} {B i : Nat} {ws : List UInt32} {t : TypeId} (x : UInt32) (h : w.heap[B]? = some (.cells (uvs ws).toArray t (0, 0))) :
    (w.setCell ⟨B, i, none⟩ (uv x)).heap[B]? = some (.cells (uvs (ws.set i x)).toArray t (0, 0)) := by
  rw [heap_setCell_same w B i _ t (uv x) h]
  simp [uvs, List.map_set]
theorem Row.byte {w : World} {b o n : Nat} {l : List UInt8} (h : Row w (some ⟨b, o, none⟩) n l) (i : Nat) (hi : i < l.length) : w.cell? ⟨b, o + i, none⟩ = some (bv (l.getD i 0)) := by
  rw [h.cell i hi]; simp [bv, List.getD, List.getElem?_eq_getElem hi]

/-- The cells of a hasher: its state, what rests, how much rests, how much was taken. -/
def hcells (st : List UInt32) (rest : List UInt8) (hv : Nat) (tk : UInt64) : List Value := uvs st ++ (bvs rest ++ [.int .i64 (hv : Int), .int .u64 (tk.toNat : Int)])
theorem hcells_state {w : World} {b i : Nat} {st : List UInt32} {rest : List UInt8} {hv : Nat} {tk : UInt64} {t : TypeId} {fr : Nat × Nat} (h : w.heap[b]? = some (.cells (hcells st rest hv tk).toArray t fr)) (hi : i < st.length) :
    w.cell? ⟨b, i, none⟩ = some (uv (st.getD i 0)) := by
  rw [cell_of_row w b i _ t fr h, ← Array.getElem?_toList]
  show (hcells st rest hv tk)[i]? = _
  unfold hcells
  rw [List.getElem?_append_left (by simpa using hi), uvs_getElem?, List.getElem?_eq_getElem hi]
  simp [List.getD, List.getElem?_eq_getElem hi]
theorem hcells_set {w : World} {b i : Nat} {st : List UInt32} {rest : List UInt8} {hv : Nat} {tk : UInt64} {t : TypeId} (x : UInt32) (h : w.heap[b]? = some (.cells (hcells st rest hv tk).toArray t (0, 0))) (hi : i < st.length) :
    (w.setCell ⟨b, i, none⟩ (uv x)).heap[b]? = some (.cells (hcells (st.set i x) rest hv tk).toArray t (0, 0)) := by
  rw [heap_setCell_same w b i _ t (uv x) h]
  congr 2
  simp only [List.setIfInBounds_toArray]
  congr 1
  unfold hcells
  rw [List.set_append_left _ _ (by simpa using hi)]
  simp [uvs, List.map_set]
theorem grownBy_setCell (w : World) (a : Addr) (u : Value) : w.grownBy (w.setCell a u) (some a.block) :=
  ⟨rfl, rfl, rfl, Nat.le_of_eq (by simp [World.setCell]), fun k _ hk => heap_setCell_other w a k u fun h => hk (by rw [h])⟩
/-- The state behind n blocks of a text. -/
def absorb (K : List UInt32) : List UInt32 → List UInt8 → Nat → List UInt32
  | st, _, 0 => st
  | st, l, n + 1 => absorb K (compress K st (l.take 64)) (l.drop 64) n
theorem absorb_cons (K st : List UInt32) (l : List UInt8) (n : Nat) : absorb K st l (n + 1) = absorb K (compress K st (l.take 64)) (l.drop 64) n := by rw [absorb]
theorem absorb_zero (K st : List UInt32) (l : List UInt8) : absorb K st l 0 = st := by rw [absorb]
theorem absorb_succ (K : List UInt32) : ∀ (n : Nat) (st : List UInt32) (l : List UInt8), absorb K st l (n + 1) = compress K (absorb K st l n) ((l.drop (64 * n)).take 64)
  | 0, st, l => by rw [absorb_cons, absorb_zero, absorb_zero, Nat.mul_zero, List.drop_zero]
  | n + 1, st, l => by
    rw [absorb_cons, absorb_succ K n, ← absorb_cons, List.drop_drop, show 64 + 64 * n = 64 * (n + 1) by omega]
theorem length_compress (K st : List UInt32) (l : List UInt8) : (compress K st l).length = st.length := length_addTo _ _ _
theorem length_absorb (K : List UInt32) : ∀ (n : Nat) (st : List UInt32) (l : List UInt8), (absorb K st l n).length = st.length
  | 0, _, _ => by rw [absorb_zero]
  | n + 1, st, l => by rw [absorb_cons, length_absorb K n, length_compress]

theorem hcells_at {w : World} {b : Nat} {st : List UInt32} {rest : List UInt8} {hv : Nat} {tk : UInt64} {t : TypeId} {fr : Nat × Nat} (h : w.heap[b]? = some (.cells (hcells st rest hv tk).toArray t fr)) (h8 : st.length = 8) (hr : rest.length = 64) :
    w.cell? ⟨b, 72, none⟩ = some (.int .i64 (hv : Int)) ∧ w.cell? ⟨b, 73, none⟩ = some (.int .u64 (tk.toNat : Int)) := by
  constructor
  · rw [cell_of_row w b 72 _ t fr h, ← Array.getElem?_toList]
    show (hcells st rest hv tk)[72]? = _
    unfold hcells
    rw [List.getElem?_append_right (by simp [h8]), List.getElem?_append_right (by simp [h8, hr])]
    simp [h8, hr]
  · rw [cell_of_row w b 73 _ t fr h, ← Array.getElem?_toList]
    show (hcells st rest hv tk)[73]? = _
    unfold hcells
    rw [List.getElem?_append_right (by simp [h8]), List.getElem?_append_right (by simp [h8, hr])]
    simp [h8, hr]
theorem hcells_set72 {w : World} {b : Nat} {st : List UInt32} {rest : List UInt8} {hv : Nat} {tk : UInt64} {t : TypeId} (n : Nat) (h : w.heap[b]? = some (.cells (hcells st rest hv tk).toArray t (0, 0))) (h8 : st.length = 8) (hr : rest.length = 64) :
    (w.setCell ⟨b, 72, none⟩ (.int .i64 (n : Int))).heap[b]? = some (.cells (hcells st rest n tk).toArray t (0, 0)) := by
  rw [heap_setCell_same w b 72 _ t _ h]
  congr 2
  simp only [List.setIfInBounds_toArray]
  congr 1
  unfold hcells
  rw [List.set_append_right _ _ (by simp [h8]), List.set_append_right _ _ (by simp [h8, hr])]
  simp [h8, hr]
theorem hcells_set73 {w : World} {b : Nat} {st : List UInt32} {rest : List UInt8} {hv : Nat} {tk : UInt64} {t : TypeId} (n : UInt64) (h : w.heap[b]? = some (.cells (hcells st rest hv tk).toArray t (0, 0))) (h8 : st.length = 8) (hr : rest.length = 64) :
    (w.setCell ⟨b, 73, none⟩ (.int .u64 (n.toNat : Int))).heap[b]? = some (.cells (hcells st rest hv n).toArray t (0, 0)) := by
  rw [heap_setCell_same w b 73 _ t _ h]
  congr 2
  simp only [List.setIfInBounds_toArray]
  congr 1
  unfold hcells
  rw [List.set_append_right _ _ (by simp [h8]), List.set_append_right _ _ (by simp [h8, hr])]
  simp [h8, hr]
theorem hcells_splice {st : List UInt32} {rest : List UInt8} {hv o : Nat} {tk : UInt64} (h8 : st.length = 8) (hr : rest.length = 64) (l : List UInt8) (ho : o + l.length ≤ 64) :
    splice (hcells st rest hv tk) (8 + o) (bvs l) = hcells st (splice rest o l) hv tk := by
  unfold splice hcells
  rw [length_bvs, List.take_append, List.drop_append, List.take_of_length_le (by simp [h8]), List.drop_of_length_le (by simp [h8]; omega)]
  rw [length_uvs, h8, show 8 + o - 8 = o by omega, show 8 + o + l.length - 8 = o + l.length by omega]
  rw [List.take_append_of_le_length (by simp [hr]; omega), List.drop_append_of_le_length (by simp [hr]; omega)]
  simp [bvs, uvs]
theorem length_splice' {rest l : List UInt8} {o : Nat} (h : o + l.length ≤ rest.length) : (splice rest o l).length = rest.length := length_splice rest o l h
theorem hcells_rest {w : World} {b : Nat} {st : List UInt32} {rest : List UInt8} {hv : Nat} {tk : UInt64} {t : TypeId} {fr : Nat × Nat} (h : w.heap[b]? = some (.cells (hcells st rest hv tk).toArray t fr)) (h8 : st.length = 8) :
    Row w (some ⟨b, 8, none⟩) rest.length rest :=
  Row.of_block h (by
    show ((hcells st rest hv tk).drop 8).take _ = _
    unfold hcells
    rw [List.drop_append, List.drop_of_length_le (by simp [h8]), length_uvs, h8]
    simp [bvs])
theorem wrap_taken (tk : UInt64) (n : Nat) : IntKind.u64.wrap ((tk.toNat : Int) + IntKind.u64.wrap (n : Int)) = ((tk + UInt64.ofNat n).toNat : Int) := by
  have h1 : ∀ m : Int, IntKind.u64.wrap m = m % 18446744073709551616 := fun m => by simp [IntKind.wrap, IntKind.signed, IntKind.bits]
  rw [h1, h1, UInt64.toNat_add, UInt64.toNat_ofNat']
  omega
theorem wrap_taken' (tk : UInt64) (n : Nat) : IntKind.u64.wrap ((tk.toNat : Int) + (n : Int)) = ((tk + UInt64.ofNat n).toNat : Int) := by
  have h1 : ∀ m : Int, IntKind.u64.wrap m = m % 18446744073709551616 := fun m => by simp [IntKind.wrap, IntKind.signed, IntKind.bits]
  rw [h1, UInt64.toNat_add, UInt64.toNat_ofNat']
  omega
theorem grownBy_of_below {w w' : World} (h : Below w.heap.size w w') (r : Option Nat) : w.grownBy w' r := ⟨h.os, h.tape, h.output, h.size, fun k hk _ => h.block k hk⟩
theorem grownBy_drewN {w w' : World} {r : Option Nat} (h : w.grownBy w' r) (q : Nat) : w.grownBy (w'.drewN q) r := ⟨h.os, h.tape, h.output, h.size, h.block⟩
theorem grownBy_set {w w' : World} {b i : Nat} (h : w.grownBy w' (some b)) (v : Value) : w.grownBy (w'.setCell ⟨b, i, none⟩ v) (some b) :=
  ⟨h.os, h.tape, h.output, by simpa [World.setCell] using h.size, fun k hk hne => (heap_setCell_other w' _ k v fun e => hne (by rw [e])).trans (h.block k hk hne)⟩
theorem grownBy_trans {w w1 w2 : World} {r : Option Nat} (h : w.grownBy w1 r) (h' : w1.grownBy w2 r) : w.grownBy w2 r :=
  ⟨h'.os.trans h.os, h'.tape.trans h.tape, h'.output.trans h.output, Nat.le_trans h.size h'.size, fun k hk hne => (h'.block k (Nat.lt_of_lt_of_le hk h.size) hne).trans (h.block k hk hne)⟩
end Go.Proofs.YteiepenanffhcaaDoor
