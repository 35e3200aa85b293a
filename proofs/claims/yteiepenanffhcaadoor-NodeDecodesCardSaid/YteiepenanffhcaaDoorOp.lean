/- The scripts' calls as cells, and the walk of upTo over them. -/
import Derived.Test.YteiepenanffhcaaDoorCopy
import Derived.Test.YteiepenanffhcaaDoorForm
import Derived.Test.YteiepenanffhcaaDoorNodeOf
namespace Go.Proofs.YteiepenanffhcaaDoor
open Go Go.RowKit
set_option linter.unusedVariables false

/-- One call of a script. -/
structure OpV where
  kind : Int
  w : Int
  n : Int
  m : Int
  k : D32
  d : D32
  e : D32
  vao : Option Addr
  vn : Nat
  vc : Nat
  nd : NodeV
/-- Its cells. -/
def opC (o : OpV) : List Value := [.int .i64 o.kind, .int .i64 o.w, .int .i64 o.n, .int .i64 o.m] ++ (bvs o.k.1 ++ (bvs o.d.1 ++ (bvs o.e.1 ++ ([.slice o.vao o.vn o.vc] ++ nodeC o.nd))))
theorem length_opC (o : OpV) : (opC o).length = 203 := by simp [opC, o.k.2, o.d.2, o.e.2, length_nodeC]
theorem opC_k (o : OpV) (j : Nat) (hj : j < 32) : (opC o).toArray[4 + j]? = (bvs o.k.1)[j]? := by
  rw [← Array.getElem?_toList]
  show (opC o)[4 + j]? = _
  unfold opC
  rw [List.getElem?_append_right (by simp), show 4 + j - [Value.int .i64 o.kind, .int .i64 o.w, .int .i64 o.n, .int .i64 o.m].length = j by simp, List.getElem?_append_left (by simp [o.k.2, hj])]
theorem opC_d (o : OpV) (j : Nat) (hj : j < 32) : (opC o).toArray[36 + j]? = (bvs o.d.1)[j]? := by
  rw [← Array.getElem?_toList]
  show (opC o)[36 + j]? = _
  unfold opC
  rw [List.getElem?_append_right (by simp; omega), show 36 + j - [Value.int .i64 o.kind, .int .i64 o.w, .int .i64 o.n, .int .i64 o.m].length = 32 + j by simp; omega, List.getElem?_append_right (by simp [o.k.2]), show 32 + j - (bvs o.k.1).length = j by simp [o.k.2], List.getElem?_append_left (by simp [o.d.2, hj])]
theorem opC_e (o : OpV) (j : Nat) (hj : j < 32) : (opC o).toArray[68 + j]? = (bvs o.e.1)[j]? := by
  rw [← Array.getElem?_toList]
  show (opC o)[68 + j]? = _
  unfold opC
  rw [List.getElem?_append_right (by simp; omega), show 68 + j - [Value.int .i64 o.kind, .int .i64 o.w, .int .i64 o.n, .int .i64 o.m].length = 64 + j by simp; omega, List.getElem?_append_right (by simp [o.k.2]; omega), show 64 + j - (bvs o.k.1).length = 32 + j by simp [o.k.2]; omega,
    List.getElem?_append_right (by simp [o.d.2]), show 32 + j - (bvs o.d.1).length = j by simp [o.d.2], List.getElem?_append_left (by simp [o.e.2, hj])]
theorem opC_tail (o : OpV) (j : Nat) : (opC o).toArray[100 + j]? = ([Value.slice o.vao o.vn o.vc] ++ nodeC o.nd)[j]? := by
  rw [← Array.getElem?_toList]
  show (opC o)[100 + j]? = _
  unfold opC
  rw [List.getElem?_append_right (by simp; omega), show 100 + j - [Value.int .i64 o.kind, .int .i64 o.w, .int .i64 o.n, .int .i64 o.m].length = 96 + j by simp; omega, List.getElem?_append_right (by simp [o.k.2]; omega), show 96 + j - (bvs o.k.1).length = 64 + j by simp [o.k.2]; omega,
    List.getElem?_append_right (by simp [o.d.2]; omega), show 64 + j - (bvs o.d.1).length = 32 + j by simp [o.d.2]; omega, List.getElem?_append_right (by simp [o.e.2]), show 32 + j - (bvs o.e.1).length = j by simp [o.e.2]]
theorem opC_val (o : OpV) : (opC o).toArray[100]? = some (.slice o.vao o.vn o.vc) := (opC_tail o 0).trans rfl
theorem opC_node (o : OpV) (j : Nat) : (opC o).toArray[101 + j]? = (nodeC o.nd)[j]? := by
  rw [show 101 + j = 100 + (1 + j) by omega, opC_tail o (1 + j), List.getElem?_append_right (by simp), show 1 + j - [Value.slice o.vao o.vn o.vc].length = j by simp]
theorem opC_nval (o : OpV) : (opC o).toArray[202]? = some (.slice o.nd.ao o.nd.n o.nd.c) := by
  rw [show 202 = 101 + 101 from rfl, opC_node, ← List.getElem?_toArray]
  exact nodeC_val o.nd
theorem opC_all (o : OpV) : (opC o).toArray.all (·.oneCell') = true := by
  rw [Array.all_eq_true_iff_forall_mem]
  intro v hv
  have hv' : v ∈ opC o := by simpa using hv
  unfold opC at hv'
  simp only [List.mem_append, List.mem_cons, List.not_mem_nil, or_false] at hv'
  rcases hv' with (rfl | rfl | rfl | rfl) | h | h | h | rfl | h
  · rfl
  · rfl
  · rfl
  · rfl
  · exact bvs_oneCell _ v h
  · exact bvs_oneCell _ v h
  · exact bvs_oneCell _ v h
  · rfl
  · have := Array.all_eq_true_iff_forall_mem.1 (nodeC_all o.nd) v (by simpa using h)
    exact this
def zeroOp : OpV := ⟨0, 0, 0, 0, zero32, zero32, zero32, none, 0, 0, noNode⟩
theorem opSize (o : OpV) : Box ((Tryd.prog.info? 32).map (·.size) = some (opC o).toArray.size) := ⟨by
  have h : (Tryd.prog.info? 32).map (·.size) = some 203 := by kernel_rfl
  rw [h, List.size_toArray, length_opC]⟩
theorem opSize2 (x y : OpV) : Box ((opC x).toArray.size = (opC y).toArray.size) := ⟨by rw [List.size_toArray, List.size_toArray, length_opC, length_opC]⟩
theorem opUnder : ∃ fs, Tryd.prog.underlying 32 = some (.struct fs) := ⟨_, Tryd.underlying32⟩

/-- A script in memory. -/
def Ops (w : World) (ao : Option Addr) (n : Nat) (os : List OpV) : Prop :=
  os.length = n ∧ ∀ i, (h : i < os.length) → ∃ b o, ao = some ⟨b, o, none⟩ ∧ w.rangeAt b (o + i * 203) (opC os[i])
theorem Ops.at0 {w : World} {ao : Option Addr} {n : Nat} {os : List OpV} (h : Ops w ao n os) (hn : 0 < n) : ∃ b o, ao = some ⟨b, o, none⟩ := by
  obtain ⟨hl, hc⟩ := h
  obtain ⟨b, o, e, _⟩ := hc 0 (by omega)
  exact ⟨b, o, e⟩
theorem Ops.range {w : World} {b o n : Nat} {os : List OpV} (h : Ops w (some ⟨b, o, none⟩) n os) (i : Nat) (hi : i < os.length) : w.rangeAt b (o + i * 203) (opC os[i]) := by
  obtain ⟨b', o', e, hc⟩ := h.2 i hi
  cases e; exact hc
theorem rangeAt_lt {w : World} {b o : Nat} {cs : List Value} (h : w.rangeAt b o cs) (hn : 0 < cs.length) : b < w.heap.size :=
  block_lt_of_cell (h 0 _ (List.getElem?_eq_getElem hn))
theorem Ops.old {w w' : World} {ao : Option Addr} {n : Nat} {os : List OpV} (h : Ops w ao n os) (hb : Below w.heap.size w w') : Ops w' ao n os :=
  ⟨h.1, fun i hi => by
    obtain ⟨b, o, e, hc⟩ := h.2 i hi
    exact ⟨b, o, e, rangeAt_below hc hb (rangeAt_lt hc (by rw [length_opC]; omega))⟩⟩

section
variable {P : Program} {Q : Exit → Act → World → Prop} {ops : Array Oper} {rest : List Oper} {o : Oper} {a : Act} {w : World}
theorem arm_mid (ty : TypeId) (x : Operand) (ho : o.op = .load ty x) (hw : Region.wanted o (yielded ops a.tmps) = true)
    (b off : Nat) (hx : a.eval x = .pointer (some ⟨b, off, none⟩)) (cs : List Value) (d : TypeDesc) (hS : w.rangeAt b off cs) (hu : P.underlying ty = some d) (hd : d.isRow = true) (hi : (P.info? ty).map (·.size) = some cs.length)
    (h : wpList P ops Q rest (a.put o.dst (.agg cs.toArray)) w) : wpList P ops Q (o :: rest) a w :=
  wpList_load_midg hw ty x ho b off hx cs d hS hu hd hi h
theorem arm_store_row (ty : TypeId) (x y : Operand) (ho : o.op = .store ty x y) (hgd : o.guard = none)
    (g : Nat) (old cells : Array Value) (et : TypeId) (hx : a.eval x = .pointer (some ⟨g, 0, none⟩)) (hy : a.eval y = .agg cells) (hg : w.heap[g]? = some (.cells old et (0, 0))) (hs : old.size = cells.size)
    (hi : (P.info? ty).map (·.size) = some cells.size) (h1 : cells.all (·.oneCell') = true)
    (h : ∀ w', Hid (w'.heap[g]? = some (.cells cells et (0, 0))) → w.grownBy w' (some g) → wpList P ops Q rest (a.put o.dst undef) w') : wpList P ops Q (o :: rest) a w :=
  wpList_store_row hgd ty x y ho g old cells et hx hy hg hs hi h1 h
end
end Go.Proofs.YteiepenanffhcaaDoor
