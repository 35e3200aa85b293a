/- Decode of a record. -/
import Derived.Test.YtocfiabbhcgegaaIEnc
import Derived.Test.YtocfiabbhcgegaaRead
import Derived.Test.YtocfiabbhcgegaaDecode
namespace Go.Proofs.Ytocfiabbhcgegaa
open Go Go.RowKit
set_option linter.unusedVariables false

theorem or4 (x0 x1 x2 x3 : UInt8) : bits .or .i64 (bits .or .i64 (bits .or .i64 (x0.toNat : Int) ((x1.toNat : Int) * 256)) ((x2.toNat : Int) * 65536)) ((x3.toNat : Int) * 16777216) = ((x0.toNat + 256 * x1.toNat + 65536 * x2.toNat + 16777216 * x3.toNat : Nat) : Int) := by
  have y0 := x0.toNat_lt
  have y1 := x1.toNat_lt
  have y2 := x2.toNat_lt
  have y3 := x3.toNat_lt
  have e1 := or_add x0.toNat x1.toNat 8 (by omega) (by omega) (by omega)
  have e2 := or_add (x0.toNat + x1.toNat * 2 ^ 8) x2.toNat 16 (by omega) (by omega) (by omega)
  have e3 := or_add (x0.toNat + x1.toNat * 2 ^ 8 + x2.toNat * 2 ^ 16) x3.toNat 24 (by omega) (by omega) (by omega)
  rw [show (256 : Int) = ((2 ^ 8 : Nat) : Int) from rfl, show (65536 : Int) = ((2 ^ 16 : Nat) : Int) from rfl, show (16777216 : Int) = ((2 ^ 24 : Nat) : Int) from rfl, e1, e2, e3]
  congr 1
  omega
theorem cell_drew {W : World} {p : Addr} {v : Value} (h : W.cell? p = some v) : W.drew.cell? p = some v := h
theorem row_four {w : World} {b o : Nat} {l : List UInt8} (h : Row w (some ⟨b, o, none⟩) 56 l) (m : Nat) (hm : m + 4 ≤ 56) :
    ∃ u0 u1 u2 u3 : UInt8, w.cell? ⟨b, o + m, none⟩ = some (.int .u8 (u0.toNat : Int)) ∧ w.cell? ⟨b, o + m + 1, none⟩ = some (.int .u8 (u1.toNat : Int)) ∧ w.cell? ⟨b, o + m + 2, none⟩ = some (.int .u8 (u2.toNat : Int)) ∧ w.cell? ⟨b, o + m + 3, none⟩ = some (.int .u8 (u3.toNat : Int)) ∧
      ((dec4 (l.drop m) : Nat) : Int) = bits .or .i64 (bits .or .i64 (bits .or .i64 (u0.toNat : Int) ((u1.toNat : Int) * 256)) ((u2.toNat : Int) * 65536)) ((u3.toNat : Int) * 16777216) := by
  have hl := h.1
  have c0 := h.cell m (by omega)
  have c1 := h.cell (m + 1) (by omega)
  have c2 := h.cell (m + 2) (by omega)
  have c3 := h.cell (m + 3) (by omega)
  refine ⟨_, _, _, _, c0, c1, c2, c3, ?_⟩
  rw [or4]
  congr 1
  unfold dec4
  simp [List.getD, List.getElem?_drop, List.getElem?_eq_getElem (show m < l.length by omega), List.getElem?_eq_getElem (show m + 1 < l.length by omega), List.getElem?_eq_getElem (show m + 2 < l.length by omega), List.getElem?_eq_getElem (show m + 3 < l.length by omega)]
theorem rec_frozen {W : World} {g k : Nat} {C : Array Value} {e : TypeId} (h : W.heap[g]? = some (.cells C e (0, 0))) : W.frozen? ⟨g, k, none⟩ = false := by
  unfold World.frozen?
  rw [h]
  simp
theorem set_rec {U : World} {B k : Nat} {x y : RecV} {v : Value} {e : TypeId} (S : U.heap[B]? = some (.cells (recC x).toArray e (0, 0))) (hy : (recC x).set k v = recC y) : (U.setCell ⟨B, k, none⟩ v).heap[B]? = some (.cells (recC y).toArray e (0, 0)) := by
  rw [heap_setCell_same U B k _ e _ S, ← hy]
  congr 2
  apply Array.ext'
  simp
theorem splice_rec (a b c d e f : Int) (s : List UInt8) (h : s.length = 32) : splice (recC ⟨a, b, c, d, e, f, zero32⟩) 6 (bvs s) = recC ⟨a, b, c, d, e, f, keyOf s⟩ := by
  have e1 : (keyOf s).1 = s := by rw [keyOf_eq (by omega), List.take_of_length_le (by omega)]
  unfold splice
  have hd : (recC ⟨a, b, c, d, e, f, zero32⟩).drop (6 + (bvs s).length) = [] := List.drop_of_length_le (by rw [length_recC, length_bvs, h]; omega)
  rw [hd, List.append_nil]
  show [Value.int .i64 a, .int .i64 b, .int .i64 c, .int .i64 d, .int .i64 e, .int .i64 f] ++ bvs s = [Value.int .i64 a, .int .i64 b, .int .i64 c, .int .i64 d, .int .i64 e, .int .i64 f] ++ bvs (keyOf s).1
  rw [e1]
/-- What 56 bytes tell. -/
def decR (l : List UInt8) : RecV := ⟨(dec4 (l.drop 0) : Int), (dec4 (l.drop 4) : Int), (dec4 (l.drop 8) : Int), (dec4 (l.drop 12) : Int), (dec4 (l.drop 16) : Int), (dec4 (l.drop 20) : Int), keyOf (l.drop 24)⟩
def decRok (l : List UInt8) : Bool := decide (l.length = 56) && rightR (decR l)

set_option maxRecDepth 100000 in
set_option maxHeartbeats 4000000 in
theorem idec_short (ao : Option Addr) (n c : Nat) (w : World) (h : n ≠ 56) :
    Calls Try.prog 7 #[.slice ao n c] w fun e w' => e = .returned (.tuple #[.agg (recC noRec).toArray, .int .i64 150]) ∧ Below w.heap.size w w' := by
  have hz : ∀ W : World, (zeroValue 25).run Try.prog W = .ok (.agg (recC noRec).toArray) W := fun W => by kernel_rfl
  have hb : Box (Try.prog.built 25 [] = some (recC noRec).toArray) := ⟨by kernel_rfl⟩
  have hi : Box ((Try.prog.info? 25).map (·.size) = some (recC noRec).toArray.size) := ⟨by
    have h : (Try.prog.info? 25).map (·.size) = some 38 := by kernel_rfl
    rw [h, List.size_toArray, length_recC]⟩
  have ha := Box.mk (recC_all noRec)
  have hne : ((n : Int) != 56) = true := by rw [bne_iff_ne]; omega
  generalize (recC noRec).toArray = zn at *
  have F0 := Box.mk (show (w.alloc (.cells zn 25)).heap[w.heap.size]? = some (.cells zn 25 (0, 0)) from heap_new rfl)
  clear h
  go_enter Try.func7, Try.ntmps7
  go_wp2_with (first
    | ((with_reducible refine wpList_builtg ?_ 25 [] ?_ [] ?_ zn hb.out ?_); rfl; rfl; rfl)
    | ((with_reducible refine wpList_store_row rfl 25 (.tmp 2) (.tmp 11) ?_ w.heap.size zn zn 25 ?_ ?_ F0.out rfl hi.out ha.out ?_); rfl; rfl; rfl))
  intro w2 g2 G2
  have b2 : Below w.heap.size w w2 := (Below.refl_alloc w _).grown G2 (by simp) (fun k hk => by cases hk; exact Nat.le_refl _)
  go_wp2
  exact bodyPost_ret (v := .tuple #[.agg zn, .int .i64 150]) (results_row_tmp (p := 2) (u := 3) (ty := 25) rfl _ _ w.heap.size 25 _ (0, 0) _ rfl g2.out Try.underlying25 rfl hi.out _ rfl) rfl ⟨rfl, b2⟩

set_option maxRecDepth 100000 in
set_option maxHeartbeats 4000000 in
theorem idec_full (b o c : Nat) (l : List UInt8) (w : World) (h : Row w (some ⟨b, o, none⟩) 56 l) (hc : 56 ≤ c) (hmx : c ≤ 9223372036854775807) :
    Calls Try.prog 7 #[.slice (some ⟨b, o, none⟩) 56 c] w fun e w' => e = .returned (.tuple #[.agg (recC (if rightR (decR l) = true then decR l else noRec)).toArray, .int .i64 (if rightR (decR l) = true then 0 else 150)]) ∧ Below w.heap.size w w' := by
  have hz : ∀ W : World, (zeroValue 25).run Try.prog W = .ok (.agg (recC noRec).toArray) W := fun W => by kernel_rfl
  have hb : Box (Try.prog.built 25 [] = some (recC noRec).toArray) := ⟨by kernel_rfl⟩
  have hi : ∀ x : RecV, Box ((Try.prog.info? 25).map (·.size) = some (recC x).toArray.size) := fun x => ⟨by
    have h : (Try.prog.info? 25).map (·.size) = some 38 := by kernel_rfl
    rw [h, List.size_toArray, length_recC]⟩
  have hss : ∀ x y : RecV, Box ((recC x).toArray.size = (recC y).toArray.size) := fun x y => ⟨by rw [List.size_toArray, List.size_toArray, length_recC, length_recC]⟩
  have ha : ∀ x : RecV, Box ((recC x).toArray.all (·.oneCell') = true) := fun x => ⟨recC_all x⟩
  have hi3 : Box ((Try.prog.info? 3).map (·.size) = some 1) := ⟨by kernel_rfl⟩
  have x0 : ∀ (a b c d e f : Value) (W : World), (Instr.index 61 (.agg #[a, b, c, d, e, f]) (.int .i64 0)).run Try.prog W = .ok a W := fun a b c d e f W => by kernel_rfl
  have x1 : ∀ (a b c d e f : Value) (W : World), (Instr.index 61 (.agg #[a, b, c, d, e, f]) (.int .i64 1)).run Try.prog W = .ok b W := fun a b c d e f W => by kernel_rfl
  have x2 : ∀ (a b c d e f : Value) (W : World), (Instr.index 61 (.agg #[a, b, c, d, e, f]) (.int .i64 2)).run Try.prog W = .ok c W := fun a b c d e f W => by kernel_rfl
  have x3 : ∀ (a b c d e f : Value) (W : World), (Instr.index 61 (.agg #[a, b, c, d, e, f]) (.int .i64 3)).run Try.prog W = .ok d W := fun a b c d e f W => by kernel_rfl
  have x4 : ∀ (a b c d e f : Value) (W : World), (Instr.index 61 (.agg #[a, b, c, d, e, f]) (.int .i64 4)).run Try.prog W = .ok e W := fun a b c d e f W => by kernel_rfl
  have x5 : ∀ (a b c d e f : Value) (W : World), (Instr.index 61 (.agg #[a, b, c, d, e, f]) (.int .i64 5)).run Try.prog W = .ok f W := fun a b c d e f W => by kernel_rfl
  obtain ⟨er, her⟩ : ∃ z : Int, (if rightR (decR l) = true then (0 : Int) else 150) = z := ⟨_, rfl⟩
  obtain ⟨yr, hyr⟩ : ∃ z : RecV, (if rightR (decR l) = true then decR l else noRec) = z := ⟨_, rfl⟩
  rw [her, hyr]
  obtain ⟨zr, hzr⟩ : ∃ z, (recC yr).toArray = z := ⟨_, rfl⟩
  rw [hzr]
  have HER := Box.mk her
  have HYR := Box.mk hyr
  have HZR := Box.mk hzr
  clear her hyr hzr
  have HL := Box.mk h
  have HB0 := Box.mk (Below.refl_alloc w (.cells (recC noRec).toArray 25))
  have A0 := Box.mk (show (w.alloc (.cells (recC noRec).toArray 25)).heap[w.heap.size]? = some (.cells (recC noRec).toArray 25 (0, 0)) from heap_new rfl)
  have hsz0 := Box.mk (show (w.alloc (.cells (recC noRec).toArray 25)).heap.size = w.heap.size + 1 by simp)
  clear h
  go_enter Try.func7, Try.ntmps7
  go_upto_region 4 with fail
  generalize w.alloc (.cells (recC noRec).toArray 25) = wa at *
  have hB1 := Box.mk (Below.refl_alloc wa (.cells (recC noRec).toArray 25))
  have HB1 := Box.mk (HB0.out.trans (hB1.out.mono HB0.out.size))
  have A1 := Box.mk ((hB1.out.block _ (heap_lt A0.out)).trans A0.out)
  have S1 := Box.mk (show (wa.alloc (.cells (recC noRec).toArray 25)).heap[w.heap.size + 1]? = some (.cells (recC ⟨0, 0, 0, 0, 0, 0, zero32⟩).toArray 25 (0, 0)) from heap_new hsz0.out.symm)
  generalize wa.alloc (.cells (recC noRec).toArray 25) = w1 at *
  clear HB0 A0 hsz0 hB1
  obtain ⟨g, hg⟩ : ∃ z, w.heap.size + 1 = z := ⟨_, rfl⟩
  rw [hg] at S1 ⊢
  have HG := Box.mk (show w.heap.size < g by omega)
  clear hg
  go_wp2
  refine wp_loop_rounds 7 ?_
  rw [rounds_succ]
  go_wp2_with fail
  obtain ⟨u0, u1, u2, u3, q0, q1, q2, q3, hv⟩ := row_four (HL.out.old HB1.out) 0 (by omega)
  rw [Nat.add_zero] at q0 q1 q2 q3
  have q0 := cell_drew q0
  have q1 := cell_drew q1
  have q2 := cell_drew q2
  have q3 := cell_drew q3
  obtain ⟨d0, hd0⟩ : ∃ z, dec4 (l.drop 0) = z := ⟨_, rfl⟩
  rw [hd0] at hv
  have HV := Box.mk hv
  have HD0 := Box.mk hd0
  clear hv hd0
  have t0 := u0.toNat_lt
  have t1 := u1.toNat_lt
  have t2 := u2.toNat_lt
  have t3 := u3.toNat_lt
  have p0 := IntWalk.i64_in (u0.toNat : Int) (by omega)
  have p1 := IntWalk.i64_in (u1.toNat : Int) (by omega)
  have p2 := IntWalk.i64_in (u2.toNat : Int) (by omega)
  have p3 := IntWalk.i64_in (u3.toNat : Int) (by omega)
  have r1 := IntWalk.i64_in ((u1.toNat : Int) * 256) (by omega)
  have r2 := IntWalk.i64_in ((u2.toNat : Int) * 65536) (by omega)
  have r3 := IntWalk.i64_in ((u3.toNat : Int) * 16777216) (by omega)
  clear t0 t1 t2 t3
  have ck := Box.mk (show ∃ u, w1.drew.cell? ⟨g, 0, none⟩ = some u from ⟨_, (rec_cells (W := w1.drew) S1.out).1⟩)
  have cf := Box.mk (show w1.drew.frozen? ⟨g, 0, none⟩ = false from rec_frozen (W := w1.drew) S1.out)
  refine wp_region_tail 24 (by kernel_rfl) (by kernel_rfl) ?_
  simp only [List.take_succ_cons, List.take_zero, List.drop_succ_cons, List.drop_zero]
  repeat still_step
  refine wpStill_nil ?_
  clear q0 q1 q2 q3 p0 p1 p2 p3 r1 r2 r3
  go_wp2_with (refine wpList_store_int rfl 3 (.tmp 50) (.tmp 49) rfl ⟨g, 0, none⟩ (.int .i64 (bits .or .i64 (bits .or .i64 (bits .or .i64 (u0.toNat : Int) ((u1.toNat : Int) * 256)) ((u2.toNat : Int) * 65536)) ((u3.toNat : Int) * 16777216))) rfl rfl ⟨_, _, rfl⟩ hi3.out ck.out cf.out ?_)
  rw [← HV.out]
  have S2 := Box.mk (show (w1.setCell ⟨g, 0, none⟩ (.int .i64 (d0 : Int))).drew.heap[g]? = some (.cells (recC ⟨(d0 : Int), 0, 0, 0, 0, 0, zero32⟩).toArray 25 (0, 0)) from set_rec (U := w1) (k := 0) (x := ⟨0, 0, 0, 0, 0, 0, zero32⟩) S1.out rfl)
  have HB2 := Box.mk (show Below w.heap.size w (w1.setCell ⟨g, 0, none⟩ (.int .i64 (d0 : Int))).drew from (Below.setCell HB1.out (by have := HG.out; show w.heap.size ≤ g; omega) _).drew)
  have A2 := Box.mk (show (w1.setCell ⟨g, 0, none⟩ (.int .i64 (d0 : Int))).drew.heap[w.heap.size]? = some (.cells (recC noRec).toArray 25 (0, 0)) from (heap_setCell_other w1 ⟨g, 0, none⟩ w.heap.size (.int .i64 (d0 : Int)) (by have := HG.out; show w.heap.size ≠ g; omega)).trans A1.out)
  generalize (w1.setCell ⟨g, 0, none⟩ (.int .i64 (d0 : Int))).drew = w2 at *
  clear S1 A1 ck cf HV
  rw [rounds_succ]
  go_wp2_with fail
  obtain ⟨u0, u1, u2, u3, q0, q1, q2, q3, hv⟩ := row_four (HL.out.old HB2.out) 4 (by omega)
  have q0 := cell_drew q0
  have q1 := cell_drew q1
  have q2 := cell_drew q2
  have q3 := cell_drew q3
  obtain ⟨d1, hd1⟩ : ∃ z, dec4 (l.drop 4) = z := ⟨_, rfl⟩
  rw [hd1] at hv
  have HV := Box.mk hv
  have HD1 := Box.mk hd1
  clear hv hd1
  have t0 := u0.toNat_lt
  have t1 := u1.toNat_lt
  have t2 := u2.toNat_lt
  have t3 := u3.toNat_lt
  have p0 := IntWalk.i64_in (u0.toNat : Int) (by omega)
  have p1 := IntWalk.i64_in (u1.toNat : Int) (by omega)
  have p2 := IntWalk.i64_in (u2.toNat : Int) (by omega)
  have p3 := IntWalk.i64_in (u3.toNat : Int) (by omega)
  have r1 := IntWalk.i64_in ((u1.toNat : Int) * 256) (by omega)
  have r2 := IntWalk.i64_in ((u2.toNat : Int) * 65536) (by omega)
  have r3 := IntWalk.i64_in ((u3.toNat : Int) * 16777216) (by omega)
  clear t0 t1 t2 t3
  have ck := Box.mk (show ∃ u, w2.drew.cell? ⟨g, 1, none⟩ = some u from ⟨_, (rec_cells (W := w2.drew) S2.out).2.1⟩)
  have cf := Box.mk (show w2.drew.frozen? ⟨g, 1, none⟩ = false from rec_frozen (W := w2.drew) S2.out)
  refine wp_region_tail 24 (by kernel_rfl) (by kernel_rfl) ?_
  simp only [List.take_succ_cons, List.take_zero, List.drop_succ_cons, List.drop_zero]
  repeat still_step
  refine wpStill_nil ?_
  clear q0 q1 q2 q3 p0 p1 p2 p3 r1 r2 r3
  go_wp2_with (refine wpList_store_int rfl 3 (.tmp 50) (.tmp 49) rfl ⟨g, 1, none⟩ (.int .i64 (bits .or .i64 (bits .or .i64 (bits .or .i64 (u0.toNat : Int) ((u1.toNat : Int) * 256)) ((u2.toNat : Int) * 65536)) ((u3.toNat : Int) * 16777216))) rfl rfl ⟨_, _, rfl⟩ hi3.out ck.out cf.out ?_)
  rw [← HV.out]
  have S3 := Box.mk (show (w2.setCell ⟨g, 1, none⟩ (.int .i64 (d1 : Int))).drew.heap[g]? = some (.cells (recC ⟨(d0 : Int), (d1 : Int), 0, 0, 0, 0, zero32⟩).toArray 25 (0, 0)) from set_rec (U := w2) (k := 1) (x := ⟨(d0 : Int), 0, 0, 0, 0, 0, zero32⟩) S2.out rfl)
  have HB3 := Box.mk (show Below w.heap.size w (w2.setCell ⟨g, 1, none⟩ (.int .i64 (d1 : Int))).drew from (Below.setCell HB2.out (by have := HG.out; show w.heap.size ≤ g; omega) _).drew)
  have A3 := Box.mk (show (w2.setCell ⟨g, 1, none⟩ (.int .i64 (d1 : Int))).drew.heap[w.heap.size]? = some (.cells (recC noRec).toArray 25 (0, 0)) from (heap_setCell_other w2 ⟨g, 1, none⟩ w.heap.size (.int .i64 (d1 : Int)) (by have := HG.out; show w.heap.size ≠ g; omega)).trans A2.out)
  generalize (w2.setCell ⟨g, 1, none⟩ (.int .i64 (d1 : Int))).drew = w3 at *
  clear S2 A2 ck cf HV
  rw [rounds_succ]
  go_wp2_with fail
  obtain ⟨u0, u1, u2, u3, q0, q1, q2, q3, hv⟩ := row_four (HL.out.old HB3.out) 8 (by omega)
  have q0 := cell_drew q0
  have q1 := cell_drew q1
  have q2 := cell_drew q2
  have q3 := cell_drew q3
  obtain ⟨d2, hd2⟩ : ∃ z, dec4 (l.drop 8) = z := ⟨_, rfl⟩
  rw [hd2] at hv
  have HV := Box.mk hv
  have HD2 := Box.mk hd2
  clear hv hd2
  have t0 := u0.toNat_lt
  have t1 := u1.toNat_lt
  have t2 := u2.toNat_lt
  have t3 := u3.toNat_lt
  have p0 := IntWalk.i64_in (u0.toNat : Int) (by omega)
  have p1 := IntWalk.i64_in (u1.toNat : Int) (by omega)
  have p2 := IntWalk.i64_in (u2.toNat : Int) (by omega)
  have p3 := IntWalk.i64_in (u3.toNat : Int) (by omega)
  have r1 := IntWalk.i64_in ((u1.toNat : Int) * 256) (by omega)
  have r2 := IntWalk.i64_in ((u2.toNat : Int) * 65536) (by omega)
  have r3 := IntWalk.i64_in ((u3.toNat : Int) * 16777216) (by omega)
  clear t0 t1 t2 t3
  have ck := Box.mk (show ∃ u, w3.drew.cell? ⟨g, 2, none⟩ = some u from ⟨_, (rec_cells (W := w3.drew) S3.out).2.2.1⟩)
  have cf := Box.mk (show w3.drew.frozen? ⟨g, 2, none⟩ = false from rec_frozen (W := w3.drew) S3.out)
  refine wp_region_tail 24 (by kernel_rfl) (by kernel_rfl) ?_
  simp only [List.take_succ_cons, List.take_zero, List.drop_succ_cons, List.drop_zero]
  repeat still_step
  refine wpStill_nil ?_
  clear q0 q1 q2 q3 p0 p1 p2 p3 r1 r2 r3
  go_wp2_with (refine wpList_store_int rfl 3 (.tmp 50) (.tmp 49) rfl ⟨g, 2, none⟩ (.int .i64 (bits .or .i64 (bits .or .i64 (bits .or .i64 (u0.toNat : Int) ((u1.toNat : Int) * 256)) ((u2.toNat : Int) * 65536)) ((u3.toNat : Int) * 16777216))) rfl rfl ⟨_, _, rfl⟩ hi3.out ck.out cf.out ?_)
  rw [← HV.out]
  have S4 := Box.mk (show (w3.setCell ⟨g, 2, none⟩ (.int .i64 (d2 : Int))).drew.heap[g]? = some (.cells (recC ⟨(d0 : Int), (d1 : Int), (d2 : Int), 0, 0, 0, zero32⟩).toArray 25 (0, 0)) from set_rec (U := w3) (k := 2) (x := ⟨(d0 : Int), (d1 : Int), 0, 0, 0, 0, zero32⟩) S3.out rfl)
  have HB4 := Box.mk (show Below w.heap.size w (w3.setCell ⟨g, 2, none⟩ (.int .i64 (d2 : Int))).drew from (Below.setCell HB3.out (by have := HG.out; show w.heap.size ≤ g; omega) _).drew)
  have A4 := Box.mk (show (w3.setCell ⟨g, 2, none⟩ (.int .i64 (d2 : Int))).drew.heap[w.heap.size]? = some (.cells (recC noRec).toArray 25 (0, 0)) from (heap_setCell_other w3 ⟨g, 2, none⟩ w.heap.size (.int .i64 (d2 : Int)) (by have := HG.out; show w.heap.size ≠ g; omega)).trans A3.out)
  generalize (w3.setCell ⟨g, 2, none⟩ (.int .i64 (d2 : Int))).drew = w4 at *
  clear S3 A3 ck cf HV
  rw [rounds_succ]
  go_wp2_with fail
  obtain ⟨u0, u1, u2, u3, q0, q1, q2, q3, hv⟩ := row_four (HL.out.old HB4.out) 12 (by omega)
  have q0 := cell_drew q0
  have q1 := cell_drew q1
  have q2 := cell_drew q2
  have q3 := cell_drew q3
  obtain ⟨d3, hd3⟩ : ∃ z, dec4 (l.drop 12) = z := ⟨_, rfl⟩
  rw [hd3] at hv
  have HV := Box.mk hv
  have HD3 := Box.mk hd3
  clear hv hd3
  have t0 := u0.toNat_lt
  have t1 := u1.toNat_lt
  have t2 := u2.toNat_lt
  have t3 := u3.toNat_lt
  have p0 := IntWalk.i64_in (u0.toNat : Int) (by omega)
  have p1 := IntWalk.i64_in (u1.toNat : Int) (by omega)
  have p2 := IntWalk.i64_in (u2.toNat : Int) (by omega)
  have p3 := IntWalk.i64_in (u3.toNat : Int) (by omega)
  have r1 := IntWalk.i64_in ((u1.toNat : Int) * 256) (by omega)
  have r2 := IntWalk.i64_in ((u2.toNat : Int) * 65536) (by omega)
  have r3 := IntWalk.i64_in ((u3.toNat : Int) * 16777216) (by omega)
  clear t0 t1 t2 t3
  have ck := Box.mk (show ∃ u, w4.drew.cell? ⟨g, 3, none⟩ = some u from ⟨_, (rec_cells (W := w4.drew) S4.out).2.2.2.1⟩)
  have cf := Box.mk (show w4.drew.frozen? ⟨g, 3, none⟩ = false from rec_frozen (W := w4.drew) S4.out)
  refine wp_region_tail 24 (by kernel_rfl) (by kernel_rfl) ?_
  simp only [List.take_succ_cons, List.take_zero, List.drop_succ_cons, List.drop_zero]
  repeat still_step
  refine wpStill_nil ?_
  clear q0 q1 q2 q3 p0 p1 p2 p3 r1 r2 r3
  go_wp2_with (refine wpList_store_int rfl 3 (.tmp 50) (.tmp 49) rfl ⟨g, 3, none⟩ (.int .i64 (bits .or .i64 (bits .or .i64 (bits .or .i64 (u0.toNat : Int) ((u1.toNat : Int) * 256)) ((u2.toNat : Int) * 65536)) ((u3.toNat : Int) * 16777216))) rfl rfl ⟨_, _, rfl⟩ hi3.out ck.out cf.out ?_)
  rw [← HV.out]
  have S5 := Box.mk (show (w4.setCell ⟨g, 3, none⟩ (.int .i64 (d3 : Int))).drew.heap[g]? = some (.cells (recC ⟨(d0 : Int), (d1 : Int), (d2 : Int), (d3 : Int), 0, 0, zero32⟩).toArray 25 (0, 0)) from set_rec (U := w4) (k := 3) (x := ⟨(d0 : Int), (d1 : Int), (d2 : Int), 0, 0, 0, zero32⟩) S4.out rfl)
  have HB5 := Box.mk (show Below w.heap.size w (w4.setCell ⟨g, 3, none⟩ (.int .i64 (d3 : Int))).drew from (Below.setCell HB4.out (by have := HG.out; show w.heap.size ≤ g; omega) _).drew)
  have A5 := Box.mk (show (w4.setCell ⟨g, 3, none⟩ (.int .i64 (d3 : Int))).drew.heap[w.heap.size]? = some (.cells (recC noRec).toArray 25 (0, 0)) from (heap_setCell_other w4 ⟨g, 3, none⟩ w.heap.size (.int .i64 (d3 : Int)) (by have := HG.out; show w.heap.size ≠ g; omega)).trans A4.out)
  generalize (w4.setCell ⟨g, 3, none⟩ (.int .i64 (d3 : Int))).drew = w5 at *
  clear S4 A4 ck cf HV
  rw [rounds_succ]
  go_wp2_with fail
  obtain ⟨u0, u1, u2, u3, q0, q1, q2, q3, hv⟩ := row_four (HL.out.old HB5.out) 16 (by omega)
  have q0 := cell_drew q0
  have q1 := cell_drew q1
  have q2 := cell_drew q2
  have q3 := cell_drew q3
  obtain ⟨d4, hd4⟩ : ∃ z, dec4 (l.drop 16) = z := ⟨_, rfl⟩
  rw [hd4] at hv
  have HV := Box.mk hv
  have HD4 := Box.mk hd4
  clear hv hd4
  have t0 := u0.toNat_lt
  have t1 := u1.toNat_lt
  have t2 := u2.toNat_lt
  have t3 := u3.toNat_lt
  have p0 := IntWalk.i64_in (u0.toNat : Int) (by omega)
  have p1 := IntWalk.i64_in (u1.toNat : Int) (by omega)
  have p2 := IntWalk.i64_in (u2.toNat : Int) (by omega)
  have p3 := IntWalk.i64_in (u3.toNat : Int) (by omega)
  have r1 := IntWalk.i64_in ((u1.toNat : Int) * 256) (by omega)
  have r2 := IntWalk.i64_in ((u2.toNat : Int) * 65536) (by omega)
  have r3 := IntWalk.i64_in ((u3.toNat : Int) * 16777216) (by omega)
  clear t0 t1 t2 t3
  have ck := Box.mk (show ∃ u, w5.drew.cell? ⟨g, 4, none⟩ = some u from ⟨_, (rec_cells (W := w5.drew) S5.out).2.2.2.2.1⟩)
  have cf := Box.mk (show w5.drew.frozen? ⟨g, 4, none⟩ = false from rec_frozen (W := w5.drew) S5.out)
  refine wp_region_tail 24 (by kernel_rfl) (by kernel_rfl) ?_
  simp only [List.take_succ_cons, List.take_zero, List.drop_succ_cons, List.drop_zero]
  repeat still_step
  refine wpStill_nil ?_
  clear q0 q1 q2 q3 p0 p1 p2 p3 r1 r2 r3
  go_wp2_with (refine wpList_store_int rfl 3 (.tmp 50) (.tmp 49) rfl ⟨g, 4, none⟩ (.int .i64 (bits .or .i64 (bits .or .i64 (bits .or .i64 (u0.toNat : Int) ((u1.toNat : Int) * 256)) ((u2.toNat : Int) * 65536)) ((u3.toNat : Int) * 16777216))) rfl rfl ⟨_, _, rfl⟩ hi3.out ck.out cf.out ?_)
  rw [← HV.out]
  have S6 := Box.mk (show (w5.setCell ⟨g, 4, none⟩ (.int .i64 (d4 : Int))).drew.heap[g]? = some (.cells (recC ⟨(d0 : Int), (d1 : Int), (d2 : Int), (d3 : Int), (d4 : Int), 0, zero32⟩).toArray 25 (0, 0)) from set_rec (U := w5) (k := 4) (x := ⟨(d0 : Int), (d1 : Int), (d2 : Int), (d3 : Int), 0, 0, zero32⟩) S5.out rfl)
  have HB6 := Box.mk (show Below w.heap.size w (w5.setCell ⟨g, 4, none⟩ (.int .i64 (d4 : Int))).drew from (Below.setCell HB5.out (by have := HG.out; show w.heap.size ≤ g; omega) _).drew)
  have A6 := Box.mk (show (w5.setCell ⟨g, 4, none⟩ (.int .i64 (d4 : Int))).drew.heap[w.heap.size]? = some (.cells (recC noRec).toArray 25 (0, 0)) from (heap_setCell_other w5 ⟨g, 4, none⟩ w.heap.size (.int .i64 (d4 : Int)) (by have := HG.out; show w.heap.size ≠ g; omega)).trans A5.out)
  generalize (w5.setCell ⟨g, 4, none⟩ (.int .i64 (d4 : Int))).drew = w6 at *
  clear S5 A5 ck cf HV
  rw [rounds_succ]
  go_wp2_with fail
  obtain ⟨u0, u1, u2, u3, q0, q1, q2, q3, hv⟩ := row_four (HL.out.old HB6.out) 20 (by omega)
  have q0 := cell_drew q0
  have q1 := cell_drew q1
  have q2 := cell_drew q2
  have q3 := cell_drew q3
  obtain ⟨d5, hd5⟩ : ∃ z, dec4 (l.drop 20) = z := ⟨_, rfl⟩
  rw [hd5] at hv
  have HV := Box.mk hv
  have HD5 := Box.mk hd5
  clear hv hd5
  have t0 := u0.toNat_lt
  have t1 := u1.toNat_lt
  have t2 := u2.toNat_lt
  have t3 := u3.toNat_lt
  have p0 := IntWalk.i64_in (u0.toNat : Int) (by omega)
  have p1 := IntWalk.i64_in (u1.toNat : Int) (by omega)
  have p2 := IntWalk.i64_in (u2.toNat : Int) (by omega)
  have p3 := IntWalk.i64_in (u3.toNat : Int) (by omega)
  have r1 := IntWalk.i64_in ((u1.toNat : Int) * 256) (by omega)
  have r2 := IntWalk.i64_in ((u2.toNat : Int) * 65536) (by omega)
  have r3 := IntWalk.i64_in ((u3.toNat : Int) * 16777216) (by omega)
  clear t0 t1 t2 t3
  have ck := Box.mk (show ∃ u, w6.drew.cell? ⟨g, 5, none⟩ = some u from ⟨_, (rec_cells (W := w6.drew) S6.out).2.2.2.2.2⟩)
  have cf := Box.mk (show w6.drew.frozen? ⟨g, 5, none⟩ = false from rec_frozen (W := w6.drew) S6.out)
  refine wp_region_tail 24 (by kernel_rfl) (by kernel_rfl) ?_
  simp only [List.take_succ_cons, List.take_zero, List.drop_succ_cons, List.drop_zero]
  repeat still_step
  refine wpStill_nil ?_
  clear q0 q1 q2 q3 p0 p1 p2 p3 r1 r2 r3
  go_wp2_with (refine wpList_store_int rfl 3 (.tmp 50) (.tmp 49) rfl ⟨g, 5, none⟩ (.int .i64 (bits .or .i64 (bits .or .i64 (bits .or .i64 (u0.toNat : Int) ((u1.toNat : Int) * 256)) ((u2.toNat : Int) * 65536)) ((u3.toNat : Int) * 16777216))) rfl rfl ⟨_, _, rfl⟩ hi3.out ck.out cf.out ?_)
  rw [← HV.out]
  have S7 := Box.mk (show (w6.setCell ⟨g, 5, none⟩ (.int .i64 (d5 : Int))).drew.heap[g]? = some (.cells (recC ⟨(d0 : Int), (d1 : Int), (d2 : Int), (d3 : Int), (d4 : Int), (d5 : Int), zero32⟩).toArray 25 (0, 0)) from set_rec (U := w6) (k := 5) (x := ⟨(d0 : Int), (d1 : Int), (d2 : Int), (d3 : Int), (d4 : Int), 0, zero32⟩) S6.out rfl)
  have HB7 := Box.mk (show Below w.heap.size w (w6.setCell ⟨g, 5, none⟩ (.int .i64 (d5 : Int))).drew from (Below.setCell HB6.out (by have := HG.out; show w.heap.size ≤ g; omega) _).drew)
  have A7 := Box.mk (show (w6.setCell ⟨g, 5, none⟩ (.int .i64 (d5 : Int))).drew.heap[w.heap.size]? = some (.cells (recC noRec).toArray 25 (0, 0)) from (heap_setCell_other w6 ⟨g, 5, none⟩ w.heap.size (.int .i64 (d5 : Int)) (by have := HG.out; show w.heap.size ≠ g; omega)).trans A6.out)
  generalize (w6.setCell ⟨g, 5, none⟩ (.int .i64 (d5 : Int))).drew = w7 at *
  clear S6 A6 ck cf HV
  rw [rounds_succ]
  go_wp2_with fail
  have hrw := Box.mk (show Row w7.drew (some ⟨b, o + 24, none⟩) (l.drop 24).length (l.drop 24) by
    have := (HL.out.old HB7.out).drop 24 (by omega)
    rw [List.length_drop, HL.out.1]
    exact this.drewN 1)
  have hkl := Box.mk (show (l.drop 24).length = 32 by rw [List.length_drop, HL.out.1])
  have hspl := Box.mk (splice_rec (d0 : Int) d1 d2 d3 d4 d5 (l.drop 24) hkl.out)
  have hu : Try.prog.underlying 26 = some (.slice 5) := Try.underlying26
  have hsz5 : Box ((Try.prog.info? 5).map (·.size) = some 1) := ⟨by kernel_rfl⟩
  have hfit := Box.mk (show 6 + (l.drop 24).length ≤ (recC ⟨(d0 : Int), (d1 : Int), (d2 : Int), (d3 : Int), (d4 : Int), (d5 : Int), zero32⟩).length by rw [length_recC, hkl.out]; omega)
  have hmin := Box.mk (show (l.drop 24).length = Nat.min 32 32 by rw [hkl.out]; rfl)
  have hal : Try.prog.arrayLen 23 = 32 := by kernel_rfl
  have hc24 : ¬ (c = 24) := by omega
  go_region_law (refine step_copy_bytes rfl (.tmp 53) (.tmp 55) 26 26 rfl hu hsz5.out (some ⟨g, 6, none⟩) (some ⟨b, o + 24, none⟩) 32 32 32 (c - 24) rfl rfl g 6 (recC ⟨(d0 : Int), (d1 : Int), (d2 : Int), (d3 : Int), (d4 : Int), (d5 : Int), zero32⟩) 25 (by exact S7.out) (l.drop 24) hmin.out (fun _ => rfl) hrw.out hfit.out ?_; intro w8 G8 hG8)
  have S8 := Box.mk (show w8.heap[g]? = some (.cells (recC (decR l)).toArray 25 (0, 0)) by
    have := G8.out
    rw [hspl.out] at this
    unfold decR
    rw [HD0.out, HD1.out, HD2.out, HD3.out, HD4.out, HD5.out]
    exact this)
  have HB8 := Box.mk (HB7.out.drew.grown hG8 (by have := HB7.out.size; exact this) (fun k hk => by cases hk; have := HG.out; omega))
  have A8 := Box.mk ((hG8.block w.heap.size (by have := heap_lt A7.out; exact this) (by intro e; have := Option.some.inj e; have := HG.out; omega)).trans A7.out)
  clear G8 hG8 S7 HB7 A7 hspl hrw hkl hfit hmin HD0 HD1 HD2 HD3 HD4 HD5 x0 x1 x2 x3 x4 x5
  have hR := Box.mk (fun W => iright_any (decR l) W)
  have hiy := hi (decR l)
  have hin := hi noRec
  have hsn := hss noRec (decR l)
  have hsz0 := hss noRec noRec
  have hay := ha (decR l)
  have han := ha noRec
  cases hr : rightR (decR l)
  · rw [hr] at hR
    obtain rfl : er = 150 := by rw [← HER.out, hr]; rfl
    obtain rfl : yr = noRec := by rw [← HYR.out, hr]; rfl
    clear hr HER HYR
    generalize (recC (decR l)).toArray = cy at *
    generalize (recC noRec).toArray = zn at *
    obtain rfl : zn = zr := HZR.out
    clear HZR
    go_wp2_with (first
      | ((with_reducible refine arm_row 25 (.tmp 4) ?_ ?_ g ?_ 25 cy (0, 0) _ S8.out Try.underlying25 rfl hiy.out ?_); rfl; rfl; rfl)
      | (go_at_call 25; refine (calls_box (hR.out _)).mono ?_))
    rintro e w9 ⟨⟨rfl, hBr⟩⟩
    have A9 := Box.mk ((hBr.block _ (heap_lt A8.out)).trans A8.out)
    have HB9 := Box.mk (HB8.out.trans (hBr.mono HB8.out.size))
    clear hBr S8 A8 HB8
    go_wp2_with (first
      | ((with_reducible refine wpList_builtg ?_ 25 [] ?_ [] ?_ zn hb.out ?_); rfl; rfl; rfl)
      | ((with_reducible refine wpList_store_row rfl 25 (.tmp 2) (.tmp 60) ?_ w.heap.size zn zn 25 ?_ ?_ A9.out rfl hin.out han.out ?_); rfl; rfl; rfl))
    intro w10 g10 G10
    have b10 : Below w.heap.size w w10 := HB9.out.grown G10 HB9.out.size (fun k hk => by cases hk; exact Nat.le_refl _)
    go_wp2
    exact bodyPost_ret (v := .tuple #[.agg zn, .int .i64 150]) (results_row_tmp (p := 2) (u := 3) (ty := 25) rfl _ _ w.heap.size 25 _ (0, 0) _ rfl g10.out Try.underlying25 rfl hin.out _ rfl) rfl ⟨rfl, b10⟩
  · rw [hr] at hR
    obtain rfl : er = 0 := by rw [← HER.out, hr]; rfl
    obtain rfl : yr = decR l := by rw [← HYR.out, hr]; rfl
    clear hr HER HYR
    generalize (recC (decR l)).toArray = cy at *
    generalize (recC noRec).toArray = zn at *
    obtain rfl : cy = zr := HZR.out
    clear HZR
    go_wp2_with (first
      | ((with_reducible refine arm_row 25 (.tmp 4) ?_ ?_ g ?_ 25 cy (0, 0) _ S8.out Try.underlying25 rfl hiy.out ?_); rfl; rfl; rfl)
      | (go_at_call 25; refine (calls_box (hR.out _)).mono ?_))
    rintro e w9 ⟨⟨rfl, hBr⟩⟩
    have A9 := Box.mk ((hBr.block _ (heap_lt A8.out)).trans A8.out)
    have S9 := Box.mk ((hBr.block _ (heap_lt S8.out)).trans S8.out)
    have HB9 := Box.mk (HB8.out.trans (hBr.mono HB8.out.size))
    clear hBr S8 A8 HB8
    go_wp2_with (first
      | ((with_reducible refine arm_row 25 (.tmp 4) ?_ ?_ g ?_ 25 cy (0, 0) _ S9.out Try.underlying25 rfl hiy.out ?_); rfl; rfl; rfl)
      | ((with_reducible refine wpList_store_row rfl 25 (.tmp 2) (.tmp 61) ?_ w.heap.size zn cy 25 ?_ ?_ A9.out hsn.out hiy.out hay.out ?_); rfl; rfl; rfl))
    intro w10 g10 G10
    have b10 : Below w.heap.size w w10 := HB9.out.grown G10 HB9.out.size (fun k hk => by cases hk; exact Nat.le_refl _)
    go_wp2
    exact bodyPost_ret (v := .tuple #[.agg cy, .int .i64 0]) (results_row_tmp (p := 2) (u := 3) (ty := 25) rfl _ _ w.heap.size 25 _ (0, 0) _ rfl g10.out Try.underlying25 rfl hiy.out _ rfl) rfl ⟨rfl, b10⟩
end Go.Proofs.Ytocfiabbhcgegaa
