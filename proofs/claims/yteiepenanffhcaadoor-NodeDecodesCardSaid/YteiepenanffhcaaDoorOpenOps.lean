/- Reading a script that came in. -/
import Derived.Test.YteiepenanffhcaaDoorOp
import Derived.Test.YteiepenanffhcaaDoorOpenN
namespace Go.Proofs.YteiepenanffhcaaDoor
open Go Go.RowKit Go.ChangeShapes Go.WideShapes Go.ChangeAt Go.Deep
set_option linter.unusedVariables false

/-- What is known of a call of a script that came in. -/
structure OpIn (w : World) (o : OpV) : Prop where
  val : ∃ l, Row w o.vao o.vn l
  nval : ∃ l, Row w o.nd.ao o.nd.n l
  vnil : o.vao = none → o.vn = 0 ∧ o.vc = 0
  nnil : o.nd.ao = none → o.nd.n = 0 ∧ o.nd.c = 0
  vlen : o.vn ≤ 140737488351232
  nlen : o.nd.n ≤ 140737488351232
  kind : inI64 o.nd.kind
  left : inI64 o.nd.left
  right : inI64 o.nd.right
  lc : inI64 o.nd.lc
  rc : inI64 o.nd.rc
  w64 : inI64 o.w
  n64 : inI64 o.n
  m64 : inI64 o.m
instance : Inhabited OpV := ⟨zeroOp⟩
section
variable {H : Type} {enc : TypeId × Value → H} {w : World} {base : Nat} {sp : Nat → Bool} {held : Bool}
theorem trod_op {fuel : Nat} {cs : List Value} {x : DataW H × List MemPlace} (hsp : ∀ b, sp b = true) (h : DataW.trod enc Tryd.prog w base sp held fuel 32 cs = some x) (hs : Sized Tryd.prog 32 x.1) :
    ∃ (o : OpV), cs = opC o ∧ OpIn w o := by
  have hu : Tryd.prog.underlying 32 = some (.struct (Tryd.prog.fieldsOf 32)) := by kernel_rfl
  obtain ⟨xs, n, _, hx, hlen, hxl, hf⟩ := DataW.trod_struct hu h
  have hfs : (Tryd.prog.fieldsOf 32).size = 9 := by kernel_rfl
  have hct : Tryd.prog.cellsOf 32 = 203 := by kernel_rfl
  rw [hfs] at hxl
  rw [hct] at hlen
  have ci : Tryd.prog.cellsOf 3 = 1 := by kernel_rfl
  have cd : Tryd.prog.cellsOf 27 = 32 := by kernel_rfl
  have ck : Tryd.prog.cellsOf 26 = 32 := by kernel_rfl
  have cb : Tryd.prog.cellsOf 28 = 1 := by kernel_rfl
  have c8 : Tryd.prog.cellsOf 5 = 1 := by kernel_rfl
  have cn : Tryd.prog.cellsOf 30 = 102 := by kernel_rfl
  have by8 : Tryd.prog.bytesOf 5 = 1 := by kernel_rfl
  have get : ∀ (i t o : Nat), i < 9 → ((Tryd.prog.fieldsOf 32)[i]?).map (fun f => (f.type, f.offset)) = some (t, o) → ∃ y, DataW.trod enc Tryd.prog w base sp held n t ((cs.drop o).take (Tryd.prog.cellsOf t)) = some y ∧ Sized Tryd.prog t y.1 := fun i t o hi h => by
    obtain ⟨f, h1, rfl, rfl⟩ := field_of h
    have hy : xs[i]? = some (xs[i]'(by omega)) := List.getElem?_eq_getElem (by omega)
    refine ⟨_, (hf i f h1).trans hy, ?_⟩
    rw [hx] at hs
    exact sized_part hu hs h1 (by simp [hy])
  obtain ⟨y0, t0, _⟩ := get 0 3 0 (by omega) (by kernel_rfl)
  obtain ⟨y1, t1, _⟩ := get 1 3 1 (by omega) (by kernel_rfl)
  obtain ⟨y2, t2, _⟩ := get 2 3 2 (by omega) (by kernel_rfl)
  obtain ⟨y3, t3, _⟩ := get 3 3 3 (by omega) (by kernel_rfl)
  obtain ⟨y4, t4, _⟩ := get 4 26 4 (by omega) (by kernel_rfl)
  obtain ⟨y5, t5, _⟩ := get 5 27 36 (by omega) (by kernel_rfl)
  obtain ⟨y6, t6, _⟩ := get 6 27 68 (by omega) (by kernel_rfl)
  obtain ⟨y7, t7, s7⟩ := get 7 28 100 (by omega) (by kernel_rfl)
  obtain ⟨y8, t8, s8⟩ := get 8 30 101 (by omega) (by kernel_rfl)
  rw [ci] at t0 t1 t2 t3
  rw [ck] at t4
  rw [cd] at t5 t6
  rw [cb] at t7
  rw [cn] at t8
  obtain ⟨a0, e0, _, w0⟩ := DataW.trod_int Tryd.underlying3 t0
  obtain ⟨a1, e1, _, w1⟩ := DataW.trod_int Tryd.underlying3 t1
  obtain ⟨a2, e2, _, w2⟩ := DataW.trod_int Tryd.underlying3 t2
  obtain ⟨a3, e3, _, w3⟩ := DataW.trod_int Tryd.underlying3 t3
  obtain ⟨d4, e4⟩ := trod_d32 Tryd.underlying26 Tryd.underlying5 c8 ck t4
  obtain ⟨d5, e5⟩ := trod_d32 Tryd.underlying27 Tryd.underlying5 c8 cd t5
  obtain ⟨d6, e6⟩ := trod_d32 Tryd.underlying27 Tryd.underlying5 c8 cd t6
  obtain ⟨ao, m, c, l, e7, hr, hm, hsv⟩ := trod_row hsp Tryd.underlying28 Tryd.underlying5 c8 by8 t7
  obtain ⟨nd, l', e8, ik, il, ir, ilc, irc, hr', hm', hsn⟩ := trod_node hsp t8
  have hv := hsv s7
  have hn := hsn s8
  refine ⟨⟨a0, a1, a2, a3, d4, d5, d6, ao, m, c, nd⟩, ?_, ⟨⟨l, hr.1⟩, ⟨l', hr'.1⟩, hr.2.1, hr'.2.1, Nat.le_trans hr.2.2 hv, Nat.le_trans hr'.2.2 hn, ik, il, ir, ilc, irc, bounds_i64 w1, bounds_i64 w2, bounds_i64 w3⟩⟩
  have q0 := chain_step 0 1 e0
  rw [List.drop_zero] at q0
  rw [q0, chain_step (0 + 1) 1 e1, chain_step (0 + 1 + 1) 1 e2, chain_step (0 + 1 + 1 + 1) 1 e3, chain_step (0 + 1 + 1 + 1 + 1) 32 e4, chain_step (0 + 1 + 1 + 1 + 1 + 32) 32 e5, chain_step (0 + 1 + 1 + 1 + 1 + 32 + 32) 32 e6, chain_step (0 + 1 + 1 + 1 + 1 + 32 + 32 + 32) 1 e7, chain_step (0 + 1 + 1 + 1 + 1 + 32 + 32 + 32 + 1) 102 e8,
    List.drop_of_length_le (by omega)]
  simp [opC]

/-- A script that came in. -/
theorem open_ops {r : Reach} {b0 : Nat} {v : Value} {d : DataW H} {p : List MemPlace} (hsp : ∀ b, sp b = true) (hv : Value.okWide Tryd.prog w r b0 22 v) (h : DataW.Trod enc Tryd.prog w base sp held 22 v d p)
    (hs : Sized Tryd.prog 22 d) :
    ∃ (ao : Option Addr) (n c : Nat) (os : List OpV), v = .slice ao n c ∧ Ops w ao n os ∧ n ≤ 4611686018427387904 ∧ ∀ o ∈ os, OpIn w o := by
  have ht := Tryd.underlying22
  have hct : Tryd.prog.cellsOf 32 = 203 := by kernel_rfl
  have hbt : 1 ≤ Tryd.prog.bytesOf 32 := of_decide_eq_true (by kernel_rfl)
  obtain ⟨a0, n, c, rfl⟩ := okWide_slice ht hv
  obtain ⟨fuel, hf⟩ := h
  rcases open_slice ht hf with ⟨hcs, hx⟩ | ⟨a, len, cap, m, k, D, Pl, hcs, _, hl, hm, hmm, hx, hel⟩
  · simp [Value.cells] at hcs
    obtain ⟨rfl, rfl, rfl⟩ := hcs
    exact ⟨none, 0, 0, [], rfl, ⟨rfl, fun i h => absurd h (by simp)⟩, by omega, fun o ho => by cases ho⟩
  · simp [Value.cells] at hcs
    obtain ⟨rfl, rfl, rfl⟩ := hcs
    have hd : d = .slice ((List.range n).map D) ((List.range (m - n)).map fun j => D (n + j)) := (Prod.mk.inj hx).1
    rw [hd] at hs
    have hlen := sized_len ht hs
    have hn : n ≤ 4611686018427387904 := by
      simp only [List.length_map, List.length_range, reachBytes] at hlen
      have h1 : n * 1 ≤ (n + (m - n)) * Tryd.prog.bytesOf 32 := Nat.mul_le_mul (by omega) hbt
      omega
    have hnm : n ≤ m := by rw [hmm]; split <;> omega
    rw [hct] at hel
    have each : ∀ i, i < n → ∃ o : OpV, (∃ b off, a = ⟨b, off, none⟩ ∧ w.rangeAt b (off + i * 203) (opC o)) ∧ OpIn w o := by
      have one : ∀ i, i < n → ∃ cs' : List Value, ∃ o : OpV, w.cells? base (a.add (i * 203)) 203 = some cs' ∧ cs' = opC o ∧ OpIn w o := fun i hi => by
        obtain ⟨cs', h1, h2⟩ := hel i (by omega)
        obtain ⟨o, h3, h4⟩ := trod_op hsp h2 (sized_elem (i := i) ht hs (by simp [hi]))
        exact ⟨cs', o, h1, h3, h4⟩
      intro i hi
      obtain ⟨cs', o, h1, rfl, h4⟩ := one i hi
      obtain ⟨h3, hl', h5⟩ := World.cells?_some h1
      have hlo := length_opC o
      obtain ⟨b, off, s⟩ := a
      have hcell : ∀ j v, (opC o)[j]? = some v → w.cell? (((⟨b, off, s⟩ : Addr).add (i * 203)).add j) = some v := by
        intro j v hv
        have := h5 j (by have := (List.getElem?_eq_some_iff.1 hv).1; omega)
        rw [this]; exact hv
      have hs0 : s = none := by
        obtain ⟨c0, o0, g1, rfl, _⟩ := one 0 (by omega)
        have hl0 := length_opC o0
        obtain ⟨_, _, g5⟩ := World.cells?_some g1
        have := g5 0 (by omega)
        rw [List.getElem?_eq_getElem (by omega)] at this
        simpa [Addr.add] using World.cell?_spot this
      subst hs0
      refine ⟨o, ⟨b, off, rfl, fun j v hv => ?_⟩, h4⟩
      have := hcell j v hv
      rw [Addr.add_mid, Addr.add_mid] at this
      exact this
    obtain ⟨V, hV⟩ := choose_lt (α := OpV) (p := fun i o => (∃ b off, a = ⟨b, off, none⟩ ∧ w.rangeAt b (off + i * 203) (opC o)) ∧ OpIn w o) each
    refine ⟨some a, n, c, (List.range n).map V, rfl, ⟨by simp, fun i hi => ?_⟩, hn, fun o ho => ?_⟩
    · have hi' : i < n := by simpa using hi
      obtain ⟨⟨b, o, rfl, hr⟩, _⟩ := hV i hi'
      refine ⟨b, o, rfl, ?_⟩
      simpa using hr
    · obtain ⟨i, hi, rfl⟩ := List.mem_map.1 ho
      exact (hV i (by simpa using hi)).2
end
end Go.Proofs.YteiepenanffhcaaDoor
