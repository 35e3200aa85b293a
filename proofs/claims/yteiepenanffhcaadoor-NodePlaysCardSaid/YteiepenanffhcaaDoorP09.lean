/- Texts joined: OpenOps, TextsLaw, Sha. -/
import Derived.Test.YteiepenanffhcaaDoorP05
import Derived.Test.YteiepenanffhcaaDoorP08
import Derived.Test.YteiepenanffhcaaDoorP06
import Derived.Test.YteiepenanffhcaaDoorP07
import Derived.Test.YteiepenanffhcaaDoorP00
/- Reading a script that came in. -/
namespace Go.Proofs.YteiepenanffhcaaDoor
open Go Go.RowKit Go.ChangeShapes Go.WideShapes Go.ChangeAt Go.Deep
set_option linter.unusedVariables false

/-- What is known of a call of a script that came in. -/
structure OpIn (w : World) (o : OpV) : Prop where
  val : ∃ l, Row w o.vao o.vn l
  nval : ∃ l, Row w o.nd.ao o.nd.n l
  vnil : o.vao = none → o.vn = 0 ∧ o.vc = 0
  nnil : o.nd.ao = none → o.nd.n = 0 ∧ o.nd.c = 0
  vlen : o.vn ≤ 140737488351232
  nlen : o.nd.n ≤ 140737488351232
  kind : inI64 o.nd.kind
  left : inI64 o.nd.left
  right : inI64 o.nd.right
  lc : inI64 o.nd.lc
  rc : inI64 o.nd.rc
  w64 : inI64 o.w
  n64 : inI64 o.n
  m64 : inI64 o.m
instance : Inhabited OpV := ⟨zeroOp⟩
section
variable {H : Type} {enc : TypeId × Value → H} {w : World} {base : Nat} {sp : Nat → Bool} {held : Bool}
theorem trod_op {fuel : Nat} {cs : List Value} {x : DataW H × List MemPlace} (hsp : ∀ b, sp b = true) (h : DataW.trod enc Tryd.prog w base sp held fuel 32 cs = some x) (hs : Sized Tryd.prog 32 x.1) :
    ∃ (o : OpV), cs = opC o ∧ OpIn w o := by
  have hu : Tryd.prog.underlying 32 = some (.struct (Tryd.prog.fieldsOf 32)) := by kernel_rfl
  obtain ⟨xs, n, _, hx, hlen, hxl, hf⟩ := DataW.trod_struct hu h
  have hfs : (Tryd.prog.fieldsOf 32).size = 9 := by kernel_rfl
  have hct : Tryd.prog.cellsOf 32 = 203 := by kernel_rfl
  rw [hfs] at hxl
  rw [hct] at hlen
  have ci : Tryd.prog.cellsOf 3 = 1 := by kernel_rfl
  have cd : Tryd.prog.cellsOf 27 = 32 := by kernel_rfl
  have ck : Tryd.prog.cellsOf 26 = 32 := by kernel_rfl
  have cb : Tryd.prog.cellsOf 28 = 1 := by kernel_rfl
  have c8 : Tryd.prog.cellsOf 5 = 1 := by kernel_rfl
  have cn : Tryd.prog.cellsOf 30 = 102 := by kernel_rfl
  have by8 : Tryd.prog.bytesOf 5 = 1 := by kernel_rfl
  have get : ∀ (i t o : Nat), i < 9 → ((Tryd.prog.fieldsOf 32)[i]?).map (fun f => (f.type, f.offset)) = some (t, o) → ∃ y, DataW.trod enc Tryd.prog w base sp held n t ((cs.drop o).take (Tryd.prog.cellsOf t)) = some y ∧ Sized Tryd.prog t y.1 := fun i t o hi h => by
    obtain ⟨f, h1, rfl, rfl⟩ := field_of h
    have hy : xs[i]? = some (xs[i]'(by omega)) := List.getElem?_eq_getElem (by omega)
    refine ⟨_, (hf i f h1).trans hy, ?_⟩
    rw [hx] at hs
    exact sized_part hu hs h1 (by simp [hy])
  obtain ⟨y0, t0, _⟩ := get 0 3 0 (by omega) (by kernel_rfl)
  obtain ⟨y1, t1, _⟩ := get 1 3 1 (by omega) (by kernel_rfl)
  obtain ⟨y2, t2, _⟩ := get 2 3 2 (by omega) (by kernel_rfl)
  obtain ⟨y3, t3, _⟩ := get 3 3 3 (by omega) (by kernel_rfl)
  obtain ⟨y4, t4, _⟩ := get 4 26 4 (by omega) (by kernel_rfl)
  obtain ⟨y5, t5, _⟩ := get 5 27 36 (by omega) (by kernel_rfl)
  obtain ⟨y6, t6, _⟩ := get 6 27 68 (by omega) (by kernel_rfl)
  obtain ⟨y7, t7, s7⟩ := get 7 28 100 (by omega) (by kernel_rfl)
  obtain ⟨y8, t8, s8⟩ := get 8 30 101 (by omega) (by kernel_rfl)
  rw [ci] at t0 t1 t2 t3
  rw [ck] at t4
  rw [cd] at t5 t6
  rw [cb] at t7
  rw [cn] at t8
  obtain ⟨a0, e0, _, w0⟩ := DataW.trod_int Tryd.underlying3 t0
  obtain ⟨a1, e1, _, w1⟩ := DataW.trod_int Tryd.underlying3 t1
  obtain ⟨a2, e2, _, w2⟩ := DataW.trod_int Tryd.underlying3 t2
  obtain ⟨a3, e3, _, w3⟩ := DataW.trod_int Tryd.underlying3 t3
  obtain ⟨d4, e4⟩ := trod_d32 Tryd.underlying26 Tryd.underlying5 c8 ck t4
  obtain ⟨d5, e5⟩ := trod_d32 Tryd.underlying27 Tryd.underlying5 c8 cd t5
  obtain ⟨d6, e6⟩ := trod_d32 Tryd.underlying27 Tryd.underlying5 c8 cd t6
  obtain ⟨ao, m, c, l, e7, hr, hm, hsv⟩ := trod_row hsp Tryd.underlying28 Tryd.underlying5 c8 by8 t7
  obtain ⟨nd, l', e8, ik, il, ir, ilc, irc, hr', hm', hsn⟩ := trod_node hsp t8
  have hv := hsv s7
  have hn := hsn s8
  refine ⟨⟨a0, a1, a2, a3, d4, d5, d6, ao, m, c, nd⟩, ?_, ⟨⟨l, hr.1⟩, ⟨l', hr'.1⟩, hr.2.1, hr'.2.1, Nat.le_trans hr.2.2 hv, Nat.le_trans hr'.2.2 hn, ik, il, ir, ilc, irc, bounds_i64 w1, bounds_i64 w2, bounds_i64 w3⟩⟩
  have q0 := chain_step 0 1 e0
  rw [List.drop_zero] at q0
  rw [q0, chain_step (0 + 1) 1 e1, chain_step (0 + 1 + 1) 1 e2, chain_step (0 + 1 + 1 + 1) 1 e3, chain_step (0 + 1 + 1 + 1 + 1) 32 e4, chain_step (0 + 1 + 1 + 1 + 1 + 32) 32 e5, chain_step (0 + 1 + 1 + 1 + 1 + 32 + 32) 32 e6, chain_step (0 + 1 + 1 + 1 + 1 + 32 + 32 + 32) 1 e7, chain_step (0 + 1 + 1 + 1 + 1 + 32 + 32 + 32 + 1) 102 e8,
    List.drop_of_length_le (by omega)]
  simp [opC]

/-- A script that came in. -/
theorem open_ops {r : Reach} {b0 : Nat} {v : Value} {d : DataW H} {p : List MemPlace} (hsp : ∀ b, sp b = true) (hv : Value.okWide Tryd.prog w r b0 22 v) (h : DataW.Trod enc Tryd.prog w base sp held 22 v d p)
    (hs : Sized Tryd.prog 22 d) :
    ∃ (ao : Option Addr) (n c : Nat) (os : List OpV), v = .slice ao n c ∧ Ops w ao n os ∧ n ≤ 4611686018427387904 ∧ ∀ o ∈ os, OpIn w o := by
  have ht := Tryd.underlying22
  have hct : Tryd.prog.cellsOf 32 = 203 := by kernel_rfl
  have hbt : 1 ≤ Tryd.prog.bytesOf 32 := of_decide_eq_true (by kernel_rfl)
  obtain ⟨a0, n, c, rfl⟩ := okWide_slice ht hv
  obtain ⟨fuel, hf⟩ := h
  rcases open_slice ht hf with ⟨hcs, hx⟩ | ⟨a, len, cap, m, k, D, Pl, hcs, _, hl, hm, hmm, hx, hel⟩
  · simp [Value.cells] at hcs
    obtain ⟨rfl, rfl, rfl⟩ := hcs
    exact ⟨none, 0, 0, [], rfl, ⟨rfl, fun i h => absurd h (by simp)⟩, by omega, fun o ho => by cases ho⟩
  · simp [Value.cells] at hcs
    obtain ⟨rfl, rfl, rfl⟩ := hcs
    have hd : d = .slice ((List.range n).map D) ((List.range (m - n)).map fun j => D (n + j)) := (Prod.mk.inj hx).1
    rw [hd] at hs
    have hlen := sized_len ht hs
    have hn : n ≤ 4611686018427387904 := by
      simp only [List.length_map, List.length_range, reachBytes] at hlen
      have h1 : n * 1 ≤ (n + (m - n)) * Tryd.prog.bytesOf 32 := Nat.mul_le_mul (by omega) hbt
      omega
    have hnm : n ≤ m := by rw [hmm]; split <;> omega
    rw [hct] at hel
    have each : ∀ i, i < n → ∃ o : OpV, (∃ b off, a = ⟨b, off, none⟩ ∧ w.rangeAt b (off + i * 203) (opC o)) ∧ OpIn w o := by
      have one : ∀ i, i < n → ∃ cs' : List Value, ∃ o : OpV, w.cells? base (a.add (i * 203)) 203 = some cs' ∧ cs' = opC o ∧ OpIn w o := fun i hi => by
        obtain ⟨cs', h1, h2⟩ := hel i (by omega)
        obtain ⟨o, h3, h4⟩ := trod_op hsp h2 (sized_elem (i := i) ht hs (by simp [hi]))
        exact ⟨cs', o, h1, h3, h4⟩
      intro i hi
      obtain ⟨cs', o, h1, rfl, h4⟩ := one i hi
      obtain ⟨h3, hl', h5⟩ := World.cells?_some h1
      have hlo := length_opC o
      obtain ⟨b, off, s⟩ := a
      have hcell : ∀ j v, (opC o)[j]? = some v → w.cell? (((⟨b, off, s⟩ : Addr).add (i * 203)).add j) = some v := by
        intro j v hv
        have := h5 j (by have := (List.getElem?_eq_some_iff.1 hv).1; omega)
        rw [this]; exact hv
      have hs0 : s = none := by
        obtain ⟨c0, o0, g1, rfl, _⟩ := one 0 (by omega)
        have hl0 := length_opC o0
        obtain ⟨_, _, g5⟩ := World.cells?_some g1
        have := g5 0 (by omega)
        rw [List.getElem?_eq_getElem (by omega)] at this
        simpa [Addr.add] using World.cell?_spot this
      subst hs0
      refine ⟨o, ⟨b, off, rfl, fun j v hv => ?_⟩, h4⟩
      have := hcell j v hv
      rw [Addr.add_mid, Addr.add_mid] at this
      exact this
    obtain ⟨V, hV⟩ := choose_lt (α := OpV) (p := fun i o => (∃ b off, a = ⟨b, off, none⟩ ∧ w.rangeAt b (off + i * 203) (opC o)) ∧ OpIn w o) each
    refine ⟨some a, n, c, (List.range n).map V, rfl, ⟨by simp, fun i hi => ?_⟩, hn, fun o ho => ?_⟩
    · have hi' : i < n := by simpa using hi
      obtain ⟨⟨b, o, rfl, hr⟩, _⟩ := hV i hi'
      refine ⟨b, o, rfl, ?_⟩
      simpa using hr
    · obtain ⟨i, hi, rfl⟩ := List.mem_map.1 ho
      exact (hV i (by simpa using hi)).2
end
end Go.Proofs.YteiepenanffhcaaDoor

/- NodeTexts: the walk of the law. -/
namespace Go.Proofs.YteiepenanffhcaaDoor
open Go Go.RowKit
set_option linter.unusedVariables false

theorem row_below {w W : World} {ao : Option Addr} {n : Nat} {l : List UInt8} (h : Row w ao n l) (hb : Below w.heap.size w W) : Row W ao n l := h.old hb
theorem texts_each {w : World} {o : OpV} (hi : OpIn w o) (h1 : 3 ≤ o.kind) (h2 : o.kind ≤ 4) (W : World) (hb : Below w.heap.size w W) :
    Calls Tryd.prog 11 #[.agg (opC o).toArray] W fun e W' => e = .returned (.bool true) ∧ Below W.heap.size W W' := by
  obtain ⟨lv, hv⟩ := hi.val
  obtain ⟨ln, hn⟩ := hi.nval
  rcases (show o.kind = 3 ∨ o.kind = 4 by omega) with hk | hk
  · exact plays_val3 o hk W lv ln (hv.old hb) hi.vlen (hn.old hb) hi.nlen fun L hL g a1 c1 W' _ h3 h4 h5 h6 h7 => valuePlay_texts o hk o.vn hi.vlen L hL g a1 c1 W' h3 h4 h5 h6 h7
  · exact plays_num4 o hk W fun o' hk' W' _ => numbersPlay_texts o' hk' W'

set_option maxHeartbeats 800000 in
theorem texts_walk (ao : Option Addr) (n c : Nat) (os : List OpV) (w : World) (h : Ops w ao n os) (mx : n ≤ 4611686018427387904) (hin : ∀ o ∈ os, OpIn w o) :
    Calls Tryd.prog 5 #[.slice ao n c] w fun e w' => e = .returned (.bool true) ∧ Below w.heap.size w w' := by
  have hU := Box.mk (upTo_any 3 4 ao n c os w h mx fun o ho h1 h2 W hb => texts_each (hin o ho) h1 h2 W hb)
  clear h hin
  go_enter Tryd.func5, Tryd.ntmps5
  go_wp2_with (go_at_call 10; refine (calls_box hU.out).mono ?_)
  rintro e w1 ⟨⟨rfl, hB⟩⟩
  go_wp2
  go_ret
  exact ⟨rfl, hB⟩
end Go.Proofs.YteiepenanffhcaaDoor

/- SHA-256 as this program reckons it, in plain Lean; words as values of the model. -/
namespace Go.Proofs.YteiepenanffhcaaDoor
open Go Go.RowKit

/-- A word of 32 bits as a value. -/
def uv (x : UInt32) : Value := .int .u32 (x.toNat : Int)
def uvs (l : List UInt32) : List Value := l.map uv
@[simp] theorem length_uvs (l : List UInt32) : (uvs l).length = l.length := by simp [uvs]
theorem uvs_getElem? (l : List UInt32) (i : Nat) : (uvs l)[i]? = l[i]?.map uv := by simp [uvs]
theorem uvs_oneCell (l : List UInt32) : ∀ u ∈ uvs l, u.oneCell' = true := by
  intro u hu; obtain ⟨b, _, rfl⟩ := List.mem_map.1 hu; rfl

@[go_sem ↓ high] theorem uv_cells (x : UInt32) : (uv x).cells = #[uv x] := rfl
@[go_sem ↓ high] theorem bv_cells (x : UInt8) : (bv x).cells = #[bv x] := rfl
theorem wrap_u32 (n : Nat) : IntKind.u32.wrap (n : Int) = ((UInt32.ofNat n).toNat : Int) := by
  rw [UInt32.toNat_ofNat']; simp [IntKind.wrap, IntKind.signed, IntKind.bits]
theorem bitvec_uv (x : UInt32) : BitVec.ofInt 32 (x.toNat : Int) = x.toBitVec := by
  apply BitVec.eq_of_toNat_eq; simp


theorem uv_back (x : UInt32) : UInt32.ofNat x.toNat = x := by simp
theorem wrap_u8 (n : Nat) : IntKind.u8.wrap (n : Int) = ((UInt8.ofNat n).toNat : Int) := by
  rw [UInt8.toNat_ofNat']; simp [IntKind.wrap, IntKind.signed, IntKind.bits]

section
variable (t : TypeId) (x y : UInt32)
@[go_sem] theorem uv_add : binOp .add t (uv x) (uv y) = pure (uv (x + y)) := by
  show binOp .add t (.int .u32 _) (.int .u32 _) = _
  rw [binOp_add]
  simp only [Op.intArith, uv]
  rw [← Int.natCast_add, wrap_u32]
  simp
@[go_sem] theorem uv_xor : binOp .xor t (uv x) (uv y) = pure (uv (x ^^^ y)) := by
  show binOp .xor t (.int .u32 _) (.int .u32 _) = _
  rw [binOp_xor]
  show pure (Value.int .u32 (IntKind.u32.wrap ((BitVec.ofInt 32 (x.toNat : Int) ^^^ BitVec.ofInt 32 (y.toNat : Int)).toNat : Int))) = _
  rw [wrap_u32, bitvec_uv, bitvec_uv]
  show pure (uv (UInt32.ofNat (x ^^^ y).toNat)) = _
  rw [uv_back]
@[go_sem] theorem uv_and : binOp .and t (uv x) (uv y) = pure (uv (x &&& y)) := by
  show binOp .and t (.int .u32 _) (.int .u32 _) = _
  rw [binOp_and]
  show pure (Value.int .u32 (IntKind.u32.wrap ((BitVec.ofInt 32 (x.toNat : Int) &&& BitVec.ofInt 32 (y.toNat : Int)).toNat : Int))) = _
  rw [wrap_u32, bitvec_uv, bitvec_uv]
  show pure (uv (UInt32.ofNat (x &&& y).toNat)) = _
  rw [uv_back]
@[go_sem] theorem uv_or : binOp .or t (uv x) (uv y) = pure (uv (x ||| y)) := by
  show binOp .or t (.int .u32 _) (.int .u32 _) = _
  rw [binOp_or]
  show pure (Value.int .u32 (IntKind.u32.wrap ((BitVec.ofInt 32 (x.toNat : Int) ||| BitVec.ofInt 32 (y.toNat : Int)).toNat : Int))) = _
  rw [wrap_u32, bitvec_uv, bitvec_uv]
  show pure (uv (UInt32.ofNat (x ||| y).toNat)) = _
  rw [uv_back]
theorem uv_shl (yk : IntKind) (n : Nat) (hn : n < 32) : binOp .shl t (uv x) (.int yk (n : Int)) = pure (uv (x <<< UInt32.ofNat n)) := by
  show Op.shift .shl .u32 (x.toNat : Int) yk (n : Int) = _
  unfold Op.shift
  rw [if_neg (by omega)]
  have hm : min ((n : Int).toNat) IntKind.u32.bits = n := by simp [IntKind.bits]; omega
  simp only [hm]
  have : (x.toNat : Int) * 2 ^ n = ((x.toNat * 2 ^ n : Nat) : Int) := by simp
  rw [this, wrap_u32]
  show pure (uv _) = _
  congr 2
  apply UInt32.toNat_inj.1
  rw [UInt32.toNat_shiftLeft, UInt32.toNat_ofNat', UInt32.toNat_ofNat', Nat.shiftLeft_eq, Nat.mod_eq_of_lt (show n < 2 ^ 32 by omega), Nat.mod_eq_of_lt hn]
theorem uv_shr (yk : IntKind) (n : Nat) (hn : n < 32) : binOp .shr t (uv x) (.int yk (n : Int)) = pure (uv (x >>> UInt32.ofNat n)) := by
  show Op.shift .shr .u32 (x.toNat : Int) yk (n : Int) = _
  unfold Op.shift
  rw [if_neg (by omega)]
  have hm : min ((n : Int).toNat) IntKind.u32.bits = n := by simp [IntKind.bits]; omega
  simp only [hm]
  have : (x.toNat : Int).fdiv (2 ^ n) = ((x.toNat / 2 ^ n : Nat) : Int) := by
    rw [Int.fdiv_eq_ediv_of_nonneg _ (by exact_mod_cast Nat.zero_le _)]; simp
  rw [this]
  show pure (Value.int .u32 _) = pure (Value.int .u32 _)
  congr 3
  rw [UInt32.toNat_shiftRight, UInt32.toNat_ofNat', Nat.shiftRight_eq_div_pow, Nat.mod_eq_of_lt (show n < 2 ^ 32 by omega), Nat.mod_eq_of_lt hn]

@[go_sem] theorem uv_shl_1 (yk : IntKind) : binOp .shl t (uv x) (.int yk 1) = pure (uv (x <<< 1)) := uv_shl t x yk 1 (by decide)
@[go_sem] theorem uv_shr_1 (yk : IntKind) : binOp .shr t (uv x) (.int yk 1) = pure (uv (x >>> 1)) := uv_shr t x yk 1 (by decide)
@[go_sem] theorem uv_shl_2 (yk : IntKind) : binOp .shl t (uv x) (.int yk 2) = pure (uv (x <<< 2)) := uv_shl t x yk 2 (by decide)
@[go_sem] theorem uv_shr_2 (yk : IntKind) : binOp .shr t (uv x) (.int yk 2) = pure (uv (x >>> 2)) := uv_shr t x yk 2 (by decide)
@[go_sem] theorem uv_shl_3 (yk : IntKind) : binOp .shl t (uv x) (.int yk 3) = pure (uv (x <<< 3)) := uv_shl t x yk 3 (by decide)
@[go_sem] theorem uv_shr_3 (yk : IntKind) : binOp .shr t (uv x) (.int yk 3) = pure (uv (x >>> 3)) := uv_shr t x yk 3 (by decide)
@[go_sem] theorem uv_shl_4 (yk : IntKind) : binOp .shl t (uv x) (.int yk 4) = pure (uv (x <<< 4)) := uv_shl t x yk 4 (by decide)
@[go_sem] theorem uv_shr_4 (yk : IntKind) : binOp .shr t (uv x) (.int yk 4) = pure (uv (x >>> 4)) := uv_shr t x yk 4 (by decide)
@[go_sem] theorem uv_shl_5 (yk : IntKind) : binOp .shl t (uv x) (.int yk 5) = pure (uv (x <<< 5)) := uv_shl t x yk 5 (by decide)
@[go_sem] theorem uv_shr_5 (yk : IntKind) : binOp .shr t (uv x) (.int yk 5) = pure (uv (x >>> 5)) := uv_shr t x yk 5 (by decide)
@[go_sem] theorem uv_shl_6 (yk : IntKind) : binOp .shl t (uv x) (.int yk 6) = pure (uv (x <<< 6)) := uv_shl t x yk 6 (by decide)
@[go_sem] theorem uv_shr_6 (yk : IntKind) : binOp .shr t (uv x) (.int yk 6) = pure (uv (x >>> 6)) := uv_shr t x yk 6 (by decide)
@[go_sem] theorem uv_shl_7 (yk : IntKind) : binOp .shl t (uv x) (.int yk 7) = pure (uv (x <<< 7)) := uv_shl t x yk 7 (by decide)
@[go_sem] theorem uv_shr_7 (yk : IntKind) : binOp .shr t (uv x) (.int yk 7) = pure (uv (x >>> 7)) := uv_shr t x yk 7 (by decide)
@[go_sem] theorem uv_shl_8 (yk : IntKind) : binOp .shl t (uv x) (.int yk 8) = pure (uv (x <<< 8)) := uv_shl t x yk 8 (by decide)
@[go_sem] theorem uv_shr_8 (yk : IntKind) : binOp .shr t (uv x) (.int yk 8) = pure (uv (x >>> 8)) := uv_shr t x yk 8 (by decide)
@[go_sem] theorem uv_shl_9 (yk : IntKind) : binOp .shl t (uv x) (.int yk 9) = pure (uv (x <<< 9)) := uv_shl t x yk 9 (by decide)
@[go_sem] theorem uv_shr_9 (yk : IntKind) : binOp .shr t (uv x) (.int yk 9) = pure (uv (x >>> 9)) := uv_shr t x yk 9 (by decide)
@[go_sem] theorem uv_shl_10 (yk : IntKind) : binOp .shl t (uv x) (.int yk 10) = pure (uv (x <<< 10)) := uv_shl t x yk 10 (by decide)
@[go_sem] theorem uv_shr_10 (yk : IntKind) : binOp .shr t (uv x) (.int yk 10) = pure (uv (x >>> 10)) := uv_shr t x yk 10 (by decide)
@[go_sem] theorem uv_shl_11 (yk : IntKind) : binOp .shl t (uv x) (.int yk 11) = pure (uv (x <<< 11)) := uv_shl t x yk 11 (by decide)
@[go_sem] theorem uv_shr_11 (yk : IntKind) : binOp .shr t (uv x) (.int yk 11) = pure (uv (x >>> 11)) := uv_shr t x yk 11 (by decide)
@[go_sem] theorem uv_shl_12 (yk : IntKind) : binOp .shl t (uv x) (.int yk 12) = pure (uv (x <<< 12)) := uv_shl t x yk 12 (by decide)
@[go_sem] theorem uv_shr_12 (yk : IntKind) : binOp .shr t (uv x) (.int yk 12) = pure (uv (x >>> 12)) := uv_shr t x yk 12 (by decide)
@[go_sem] theorem uv_shl_13 (yk : IntKind) : binOp .shl t (uv x) (.int yk 13) = pure (uv (x <<< 13)) := uv_shl t x yk 13 (by decide)
@[go_sem] theorem uv_shr_13 (yk : IntKind) : binOp .shr t (uv x) (.int yk 13) = pure (uv (x >>> 13)) := uv_shr t x yk 13 (by decide)
@[go_sem] theorem uv_shl_14 (yk : IntKind) : binOp .shl t (uv x) (.int yk 14) = pure (uv (x <<< 14)) := uv_shl t x yk 14 (by decide)
@[go_sem] theorem uv_shr_14 (yk : IntKind) : binOp .shr t (uv x) (.int yk 14) = pure (uv (x >>> 14)) := uv_shr t x yk 14 (by decide)
@[go_sem] theorem uv_shl_15 (yk : IntKind) : binOp .shl t (uv x) (.int yk 15) = pure (uv (x <<< 15)) := uv_shl t x yk 15 (by decide)
@[go_sem] theorem uv_shr_15 (yk : IntKind) : binOp .shr t (uv x) (.int yk 15) = pure (uv (x >>> 15)) := uv_shr t x yk 15 (by decide)
@[go_sem] theorem uv_shl_16 (yk : IntKind) : binOp .shl t (uv x) (.int yk 16) = pure (uv (x <<< 16)) := uv_shl t x yk 16 (by decide)
@[go_sem] theorem uv_shr_16 (yk : IntKind) : binOp .shr t (uv x) (.int yk 16) = pure (uv (x >>> 16)) := uv_shr t x yk 16 (by decide)
@[go_sem] theorem uv_shl_17 (yk : IntKind) : binOp .shl t (uv x) (.int yk 17) = pure (uv (x <<< 17)) := uv_shl t x yk 17 (by decide)
@[go_sem] theorem uv_shr_17 (yk : IntKind) : binOp .shr t (uv x) (.int yk 17) = pure (uv (x >>> 17)) := uv_shr t x yk 17 (by decide)
@[go_sem] theorem uv_shl_18 (yk : IntKind) : binOp .shl t (uv x) (.int yk 18) = pure (uv (x <<< 18)) := uv_shl t x yk 18 (by decide)
@[go_sem] theorem uv_shr_18 (yk : IntKind) : binOp .shr t (uv x) (.int yk 18) = pure (uv (x >>> 18)) := uv_shr t x yk 18 (by decide)
@[go_sem] theorem uv_shl_19 (yk : IntKind) : binOp .shl t (uv x) (.int yk 19) = pure (uv (x <<< 19)) := uv_shl t x yk 19 (by decide)
@[go_sem] theorem uv_shr_19 (yk : IntKind) : binOp .shr t (uv x) (.int yk 19) = pure (uv (x >>> 19)) := uv_shr t x yk 19 (by decide)
@[go_sem] theorem uv_shl_20 (yk : IntKind) : binOp .shl t (uv x) (.int yk 20) = pure (uv (x <<< 20)) := uv_shl t x yk 20 (by decide)
@[go_sem] theorem uv_shr_20 (yk : IntKind) : binOp .shr t (uv x) (.int yk 20) = pure (uv (x >>> 20)) := uv_shr t x yk 20 (by decide)
@[go_sem] theorem uv_shl_21 (yk : IntKind) : binOp .shl t (uv x) (.int yk 21) = pure (uv (x <<< 21)) := uv_shl t x yk 21 (by decide)
@[go_sem] theorem uv_shr_21 (yk : IntKind) : binOp .shr t (uv x) (.int yk 21) = pure (uv (x >>> 21)) := uv_shr t x yk 21 (by decide)
@[go_sem] theorem uv_shl_22 (yk : IntKind) : binOp .shl t (uv x) (.int yk 22) = pure (uv (x <<< 22)) := uv_shl t x yk 22 (by decide)
@[go_sem] theorem uv_shr_22 (yk : IntKind) : binOp .shr t (uv x) (.int yk 22) = pure (uv (x >>> 22)) := uv_shr t x yk 22 (by decide)
@[go_sem] theorem uv_shl_23 (yk : IntKind) : binOp .shl t (uv x) (.int yk 23) = pure (uv (x <<< 23)) := uv_shl t x yk 23 (by decide)
@[go_sem] theorem uv_shr_23 (yk : IntKind) : binOp .shr t (uv x) (.int yk 23) = pure (uv (x >>> 23)) := uv_shr t x yk 23 (by decide)
@[go_sem] theorem uv_shl_24 (yk : IntKind) : binOp .shl t (uv x) (.int yk 24) = pure (uv (x <<< 24)) := uv_shl t x yk 24 (by decide)
@[go_sem] theorem uv_shr_24 (yk : IntKind) : binOp .shr t (uv x) (.int yk 24) = pure (uv (x >>> 24)) := uv_shr t x yk 24 (by decide)
@[go_sem] theorem uv_shl_25 (yk : IntKind) : binOp .shl t (uv x) (.int yk 25) = pure (uv (x <<< 25)) := uv_shl t x yk 25 (by decide)
@[go_sem] theorem uv_shr_25 (yk : IntKind) : binOp .shr t (uv x) (.int yk 25) = pure (uv (x >>> 25)) := uv_shr t x yk 25 (by decide)
@[go_sem] theorem uv_shl_26 (yk : IntKind) : binOp .shl t (uv x) (.int yk 26) = pure (uv (x <<< 26)) := uv_shl t x yk 26 (by decide)
@[go_sem] theorem uv_shr_26 (yk : IntKind) : binOp .shr t (uv x) (.int yk 26) = pure (uv (x >>> 26)) := uv_shr t x yk 26 (by decide)
@[go_sem] theorem uv_shl_27 (yk : IntKind) : binOp .shl t (uv x) (.int yk 27) = pure (uv (x <<< 27)) := uv_shl t x yk 27 (by decide)
@[go_sem] theorem uv_shr_27 (yk : IntKind) : binOp .shr t (uv x) (.int yk 27) = pure (uv (x >>> 27)) := uv_shr t x yk 27 (by decide)
@[go_sem] theorem uv_shl_28 (yk : IntKind) : binOp .shl t (uv x) (.int yk 28) = pure (uv (x <<< 28)) := uv_shl t x yk 28 (by decide)
@[go_sem] theorem uv_shr_28 (yk : IntKind) : binOp .shr t (uv x) (.int yk 28) = pure (uv (x >>> 28)) := uv_shr t x yk 28 (by decide)
@[go_sem] theorem uv_shl_29 (yk : IntKind) : binOp .shl t (uv x) (.int yk 29) = pure (uv (x <<< 29)) := uv_shl t x yk 29 (by decide)
@[go_sem] theorem uv_shr_29 (yk : IntKind) : binOp .shr t (uv x) (.int yk 29) = pure (uv (x >>> 29)) := uv_shr t x yk 29 (by decide)
@[go_sem] theorem uv_shl_30 (yk : IntKind) : binOp .shl t (uv x) (.int yk 30) = pure (uv (x <<< 30)) := uv_shl t x yk 30 (by decide)
@[go_sem] theorem uv_shr_30 (yk : IntKind) : binOp .shr t (uv x) (.int yk 30) = pure (uv (x >>> 30)) := uv_shr t x yk 30 (by decide)
@[go_sem] theorem uv_shl_31 (yk : IntKind) : binOp .shl t (uv x) (.int yk 31) = pure (uv (x <<< 31)) := uv_shl t x yk 31 (by decide)
@[go_sem] theorem uv_shr_31 (yk : IntKind) : binOp .shr t (uv x) (.int yk 31) = pure (uv (x >>> 31)) := uv_shr t x yk 31 (by decide)
end

section
variable {P : Program} (w : World) (src dst : TypeId)
@[go_sem high] theorem run_convert_bv_uv (b : UInt8) (hs : (P.underlying src).isSome = true) (hd : P.underlying dst = some (.int .u32)) : (convert src dst (bv b)).run P w = .ok (uv b.toUInt32) w := by
  obtain ⟨d, hd'⟩ := Option.isSome_iff_exists.1 hs
  simp only [convert, bv, Sem.run_bind, run_underlying hd', run_underlying hd, Result.andThen_ok]
  show Result.ok (Value.int .u32 (IntKind.u32.wrap (b.toNat : Int))) w = _
  rw [wrap_u32]
  unfold uv
  congr 4
  apply UInt32.toNat_inj.1
  rw [UInt32.toNat_ofNat', UInt8.toNat_toUInt32]
  have := b.toNat_lt
  omega
@[go_sem high] theorem run_convert_uv_bv (x : UInt32) (hs : (P.underlying src).isSome = true) (hd : P.underlying dst = some (.int .u8)) : (convert src dst (uv x)).run P w = .ok (bv x.toUInt8) w := by
  obtain ⟨d, hd'⟩ := Option.isSome_iff_exists.1 hs
  simp only [convert, uv, Sem.run_bind, run_underlying hd', run_underlying hd, Result.andThen_ok]
  show Result.ok (Value.int .u8 (IntKind.u8.wrap (x.toNat : Int))) w = _
  rw [wrap_u8]
  unfold bv
  congr 4
end
end Go.Proofs.YteiepenanffhcaaDoor
