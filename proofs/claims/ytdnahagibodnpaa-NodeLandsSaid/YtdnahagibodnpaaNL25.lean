/- Texts joined: Open, OpenN, OpenNodes. -/
import Derived.Test.YtdnahagibodnpaaNL00
import Derived.ProofKit
import Derived.OpenShut
import Derived.Deep.Slices
import Derived.SizedLaws
import Derived.Test.YtdnahagibodnpaaRows
import Derived.Test.YtdnahagibodnpaaNL17
import Derived.Test.YtdnahagibodnpaaNL18
import Derived.Test.YtdnahagibodnpaaNL22
/- Reading arguments that came in: bytes, digests, lists of them. No program in sight. -/
namespace Go.Proofs.Ytdnahagibodnpaa
set_option linter.unusedSectionVars false
set_option linter.unusedSimpArgs false
set_option linter.unusedVariables false
open Go Go.RowKit Go.ChangeShapes Go.WideShapes Go.ChangeAt Go.Deep
def byteAt : Value → UInt8
  | .int _ k => UInt8.ofNat k.toNat
  | _ => 0
theorem bv_byteAt {k : Int} (h : (Lit.int .u8 k).wf = true) : bv (byteAt (.int .u8 k)) = .int .u8 k := by
  have hb := bounds_u8 h
  unfold byteAt bv
  congr 1
  rw [UInt8.toNat_ofNat']
  omega
theorem bvs_ext {cs : List Value} (h : ∀ i, i < cs.length → ∃ k, cs[i]? = some (.int .u8 k) ∧ (Lit.int .u8 k).wf = true) : cs = bvs (cs.map byteAt) := by
  refine List.ext_getElem? fun i => ?_
  rw [bvs_getElem?, List.getElem?_map]
  rcases Nat.lt_or_ge i cs.length with hi | hi
  · obtain ⟨k, hk, hw⟩ := h i hi
    rw [hk]; simp only [Option.map_some, bv_byteAt hw]
  · rw [List.getElem?_eq_none hi]; rfl
instance : Inhabited D32 := ⟨zero32⟩
section
variable {H : Type} {enc : TypeId × Value → H} {P : Program} {w : World} {base : Nat} {sp : Nat → Bool} {held : Bool} {t e : TypeId}
theorem trod_bytes {n fuel : Nat} {cs : List Value} {x : DataW H × List MemPlace} (ht : P.underlying t = some (.array n e)) (he : P.underlying e = some (.int .u8)) (hc : P.cellsOf e = 1) (hct : P.cellsOf t = n)
    (h : DataW.trod enc P w base sp held fuel t cs = some x) : ∃ l : List UInt8, l.length = n ∧ cs = bvs l := by
  obtain ⟨xs, m, rfl, rfl, hl, hn, hel⟩ := DataW.trod_array ht h
  rw [hct] at hl
  refine ⟨cs.map byteAt, by simpa using hl, bvs_ext fun i hi => ?_⟩
  have h1 := hel i (by omega)
  rw [hc, Nat.mul_one] at h1
  obtain ⟨y, hy⟩ : ∃ y, xs[i]? = some y := ⟨xs[i]'(by omega), List.getElem?_eq_getElem (by omega)⟩
  rw [hy] at h1
  obtain ⟨k, e1, _, hw⟩ := DataW.trod_int he h1
  refine ⟨k, ?_, hw⟩
  have := congrArg (·[0]?) e1
  simpa [List.getElem?_take, List.getElem?_drop] using this
theorem trod_d32 {fuel : Nat} {cs : List Value} {x : DataW H × List MemPlace} (ht : P.underlying t = some (.array 32 e)) (he : P.underlying e = some (.int .u8)) (hc : P.cellsOf e = 1) (hct : P.cellsOf t = 32)
    (h : DataW.trod enc P w base sp held fuel t cs = some x) : ∃ d : D32, cs = bvs d.1 := by
  obtain ⟨l, hl, hcs⟩ := trod_bytes ht he hc hct h
  exact ⟨⟨l, hl⟩, hcs⟩
def InRow (w : World) (ao : Option Addr) (n c : Nat) (l : List UInt8) : Prop :=
  Row w ao n l ∧ (ao = none → n = 0 ∧ c = 0) ∧ n ≤ c
theorem row_of_ints {a : Addr} {zs : List Int} {len : Nat} (hl : len ≤ zs.length) (hc : ∀ i, i < zs.length → w.cell? (a.add i) = some (.int .u8 (zs.getD i 0))) (hw : ∀ n ∈ zs, (Lit.int .u8 n).wf = true) :
    ∃ l : List UInt8, Row w (some a) len l := by
  refine ⟨(zs.take len).map fun z => UInt8.ofNat z.toNat, by simp; omega, fun i hi => ?_⟩
  have hi' : i < len := by simp at hi; omega
  have h1 := hc i (by omega)
  have h0 := hc 0 (by omega)
  obtain ⟨b, o, s⟩ := a
  have hs : s = none := by simpa [Addr.add] using World.cell?_spot h0
  subst hs
  refine ⟨b, o, rfl, ?_⟩
  rw [Addr.add_mid] at h1
  rw [h1, List.getElem_map, List.getElem_take]
  have hiz : i < zs.length := by omega
  have hwi := bounds_u8 (hw _ (List.getElem_mem hiz))
  have : zs.getD i 0 = zs[i]'(by omega) := by simp [List.getD, List.getElem?_eq_getElem (show i < zs.length by omega)]
  rw [this, UInt8.toNat_ofNat']
  congr 2
  omega
theorem open_row {r : Reach} {b0 : Nat} {v : Value} {d : DataW H} {p : List MemPlace} (hsp : ∀ b, sp b = true) (ht : P.underlying t = some (.slice e)) (he : P.underlying e = some (.int .u8)) (hc : P.cellsOf e = 1)
    (hv : Value.okWide P w r b0 t v) (h : DataW.Trod enc P w base sp held t v d p) :
    ∃ (ao : Option Addr) (n c : Nat) (l : List UInt8), v = .slice ao n c ∧ InRow w ao n c l ∧ c ≤ maxLen ∧ ((ao = none ∧ d = .nil) ∨ ∃ es ss, d = .slice es ss ∧ es.length + ss.length = c) := by
  obtain ⟨a0, n, c, rfl⟩ := okWide_slice ht hv
  obtain ⟨fuel, hf⟩ := h
  rcases open_ints ht he hc hf with ⟨hcs, hx⟩ | ⟨a, len, cap, zs, hcs, _, hl, hm, hz, hx, hcell, hw⟩
  · simp [Value.cells] at hcs
    obtain ⟨rfl, rfl, rfl⟩ := hcs
    exact ⟨none, 0, 0, [], rfl, ⟨Row.nil, fun _ => ⟨rfl, rfl⟩, Nat.le_refl _⟩, Nat.zero_le _, .inl ⟨rfl, (Prod.mk.inj hx).1⟩⟩
  · simp [Value.cells] at hcs
    obtain ⟨rfl, rfl, rfl⟩ := hcs
    rw [hsp, if_pos rfl] at hz
    obtain ⟨l, hr⟩ := row_of_ints (len := n) (by omega) hcell hw
    refine ⟨some a, n, c, l, rfl, ⟨hr, (fun h => by cases h), hl⟩, hm, .inr ⟨_, _, (Prod.mk.inj hx).1, ?_⟩⟩
    simp [lits]; omega
end
end Go.Proofs.Ytdnahagibodnpaa

/- Reading a node that came in. -/
namespace Go.Proofs.Ytdnahagibodnpaa
set_option linter.unusedSectionVars false
set_option linter.unusedSimpArgs false
open Go Go.RowKit Go.ChangeShapes Go.WideShapes Go.ChangeAt Go.Deep
set_option linter.unusedVariables false
def Sized {H : Type} (P : Program) (t : TypeId) (d : DataW H) : Prop := ∀ n ∈ d.weights P t, n ≤ reachBytes
section
variable {H : Type} {enc : TypeId × Value → H} {P : Program} {w : World} {base : Nat} {sp : Nat → Bool} {held : Bool} {t e : TypeId}
theorem sized_arg {ts : List TypeId} {ds : List (DataW H)} (h : (DataW.weightsEach P ts ds).all (· ≤ reachBytes) = true) {j : Nat} {d : DataW H} (ht : ts[j]? = some t) (hd : ds[j]? = some d) : Sized P t d := fun n hn => by
  have := List.all_eq_true.1 h _ (DataW.weights_mem_each ht hd n hn)
  simpa using this
theorem sized_part {fs : Array Field} {parts : List (DataW H)} (hu : P.underlying t = some (.struct fs)) (h : Sized P t (.agg parts)) {i : Nat} {f : Field} {d : DataW H} (hf : fs[i]? = some f) (hd : parts[i]? = some d) : Sized P f.type d := fun n hn => by
  refine h n ?_
  have : (DataW.agg parts).weights P t = DataW.weightsEach P (fs.toList.map (·.type)) parts := by simp [DataW.weights, hu]
  rw [this]
  exact DataW.weights_mem_each (j := i) (by simp [hf]) hd n hn
theorem weights_mem_all : ∀ {ds : List (DataW H)} {j : Nat} {d : DataW H}, ds[j]? = some d → ∀ n ∈ d.weights P e, n ∈ DataW.weightsAll P e ds
  | d0 :: ds, 0, d, hd, n, hn => by
    simp only [List.getElem?_cons_zero, Option.some.injEq] at hd
    subst hd
    simp only [DataW.weightsAll, List.mem_append]
    exact Or.inl hn
  | d0 :: ds, j + 1, d, hd, n, hn => by
    simp only [List.getElem?_cons_succ] at hd
    simp only [DataW.weightsAll, List.mem_append]
    exact Or.inr (weights_mem_all hd n hn)
  | [], _, _, hd, _, _ => by simp at hd
theorem sized_elem {es ss : List (DataW H)} (hu : P.underlying t = some (.slice e)) (h : Sized P t (.slice es ss)) {i : Nat} {d : DataW H} (hd : es[i]? = some d) : Sized P e d := fun n hn => by
  refine h n ?_
  simp only [DataW.weights, hu, List.mem_cons, List.mem_append]
  exact .inr (.inl (weights_mem_all hd n hn))
theorem sized_len {es ss : List (DataW H)} (hu : P.underlying t = some (.slice e)) (h : Sized P t (.slice es ss)) : (es.length + ss.length) * P.bytesOf e ≤ reachBytes :=
  h _ (by simp [DataW.weights, hu])
theorem chain_step {cs x : List Value} (o k : Nat) (h : (cs.drop o).take k = x) : cs.drop o = x ++ cs.drop (o + k) := by
  rw [← h, ← List.drop_drop, List.take_append_drop]
theorem trod_row {fuel : Nat} {cs : List Value} {x : DataW H × List MemPlace} (hsp : ∀ b, sp b = true) (ht : P.underlying t = some (.slice e)) (he : P.underlying e = some (.int .u8)) (hc : P.cellsOf e = 1) (hby : P.bytesOf e = 1)
    (h : DataW.trod enc P w base sp held fuel t cs = some x) :
    ∃ (ao : Option Addr) (n c : Nat) (l : List UInt8), cs = [.slice ao n c] ∧ InRow w ao n c l ∧ c ≤ maxLen ∧ (Sized P t x.1 → c ≤ 140737488351232) := by
  rcases open_ints ht he hc h with ⟨hcs, hx⟩ | ⟨a, len, cap, zs, hcs, _, hl, hm, hz, hx, hcell, hw⟩
  · exact ⟨none, 0, 0, [], hcs, ⟨Row.nil, fun _ => ⟨rfl, rfl⟩, Nat.le_refl _⟩, Nat.zero_le _, fun _ => by omega⟩
  · rw [hsp, if_pos rfl] at hz
    obtain ⟨l, hr⟩ := row_of_ints (len := len) (by omega) hcell hw
    refine ⟨some a, len, cap, l, hcs, ⟨hr, (fun h => by cases h), hl⟩, hm, fun hs => ?_⟩
    rw [hx] at hs
    have := sized_len ht hs
    rw [hby] at this
    simp only [lits, List.length_map, List.length_take, List.length_drop, reachBytes] at this
    omega
end
section
variable {H : Type} {enc : TypeId × Value → H} {w : World} {base : Nat} {sp : Nat → Bool} {held : Bool}
theorem field_of {fs : Array Field} {i t o : Nat} (h : (fs[i]?).map (fun f => (f.type, f.offset)) = some (t, o)) : ∃ f, fs[i]? = some f ∧ f.type = t ∧ f.offset = o := by
  cases hf : fs[i]? with
  | none => rw [hf] at h; cases h
  | some f => rw [hf] at h; simp only [Option.map_some, Option.some.injEq, Prod.mk.injEq] at h; exact ⟨f, rfl, h.1, h.2⟩
set_option maxRecDepth 100000 in
theorem trod_node {fuel : Nat} {cs : List Value} {x : DataW H × List MemPlace} (hsp : ∀ b, sp b = true) (h : DataW.trod enc Try.prog w base sp held fuel 39 cs = some x) :
    ∃ (y : NodeV) (l : List UInt8), cs = nodeC y ∧ inI64 y.kind ∧ inI64 y.left ∧ inI64 y.right ∧ inI64 y.lc ∧ inI64 y.rc ∧ InRow w y.ao y.n y.c l ∧ y.c ≤ maxLen ∧ (Sized Try.prog 39 x.1 → y.c ≤ 140737488351232) := by
  have hu : Try.prog.underlying 39 = some (.struct (Try.prog.fieldsOf 39)) := by kernel_rfl
  obtain ⟨xs, n, _, hx, hlen, hxl, hf⟩ := DataW.trod_struct hu h
  have hfs : (Try.prog.fieldsOf 39).size = 9 := by kernel_rfl
  have hct : Try.prog.cellsOf 39 = 102 := by kernel_rfl
  rw [hfs] at hxl
  rw [hct] at hlen
  have ci : Try.prog.cellsOf 3 = 1 := by kernel_rfl
  have cd : Try.prog.cellsOf 36 = 32 := by kernel_rfl
  have ck : Try.prog.cellsOf 37 = 32 := by kernel_rfl
  have cb : Try.prog.cellsOf 23 = 1 := by kernel_rfl
  have c8 : Try.prog.cellsOf 5 = 1 := by kernel_rfl
  have by8 : Try.prog.bytesOf 5 = 1 := by kernel_rfl
  have get : ∀ (i t o : Nat), i < 9 → ((Try.prog.fieldsOf 39)[i]?).map (fun f => (f.type, f.offset)) = some (t, o) → ∃ y, DataW.trod enc Try.prog w base sp held n t ((cs.drop o).take (Try.prog.cellsOf t)) = some y ∧ (Sized Try.prog 39 x.1 → Sized Try.prog t y.1) := fun i t o hi h => by
    obtain ⟨f, h1, rfl, rfl⟩ := field_of h
    have hy : xs[i]? = some (xs[i]'(by omega)) := List.getElem?_eq_getElem (by omega)
    refine ⟨_, (hf i f h1).trans hy, fun hs => ?_⟩
    rw [hx] at hs
    exact sized_part hu hs h1 (by simp [hy])
  obtain ⟨y0, t0, _⟩ := get 0 3 0 (by omega) (by kernel_rfl)
  obtain ⟨y1, t1, _⟩ := get 1 3 1 (by omega) (by kernel_rfl)
  obtain ⟨y2, t2, _⟩ := get 2 3 2 (by omega) (by kernel_rfl)
  obtain ⟨y3, t3, _⟩ := get 3 3 3 (by omega) (by kernel_rfl)
  obtain ⟨y4, t4, _⟩ := get 4 3 4 (by omega) (by kernel_rfl)
  obtain ⟨y5, t5, _⟩ := get 5 36 5 (by omega) (by kernel_rfl)
  obtain ⟨y6, t6, _⟩ := get 6 36 37 (by omega) (by kernel_rfl)
  obtain ⟨y7, t7, _⟩ := get 7 37 69 (by omega) (by kernel_rfl)
  obtain ⟨y8, t8, s8⟩ := get 8 23 101 (by omega) (by kernel_rfl)
  rw [ci] at t0 t1 t2 t3 t4
  rw [cd] at t5 t6
  rw [ck] at t7
  rw [cb] at t8
  obtain ⟨a0, e0, _, w0⟩ := DataW.trod_int Try.underlying3 t0
  obtain ⟨a1, e1, _, w1⟩ := DataW.trod_int Try.underlying3 t1
  obtain ⟨a2, e2, _, w2⟩ := DataW.trod_int Try.underlying3 t2
  obtain ⟨a3, e3, _, w3⟩ := DataW.trod_int Try.underlying3 t3
  obtain ⟨a4, e4, _, w4⟩ := DataW.trod_int Try.underlying3 t4
  obtain ⟨d5, e5⟩ := trod_d32 Try.underlying36 Try.underlying5 c8 cd t5
  obtain ⟨d6, e6⟩ := trod_d32 Try.underlying36 Try.underlying5 c8 cd t6
  obtain ⟨d7, e7⟩ := trod_d32 Try.underlying37 Try.underlying5 c8 ck t7
  obtain ⟨ao, m, c, l, e8, hr, hm, hs⟩ := trod_row hsp Try.underlying23 Try.underlying5 c8 by8 t8
  refine ⟨⟨a0, a1, a2, a3, a4, d5, d6, d7, ao, m, c⟩, l, ?_, bounds_i64 w0, bounds_i64 w1, bounds_i64 w2, bounds_i64 w3, bounds_i64 w4, hr, hm, fun h => hs (s8 h)⟩
  have q0 := chain_step 0 1 e0
  rw [List.drop_zero] at q0
  rw [q0, chain_step (0 + 1) 1 e1, chain_step (0 + 1 + 1) 1 e2, chain_step (0 + 1 + 1 + 1) 1 e3, chain_step (0 + 1 + 1 + 1 + 1) 1 e4, chain_step (0 + 1 + 1 + 1 + 1 + 1) 32 e5, chain_step (0 + 1 + 1 + 1 + 1 + 1 + 32) 32 e6, chain_step (0 + 1 + 1 + 1 + 1 + 1 + 32 + 32) 32 e7, chain_step (0 + 1 + 1 + 1 + 1 + 1 + 32 + 32 + 32) 1 e8,
    List.drop_of_length_le (by omega)]
  rfl
end
end Go.Proofs.Ytdnahagibodnpaa

/- Reading a list of nodes that came in. -/
namespace Go.Proofs.Ytdnahagibodnpaa
set_option linter.unusedSectionVars false
set_option linter.unusedSimpArgs false
open Go Go.RowKit Go.ChangeShapes Go.WideShapes Go.ChangeAt Go.Deep
set_option linter.unusedVariables false
structure NodeIn (w : World) (x : NodeV) : Prop where
  val : ∃ l, Row w x.ao x.n l
  nil : x.ao = none → x.n = 0 ∧ x.c = 0
  len : x.n ≤ 140737488351232
  kind : inI64 x.kind
  left : inI64 x.left
  right : inI64 x.right
  lc : inI64 x.lc
  rc : inI64 x.rc
def Nodes (w : World) (ao : Option Addr) (n : Nat) (os : List NodeV) : Prop :=
  os.length = n ∧ ∀ i, (h : i < os.length) → ∃ b o, ao = some ⟨b, o, none⟩ ∧ w.rangeAt b (o + i * 102) (nodeC os[i])
theorem Nodes.at0 {w : World} {ao : Option Addr} {n : Nat} {os : List NodeV} (h : Nodes w ao n os) (hn : 0 < n) : ∃ b o, ao = some ⟨b, o, none⟩ := by
  obtain ⟨hl, hc⟩ := h
  obtain ⟨b, o, e, _⟩ := hc 0 (by omega)
  exact ⟨b, o, e⟩
theorem Nodes.range {w : World} {b o n : Nat} {os : List NodeV} (h : Nodes w (some ⟨b, o, none⟩) n os) (i : Nat) (hi : i < os.length) : w.rangeAt b (o + i * 102) (nodeC os[i]) := by
  obtain ⟨b', o', e, hc⟩ := h.2 i hi
  cases e; exact hc
theorem rangeAt_lt2 {w : World} {b o : Nat} {cs : List Value} (h : w.rangeAt b o cs) (hn : 0 < cs.length) : b < w.heap.size :=
  block_lt_of_cell (h 0 _ (List.getElem?_eq_getElem hn))
theorem Nodes.old {w w' : World} {ao : Option Addr} {n : Nat} {os : List NodeV} (h : Nodes w ao n os) (hb : Below w.heap.size w w') : Nodes w' ao n os :=
  ⟨h.1, fun i hi => by
    obtain ⟨b, o, e, hc⟩ := h.2 i hi
    exact ⟨b, o, e, rangeAt_below hc hb (rangeAt_lt2 hc (by rw [length_nodeC]; omega))⟩⟩
instance : Inhabited NodeV := ⟨noNode⟩
section
variable {H : Type} {enc : TypeId × Value → H} {w : World} {base : Nat} {sp : Nat → Bool} {held : Bool}
theorem trod_nodeIn {fuel : Nat} {cs : List Value} {x : DataW H × List MemPlace} (hsp : ∀ b, sp b = true) (h : DataW.trod enc Try.prog w base sp held fuel 39 cs = some x) (hs : Sized Try.prog 39 x.1) :
    ∃ (o : NodeV), cs = nodeC o ∧ NodeIn w o := by
  obtain ⟨nd, l', e8, ik, il, ir, ilc, irc, hr', hm', hsn⟩ := trod_node hsp h
  exact ⟨nd, e8, ⟨⟨l', hr'.1⟩, hr'.2.1, Nat.le_trans hr'.2.2 (hsn hs), ik, il, ir, ilc, irc⟩⟩
set_option maxRecDepth 100000 in
theorem open_nodes {r : Reach} {b0 : Nat} {v : Value} {d : DataW H} {p : List MemPlace} (hsp : ∀ b, sp b = true) (hv : Value.okWide Try.prog w r b0 22 v) (h : DataW.Trod enc Try.prog w base sp held 22 v d p)
    (hs : Sized Try.prog 22 d) :
    ∃ (ao : Option Addr) (n c : Nat) (os : List NodeV), v = .slice ao n c ∧ Nodes w ao n os ∧ n ≤ 140737488355328 ∧ ∀ o ∈ os, NodeIn w o := by
  have ht := Try.underlying22
  have hct : Try.prog.cellsOf 39 = 102 := by kernel_rfl
  have hbt : 1 ≤ Try.prog.bytesOf 39 := of_decide_eq_true (by kernel_rfl)
  obtain ⟨a0, n, c, rfl⟩ := okWide_slice ht hv
  obtain ⟨fuel, hf⟩ := h
  rcases open_slice ht hf with ⟨hcs, hx⟩ | ⟨a, len, cap, m, k, D, Pl, hcs, _, hl, hm, hmm, hx, hel⟩
  · simp [Value.cells] at hcs
    obtain ⟨rfl, rfl, rfl⟩ := hcs
    exact ⟨none, 0, 0, [], rfl, ⟨rfl, fun i h => absurd h (by simp)⟩, by omega, fun o ho => by cases ho⟩
  · simp [Value.cells] at hcs
    obtain ⟨rfl, rfl, rfl⟩ := hcs
    have hd : d = .slice ((List.range n).map D) ((List.range (m - n)).map fun j => D (n + j)) := (Prod.mk.inj hx).1
    rw [hd] at hs
    have hlen := sized_len ht hs
    have hn : n ≤ 140737488355328 := by
      simp only [List.length_map, List.length_range, reachBytes] at hlen
      have h1 : n * 1 ≤ (n + (m - n)) * Try.prog.bytesOf 39 := Nat.mul_le_mul (by omega) hbt
      omega
    have hnm : n ≤ m := by rw [hmm]; split <;> omega
    rw [hct] at hel
    have each : ∀ i, i < n → ∃ o : NodeV, (∃ b off, a = ⟨b, off, none⟩ ∧ w.rangeAt b (off + i * 102) (nodeC o)) ∧ NodeIn w o := by
      have one : ∀ i, i < n → ∃ cs' : List Value, ∃ o : NodeV, w.cells? base (a.add (i * 102)) 102 = some cs' ∧ cs' = nodeC o ∧ NodeIn w o := fun i hi => by
        obtain ⟨cs', h1, h2⟩ := hel i (by omega)
        obtain ⟨o, h3, h4⟩ := trod_nodeIn hsp h2 (sized_elem (i := i) ht hs (by simp [hi]))
        exact ⟨cs', o, h1, h3, h4⟩
      intro i hi
      obtain ⟨cs', o, h1, rfl, h4⟩ := one i hi
      obtain ⟨h3, hl', h5⟩ := World.cells?_some h1
      have hlo := length_nodeC o
      obtain ⟨b, off, s⟩ := a
      have hcell : ∀ j v, (nodeC o)[j]? = some v → w.cell? (((⟨b, off, s⟩ : Addr).add (i * 102)).add j) = some v := by
        intro j v hv
        have := h5 j (by have := (List.getElem?_eq_some_iff.1 hv).1; omega)
        rw [this]; exact hv
      have hs0 : s = none := by
        obtain ⟨c0, o0, g1, rfl, _⟩ := one 0 (by omega)
        have hl0 := length_nodeC o0
        obtain ⟨_, _, g5⟩ := World.cells?_some g1
        have := g5 0 (by omega)
        rw [List.getElem?_eq_getElem (by omega)] at this
        simpa [Addr.add] using World.cell?_spot this
      subst hs0
      refine ⟨o, ⟨b, off, rfl, fun j v hv => ?_⟩, h4⟩
      have := hcell j v hv
      rw [Addr.add_mid, Addr.add_mid] at this
      exact this
    obtain ⟨V, hV⟩ := choose_lt (α := NodeV) (p := fun i o => (∃ b off, a = ⟨b, off, none⟩ ∧ w.rangeAt b (off + i * 102) (nodeC o)) ∧ NodeIn w o) each
    refine ⟨some a, n, c, (List.range n).map V, rfl, ⟨by simp, fun i hi => ?_⟩, hn, fun o ho => ?_⟩
    · have hi' : i < n := by simpa using hi
      obtain ⟨⟨b, o, rfl, hr⟩, _⟩ := hV i hi'
      refine ⟨b, o, rfl, ?_⟩
      simpa using hr
    · obtain ⟨i, hi, rfl⟩ := List.mem_map.1 ho
      exact (hV i (by simpa using hi)).2
end
end Go.Proofs.Ytdnahagibodnpaa
