/- Reading arguments that came in: bytes, digests, lists of them. No program in sight. -/
import Derived.Test.YtocfiabbhcgegaaBase
import Derived.ProofKit
import Derived.OpenShut
import Derived.Deep.Slices
import Derived.SizedLaws
namespace Go.Proofs.Ytocfiabbhcgegaa
open Go Go.RowKit Go.ChangeShapes Go.WideShapes Go.ChangeAt Go.Deep

def byteAt : Value → UInt8
  | .int _ k => UInt8.ofNat k.toNat
  | _ => 0
theorem bv_byteAt {k : Int} (h : (Lit.int .u8 k).wf = true) : bv (byteAt (.int .u8 k)) = .int .u8 k := by
  have hb := bounds_u8 h
  unfold byteAt bv
  congr 1
  rw [UInt8.toNat_ofNat']
  omega
theorem bvs_ext {cs : List Value} (h : ∀ i, i < cs.length → ∃ k, cs[i]? = some (.int .u8 k) ∧ (Lit.int .u8 k).wf = true) : cs = bvs (cs.map byteAt) := by
  refine List.ext_getElem? fun i => ?_
  rw [bvs_getElem?, List.getElem?_map]
  rcases Nat.lt_or_ge i cs.length with hi | hi
  · obtain ⟨k, hk, hw⟩ := h i hi
    rw [hk]; simp only [Option.map_some, bv_byteAt hw]
  · rw [List.getElem?_eq_none hi]; rfl

instance : Inhabited D32 := ⟨zero32⟩
section
variable {H : Type} {enc : TypeId × Value → H} {P : Program} {w : World} {base : Nat} {sp : Nat → Bool} {held : Bool} {t e : TypeId}

/-- An array of bytes, by its cells. -/
theorem trod_bytes {n fuel : Nat} {cs : List Value} {x : DataW H × List MemPlace} (ht : P.underlying t = some (.array n e)) (he : P.underlying e = some (.int .u8)) (hc : P.cellsOf e = 1) (hct : P.cellsOf t = n)
    (h : DataW.trod enc P w base sp held fuel t cs = some x) : ∃ l : List UInt8, l.length = n ∧ cs = bvs l := by
  obtain ⟨xs, m, rfl, rfl, hl, hn, hel⟩ := DataW.trod_array ht h
  rw [hct] at hl
  refine ⟨cs.map byteAt, by simpa using hl, bvs_ext fun i hi => ?_⟩
  have h1 := hel i (by omega)
  rw [hc, Nat.mul_one] at h1
  obtain ⟨y, hy⟩ : ∃ y, xs[i]? = some y := ⟨xs[i]'(by omega), List.getElem?_eq_getElem (by omega)⟩
  rw [hy] at h1
  obtain ⟨k, e1, _, hw⟩ := DataW.trod_int he h1
  refine ⟨k, ?_, hw⟩
  have := congrArg (·[0]?) e1
  simpa [List.getElem?_take, List.getElem?_drop] using this

theorem trod_d32 {fuel : Nat} {cs : List Value} {x : DataW H × List MemPlace} (ht : P.underlying t = some (.array 32 e)) (he : P.underlying e = some (.int .u8)) (hc : P.cellsOf e = 1) (hct : P.cellsOf t = 32)
    (h : DataW.trod enc P w base sp held fuel t cs = some x) : ∃ d : D32, cs = bvs d.1 := by
  obtain ⟨l, hl, hcs⟩ := trod_bytes ht he hc hct h
  exact ⟨⟨l, hl⟩, hcs⟩

theorem okWide_array {n : Nat} {r : Reach} {b0 : Nat} {v : Value} (ht : P.underlying t = some (.array n e)) (h : Value.okWide P w r b0 t v) : ∃ cs, v = .agg cs ∧ cs.size = P.cellsOf t := by
  simp only [Value.okWide, ht] at h
  obtain ⟨cs, h1, h2, _⟩ := h
  exact ⟨cs, h1, h2⟩

theorem open_d32 {r : Reach} {b0 : Nat} {v : Value} {d : DataW H} {p : List MemPlace} (ht : P.underlying t = some (.array 32 e)) (he : P.underlying e = some (.int .u8)) (hc : P.cellsOf e = 1) (hct : P.cellsOf t = 32)
    (hv : Value.okWide P w r b0 t v) (h : DataW.Trod enc P w base sp held t v d p) : ∃ x : D32, v = .agg (dc x) := by
  obtain ⟨cs, rfl, _⟩ := okWide_array ht hv
  obtain ⟨fuel, hf⟩ := h
  obtain ⟨x, hx⟩ := trod_d32 ht he hc hct hf
  refine ⟨x, ?_⟩
  have : cs.toList = bvs x.1 := hx
  unfold dc
  rw [← this]

/-- A list of bytes that came in: what the walk is told of it. -/
def InRow (w : World) (ao : Option Addr) (n c : Nat) (l : List UInt8) : Prop :=
  Row w ao n l ∧ (ao = none → n = 0 ∧ c = 0) ∧ n ≤ c

theorem row_of_ints {a : Addr} {zs : List Int} {len : Nat} (hl : len ≤ zs.length) (hc : ∀ i, i < zs.length → w.cell? (a.add i) = some (.int .u8 (zs.getD i 0))) (hw : ∀ n ∈ zs, (Lit.int .u8 n).wf = true) :
    ∃ l : List UInt8, Row w (some a) len l := by
  refine ⟨(zs.take len).map fun z => UInt8.ofNat z.toNat, by simp; omega, fun i hi => ?_⟩
  have hi' : i < len := by simp at hi; omega
  have h1 := hc i (by omega)
  have h0 := hc 0 (by omega)
  obtain ⟨b, o, s⟩ := a
  have hs : s = none := by simpa [Addr.add] using World.cell?_spot h0
  subst hs
  refine ⟨b, o, rfl, ?_⟩
  rw [Addr.add_mid] at h1
  rw [h1, List.getElem_map, List.getElem_take]
  have hiz : i < zs.length := by omega
  have hwi := bounds_u8 (hw _ (List.getElem_mem hiz))
  have : zs.getD i 0 = zs[i]'(by omega) := by simp [List.getD, List.getElem?_eq_getElem (show i < zs.length by omega)]
  rw [this, UInt8.toNat_ofNat']
  congr 2
  omega

theorem open_row {r : Reach} {b0 : Nat} {v : Value} {d : DataW H} {p : List MemPlace} (hsp : ∀ b, sp b = true) (ht : P.underlying t = some (.slice e)) (he : P.underlying e = some (.int .u8)) (hc : P.cellsOf e = 1)
    (hv : Value.okWide P w r b0 t v) (h : DataW.Trod enc P w base sp held t v d p) :
    ∃ (ao : Option Addr) (n c : Nat) (l : List UInt8), v = .slice ao n c ∧ InRow w ao n c l ∧ c ≤ maxLen ∧ ((ao = none ∧ d = .nil) ∨ ∃ es ss, d = .slice es ss ∧ es.length + ss.length = c) := by
  obtain ⟨a0, n, c, rfl⟩ := okWide_slice ht hv
  obtain ⟨fuel, hf⟩ := h
  rcases open_ints ht he hc hf with ⟨hcs, hx⟩ | ⟨a, len, cap, zs, hcs, _, hl, hm, hz, hx, hcell, hw⟩
  · simp [Value.cells] at hcs
    obtain ⟨rfl, rfl, rfl⟩ := hcs
    exact ⟨none, 0, 0, [], rfl, ⟨Row.nil, fun _ => ⟨rfl, rfl⟩, Nat.le_refl _⟩, Nat.zero_le _, .inl ⟨rfl, (Prod.mk.inj hx).1⟩⟩
  · simp [Value.cells] at hcs
    obtain ⟨rfl, rfl, rfl⟩ := hcs
    rw [hsp, if_pos rfl] at hz
    obtain ⟨l, hr⟩ := row_of_ints (len := n) (by omega) hcell hw
    refine ⟨some a, n, c, l, rfl, ⟨hr, (fun h => by cases h), hl⟩, hm, .inr ⟨_, _, (Prod.mk.inj hx).1, ?_⟩⟩
    simp [lits]; omega

/-- A list of digests that came in. -/
theorem open_digs {r : Reach} {b0 : Nat} {v : Value} {d : DataW H} {p : List MemPlace} {t2 : TypeId} (ht : P.underlying t = some (.slice t2)) (ht2 : P.underlying t2 = some (.array 32 e)) (he : P.underlying e = some (.int .u8)) (hc : P.cellsOf e = 1) (hct : P.cellsOf t2 = 32)
    (hv : Value.okWide P w r b0 t v) (h : DataW.Trod enc P w base sp held t v d p) :
    ∃ (ao : Option Addr) (n c : Nat) (ds : List D32), v = .slice ao n c ∧ Digs w ao n ds ∧ (ao = none → n = 0 ∧ c = 0) ∧ n ≤ c ∧ c ≤ maxLen := by
  obtain ⟨a0, n, c, rfl⟩ := okWide_slice ht hv
  obtain ⟨fuel, hf⟩ := h
  rcases open_slice ht hf with ⟨hcs, hx⟩ | ⟨a, len, cap, m, k, D, Pl, hcs, _, hl, hm, hmm, hx, hel⟩
  · simp [Value.cells] at hcs
    obtain ⟨rfl, rfl, rfl⟩ := hcs
    exact ⟨none, 0, 0, [], rfl, ⟨rfl, fun i h => absurd h (by simp)⟩, fun _ => ⟨rfl, rfl⟩, Nat.le_refl _, Nat.zero_le _⟩
  · simp [Value.cells] at hcs
    obtain ⟨rfl, rfl, rfl⟩ := hcs
    have hnm : n ≤ m := by rw [hmm]; split <;> omega
    rw [hct] at hel
    have each : ∀ i, i < n → ∃ d : D32, ∃ b o, a = ⟨b, o, none⟩ ∧ w.rangeAt b (o + 32 * i) (bvs d.1) := by
      intro i hi
      obtain ⟨cs', h1, h2⟩ := hel i (by omega)
      obtain ⟨d, rfl⟩ := trod_d32 ht2 he hc hct h2
      obtain ⟨h3, h4, h5⟩ := World.cells?_some h1
      have hd := d.2
      obtain ⟨b, o, s⟩ := a
      have hcell : ∀ j v, (bvs d.1)[j]? = some v → w.cell? (((⟨b, o, s⟩ : Addr).add (i * 32)).add j) = some v := by
        intro j v hv
        have := h5 j (by have := (List.getElem?_eq_some_iff.1 hv).1; simpa [hd] using this)
        rw [this]; exact hv
      have hs : s = none := by
        obtain ⟨c0, g1, g2⟩ := hel 0 (by omega)
        obtain ⟨d', rfl⟩ := trod_d32 ht2 he hc hct g2
        have hd' := d'.2
        obtain ⟨_, _, g5⟩ := World.cells?_some g1
        have := g5 0 (by omega)
        rw [bvs_getElem?, List.getElem?_eq_getElem (by omega)] at this
        simpa [Addr.add] using World.cell?_spot this
      subst hs
      refine ⟨d, b, o, rfl, fun j v hv => ?_⟩
      have := hcell j v hv
      rw [Addr.add_mid, Addr.add_mid] at this
      rw [show o + 32 * i + j = o + i * 32 + j by omega]; exact this
    obtain ⟨V, hV⟩ := choose_lt (α := D32) (p := fun i d => ∃ b o, a = ⟨b, o, none⟩ ∧ w.rangeAt b (o + 32 * i) (bvs d.1)) each
    refine ⟨some a, n, c, (List.range n).map V, rfl, ⟨by simp, fun i hi => ?_⟩, (fun h => by cases h), hl, hm⟩
    have hi' : i < n := by simpa using hi
    obtain ⟨b, o, rfl, hr⟩ := hV i hi'
    refine ⟨b, o, rfl, ?_⟩
    simpa using hr
end
end Go.Proofs.Ytocfiabbhcgegaa
