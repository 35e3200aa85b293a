/- Reading a list of nodes that came in. -/
import Derived.Test.YtocfiabbhcgegaaOpenN
import Derived.Test.YtocfiabbhcgegaaNodeOf
namespace Go.Proofs.Ytocfiabbhcgegaa
open Go Go.RowKit Go.ChangeShapes Go.WideShapes Go.ChangeAt Go.Deep
set_option linter.unusedVariables false

/-- What is known of a node that came in. -/
structure NodeIn (w : World) (x : NodeV) : Prop where
  val : ∃ l, Row w x.ao x.n l
  nil : x.ao = none → x.n = 0 ∧ x.c = 0
  len : x.n ≤ 140737488351232
  kind : inI64 x.kind
  left : inI64 x.left
  right : inI64 x.right
  lc : inI64 x.lc
  rc : inI64 x.rc
/-- A list of nodes in memory. -/
def Nodes (w : World) (ao : Option Addr) (n : Nat) (os : List NodeV) : Prop :=
  os.length = n ∧ ∀ i, (h : i < os.length) → ∃ b o, ao = some ⟨b, o, none⟩ ∧ w.rangeAt b (o + i * 102) (nodeC os[i])
theorem Nodes.at0 {w : World} {ao : Option Addr} {n : Nat} {os : List NodeV} (h : Nodes w ao n os) (hn : 0 < n) : ∃ b o, ao = some ⟨b, o, none⟩ := by
  obtain ⟨hl, hc⟩ := h
  obtain ⟨b, o, e, _⟩ := hc 0 (by omega)
  exact ⟨b, o, e⟩
theorem Nodes.range {w : World} {b o n : Nat} {os : List NodeV} (h : Nodes w (some ⟨b, o, none⟩) n os) (i : Nat) (hi : i < os.length) : w.rangeAt b (o + i * 102) (nodeC os[i]) := by
  obtain ⟨b', o', e, hc⟩ := h.2 i hi
  cases e; exact hc
theorem rangeAt_lt2 {w : World} {b o : Nat} {cs : List Value} (h : w.rangeAt b o cs) (hn : 0 < cs.length) : b < w.heap.size :=
  block_lt_of_cell (h 0 _ (List.getElem?_eq_getElem hn))
theorem Nodes.old {w w' : World} {ao : Option Addr} {n : Nat} {os : List NodeV} (h : Nodes w ao n os) (hb : Below w.heap.size w w') : Nodes w' ao n os :=
  ⟨h.1, fun i hi => by
    obtain ⟨b, o, e, hc⟩ := h.2 i hi
    exact ⟨b, o, e, rangeAt_below hc hb (rangeAt_lt2 hc (by rw [length_nodeC]; omega))⟩⟩
instance : Inhabited NodeV := ⟨noNode⟩
section
variable {H : Type} {enc : TypeId × Value → H} {w : World} {base : Nat} {sp : Nat → Bool} {held : Bool}
theorem trod_nodeIn {fuel : Nat} {cs : List Value} {x : DataW H × List MemPlace} (hsp : ∀ b, sp b = true) (h : DataW.trod enc Try.prog w base sp held fuel 46 cs = some x) (hs : Sized Try.prog 46 x.1) :
    ∃ (o : NodeV), cs = nodeC o ∧ NodeIn w o := by
  obtain ⟨nd, l', e8, ik, il, ir, ilc, irc, hr', hm', hsn⟩ := trod_node hsp h
  exact ⟨nd, e8, ⟨⟨l', hr'.1⟩, hr'.2.1, Nat.le_trans hr'.2.2 (hsn hs), ik, il, ir, ilc, irc⟩⟩

/-- A list of nodes that came in. -/
theorem open_nodes {r : Reach} {b0 : Nat} {v : Value} {d : DataW H} {p : List MemPlace} (hsp : ∀ b, sp b = true) (hv : Value.okWide Try.prog w r b0 41 v) (h : DataW.Trod enc Try.prog w base sp held 41 v d p)
    (hs : Sized Try.prog 41 d) :
    ∃ (ao : Option Addr) (n c : Nat) (os : List NodeV), v = .slice ao n c ∧ Nodes w ao n os ∧ n ≤ 4611686018427387904 ∧ ∀ o ∈ os, NodeIn w o := by
  have ht := Try.underlying41
  have hct : Try.prog.cellsOf 46 = 102 := by kernel_rfl
  have hbt : 1 ≤ Try.prog.bytesOf 46 := of_decide_eq_true (by kernel_rfl)
  obtain ⟨a0, n, c, rfl⟩ := okWide_slice ht hv
  obtain ⟨fuel, hf⟩ := h
  rcases open_slice ht hf with ⟨hcs, hx⟩ | ⟨a, len, cap, m, k, D, Pl, hcs, _, hl, hm, hmm, hx, hel⟩
  · simp [Value.cells] at hcs
    obtain ⟨rfl, rfl, rfl⟩ := hcs
    exact ⟨none, 0, 0, [], rfl, ⟨rfl, fun i h => absurd h (by simp)⟩, by omega, fun o ho => by cases ho⟩
  · simp [Value.cells] at hcs
    obtain ⟨rfl, rfl, rfl⟩ := hcs
    have hd : d = .slice ((List.range n).map D) ((List.range (m - n)).map fun j => D (n + j)) := (Prod.mk.inj hx).1
    rw [hd] at hs
    have hlen := sized_len ht hs
    have hn : n ≤ 4611686018427387904 := by
      simp only [List.length_map, List.length_range, reachBytes] at hlen
      have h1 : n * 1 ≤ (n + (m - n)) * Try.prog.bytesOf 46 := Nat.mul_le_mul (by omega) hbt
      omega
    have hnm : n ≤ m := by rw [hmm]; split <;> omega
    rw [hct] at hel
    have each : ∀ i, i < n → ∃ o : NodeV, (∃ b off, a = ⟨b, off, none⟩ ∧ w.rangeAt b (off + i * 102) (nodeC o)) ∧ NodeIn w o := by
      have one : ∀ i, i < n → ∃ cs' : List Value, ∃ o : NodeV, w.cells? base (a.add (i * 102)) 102 = some cs' ∧ cs' = nodeC o ∧ NodeIn w o := fun i hi => by
        obtain ⟨cs', h1, h2⟩ := hel i (by omega)
        obtain ⟨o, h3, h4⟩ := trod_nodeIn hsp h2 (sized_elem (i := i) ht hs (by simp [hi]))
        exact ⟨cs', o, h1, h3, h4⟩
      intro i hi
      obtain ⟨cs', o, h1, rfl, h4⟩ := one i hi
      obtain ⟨h3, hl', h5⟩ := World.cells?_some h1
      have hlo := length_nodeC o
      obtain ⟨b, off, s⟩ := a
      have hcell : ∀ j v, (nodeC o)[j]? = some v → w.cell? (((⟨b, off, s⟩ : Addr).add (i * 102)).add j) = some v := by
        intro j v hv
        have := h5 j (by have := (List.getElem?_eq_some_iff.1 hv).1; omega)
        rw [this]; exact hv
      have hs0 : s = none := by
        obtain ⟨c0, o0, g1, rfl, _⟩ := one 0 (by omega)
        have hl0 := length_nodeC o0
        obtain ⟨_, _, g5⟩ := World.cells?_some g1
        have := g5 0 (by omega)
        rw [List.getElem?_eq_getElem (by omega)] at this
        simpa [Addr.add] using World.cell?_spot this
      subst hs0
      refine ⟨o, ⟨b, off, rfl, fun j v hv => ?_⟩, h4⟩
      have := hcell j v hv
      rw [Addr.add_mid, Addr.add_mid] at this
      exact this
    obtain ⟨V, hV⟩ := choose_lt (α := NodeV) (p := fun i o => (∃ b off, a = ⟨b, off, none⟩ ∧ w.rangeAt b (off + i * 102) (nodeC o)) ∧ NodeIn w o) each
    refine ⟨some a, n, c, (List.range n).map V, rfl, ⟨by simp, fun i hi => ?_⟩, hn, fun o ho => ?_⟩
    · have hi' : i < n := by simpa using hi
      obtain ⟨⟨b, o, rfl, hr⟩, _⟩ := hV i hi'
      refine ⟨b, o, rfl, ?_⟩
      simpa using hr
    · obtain ⟨i, hi, rfl⟩ := List.mem_map.1 ho
      exact (hV i (by simpa using hi)).2
end
end Go.Proofs.Ytocfiabbhcgegaa
