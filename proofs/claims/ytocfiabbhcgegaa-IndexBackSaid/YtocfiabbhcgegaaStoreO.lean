/- A byte stored into bytes of the call's own. No program in sight. -/
import Derived.Test.YtocfiabbhcgegaaArm2
namespace Go.Proofs.Ytocfiabbhcgegaa
open Go Go.RowKit
set_option linter.unusedVariables false

section
variable {P : Program} {e : TypeId} {Q : Exit → Act → World → Prop} {ops : Array Oper} {rest : List Oper} {o : Oper} {a : Act} {w : World}
/-- A byte stored into a cell of a block of any cells. -/
theorem arm_store_cell (ty : TypeId) (x y : Operand) (ho : o.op = .store ty x y) (hgd : o.guard = none) (b off : Nat) (hx : a.eval x = .pointer (some ⟨b, off, none⟩)) (u : UInt8) (hy : a.eval y = .int .u8 (u.toNat : Int))
    (hs : (P.info? ty).map (·.size) = some 1) (C : List Value) (e : TypeId) (hg : w.heap[b]? = some (.cells C.toArray e (0, 0))) (hlt : off < C.length)
    (h : ∀ w', Hid (w'.heap[b]? = some (.cells (C.set off (bv u)).toArray e (0, 0))) → w.grownBy w' (some b) → wpList P ops Q rest (a.put o.dst undef) w') : wpList P ops Q (o :: rest) a w := by
  have hc : w.cell? ⟨b, off, none⟩ = some C[off] := by
    rw [cell_of_row w b off _ e (0, 0) hg, ← Array.getElem?_toList, List.getElem?_eq_getElem hlt]
  have hf : w.frozen? ⟨b, off, none⟩ = false := by
    unfold World.frozen?
    rw [hg]
    simp
  refine wpList_store_int hgd ty x y ho ⟨b, off, none⟩ (bv u) hx hy ⟨_, _, rfl⟩ hs ⟨_, hc⟩ hf (h _ ?_ (grownBy_setC _ _ _))
  show _ = _
  rw [heap_setCell_same w b off _ e _ hg]
  congr 2
  apply Array.ext'
  simp
theorem arm_store_own (ty : TypeId) (x y : Operand) (ho : o.op = .store ty x y) (hgd : o.guard = none) (g n cap off base : Nat) (hx : a.eval x = .pointer (some ⟨g, off, none⟩)) (u : UInt8) (hy : a.eval y = .int .u8 (u.toNat : Int))
    (hs : (P.info? ty).map (·.size) = some 1) (L : List UInt8) (hown : Own w base e (.slice (some ⟨g, 0, none⟩) n cap) L) (hlt : off < L.length)
    (h : ∀ w', Own w' base e (.slice (some ⟨g, 0, none⟩) n cap) (L.set off u) → w.grownBy w' (some g) → wpList P ops Q rest (a.put o.dst undef) w') : wpList P ops Q (o :: rest) a w := by
  obtain ⟨hl, ⟨h1, _⟩ | ⟨g', cap', cur, h1, h2, h3, h4, h5, h6, h7⟩⟩ := hown
  · cases h1
  · cases h1
    have hcur : cur.toList.toArray = cur := by simp
    have hsz : off < cur.toList.length := by
      have e1 := congrArg List.length h7
      rw [List.length_take, length_bvs] at e1
      omega
    refine arm_store_cell ty x y ho hgd g off hx u hy hs cur.toList e (by rw [hcur]; exact h3) hsz fun w' hg G => h w' ?_ G
    refine ⟨by rw [length_bvs, List.length_set, ← length_bvs]; exact hl ▸ (by simp), .inr ⟨g, cap, (cur.toList.set off (bv u)).toArray, by rw [List.length_set], h2, hg.out, by rw [List.length_set]; exact h4, h5, by simpa using h6, ?_⟩⟩
    have := congrArg (fun l => l.set off (bv u)) h7
    simp only [bvs_put] at this
    rw [← this, ← List.take_set]
    simp
end
end Go.Proofs.Ytocfiabbhcgegaa
