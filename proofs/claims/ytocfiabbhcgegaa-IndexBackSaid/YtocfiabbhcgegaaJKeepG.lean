/- A keeper of lists: lists that grow side by side. No walk in sight. -/
import Derived.Test.YtocfiabbhcgegaaJKeepB
namespace Go.Proofs.Ytocfiabbhcgegaa.J
open Go Go.RowKit
set_option linter.unusedVariables false

/-- The slice's address, its room. -/
def adr : Value → Option Addr
  | .slice a _ _ => a
  | _ => none
def room : Value → Nat
  | .slice _ _ c => c
  | _ => 0
theorem ownBlock_slice {b o n c : Nat} : (Value.slice (some ⟨b, o, none⟩) n c).ownBlock = some b := rfl
/-- What stays as it is while the lists grow. -/
structure Fixed (S0 p : Nat) (aL : Option Addr) (n : Nat) (V : Nat → Value) (M : Nat → Nat) : Prop where
  sh : ∀ j, j < n → V j = .slice (adr (V j)) (M j) (room (V j))
  ltV : ∀ j, j < n → ∀ g, (V j).ownBlock = some g → g < S0 ∧ g ≠ p ∧ ∀ gL, aL = some ⟨gL, 0, none⟩ → gL ≠ g
  dd : ∀ i j, i < n → j < n → i ≠ j → ∀ g, (V i).ownBlock = some g → (V j).ownBlock ≠ some g
  ltp : p < S0
  ltL : ∀ gL, aL = some ⟨gL, 0, none⟩ → 0 < n → gL < S0
/-- i of the lists have grown. -/
structure Grown (es eb : TypeId) (w0 w : World) (base S0 p : Nat) (aL : Option Addr) (n cL : Nat) (V : Nat → Value) (M : Nat → Nat) (i : Nat) (vG : Value) (ga : Nat → Option Addr) (gc : Nat → Nat) : Prop where
  bel : Below base w0 w
  sz : S0 ≤ w.heap.size
  cp : w.cell? ⟨p, 0, none⟩ = some (.slice aL n cL)
  rd : ∀ j, j < n → ∃ g, aL = some ⟨g, 0, none⟩ ∧ w.cell? ⟨g, j, none⟩ = some (V j)
  own : ∀ j, i ≤ j → j < n → Own w base eb (V j) (marksL j (M j))
  rowV : ∀ j, j < i → Row w (adr (V j)) (M j) (marksL j (M j))
  rowG : ∀ j, j < i → Row w (ga j) (M j + 300) (marksL j (M j + 300))
  blkG : ∀ j, j < i → ∀ g o, ga j = some ⟨g, o, none⟩ → ((V j).ownBlock = some g ∨ S0 ≤ g) ∧ g < w.heap.size ∧ vG.ownBlock ≠ some g
  ownG : OwnS w S0 es vG ((List.range i).map fun j => .slice (ga j) (M j + 300) (gc j))
section
variable {es eb : TypeId} {w0 w w' : World} {base S0 p : Nat} {aL : Option Addr} {n cL : Nat} {V : Nat → Value} {M : Nat → Nat} {i : Nat} {vG vG' : Value} {ga : Nat → Option Addr} {gc : Nat → Nat}
theorem adr_block (hf : Fixed S0 p aL n V M) {j : Nat} (hj : j < n) {b o : Nat} (h : adr (V j) = some ⟨b, o, none⟩) : (V j).ownBlock = some b := by
  rw [hf.sh j hj, h]; rfl
theorem Grown.next (hf : Fixed S0 p aL n V M) (h : Grown es eb w0 w base S0 p aL n cL V M i vG ga gc) (hi : i < n) (a' : Option Addr) (c' : Nat)
    (hbel : Below base w w') (hsz : w.heap.size ≤ w'.heap.size) (hk : ∀ k, k < w.heap.size → (V i).ownBlock ≠ some k → vG.ownBlock ≠ some k → w'.heap[k]? = w.heap[k]?)
    (hV : Row w' (adr (V i)) (M i) (marksL i (M i))) (hG : Row w' a' (M i + 300) (marksL i (M i + 300)))
    (hb : ∀ g o, a' = some ⟨g, o, none⟩ → ((V i).ownBlock = some g ∨ w.heap.size ≤ g) ∧ g < w'.heap.size ∧ vG'.ownBlock ≠ some g)
    (hO : OwnS w' S0 es vG' ((List.range i).map (fun j => .slice (ga j) (M j + 300) (gc j)) ++ [.slice a' (M i + 300) c'])) (hat : AtS w.heap.size vG vG') :
    Grown es eb w0 w' base S0 p aL n cL V M (i + 1) vG' (fun j => if j = i then a' else ga j) (fun j => if j = i then c' else gc j) where
  bel := h.bel.trans hbel
  sz := Nat.le_trans h.sz hsz
  cp := cell_kept h.cp (hk p (block_lt_of_cell h.cp) (fun e => (hf.ltV i hi p e).2.1 rfl) fun e => by have := (ownsRow_lt h.ownG p e).1; have := hf.ltp; omega)
  rd j hj := by
    obtain ⟨g, hg, hc⟩ := h.rd j hj
    exact ⟨g, hg, cell_kept hc (hk g (block_lt_of_cell hc) (fun e => (hf.ltV i hi g e).2.2 g hg rfl) fun e => by have := (ownsRow_lt h.ownG g e).1; have := hf.ltL g hg (by omega); omega)⟩
  own j hj hj2 := ownsRow_same (h.own j (by omega) hj2) fun g hg => hk g (ownsRow_lt (h.own j (by omega) hj2) g hg).2 (fun e => hf.dd i j hi hj2 (by omega) g e hg) fun e => by
    have := (ownsRow_lt h.ownG g e).1; have := (hf.ltV j hj2 g hg).1; omega
  rowV j hj := by
    by_cases e : j = i
    · subst e; exact hV
    · have hj2 : j < n := by omega
      refine (h.rowV j (by omega)).kept fun b o hx => ?_
      have hbk := adr_block hf hj2 hx
      exact hk b (by have := (hf.ltV j hj2 b hbk).1; have := h.sz; omega) (fun e' => hf.dd i j hi hj2 (by omega) b e' hbk) fun e' => by
        have := (ownsRow_lt h.ownG b e').1; have := (hf.ltV j hj2 b hbk).1; omega
  rowG j hj := by
    by_cases e : j = i
    · subst e; simpa using hG
    · simp only [if_neg e]
      have hj2 : j < n := by omega
      refine (h.rowG j (by omega)).kept fun b o hx => ?_
      obtain ⟨h1, h2, h3⟩ := h.blkG j (by omega) b o hx
      refine hk b h2 (fun e' => ?_) h3
      rcases h1 with h1 | h1
      · exact hf.dd i j hi hj2 (by omega) b e' h1
      · have := (hf.ltV i hi b e').1; omega
  blkG j hj g o hx := by
    by_cases e : j = i
    · subst e
      simp only [if_pos] at hx
      obtain ⟨h1, h2, h3⟩ := hb g o hx
      exact ⟨h1.imp id fun h1 => Nat.le_trans h.sz h1, h2, h3⟩
    · simp only [if_neg e] at hx
      obtain ⟨h1, h2, h3⟩ := h.blkG j (by omega) g o hx
      refine ⟨h1, by omega, fun e' => ?_⟩
      rcases hat with hat | ⟨g', hg', hge⟩
      · exact h3 (hat.symm.trans e')
      · rw [hg'] at e'; cases e'; omega
  ownG := by
    have e : (List.range (i + 1)).map (fun j => Value.slice (if j = i then a' else ga j) (M j + 300) (if j = i then c' else gc j)) = (List.range i).map (fun j => Value.slice (ga j) (M j + 300) (gc j)) ++ [.slice a' (M i + 300) c'] := by
      rw [List.range_succ, List.map_append]
      congr 1
      · apply List.map_congr_left
        intro j hj
        have : j ≠ i := by have := List.mem_range.1 hj; omega
        simp [this]
      · simp
    rw [e]; exact hO
end
/-- A step of a list that grows: its row is the first one's or a new one. -/
theorem grown_step2 {w wr w' : World} {r : Option Nat} {v : Value} (h : w.grownBy wr r) (hv : ∀ g, v.ownBlock = some g → r = some g ∨ w.heap.size ≤ g) (G : wr.grownBy w' v.ownBlock) : w.grownBy w' r :=
  ⟨G.os.trans h.os, G.tape.trans h.tape, G.output.trans h.output, Nat.le_trans h.size G.size, fun k hk hne => (G.block k (Nat.lt_of_lt_of_le hk h.size) (by
    intro e
    rcases hv k e.symm with h1 | h1
    · exact hne h1.symm
    · omega)).trans (h.block k hk hne)⟩
end Go.Proofs.Ytocfiabbhcgegaa.J
