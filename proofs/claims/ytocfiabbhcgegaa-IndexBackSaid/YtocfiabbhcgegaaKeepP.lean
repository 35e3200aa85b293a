/- A keeper of lists: what it holds in memory. No program in sight. -/
import Derived.Test.YtocfiabbhcgegaaArm2
import Derived.Maps.AppendAt
namespace Go.Proofs.Ytocfiabbhcgegaa
open Go Go.RowKit
set_option linter.unusedVariables false

/-- The block that a slice lies in. -/
def obs (v : Value) : List Nat := v.ownBlock.toList
theorem mem_obs {v : Value} {g : Nat} : g ∈ obs v ↔ v.ownBlock = some g := by simp [obs]
/-- w' is w with new blocks, and with writes to the blocks F alone. -/
structure Grew (w w' : World) (F : List Nat) : Prop where
  os : w'.os = w.os
  tape : w'.tape = w.tape
  output : w'.output = w.output
  size : w.heap.size ≤ w'.heap.size
  block : ∀ k, k < w.heap.size → k ∉ F → w'.heap[k]? = w.heap[k]?
theorem Grew.refl (w : World) (F : List Nat) : Grew w w F := ⟨rfl, rfl, rfl, Nat.le_refl _, fun _ _ _ => rfl⟩
theorem Grew.of {w w' : World} {r : Option Nat} {F : List Nat} (h : w.grownBy w' r) (hr : ∀ g, r = some g → g ∈ F) : Grew w w' F :=
  ⟨h.os, h.tape, h.output, h.size, fun k hk hF => h.block k hk fun e => hF (hr k e.symm)⟩
theorem Grew.low {w w' : World} (h : Below w.heap.size w w') (F : List Nat) : Grew w w' F :=
  ⟨h.os, h.tape, h.output, h.size, fun k hk _ => h.block k hk⟩
theorem Grew.trans {w w1 w2 : World} {F F' : List Nat} (h : Grew w w1 F) (h' : Grew w1 w2 F') (hF : ∀ g ∈ F', g ∈ F ∨ w.heap.size ≤ g) : Grew w w2 F :=
  ⟨h'.os.trans h.os, h'.tape.trans h.tape, h'.output.trans h.output, Nat.le_trans h.size h'.size, fun k hk hn =>
    (h'.block k (Nat.lt_of_lt_of_le hk h.size) fun hx => by exact (hF k hx).elim hn fun h1 => by omega).trans (h.block k hk hn)⟩
theorem Grew.mono {w w' : World} {F F' : List Nat} (h : Grew w w' F) (hF : ∀ g ∈ F, g ∈ F') : Grew w w' F' :=
  ⟨h.os, h.tape, h.output, h.size, fun k hk hn => h.block k hk fun hx => hn (hF k hx)⟩
theorem Grew.below {w w' : World} {F : List Nat} {B : Nat} (h : Grew w w' F) (hB : B ≤ w.heap.size) (hF : ∀ g ∈ F, B ≤ g) : Below B w w' :=
  ⟨h.os, h.tape, h.output, h.size, fun k hk => h.block k (by omega) fun hx => by have := hF k hx; omega⟩
theorem Grew.drewN {w w' : World} {F : List Nat} (h : Grew w w' F) (q : Nat) : Grew w (w'.drewN q) F := ⟨h.os, h.tape, h.output, h.size, h.block⟩

/-- What is owned stays owned where its block stays. -/
theorem ownsRow_same {w w' : World} {base size : Nat} {e : TypeId} {v : Value} {n : Nat} {xs : List Value} (h : w.ownsRow base e size v n xs) (hs : ∀ g, v.ownBlock = some g → w'.heap[g]? = w.heap[g]?) : w'.ownsRow base e size v n xs := by
  obtain ⟨hl, h⟩ := h
  refine ⟨hl, ?_⟩
  rcases h with h | ⟨g, cap, cur, rfl, h1, h2, h3⟩
  · exact .inl h
  · exact .inr ⟨g, cap, cur, rfl, h1, (hs g rfl).trans h2, h3⟩
theorem ownsRow_lt {w : World} {base size : Nat} {e : TypeId} {v : Value} {n : Nat} {xs : List Value} (h : w.ownsRow base e size v n xs) : ∀ g, v.ownBlock = some g → base ≤ g ∧ g < w.heap.size := by
  intro g hg
  obtain ⟨hl, h | ⟨g', cap, cur, rfl, h1, h2, h3⟩⟩ := h
  · obtain ⟨rfl, _⟩ := h; cases hg
  · cases hg; exact ⟨h1, heap_lt h2⟩
/-- A list of slices of the call's own. -/
def OwnS (w : World) (base : Nat) (e : TypeId) (v : Value) (vs : List Value) : Prop := w.ownsRow base e 1 v vs.length vs
theorem OwnS.nil (w : World) (base : Nat) (e : TypeId) : OwnS w base e (.slice none 0 0) [] := ⟨rfl, .inl ⟨rfl, rfl⟩⟩
/-- How it reads. -/
theorem OwnS.at {w : World} {base : Nat} {e : TypeId} {v : Value} {vs : List Value} (h : OwnS w base e v vs) :
    ∃ ao cap, v = .slice ao vs.length cap ∧ cap ≤ maxLen ∧ vs.length ≤ cap ∧ ((ao = none ∧ vs = [] ∧ cap = 0) ∨ ∃ g, ao = some ⟨g, 0, none⟩ ∧ ∀ i (hi : i < vs.length), w.cell? ⟨g, i, none⟩ = some vs[i]) := by
  obtain ⟨hl, ⟨rfl, h0⟩ | ⟨g, cap, cur, rfl, hb, hg, hc, hm, hs, ht⟩⟩ := h
  · have : vs = [] := List.length_eq_zero_iff.1 h0
    subst this
    exact ⟨none, 0, rfl, Nat.zero_le _, Nat.le_refl _, .inl ⟨rfl, rfl, rfl⟩⟩
  · refine ⟨some ⟨g, 0, none⟩, cap, rfl, hm, hc, .inr ⟨g, rfl, fun i hi => ?_⟩⟩
    rw [cell_of_row w g i cur e (0, 0) hg, ← Array.getElem?_toList]
    have h1 : (cur.toList.take (vs.length * 1))[i]? = vs[i]? := by rw [ht]
    rw [List.getElem?_take, if_pos (by omega)] at h1
    rw [h1, List.getElem?_eq_getElem hi]

/-- A list that is kept: where it lies, what it held. -/
abbrev Ent := Value × List UInt8
def entB (x : Ent) : List Nat := obs x.1
/-- The blocks of a keeper. -/
def kb (p : Nat) (vL vW : Value) (ls ws : List Ent) : List Nat := p :: (obs vL ++ (obs vW ++ (ls.flatMap entB ++ ws.flatMap entB)))
structure Keeper (T es eb : TypeId) (w : World) (base p : Nat) (vL vW : Value) (ls ws : List Ent) : Prop where
  blk : w.heap[p]? = some (.cells #[vL, vW] T (0, 0))
  hp : base ≤ p
  ownL : OwnS w base es vL (ls.map (·.1))
  ownW : OwnS w base es vW (ws.map (·.1))
  eachL : ∀ x ∈ ls, Own w base eb x.1 x.2
  eachW : ∀ x ∈ ws, Own w base eb x.1 x.2
  dist : (kb p vL vW ls ws).Nodup
section
variable {T es eb : TypeId} {w w' : World} {base p : Nat} {vL vW : Value} {ls ws : List Ent}
theorem Keeper.lt (h : Keeper T es eb w base p vL vW ls ws) : ∀ g ∈ kb p vL vW ls ws, base ≤ g ∧ g < w.heap.size := by
  intro g hg
  unfold kb at hg
  simp only [List.mem_cons, List.mem_append, List.mem_flatMap] at hg
  rcases hg with rfl | hg | hg | ⟨x, hx, hg⟩ | ⟨x, hx, hg⟩
  · exact ⟨h.hp, heap_lt h.blk⟩
  · exact ownsRow_lt h.ownL g (mem_obs.1 hg)
  · exact ownsRow_lt h.ownW g (mem_obs.1 hg)
  · exact ownsRow_lt (h.eachL x hx) g (mem_obs.1 hg)
  · exact ownsRow_lt (h.eachW x hx) g (mem_obs.1 hg)
theorem Keeper.kept (h : Keeper T es eb w base p vL vW ls ws) (hs : ∀ g ∈ kb p vL vW ls ws, w'.heap[g]? = w.heap[g]?) : Keeper T es eb w' base p vL vW ls ws where
  blk := (hs p (List.mem_cons_self ..)).trans h.blk
  hp := h.hp
  ownL := ownsRow_same h.ownL fun g hg => hs g (by unfold kb; simp [mem_obs.2 hg])
  ownW := ownsRow_same h.ownW fun g hg => hs g (by unfold kb; simp [mem_obs.2 hg])
  eachL x hx := ownsRow_same (h.eachL x hx) fun g hg => hs g (by
    unfold kb
    simp only [List.mem_cons, List.mem_append, List.mem_flatMap]
    exact .inr (.inr (.inr (.inl ⟨x, hx, mem_obs.2 hg⟩))))
  eachW x hx := ownsRow_same (h.eachW x hx) fun g hg => hs g (by
    unfold kb
    simp only [List.mem_cons, List.mem_append, List.mem_flatMap]
    exact .inr (.inr (.inr (.inr ⟨x, hx, mem_obs.2 hg⟩))))
  dist := h.dist
theorem Keeper.low (h : Keeper T es eb w base p vL vW ls ws) (hb : Below w.heap.size w w') : Keeper T es eb w' base p vL vW ls ws :=
  h.kept fun g hg => hb.block g (h.lt g hg).2
theorem Keeper.grew {F : List Nat} (h : Keeper T es eb w base p vL vW ls ws) (hb : Grew w w' F) (hF : ∀ g ∈ F, g ∉ kb p vL vW ls ws) : Keeper T es eb w' base p vL vW ls ws :=
  h.kept fun g hg => hb.block g (h.lt g hg).2 fun hx => hF g hx hg
/-- The keeper is empty. -/
theorem Keeper.new (hb : w.heap[p]? = some (.cells #[.slice none 0 0, .slice none 0 0] T (0, 0))) (hp : base ≤ p) : Keeper T es eb w base p (.slice none 0 0) (.slice none 0 0) [] [] where
  blk := hb
  hp := hp
  ownL := OwnS.nil _ _ _
  ownW := OwnS.nil _ _ _
  eachL x hx := by cases hx
  eachW x hx := by cases hx
  dist := by simp [kb, obs, Value.ownBlock]
end
section
variable {P : Program} {t e : TypeId} {Q : Exit → Act → World → Prop} {ops : Array Oper} {rest : List Oper} {o : Oper} {a : Act} {w : World}
/-- 'append' of one slice to a list of slices of the call's own. -/
theorem arm_append_s (hu : P.underlying t = some (.slice e)) (hi : (P.info? e).map (fun i => (i.zero, i.size, i.bytes)) = some (some (.slice none 0 0), 1, 24)) (s x : Operand) (ho : o.op = Op.call { callee := Callee.builtin Builtin.append, args := #[s, x], argTypes := #[t, t] }) (hg : o.guard = none)
    (base : Nat) (v : Value) (vs : List Value) (hs : a.eval s = v) (hown : OwnS w base e v vs)
    (b : Nat) (ao : Option Addr) (n c : Nat) (hx : a.eval x = .slice (some ⟨b, 0, none⟩) 1 1) (hc : w.cell? ⟨b, 0, none⟩ = some (.slice ao n c)) (hb : vs.length ≤ 1099511627776) (hbase : base ≤ w.heap.size)
    (hK : ∀ v' w', OwnS w' base e v' (vs ++ [.slice ao n c]) → w.grownBy w' v.ownBlock → (v'.ownBlock = v.ownBlock ∨ v'.ownBlock = some w.heap.size) → wpList P ops Q rest (a.put o.dst v') w') :
    wpList P ops Q (o :: rest) a w := by
  obtain ⟨i, h1, h2, h3, h4⟩ := info_parts hi
  refine wpList_append_own_at w hg s x t ho base e i (.slice none 0 0) 1 24 hu h1 h2 h3 h4 rfl (by decide) v vs.length vs hs hown ⟨b, 0, none⟩ 1 1 [.slice ao n c] hx rfl ?_ ?_ (by unfold maxLen; omega) (by omega) hbase fun v' w' h6 h7 _ h8 => hK v' w' ?_ h7 h8
  · intro j u hj
    match j, hj with
    | 0, hj => simp at hj; subst hj; exact hc
  · intro u hu; simp at hu; subst hu; rfl
  · unfold OwnS; rw [List.length_append]; exact h6
end
end Go.Proofs.Ytocfiabbhcgegaa
