/- Texts joined: Held, Arm, Arm2, KeepP. -/
import Derived.Test.YtopdhanbmnfeeaaDoorIR00
import Derived.Deep.RegionHeld3
import Derived.OwnWalk
import Derived.Maps.AppendAt
/- A region that draws its order, with loads of whole arrays beside calls that make memory: steps by hand. No program in sight. -/
namespace Go.Proofs.YtopdhanbmnfeeaaDoor
set_option linter.unusedSectionVars false
set_option linter.unusedSimpArgs false
open Go Go.RowKit
set_option linter.unusedVariables false
section
variable {P : Program} {l : List Oper} {Q : Exit → Act → World → Prop} {md : Region.Mode} {S : World → Prop}
theorem getElem?_toArray' {l : List Oper} {i : Nat} {o : Oper} (h : l[i]? = some o) : l.toArray[i]? = some o := by simpa using h
theorem held_take (i : Nat) {oi : Oper} (v : Value) {fuel : Nat} {listed : Array Bool} {a : Act} {w : World} (hi : l[i]? = some oi)
    (hs : Region.noSelect l.toArray = true) (hf : Region.free md l.toArray listed i = true) (hr : (Region.ready md l.toArray listed).contains i = true)
    (hy : YieldsIf P l.toArray S oi v a) (hS : S w)
    (h : wpAnyH P md l.toArray (NoPanic Q) S fuel (listed.setIfInBounds i true) (a.put oi.dst v) w) : wpAnyH P md l.toArray (NoPanic Q) S (fuel + 1) listed a w :=
  wpAnyH_take (getElem?_toArray' hi) hs hf hr (fun _ _ _ h => h) hy hS h
theorem held_pure {o : Oper} {v : Value} {a : Act} {ops : Array Oper} (hw : Region.wanted o (yielded ops a.tmps) = true) (h : ∀ w, (execOp a.eval o).run P w = .ok (.value v) w) : YieldsIf P ops S o v a :=
  .inl ⟨hw, fun w _ => h w⟩
theorem held_step (i : Nat) {o : Oper} {fuel : Nat} {listed : Array Bool} {a : Act} {w : World} (hr : Region.ready md l.toArray listed = [i]) (ho : l[i]? = some o)
    (hw : Region.wanted o (yielded l.toArray a.tmps) = true)
    (h : ∀ K' : Act → World → Prop, Hid (∀ a w, S w → (S w → wpAnyH P md l.toArray Q S fuel (listed.setIfInBounds i true) a w) → K' a w) → Oper.wp P o a w K' Q) : wpAnyH P md l.toArray Q S (fuel + 1) listed a w :=
  wpAnyH_ready hr (by simp) (AllReadyH.cons (getElem?_toArray' ho) (fun K hK => by rw [if_pos hw]; exact h K hK.out) AllReadyH.nil)
theorem held_step2 (i j : Nat) {oi oj : Oper} {fuel : Nat} {listed : Array Bool} {a : Act} {w : World} (hr : Region.ready md l.toArray listed = [i, j]) (hoi : l[i]? = some oi) (hoj : l[j]? = some oj)
    (hwi : Region.wanted oi (yielded l.toArray a.tmps) = true) (hwj : Region.wanted oj (yielded l.toArray a.tmps) = true)
    (h1 : ∀ K' : Act → World → Prop, Hid (∀ a w, S w → (S w → wpAnyH P md l.toArray Q S fuel (listed.setIfInBounds i true) a w) → K' a w) → Oper.wp P oi a w K' Q)
    (h2 : ∀ K' : Act → World → Prop, Hid (∀ a w, S w → (S w → wpAnyH P md l.toArray Q S fuel (listed.setIfInBounds j true) a w) → K' a w) → Oper.wp P oj a w K' Q) : wpAnyH P md l.toArray Q S (fuel + 1) listed a w :=
  wpAnyH_ready hr (by simp) (AllReadyH.cons (getElem?_toArray' hoi) (fun K hK => by rw [if_pos hwi]; exact h1 K hK.out)
    (AllReadyH.cons (getElem?_toArray' hoj) (fun K hK => by rw [if_pos hwj]; exact h2 K hK.out) AllReadyH.nil))
theorem held_begin (S : World → Prop) {id : Nat} {a : Act} {w : World} (hm : P.follows .mixedOrders = true) (hS : S w.drew)
    (h : S w.drew → wpAnyH P .any l.toArray (NoPanic Q) S l.length (Array.replicate l.length false) a w.drew) : (Code.region id l.toArray true).wp P Q a w :=
  wp_region_noPanic (wp_region_held_drew hm hS (by simpa using h))
theorem held_done {listed : Array Bool} {a : Act} {w : World} (hr : Region.ready md l.toArray listed = []) (h : Q .normal a w) (fuel : Nat) : wpAnyH P md l.toArray (NoPanic Q) S fuel listed a w :=
  wpAnyH_done hr (NoPanic.normal h) fuel
theorem wpList_yields {ops : Array Oper} {rest : List Oper} {o : Oper} {v : Value} {a : Act} {w : World} (hw : Region.wanted o (yielded ops a.tmps) = true) (hy : YieldsIf P ops (fun W => W = w) o v a)
    (h : wpList P ops Q rest (a.put o.dst v) w) : wpList P ops Q (o :: rest) a w := by
  have hx : (execOp a.eval o).run P w = .ok (.value v) w := by
    rcases hy with ⟨_, h⟩ | ⟨h, _⟩
    · exact h w rfl
    · rw [hw] at h; cases h
  unfold wpList
  rw [if_pos hw]
  left
  unfold Oper.wp
  rw [hx]
  exact h
theorem wpList_builtg {ops : Array Oper} {rest : List Oper} {o : Oper} {a : Act} {w : World} (hw : Region.wanted o (yielded ops a.tmps) = true) (t : TypeId) (parts : List (Nat × Operand)) (ho : o.op = .build t parts.toArray)
    (ps : List (Nat × Value)) (hp : (parts.map fun p => (p.1, a.eval p.2)) = ps) (cells : Array Value) (hc : P.built t ps = some cells)
    (h : wpList P ops Q rest (a.put o.dst (.agg cells)) w) : wpList P ops Q (o :: rest) a w := by
  refine wpList_yields hw (held_pure hw fun W => ?_) h
  have hm : (parts.toArray.map fun (i, x) => (i, a.eval x)).toList = ps := by rw [← hp]; simp
  unfold execOp
  simp only [ho, Sem.run_bind, run_build W t _ cells (by rw [hm]; exact hc), Result.andThen_ok]
  rfl
end
end Go.Proofs.YtopdhanbmnfeeaaDoor

/- Steps of a plain region, guarded or not: the operation's own text is asked first, so that a wrong step falls at once. No program in sight. -/
namespace Go.Proofs.YtopdhanbmnfeeaaDoor
set_option linter.unusedSectionVars false
set_option linter.unusedSimpArgs false
open Go Go.RowKit
set_option linter.unusedVariables false
theorem calls_box {P : Program} {f : FuncId} {args : Array Value} {w : World} {R : Ending → World → Prop} (h : Calls P f args w R) : Calls P f args w fun e w' => Box (R e w') :=
  h.mono fun _ _ h => ⟨h⟩
section
variable {P : Program} {Q : Exit → Act → World → Prop} {ops : Array Oper} {rest : List Oper} {o : Oper} {a : Act} {w : World}
theorem arm_built (t : TypeId) (parts : List (Nat × Operand)) (ho : o.op = .build t parts.toArray) (hw : Region.wanted o (yielded ops a.tmps) = true)
    (ps : List (Nat × Value)) (hp : (parts.map fun p => (p.1, a.eval p.2)) = ps) (cells : Array Value) (hc : P.built t ps = some cells)
    (h : wpList P ops Q rest (a.put o.dst (.agg cells)) w) : wpList P ops Q (o :: rest) a w :=
  wpList_builtg hw t parts ho ps hp cells hc h
theorem arm_eql (t t' : TypeId) (x y : Operand) (ho : o.op = .binOp .eql t x y t') (hw : Region.wanted o (yielded ops a.tmps) = true) (c d : Array Value) (r : Bool)
    (hx : a.eval x = .agg c) (hy : a.eval y = .agg d) (hm : P.eqGuardType P.depth t = false) (he : ∀ W, (Op.equalIn 10000 t (.agg c) (.agg d)).run P W = .ok r W)
    (h : wpList P ops Q rest (a.put o.dst (.bool r)) w) : wpList P ops Q (o :: rest) a w :=
  wpList_yields hw (held_pure hw fun W => by
    unfold execOp
    simp only [ho, hx, hy, Sem.run_bind, run_eql_struct, run_eqGuard_agg (hm := hm), he, Result.andThen_ok]
    rfl) h
theorem arm_neq (t t' : TypeId) (x y : Operand) (ho : o.op = .binOp .neq t x y t') (hw : Region.wanted o (yielded ops a.tmps) = true) (c d : Array Value) (r : Bool)
    (hx : a.eval x = .agg c) (hy : a.eval y = .agg d) (hm : P.eqGuardType P.depth t = false) (he : ∀ W, (Op.equalIn 10000 t (.agg c) (.agg d)).run P W = .ok (!r) W)
    (h : wpList P ops Q rest (a.put o.dst (.bool r)) w) : wpList P ops Q (o :: rest) a w :=
  wpList_yields hw (held_pure hw fun W => by
    unfold execOp
    simp only [ho, hx, hy, Sem.run_bind, run_neq_struct, run_eqGuard_agg (hm := hm), he, Result.andThen_ok, Bool.not_not]
    rfl) h
theorem arm_row (ty : TypeId) (x : Operand) (ho : o.op = .load ty x) (hw : Region.wanted o (yielded ops a.tmps) = true)
    (g : Nat) (hx : a.eval x = .pointer (some ⟨g, 0, none⟩)) (t : TypeId) (cs : Array Value) (fr : Nat × Nat) (d : TypeDesc) (hg : w.heap[g]? = some (.cells cs t fr))
    (hu : P.underlying ty = some d) (hd : d.isRow = true) (hi : (P.info? ty).map (·.size) = some cs.size)
    (h : wpList P ops Q rest (a.put o.dst (.agg cs)) w) : wpList P ops Q (o :: rest) a w := by
  have hS : w.rangeAt g 0 cs.toList := fun j v hj => by
    rw [cell_of_row w g (0 + j) cs t fr hg, Nat.zero_add, ← Array.getElem?_toList]; exact hj
  refine wpList_yields hw (yieldsIf_load_mid hw ty x ho g 0 hx cs.toList d (fun W hW => by rw [hW]; exact hS) hu hd (by simpa using hi)) ?_
  simpa using h
end
end Go.Proofs.YtopdhanbmnfeeaaDoor

/- More steps: bytes made, appended, stored one by one. No program in sight. -/
namespace Go.Proofs.YtopdhanbmnfeeaaDoor
set_option linter.unusedSectionVars false
set_option linter.unusedSimpArgs false
open Go Go.RowKit
set_option linter.unusedVariables false
theorem made_zeros (n : Nat) : madeCells (Value.cells (.int .u8 0)) n = (bvs (List.replicate n 0)).toArray := by
  apply Array.ext'
  apply List.ext_getElem?
  intro i
  have h : (madeCells (Value.cells (.int .u8 0)) n).toList = List.replicate n (Value.int .u8 0) := by
    unfold madeCells
    rw [Array.toList_map, Array.toList_range]
    apply List.ext_getElem
    · simp
    · intro i h1 h2
      simp [Value.cells, Nat.mod_one]
  rw [h]
  simp [bvs, bv]
theorem grownBy_setC (w : World) (a : Addr) (u : Value) : w.grownBy (w.setCell a u) (some a.block) :=
  ⟨rfl, rfl, rfl, Nat.le_of_eq (by simp [World.setCell]), fun k _ hk => heap_setCell_other w a k u fun h => hk (by rw [h])⟩
section
variable {P : Program} {t e : TypeId} {Q : Exit → Act → World → Prop} {ops : Array Oper} {rest : List Oper} {o : Oper} {a : Act} {w : World}
end
end Go.Proofs.YtopdhanbmnfeeaaDoor

/- A keeper of lists: what it holds in memory. No program in sight. -/
namespace Go.Proofs.YtopdhanbmnfeeaaDoor
set_option linter.unusedSectionVars false
set_option linter.unusedSimpArgs false
open Go Go.RowKit
set_option linter.unusedVariables false
def obs (v : Value) : List Nat := v.ownBlock.toList
theorem mem_obs {v : Value} {g : Nat} : g ∈ obs v ↔ v.ownBlock = some g := by simp [obs]
structure Grew (w w' : World) (F : List Nat) : Prop where
  os : w'.os = w.os
  tape : w'.tape = w.tape
  output : w'.output = w.output
  size : w.heap.size ≤ w'.heap.size
  block : ∀ k, k < w.heap.size → k ∉ F → w'.heap[k]? = w.heap[k]?
theorem Grew.refl (w : World) (F : List Nat) : Grew w w F := ⟨rfl, rfl, rfl, Nat.le_refl _, fun _ _ _ => rfl⟩
theorem Grew.of {w w' : World} {r : Option Nat} {F : List Nat} (h : w.grownBy w' r) (hr : ∀ g, r = some g → g ∈ F) : Grew w w' F :=
  ⟨h.os, h.tape, h.output, h.size, fun k hk hF => h.block k hk fun e => hF (hr k e.symm)⟩
theorem Grew.low {w w' : World} (h : Below w.heap.size w w') (F : List Nat) : Grew w w' F :=
  ⟨h.os, h.tape, h.output, h.size, fun k hk _ => h.block k hk⟩
theorem Grew.trans {w w1 w2 : World} {F F' : List Nat} (h : Grew w w1 F) (h' : Grew w1 w2 F') (hF : ∀ g ∈ F', g ∈ F ∨ w.heap.size ≤ g) : Grew w w2 F :=
  ⟨h'.os.trans h.os, h'.tape.trans h.tape, h'.output.trans h.output, Nat.le_trans h.size h'.size, fun k hk hn =>
    (h'.block k (Nat.lt_of_lt_of_le hk h.size) fun hx => by exact (hF k hx).elim hn fun h1 => by omega).trans (h.block k hk hn)⟩
theorem Grew.mono {w w' : World} {F F' : List Nat} (h : Grew w w' F) (hF : ∀ g ∈ F, g ∈ F') : Grew w w' F' :=
  ⟨h.os, h.tape, h.output, h.size, fun k hk hn => h.block k hk fun hx => hn (hF k hx)⟩
theorem Grew.below {w w' : World} {F : List Nat} {B : Nat} (h : Grew w w' F) (hB : B ≤ w.heap.size) (hF : ∀ g ∈ F, B ≤ g) : Below B w w' :=
  ⟨h.os, h.tape, h.output, h.size, fun k hk => h.block k (by omega) fun hx => by have := hF k hx; omega⟩
theorem ownsRow_same {w w' : World} {base size : Nat} {e : TypeId} {v : Value} {n : Nat} {xs : List Value} (h : w.ownsRow base e size v n xs) (hs : ∀ g, v.ownBlock = some g → w'.heap[g]? = w.heap[g]?) : w'.ownsRow base e size v n xs := by
  obtain ⟨hl, h⟩ := h
  refine ⟨hl, ?_⟩
  rcases h with h | ⟨g, cap, cur, rfl, h1, h2, h3⟩
  · exact .inl h
  · exact .inr ⟨g, cap, cur, rfl, h1, (hs g rfl).trans h2, h3⟩
theorem ownsRow_lt {w : World} {base size : Nat} {e : TypeId} {v : Value} {n : Nat} {xs : List Value} (h : w.ownsRow base e size v n xs) : ∀ g, v.ownBlock = some g → base ≤ g ∧ g < w.heap.size := by
  intro g hg
  obtain ⟨hl, h | ⟨g', cap, cur, rfl, h1, h2, h3⟩⟩ := h
  · obtain ⟨rfl, _⟩ := h; cases hg
  · cases hg; exact ⟨h1, heap_lt h2⟩
def OwnS (w : World) (base : Nat) (e : TypeId) (v : Value) (vs : List Value) : Prop := w.ownsRow base e 1 v vs.length vs
theorem OwnS.nil (w : World) (base : Nat) (e : TypeId) : OwnS w base e (.slice none 0 0) [] := ⟨rfl, .inl ⟨rfl, rfl⟩⟩
theorem OwnS.at {w : World} {base : Nat} {e : TypeId} {v : Value} {vs : List Value} (h : OwnS w base e v vs) :
    ∃ ao cap, v = .slice ao vs.length cap ∧ cap ≤ maxLen ∧ vs.length ≤ cap ∧ ((ao = none ∧ vs = [] ∧ cap = 0) ∨ ∃ g, ao = some ⟨g, 0, none⟩ ∧ ∀ i (hi : i < vs.length), w.cell? ⟨g, i, none⟩ = some vs[i]) := by
  obtain ⟨hl, ⟨rfl, h0⟩ | ⟨g, cap, cur, rfl, hb, hg, hc, hm, hs, ht⟩⟩ := h
  · have : vs = [] := List.length_eq_zero_iff.1 h0
    subst this
    exact ⟨none, 0, rfl, Nat.zero_le _, Nat.le_refl _, .inl ⟨rfl, rfl, rfl⟩⟩
  · refine ⟨some ⟨g, 0, none⟩, cap, rfl, hm, hc, .inr ⟨g, rfl, fun i hi => ?_⟩⟩
    rw [cell_of_row w g i cur e (0, 0) hg, ← Array.getElem?_toList]
    have h1 : (cur.toList.take (vs.length * 1))[i]? = vs[i]? := by rw [ht]
    rw [List.getElem?_take, if_pos (by omega)] at h1
    rw [h1, List.getElem?_eq_getElem hi]
abbrev Ent := Value × List UInt8
def entB (x : Ent) : List Nat := obs x.1
def kb (p : Nat) (vL vW : Value) (ls ws : List Ent) : List Nat := p :: (obs vL ++ (obs vW ++ (ls.flatMap entB ++ ws.flatMap entB)))
structure Keeper (T es eb : TypeId) (w : World) (base p : Nat) (vL vW : Value) (ls ws : List Ent) : Prop where
  blk : w.heap[p]? = some (.cells #[vL, vW] T (0, 0))
  hp : base ≤ p
  ownL : OwnS w base es vL (ls.map (·.1))
  ownW : OwnS w base es vW (ws.map (·.1))
  eachL : ∀ x ∈ ls, Own w base eb x.1 x.2
  eachW : ∀ x ∈ ws, Own w base eb x.1 x.2
  dist : (kb p vL vW ls ws).Nodup
section
variable {T es eb : TypeId} {w w' : World} {base p : Nat} {vL vW : Value} {ls ws : List Ent}
theorem Keeper.lt (h : Keeper T es eb w base p vL vW ls ws) : ∀ g ∈ kb p vL vW ls ws, base ≤ g ∧ g < w.heap.size := by
  intro g hg
  unfold kb at hg
  simp only [List.mem_cons, List.mem_append, List.mem_flatMap] at hg
  rcases hg with rfl | hg | hg | ⟨x, hx, hg⟩ | ⟨x, hx, hg⟩
  · exact ⟨h.hp, heap_lt h.blk⟩
  · exact ownsRow_lt h.ownL g (mem_obs.1 hg)
  · exact ownsRow_lt h.ownW g (mem_obs.1 hg)
  · exact ownsRow_lt (h.eachL x hx) g (mem_obs.1 hg)
  · exact ownsRow_lt (h.eachW x hx) g (mem_obs.1 hg)
theorem Keeper.kept (h : Keeper T es eb w base p vL vW ls ws) (hs : ∀ g ∈ kb p vL vW ls ws, w'.heap[g]? = w.heap[g]?) : Keeper T es eb w' base p vL vW ls ws where
  blk := (hs p (List.mem_cons_self ..)).trans h.blk
  hp := h.hp
  ownL := ownsRow_same h.ownL fun g hg => hs g (by unfold kb; simp [mem_obs.2 hg])
  ownW := ownsRow_same h.ownW fun g hg => hs g (by unfold kb; simp [mem_obs.2 hg])
  eachL x hx := ownsRow_same (h.eachL x hx) fun g hg => hs g (by
    unfold kb
    simp only [List.mem_cons, List.mem_append, List.mem_flatMap]
    exact .inr (.inr (.inr (.inl ⟨x, hx, mem_obs.2 hg⟩))))
  eachW x hx := ownsRow_same (h.eachW x hx) fun g hg => hs g (by
    unfold kb
    simp only [List.mem_cons, List.mem_append, List.mem_flatMap]
    exact .inr (.inr (.inr (.inr ⟨x, hx, mem_obs.2 hg⟩))))
  dist := h.dist
theorem Keeper.low (h : Keeper T es eb w base p vL vW ls ws) (hb : Below w.heap.size w w') : Keeper T es eb w' base p vL vW ls ws :=
  h.kept fun g hg => hb.block g (h.lt g hg).2
theorem Keeper.grew {F : List Nat} (h : Keeper T es eb w base p vL vW ls ws) (hb : Grew w w' F) (hF : ∀ g ∈ F, g ∉ kb p vL vW ls ws) : Keeper T es eb w' base p vL vW ls ws :=
  h.kept fun g hg => hb.block g (h.lt g hg).2 fun hx => hF g hx hg
theorem Keeper.new (hb : w.heap[p]? = some (.cells #[.slice none 0 0, .slice none 0 0] T (0, 0))) (hp : base ≤ p) : Keeper T es eb w base p (.slice none 0 0) (.slice none 0 0) [] [] where
  blk := hb
  hp := hp
  ownL := OwnS.nil _ _ _
  ownW := OwnS.nil _ _ _
  eachL x hx := by cases hx
  eachW x hx := by cases hx
  dist := by simp [kb, obs, Value.ownBlock]
end
section
variable {P : Program} {t e : TypeId} {Q : Exit → Act → World → Prop} {ops : Array Oper} {rest : List Oper} {o : Oper} {a : Act} {w : World}
end
end Go.Proofs.YtopdhanbmnfeeaaDoor
