/- Texts joined: Arm2, KeepP, StoreO, Arm3. -/
import Derived.Test.YtehnnnohoaapdaaFC00
import Derived.OwnWalk
import Derived.Maps.AppendAt
import Derived.Laws.CopyRow
/- More steps: bytes made, appended, stored one by one. No program in sight. -/
namespace Go.Proofs.Ytehnnnohoaapdaa
set_option linter.unusedSectionVars false
set_option linter.unusedSimpArgs false
open Go Go.RowKit
set_option linter.unusedVariables false
theorem made_zeros (n : Nat) : madeCells (Value.cells (.int .u8 0)) n = (bvs (List.replicate n 0)).toArray := by
  apply Array.ext'
  apply List.ext_getElem?
  intro i
  have h : (madeCells (Value.cells (.int .u8 0)) n).toList = List.replicate n (Value.int .u8 0) := by
    unfold madeCells
    rw [Array.toList_map, Array.toList_range]
    apply List.ext_getElem
    · simp
    · intro i h1 h2
      simp [Value.cells, Nat.mod_one]
  rw [h]
  simp [bvs, bv]
theorem grownBy_setC (w : World) (a : Addr) (u : Value) : w.grownBy (w.setCell a u) (some a.block) :=
  ⟨rfl, rfl, rfl, Nat.le_of_eq (by simp [World.setCell]), fun k _ hk => heap_setCell_other w a k u fun h => hk (by rw [h])⟩
section
variable {P : Program} {t e : TypeId} {Q : Exit → Act → World → Prop} {ops : Array Oper} {rest : List Oper} {o : Oper} {a : Act} {w : World}
end
end Go.Proofs.Ytehnnnohoaapdaa

/- A keeper of lists: what it holds in memory. No program in sight. -/
namespace Go.Proofs.Ytehnnnohoaapdaa
set_option linter.unusedSectionVars false
set_option linter.unusedSimpArgs false
open Go Go.RowKit
set_option linter.unusedVariables false
def obs (v : Value) : List Nat := v.ownBlock.toList
theorem mem_obs {v : Value} {g : Nat} : g ∈ obs v ↔ v.ownBlock = some g := by simp [obs]
structure Grew (w w' : World) (F : List Nat) : Prop where
  os : w'.os = w.os
  tape : w'.tape = w.tape
  output : w'.output = w.output
  size : w.heap.size ≤ w'.heap.size
  block : ∀ k, k < w.heap.size → k ∉ F → w'.heap[k]? = w.heap[k]?
theorem Grew.refl (w : World) (F : List Nat) : Grew w w F := ⟨rfl, rfl, rfl, Nat.le_refl _, fun _ _ _ => rfl⟩
theorem Grew.of {w w' : World} {r : Option Nat} {F : List Nat} (h : w.grownBy w' r) (hr : ∀ g, r = some g → g ∈ F) : Grew w w' F :=
  ⟨h.os, h.tape, h.output, h.size, fun k hk hF => h.block k hk fun e => hF (hr k e.symm)⟩
theorem Grew.low {w w' : World} (h : Below w.heap.size w w') (F : List Nat) : Grew w w' F :=
  ⟨h.os, h.tape, h.output, h.size, fun k hk _ => h.block k hk⟩
theorem Grew.trans {w w1 w2 : World} {F F' : List Nat} (h : Grew w w1 F) (h' : Grew w1 w2 F') (hF : ∀ g ∈ F', g ∈ F ∨ w.heap.size ≤ g) : Grew w w2 F :=
  ⟨h'.os.trans h.os, h'.tape.trans h.tape, h'.output.trans h.output, Nat.le_trans h.size h'.size, fun k hk hn =>
    (h'.block k (Nat.lt_of_lt_of_le hk h.size) fun hx => by exact (hF k hx).elim hn fun h1 => by omega).trans (h.block k hk hn)⟩
theorem Grew.mono {w w' : World} {F F' : List Nat} (h : Grew w w' F) (hF : ∀ g ∈ F, g ∈ F') : Grew w w' F' :=
  ⟨h.os, h.tape, h.output, h.size, fun k hk hn => h.block k hk fun hx => hn (hF k hx)⟩
theorem Grew.below {w w' : World} {F : List Nat} {B : Nat} (h : Grew w w' F) (hB : B ≤ w.heap.size) (hF : ∀ g ∈ F, B ≤ g) : Below B w w' :=
  ⟨h.os, h.tape, h.output, h.size, fun k hk => h.block k (by omega) fun hx => by have := hF k hx; omega⟩
theorem ownsRow_same {w w' : World} {base size : Nat} {e : TypeId} {v : Value} {n : Nat} {xs : List Value} (h : w.ownsRow base e size v n xs) (hs : ∀ g, v.ownBlock = some g → w'.heap[g]? = w.heap[g]?) : w'.ownsRow base e size v n xs := by
  obtain ⟨hl, h⟩ := h
  refine ⟨hl, ?_⟩
  rcases h with h | ⟨g, cap, cur, rfl, h1, h2, h3⟩
  · exact .inl h
  · exact .inr ⟨g, cap, cur, rfl, h1, (hs g rfl).trans h2, h3⟩
theorem ownsRow_lt {w : World} {base size : Nat} {e : TypeId} {v : Value} {n : Nat} {xs : List Value} (h : w.ownsRow base e size v n xs) : ∀ g, v.ownBlock = some g → base ≤ g ∧ g < w.heap.size := by
  intro g hg
  obtain ⟨hl, h | ⟨g', cap, cur, rfl, h1, h2, h3⟩⟩ := h
  · obtain ⟨rfl, _⟩ := h; cases hg
  · cases hg; exact ⟨h1, heap_lt h2⟩
def OwnS (w : World) (base : Nat) (e : TypeId) (v : Value) (vs : List Value) : Prop := w.ownsRow base e 1 v vs.length vs
theorem OwnS.nil (w : World) (base : Nat) (e : TypeId) : OwnS w base e (.slice none 0 0) [] := ⟨rfl, .inl ⟨rfl, rfl⟩⟩
theorem OwnS.at {w : World} {base : Nat} {e : TypeId} {v : Value} {vs : List Value} (h : OwnS w base e v vs) :
    ∃ ao cap, v = .slice ao vs.length cap ∧ cap ≤ maxLen ∧ vs.length ≤ cap ∧ ((ao = none ∧ vs = [] ∧ cap = 0) ∨ ∃ g, ao = some ⟨g, 0, none⟩ ∧ ∀ i (hi : i < vs.length), w.cell? ⟨g, i, none⟩ = some vs[i]) := by
  obtain ⟨hl, ⟨rfl, h0⟩ | ⟨g, cap, cur, rfl, hb, hg, hc, hm, hs, ht⟩⟩ := h
  · have : vs = [] := List.length_eq_zero_iff.1 h0
    subst this
    exact ⟨none, 0, rfl, Nat.zero_le _, Nat.le_refl _, .inl ⟨rfl, rfl, rfl⟩⟩
  · refine ⟨some ⟨g, 0, none⟩, cap, rfl, hm, hc, .inr ⟨g, rfl, fun i hi => ?_⟩⟩
    rw [cell_of_row w g i cur e (0, 0) hg, ← Array.getElem?_toList]
    have h1 : (cur.toList.take (vs.length * 1))[i]? = vs[i]? := by rw [ht]
    rw [List.getElem?_take, if_pos (by omega)] at h1
    rw [h1, List.getElem?_eq_getElem hi]
abbrev Ent := Value × List UInt8
def entB (x : Ent) : List Nat := obs x.1
def kb (p : Nat) (vL vW : Value) (ls ws : List Ent) : List Nat := p :: (obs vL ++ (obs vW ++ (ls.flatMap entB ++ ws.flatMap entB)))
structure Keeper (T es eb : TypeId) (w : World) (base p : Nat) (vL vW : Value) (ls ws : List Ent) : Prop where
  blk : w.heap[p]? = some (.cells #[vL, vW] T (0, 0))
  hp : base ≤ p
  ownL : OwnS w base es vL (ls.map (·.1))
  ownW : OwnS w base es vW (ws.map (·.1))
  eachL : ∀ x ∈ ls, Own w base eb x.1 x.2
  eachW : ∀ x ∈ ws, Own w base eb x.1 x.2
  dist : (kb p vL vW ls ws).Nodup
section
variable {T es eb : TypeId} {w w' : World} {base p : Nat} {vL vW : Value} {ls ws : List Ent}
theorem Keeper.lt (h : Keeper T es eb w base p vL vW ls ws) : ∀ g ∈ kb p vL vW ls ws, base ≤ g ∧ g < w.heap.size := by
  intro g hg
  unfold kb at hg
  simp only [List.mem_cons, List.mem_append, List.mem_flatMap] at hg
  rcases hg with rfl | hg | hg | ⟨x, hx, hg⟩ | ⟨x, hx, hg⟩
  · exact ⟨h.hp, heap_lt h.blk⟩
  · exact ownsRow_lt h.ownL g (mem_obs.1 hg)
  · exact ownsRow_lt h.ownW g (mem_obs.1 hg)
  · exact ownsRow_lt (h.eachL x hx) g (mem_obs.1 hg)
  · exact ownsRow_lt (h.eachW x hx) g (mem_obs.1 hg)
theorem Keeper.kept (h : Keeper T es eb w base p vL vW ls ws) (hs : ∀ g ∈ kb p vL vW ls ws, w'.heap[g]? = w.heap[g]?) : Keeper T es eb w' base p vL vW ls ws where
  blk := (hs p (List.mem_cons_self ..)).trans h.blk
  hp := h.hp
  ownL := ownsRow_same h.ownL fun g hg => hs g (by unfold kb; simp [mem_obs.2 hg])
  ownW := ownsRow_same h.ownW fun g hg => hs g (by unfold kb; simp [mem_obs.2 hg])
  eachL x hx := ownsRow_same (h.eachL x hx) fun g hg => hs g (by
    unfold kb
    simp only [List.mem_cons, List.mem_append, List.mem_flatMap]
    exact .inr (.inr (.inr (.inl ⟨x, hx, mem_obs.2 hg⟩))))
  eachW x hx := ownsRow_same (h.eachW x hx) fun g hg => hs g (by
    unfold kb
    simp only [List.mem_cons, List.mem_append, List.mem_flatMap]
    exact .inr (.inr (.inr (.inr ⟨x, hx, mem_obs.2 hg⟩))))
  dist := h.dist
theorem Keeper.low (h : Keeper T es eb w base p vL vW ls ws) (hb : Below w.heap.size w w') : Keeper T es eb w' base p vL vW ls ws :=
  h.kept fun g hg => hb.block g (h.lt g hg).2
theorem Keeper.grew {F : List Nat} (h : Keeper T es eb w base p vL vW ls ws) (hb : Grew w w' F) (hF : ∀ g ∈ F, g ∉ kb p vL vW ls ws) : Keeper T es eb w' base p vL vW ls ws :=
  h.kept fun g hg => hb.block g (h.lt g hg).2 fun hx => hF g hx hg
theorem Keeper.new (hb : w.heap[p]? = some (.cells #[.slice none 0 0, .slice none 0 0] T (0, 0))) (hp : base ≤ p) : Keeper T es eb w base p (.slice none 0 0) (.slice none 0 0) [] [] where
  blk := hb
  hp := hp
  ownL := OwnS.nil _ _ _
  ownW := OwnS.nil _ _ _
  eachL x hx := by cases hx
  eachW x hx := by cases hx
  dist := by simp [kb, obs, Value.ownBlock]
end
section
variable {P : Program} {t e : TypeId} {Q : Exit → Act → World → Prop} {ops : Array Oper} {rest : List Oper} {o : Oper} {a : Act} {w : World}
end
end Go.Proofs.Ytehnnnohoaapdaa

/- A byte stored into bytes of the call's own. No program in sight. -/
namespace Go.Proofs.Ytehnnnohoaapdaa
set_option linter.unusedSectionVars false
set_option linter.unusedSimpArgs false
open Go Go.RowKit
set_option linter.unusedVariables false
section
variable {P : Program} {e : TypeId} {Q : Exit → Act → World → Prop} {ops : Array Oper} {rest : List Oper} {o : Oper} {a : Act} {w : World}
theorem arm_store_cell (ty : TypeId) (x y : Operand) (ho : o.op = .store ty x y) (hgd : o.guard = none) (b off : Nat) (hx : a.eval x = .pointer (some ⟨b, off, none⟩)) (u : UInt8) (hy : a.eval y = .int .u8 (u.toNat : Int))
    (hs : (P.info? ty).map (·.size) = some 1) (C : List Value) (e : TypeId) (hg : w.heap[b]? = some (.cells C.toArray e (0, 0))) (hlt : off < C.length)
    (h : ∀ w', Hid (w'.heap[b]? = some (.cells (C.set off (bv u)).toArray e (0, 0))) → w.grownBy w' (some b) → wpList P ops Q rest (a.put o.dst undef) w') : wpList P ops Q (o :: rest) a w := by
  have hc : w.cell? ⟨b, off, none⟩ = some C[off] := by
    rw [cell_of_row w b off _ e (0, 0) hg, ← Array.getElem?_toList, List.getElem?_eq_getElem hlt]
  have hf : w.frozen? ⟨b, off, none⟩ = false := by
    unfold World.frozen?
    rw [hg]
    simp
  refine wpList_store_int hgd ty x y ho ⟨b, off, none⟩ (bv u) hx hy ⟨_, _, rfl⟩ hs ⟨_, hc⟩ hf (h _ ?_ (grownBy_setC _ _ _))
  show _ = _
  rw [heap_setCell_same w b off _ e _ hg]
  congr 2
  apply Array.ext'
  simp
end
end Go.Proofs.Ytehnnnohoaapdaa

/- Steps: rows in the midst of a block, whole rows stored, conversions. No program in sight. -/
namespace Go.Proofs.Ytehnnnohoaapdaa
set_option linter.unusedSectionVars false
set_option linter.unusedSimpArgs false
open Go Go.RowKit
set_option linter.unusedVariables false
section
variable {P : Program} {Q : Exit → Act → World → Prop} {ops : Array Oper} {rest : List Oper} {o : Oper} {a : Act} {w : World}
theorem arm_midr (ty : TypeId) (x : Operand) (ho : o.op = .load ty x) (hw : Region.wanted o (yielded ops a.tmps) = true)
    (b off : Nat) (hx : a.eval x = .pointer (some ⟨b, off, none⟩)) (cs : List Value) (d : TypeDesc) (hS : w.rangeAt b off cs) (hu : P.underlying ty = some d) (hd : d.isRow = true) (hi : (P.info? ty).map (·.size) = some cs.length)
    (h : wpList P ops Q rest (a.put o.dst (.agg cs.toArray)) w) : wpList P ops Q (o :: rest) a w :=
  wpList_yields hw (yieldsIf_load_mid hw ty x ho b off hx cs d (fun W hW => by rw [hW]; exact hS) hu hd hi) h
theorem arm_storer (ty : TypeId) (x y : Operand) (ho : o.op = .store ty x y) (hgd : o.guard = none)
    (g : Nat) (old cells : Array Value) (et : TypeId) (hx : a.eval x = .pointer (some ⟨g, 0, none⟩)) (hy : a.eval y = .agg cells) (hg : w.heap[g]? = some (.cells old et (0, 0))) (hs : old.size = cells.size)
    (hi : (P.info? ty).map (·.size) = some cells.size) (h1 : cells.all (·.oneCell') = true)
    (h : ∀ w', Hid (w'.heap[g]? = some (.cells cells et (0, 0))) → w.grownBy w' (some g) → wpList P ops Q rest (a.put o.dst undef) w') : wpList P ops Q (o :: rest) a w :=
  wpList_store_row hgd ty x y ho g old cells et hx hy hg hs hi h1 h
theorem arm_store_mid (ty : TypeId) (x y : Operand) (ho : o.op = .store ty x y) (hgd : o.guard = none)
    (g off : Nat) (C cells : List Value) (et : TypeId) (hx : a.eval x = .pointer (some ⟨g, off, none⟩)) (hy : a.eval y = .agg cells.toArray) (hg : w.heap[g]? = some (.cells C.toArray et (0, 0))) (hs : off + cells.length ≤ C.length)
    (hi : (P.info? ty).map (·.size) = some cells.length) (h1 : cells.toArray.all (·.oneCell') = true)
    (h : ∀ w', Hid (w'.heap[g]? = some (.cells (splice C off cells).toArray et (0, 0))) → w.grownBy w' (some g) → wpList P ops Q rest (a.put o.dst undef) w') : wpList P ops Q (o :: rest) a w := by
  refine wpList_plain hgd fun _ hK => ?_
  have hrun : (storeVar ty ⟨g, off, none⟩ (.agg cells.toArray)).run P w = .ok () (w.setRow g (splice C off cells).toArray) := by
    have := run_storeCells_at (P := P) g off et cells 0 C.toArray w hg (by simpa using hs) (fun v hv => (Array.all_eq_true_iff_forall_mem.1 h1) v (by simpa using hv))
    cases hq : P.info? ty with
    | none => simp [hq] at hi
    | some i =>
      have hz : cells.length = i.size := by simp [hq] at hi; omega
      simp [storeVar, sizeOf, typeInfo, hq, Value.cells, hz, this, splice]
  unfold Oper.wp execOp
  simp only [ho, hx, hy, Instr.storeAt, Instr.sureAddr, Sem.run_bind, Sem.run_pure, Result.andThen_ok, hrun]
  exact hK _ _ (h _ (setRow_heap w g _ _ et (0, 0) hg) (grownBy_setRow w g _))
theorem arm_store_v (ty : TypeId) (x y : Operand) (ho : o.op = .store ty x y) (hgd : o.guard = none) (b off : Nat) (hx : a.eval x = .pointer (some ⟨b, off, none⟩)) (v : Value) (hy : a.eval y = v) (hv : v.cells = #[v]) (h1 : v.oneCell' = true)
    (hs : (P.info? ty).map (·.size) = some 1) (C : List Value) (e : TypeId) (hg : w.heap[b]? = some (.cells C.toArray e (0, 0))) (hlt : off < C.length)
    (h : ∀ w', Hid (w'.heap[b]? = some (.cells (C.set off v).toArray e (0, 0))) → w.grownBy w' (some b) → wpList P ops Q rest (a.put o.dst undef) w') : wpList P ops Q (o :: rest) a w := by
  have hc : w.cell? ⟨b, off, none⟩ = some C[off] := by
    rw [cell_of_row w b off _ e (0, 0) hg, ← Array.getElem?_toList, List.getElem?_eq_getElem hlt]
  have hf : w.frozen? ⟨b, off, none⟩ = false := by
    unfold World.frozen?
    rw [hg]
    simp
  refine wpList_plain hgd fun _ hK => ?_
  cases hq : P.info? ty with
  | none => simp [hq] at hs
  | some i =>
    have hs' : i.size = 1 := by simpa [hq] using hs
    have hst : (store ((⟨b, off, none⟩ : Addr).add 0) v).run P w = .ok () (w.setCell ⟨b, off, none⟩ v) := by
      have ha : (⟨b, off, none⟩ : Addr).add 0 = ⟨b, off, none⟩ := by unfold Addr.add; split <;> simp_all
      rw [ha, run_store P w _ v _ h1, hc]
      simp [hf]
    unfold Oper.wp execOp
    simp only [ho, hx, hy, Instr.storeAt, Instr.sureAddr, Sem.run_bind, Sem.run_pure, Result.andThen_ok]
    have : (storeVar ty ⟨b, off, none⟩ v).run P w = .ok () (w.setCell ⟨b, off, none⟩ v) := by
      simp [storeVar, sizeOf, typeInfo, hq, hs', hv, storeCells, hst]
    rw [this]
    refine hK _ _ (h _ ?_ (grownBy_setC _ _ _))
    show _ = _
    rw [heap_setCell_same w b off _ e _ hg]
    congr 2
    apply Array.ext'
    simp
end
theorem Row.range {w : World} {b o n : Nat} {l : List UInt8} (h : Row w (some ⟨b, o, none⟩) n l) : w.rangeAt b o (bvs l) := fun j v hj => by
  rw [bvs_getElem?] at hj
  obtain ⟨u, hu, rfl⟩ := Option.map_eq_some_iff.1 hj
  obtain ⟨hl, rfl⟩ := List.getElem?_eq_some_iff.1 hu
  exact h.cell j hl
theorem range_of_block {w : World} {g off : Nat} {C xs : List Value} {T : TypeId} {fr : Nat × Nat} (hg : w.heap[g]? = some (.cells C.toArray T fr)) (h : (C.drop off).take xs.length = xs) : w.rangeAt g off xs := fun j v hj => by
  rw [cell_of_row w g (off + j) _ _ _ hg, ← Array.getElem?_toList]
  show C[off + j]? = _
  rw [← h, List.getElem?_take] at hj
  split at hj
  · rw [List.getElem?_drop] at hj; exact hj
  · cases hj
section
variable {P : Program}
theorem oper_mono3 {o : Oper} {a : Act} {w : World} {K K' : Act → World → Prop} {Q Q' : Exit → Act → World → Prop} (h : ∀ a w, K a w → K' a w) (hq : ∀ e a w, e ≠ .normal → Q e a w → Q' e a w)
    (hh : o.wp P a w K Q) : o.wp P a w K' Q' := by
  have hl : LetsOut Q → LetsOut Q' := fun ⟨a, w, x⟩ => ⟨a, w, hq _ _ _ (by intro e; cases e) x⟩
  unfold Oper.wp at *
  generalize (execOp a.eval o).run P w = r at *
  cases r with
  | ok n w' =>
    cases n <;> simp only [Oper.upon] at hh ⊢ <;>
      first
        | exact h _ _ hh
        | exact Calls.mono hh (fun e w'' he => by cases e <;> first | exact h _ _ he | exact hq _ _ _ (by intro e; cases e) he | exact hl he)
        | exact Rows.mono hh (fun _ _ he => h _ _ he)
  | halt x w' => cases x <;> simp only [Oper.upon] at hh ⊢ <;> first | exact hh | exact hq _ _ _ (by intro e; cases e) hh | exact hl hh
theorem oper_list {o : Oper} {a : Act} {w : World} {K : Act → World → Prop} {Q : Exit → Act → World → Prop} (hg : o.guard = none)
    (h : wpList P #[] (fun e a w => e = .normal ∧ K a w) [o] a w) : o.wp P a w K Q := by
  have hw : Region.wanted o (yielded #[] a.tmps) = true := by simp [Region.wanted, hg]
  unfold wpList at h
  rw [if_pos hw] at h
  rcases h with h | ⟨_, a', w', h, _⟩
  · exact oper_mono3 (fun a w h => h.2) (fun e a w h1 h2 => absurd h2.1 h1) h
  · cases h
end
theorem held_built {P : Program} {S : World → Prop} {o : Oper} {a : Act} {ops : Array Oper} (hw : Region.wanted o (yielded ops a.tmps) = true) (t : TypeId) (parts : List (Nat × Operand)) (ho : o.op = .build t parts.toArray)
    (ps : List (Nat × Value)) (hp : (parts.map fun p => (p.1, a.eval p.2)) = ps) (cells : Array Value) (hc : P.built t ps = some cells) : YieldsIf P ops S o (.agg cells) a :=
  held_pure hw fun W => by
    have hm : (parts.toArray.map fun (i, x) => (i, a.eval x)).toList = ps := by rw [← hp]; simp
    unfold execOp
    simp only [ho, Sem.run_bind, run_build W t _ cells (by rw [hm]; exact hc), Result.andThen_ok]
    rfl
theorem results_rowt {P : Program} {fn : Func} {p u : Tmp} {ty : TypeId} (h : fn.results = #[.cell p ty, .tmp u]) (tmps : Array Value) (w : World) (g : Nat) (t : TypeId) (cs : Array Value) (fr : Nat × Nat) (d : TypeDesc)
    (hp : tmps.getD p undef = .pointer (some ⟨g, 0, none⟩)) (hg : w.heap[g]? = some (.cells cs t fr)) (hu : P.underlying ty = some d) (hd : (match d with | .struct _ | .array _ _ => true | _ => false) = true) (hi : (P.info? ty).map (·.size) = some cs.size)
    (v : Value) (hv : tmps.getD u undef = v) : (results fn tmps).run P w = .ok (.tuple #[.agg cs, v]) w := by
  rw [results_cell_tmp h, hp, hv]
  simp [asAddr, run_loadVar_row w g t ty cs fr d hg hu hd hi]
end Go.Proofs.Ytehnnnohoaapdaa
