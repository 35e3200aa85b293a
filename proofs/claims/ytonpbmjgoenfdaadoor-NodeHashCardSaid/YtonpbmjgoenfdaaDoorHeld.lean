/- A region that draws its order, with loads of whole arrays beside calls that make memory: steps by hand. No program in sight. -/
import Derived.Test.YtonpbmjgoenfdaaDoorBase
import Derived.Deep.RegionHeld3
namespace Go.Proofs.YtonpbmjgoenfdaaDoor
open Go Go.RowKit
set_option linter.unusedVariables false

section
variable {P : Program} {l : List Oper} {Q : Exit → Act → World → Prop} {md : Region.Mode} {S : World → Prop}
theorem getElem?_toArray' {l : List Oper} {i : Nat} {o : Oper} (h : l[i]? = some o) : l.toArray[i]? = some o := by simpa using h
/-- An operation that yields v in every world that meets S is taken first. -/
theorem held_take (i : Nat) {oi : Oper} (v : Value) {fuel : Nat} {listed : Array Bool} {a : Act} {w : World} (hi : l[i]? = some oi)
    (hs : Region.noSelect l.toArray = true) (hf : Region.free md l.toArray listed i = true) (hr : (Region.ready md l.toArray listed).contains i = true)
    (hy : YieldsIf P l.toArray S oi v a) (hS : S w)
    (h : wpAnyH P md l.toArray (NoPanic Q) S fuel (listed.setIfInBounds i true) (a.put oi.dst v) w) : wpAnyH P md l.toArray (NoPanic Q) S (fuel + 1) listed a w :=
  wpAnyH_take (getElem?_toArray' hi) hs hf hr (fun _ _ _ h => h) hy hS h
theorem held_load {o : Oper} {a : Act} {ops : Array Oper} (hw : Region.wanted o (yielded ops a.tmps) = true) (ty : TypeId) (x : Operand) (ho : o.op = .load ty x)
    (b off : Nat) (hx : a.eval x = .pointer (some ⟨b, off, none⟩)) (d : D32) (e : TypeId) (hS : ∀ w, S w → w.rangeAt b off (bvs d.1)) (hu : P.underlying ty = some (.array 32 e)) (hi : Hid ((P.info? ty).map (·.size) = some 32)) :
    YieldsIf P ops S o (.agg (dc d)) a :=
  yieldsIf_load_mid hw ty x ho b off hx (bvs d.1) _ hS hu rfl (by rw [length_bvs, d.2]; exact hi.out)
theorem held_pure {o : Oper} {v : Value} {a : Act} {ops : Array Oper} (hw : Region.wanted o (yielded ops a.tmps) = true) (h : ∀ w, (execOp a.eval o).run P w = .ok (.value v) w) : YieldsIf P ops S o v a :=
  .inl ⟨hw, fun w _ => h w⟩
theorem held_move {o : Oper} {v : Value} {a : Act} {ops : Array Oper} (hw : Region.wanted o (yielded ops a.tmps) = true) (x : Operand) (ho : o.op = .move x) (hx : a.eval x = v) : YieldsIf P ops S o v a :=
  held_pure hw fun w => by unfold execOp; simp only [ho, hx]; rfl
/-- An operation that is no such: it alone may come up. -/
theorem held_step (i : Nat) {o : Oper} {fuel : Nat} {listed : Array Bool} {a : Act} {w : World} (hr : Region.ready md l.toArray listed = [i]) (ho : l[i]? = some o)
    (hw : Region.wanted o (yielded l.toArray a.tmps) = true)
    (h : ∀ K' : Act → World → Prop, Hid (∀ a w, S w → (S w → wpAnyH P md l.toArray Q S fuel (listed.setIfInBounds i true) a w) → K' a w) → Oper.wp P o a w K' Q) : wpAnyH P md l.toArray Q S (fuel + 1) listed a w :=
  wpAnyH_ready hr (by simp) (AllReadyH.cons (getElem?_toArray' ho) (fun K hK => by rw [if_pos hw]; exact h K hK.out) AllReadyH.nil)
theorem held_begin (S : World → Prop) {id : Nat} {a : Act} {w : World} (hm : P.follows .mixedOrders = true) (hS : S w.drew)
    (h : S w.drew → wpAnyH P .any l.toArray (NoPanic Q) S l.length (Array.replicate l.length false) a w.drew) : (Code.region id l.toArray true).wp P Q a w :=
  wp_region_noPanic (wp_region_held_drew hm hS (by simpa using h))
theorem held_done {listed : Array Bool} {a : Act} {w : World} (hr : Region.ready md l.toArray listed = []) (h : Q .normal a w) (fuel : Nat) : wpAnyH P md l.toArray (NoPanic Q) S fuel listed a w :=
  wpAnyH_done hr (NoPanic.normal h) fuel
/-- In a region of one order: an operation under a guard that holds. -/
theorem wpList_yields {ops : Array Oper} {rest : List Oper} {o : Oper} {v : Value} {a : Act} {w : World} (hw : Region.wanted o (yielded ops a.tmps) = true) (hy : YieldsIf P ops (fun W => W = w) o v a)
    (h : wpList P ops Q rest (a.put o.dst v) w) : wpList P ops Q (o :: rest) a w := by
  have hx : (execOp a.eval o).run P w = .ok (.value v) w := by
    rcases hy with ⟨_, h⟩ | ⟨h, _⟩
    · exact h w rfl
    · rw [hw] at h; cases h
  unfold wpList
  rw [if_pos hw]
  left
  unfold Oper.wp
  rw [hx]
  exact h
theorem wpList_load32g {ops : Array Oper} {rest : List Oper} {o : Oper} {a : Act} {w : World} (hw : Region.wanted o (yielded ops a.tmps) = true) (ty : TypeId) (x : Operand) (ho : o.op = .load ty x)
    (b off : Nat) (hx : a.eval x = .pointer (some ⟨b, off, none⟩)) (d : D32) (e : TypeId) (hS : w.rangeAt b off (bvs d.1)) (hu : P.underlying ty = some (.array 32 e)) (hi : Hid ((P.info? ty).map (·.size) = some 32))
    (h : wpList P ops Q rest (a.put o.dst (.agg (dc d))) w) : wpList P ops Q (o :: rest) a w :=
  wpList_yields hw (held_load hw ty x ho b off hx d e (fun W hW => by rw [hW]; exact hS) hu hi) h
theorem wpList_builtg {ops : Array Oper} {rest : List Oper} {o : Oper} {a : Act} {w : World} (hw : Region.wanted o (yielded ops a.tmps) = true) (t : TypeId) (parts : List (Nat × Operand)) (ho : o.op = .build t parts.toArray)
    (ps : List (Nat × Value)) (hp : (parts.map fun p => (p.1, a.eval p.2)) = ps) (cells : Array Value) (hc : P.built t ps = some cells)
    (h : wpList P ops Q rest (a.put o.dst (.agg cells)) w) : wpList P ops Q (o :: rest) a w := by
  refine wpList_yields hw (held_pure hw fun W => ?_) h
  have hm : (parts.toArray.map fun (i, x) => (i, a.eval x)).toList = ps := by rw [← hp]; simp
  unfold execOp
  simp only [ho, Sem.run_bind, run_build W t _ cells (by rw [hm]; exact hc), Result.andThen_ok]
  rfl
end
end Go.Proofs.YtonpbmjgoenfdaaDoor
