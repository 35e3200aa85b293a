/- Texts joined: Held. -/
import Derived.Test.YtdnahagibodnpaaNL00
import Derived.Deep.RegionHeld3
/- A region that draws its order, with loads of whole arrays beside calls that make memory: steps by hand. No program in sight. -/
namespace Go.Proofs.Ytdnahagibodnpaa
set_option linter.unusedSectionVars false
set_option linter.unusedSimpArgs false
open Go Go.RowKit
set_option linter.unusedVariables false
section
variable {P : Program} {l : List Oper} {Q : Exit → Act → World → Prop} {md : Region.Mode} {S : World → Prop}
theorem getElem?_toArray' {l : List Oper} {i : Nat} {o : Oper} (h : l[i]? = some o) : l.toArray[i]? = some o := by simpa using h
theorem held_take (i : Nat) {oi : Oper} (v : Value) {fuel : Nat} {listed : Array Bool} {a : Act} {w : World} (hi : l[i]? = some oi)
    (hs : Region.noSelect l.toArray = true) (hf : Region.free md l.toArray listed i = true) (hr : (Region.ready md l.toArray listed).contains i = true)
    (hy : YieldsIf P l.toArray S oi v a) (hS : S w)
    (h : wpAnyH P md l.toArray (NoPanic Q) S fuel (listed.setIfInBounds i true) (a.put oi.dst v) w) : wpAnyH P md l.toArray (NoPanic Q) S (fuel + 1) listed a w :=
  wpAnyH_take (getElem?_toArray' hi) hs hf hr (fun _ _ _ h => h) hy hS h
theorem held_load {o : Oper} {a : Act} {ops : Array Oper} (hw : Region.wanted o (yielded ops a.tmps) = true) (ty : TypeId) (x : Operand) (ho : o.op = .load ty x)
    (b off : Nat) (hx : a.eval x = .pointer (some ⟨b, off, none⟩)) (d : D32) (e : TypeId) (hS : ∀ w, S w → w.rangeAt b off (bvs d.1)) (hu : P.underlying ty = some (.array 32 e)) (hi : Hid ((P.info? ty).map (·.size) = some 32)) :
    YieldsIf P ops S o (.agg (dc d)) a :=
  yieldsIf_load_mid hw ty x ho b off hx (bvs d.1) _ hS hu rfl (by rw [length_bvs, d.2]; exact hi.out)
theorem held_pure {o : Oper} {v : Value} {a : Act} {ops : Array Oper} (hw : Region.wanted o (yielded ops a.tmps) = true) (h : ∀ w, (execOp a.eval o).run P w = .ok (.value v) w) : YieldsIf P ops S o v a :=
  .inl ⟨hw, fun w _ => h w⟩
theorem held_move {o : Oper} {v : Value} {a : Act} {ops : Array Oper} (hw : Region.wanted o (yielded ops a.tmps) = true) (x : Operand) (ho : o.op = .move x) (hx : a.eval x = v) : YieldsIf P ops S o v a :=
  held_pure hw fun w => by unfold execOp; simp only [ho, hx]; rfl
theorem held_step (i : Nat) {o : Oper} {fuel : Nat} {listed : Array Bool} {a : Act} {w : World} (hr : Region.ready md l.toArray listed = [i]) (ho : l[i]? = some o)
    (hw : Region.wanted o (yielded l.toArray a.tmps) = true)
    (h : ∀ K' : Act → World → Prop, Hid (∀ a w, S w → (S w → wpAnyH P md l.toArray Q S fuel (listed.setIfInBounds i true) a w) → K' a w) → Oper.wp P o a w K' Q) : wpAnyH P md l.toArray Q S (fuel + 1) listed a w :=
  wpAnyH_ready hr (by simp) (AllReadyH.cons (getElem?_toArray' ho) (fun K hK => by rw [if_pos hw]; exact h K hK.out) AllReadyH.nil)
theorem held_step2 (i j : Nat) {oi oj : Oper} {fuel : Nat} {listed : Array Bool} {a : Act} {w : World} (hr : Region.ready md l.toArray listed = [i, j]) (hoi : l[i]? = some oi) (hoj : l[j]? = some oj)
    (hwi : Region.wanted oi (yielded l.toArray a.tmps) = true) (hwj : Region.wanted oj (yielded l.toArray a.tmps) = true)
    (h1 : ∀ K' : Act → World → Prop, Hid (∀ a w, S w → (S w → wpAnyH P md l.toArray Q S fuel (listed.setIfInBounds i true) a w) → K' a w) → Oper.wp P oi a w K' Q)
    (h2 : ∀ K' : Act → World → Prop, Hid (∀ a w, S w → (S w → wpAnyH P md l.toArray Q S fuel (listed.setIfInBounds j true) a w) → K' a w) → Oper.wp P oj a w K' Q) : wpAnyH P md l.toArray Q S (fuel + 1) listed a w :=
  wpAnyH_ready hr (by simp) (AllReadyH.cons (getElem?_toArray' hoi) (fun K hK => by rw [if_pos hwi]; exact h1 K hK.out)
    (AllReadyH.cons (getElem?_toArray' hoj) (fun K hK => by rw [if_pos hwj]; exact h2 K hK.out) AllReadyH.nil))
theorem held_begin (S : World → Prop) {id : Nat} {a : Act} {w : World} (hm : P.follows .mixedOrders = true) (hS : S w.drew)
    (h : S w.drew → wpAnyH P .any l.toArray (NoPanic Q) S l.length (Array.replicate l.length false) a w.drew) : (Code.region id l.toArray true).wp P Q a w :=
  wp_region_noPanic (wp_region_held_drew hm hS (by simpa using h))
theorem held_done {listed : Array Bool} {a : Act} {w : World} (hr : Region.ready md l.toArray listed = []) (h : Q .normal a w) (fuel : Nat) : wpAnyH P md l.toArray (NoPanic Q) S fuel listed a w :=
  wpAnyH_done hr (NoPanic.normal h) fuel
theorem held_eql {o : Oper} {a : Act} {ops : Array Oper} (hw : Region.wanted o (yielded ops a.tmps) = true) (t t' : TypeId) (x y : Operand) (ho : o.op = .binOp .eql t x y t') (c d : D32) (r : Bool)
    (hx : a.eval x = .agg (dc c)) (hy : a.eval y = .agg (dc d)) (hm : P.eqGuardType P.depth t = false) (he : ∀ W, (Op.equalIn 10000 t (.agg (dc c)) (.agg (dc d))).run P W = .ok r W) : YieldsIf P ops S o (.bool r) a :=
  held_pure hw fun W => by
    unfold execOp
    simp only [ho, hx, hy, Sem.run_bind, run_eql_struct, run_eqGuard_agg (hm := hm), he, Result.andThen_ok]
    rfl
theorem held_neq {o : Oper} {a : Act} {ops : Array Oper} (hw : Region.wanted o (yielded ops a.tmps) = true) (t t' : TypeId) (x y : Operand) (ho : o.op = .binOp .neq t x y t') (c d : D32) (r : Bool)
    (hx : a.eval x = .agg (dc c)) (hy : a.eval y = .agg (dc d)) (hm : P.eqGuardType P.depth t = false) (he : ∀ W, (Op.equalIn 10000 t (.agg (dc c)) (.agg (dc d))).run P W = .ok (!r) W) : YieldsIf P ops S o (.bool r) a :=
  held_pure hw fun W => by
    unfold execOp
    simp only [ho, hx, hy, Sem.run_bind, run_neq_struct, run_eqGuard_agg (hm := hm), he, Result.andThen_ok, Bool.not_not]
    rfl
theorem wpList_yields {ops : Array Oper} {rest : List Oper} {o : Oper} {v : Value} {a : Act} {w : World} (hw : Region.wanted o (yielded ops a.tmps) = true) (hy : YieldsIf P ops (fun W => W = w) o v a)
    (h : wpList P ops Q rest (a.put o.dst v) w) : wpList P ops Q (o :: rest) a w := by
  have hx : (execOp a.eval o).run P w = .ok (.value v) w := by
    rcases hy with ⟨_, h⟩ | ⟨h, _⟩
    · exact h w rfl
    · rw [hw] at h; cases h
  unfold wpList
  rw [if_pos hw]
  left
  unfold Oper.wp
  rw [hx]
  exact h
theorem wpList_load32g {ops : Array Oper} {rest : List Oper} {o : Oper} {a : Act} {w : World} (hw : Region.wanted o (yielded ops a.tmps) = true) (ty : TypeId) (x : Operand) (ho : o.op = .load ty x)
    (b off : Nat) (hx : a.eval x = .pointer (some ⟨b, off, none⟩)) (d : D32) (e : TypeId) (hS : w.rangeAt b off (bvs d.1)) (hu : P.underlying ty = some (.array 32 e)) (hi : Hid ((P.info? ty).map (·.size) = some 32))
    (h : wpList P ops Q rest (a.put o.dst (.agg (dc d))) w) : wpList P ops Q (o :: rest) a w :=
  wpList_yields hw (held_load hw ty x ho b off hx d e (fun W hW => by rw [hW]; exact hS) hu hi) h
theorem wpList_builtg {ops : Array Oper} {rest : List Oper} {o : Oper} {a : Act} {w : World} (hw : Region.wanted o (yielded ops a.tmps) = true) (t : TypeId) (parts : List (Nat × Operand)) (ho : o.op = .build t parts.toArray)
    (ps : List (Nat × Value)) (hp : (parts.map fun p => (p.1, a.eval p.2)) = ps) (cells : Array Value) (hc : P.built t ps = some cells)
    (h : wpList P ops Q rest (a.put o.dst (.agg cells)) w) : wpList P ops Q (o :: rest) a w := by
  refine wpList_yields hw (held_pure hw fun W => ?_) h
  have hm : (parts.toArray.map fun (i, x) => (i, a.eval x)).toList = ps := by rw [← hp]; simp
  unfold execOp
  simp only [ho, Sem.run_bind, run_build W t _ cells (by rw [hm]; exact hc), Result.andThen_ok]
  rfl
end
end Go.Proofs.Ytdnahagibodnpaa
