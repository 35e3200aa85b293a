/- Texts joined: Mapq, Eff, Eff2, Eff3. -/
import Derived.Test.YtopdhanbmnfeeaaDoorIR01
import Derived.Maps.OwnSet
import Derived.Test.YtopdhanbmnfeeaaDoorIR02
import Derived.Maps.AppendAt
/- A map of numbers by numbers: the last places of a list of writes. No program in sight. -/
namespace Go.Proofs.YtopdhanbmnfeeaaDoor
set_option linter.unusedSectionVars false
set_option linter.unusedSimpArgs false
open Go Go.RowKit Go.ChangeMaps Go.MapKept Go.Maps
open Go.WideElems (Fit rd rg pl rd_val elemAt)
set_option linter.unusedVariables false
section
variable {H : Type} {P : Program} {k e t : TypeId} {R : Value → Option (DataW H × List MemPlace)} {w : World} {b n : Nat} {D : DataW H}
theorem ownsMap_clear (h : w.ownsMap P k R b n D) (ht : P.underlying t = some (.map k e)) (ty : TypeId) :
    ∃ w', (Builtin.clear_ #[t] ty #[.map (some b)]).run P w = .ok (.tuple #[]) w' ∧ w'.ownsMap P k R b 0 (.map []) ∧ w.grownBy w' (some b) := by
  obtain ⟨es, clock, hb, F, hs, rfl⟩ := h
  refine ⟨setBlock w b (.map #[] clock), ?_, ⟨#[], clock, heap_setBlock_same hb _, ⟨by simp, stamped_empty clock, by simp⟩, Nat.le_refl _, rfl⟩, ⟨rfl, rfl, rfl, by simp [setBlock], fun i _ hi => heap_setBlock_other hb _ (fun e => hi (by rw [e]))⟩⟩
  simp [Builtin.clear_, run_underlying ht, MapKept.run_getObj_map hb, MapKept.run_setObj_map _ hb, Result.andThen, setBlock]
end
abbrev Wr := Nat × List UInt8
def lastAt (q : List Wr) (p : Nat) : Option Nat := (q.zipIdx.foldl (fun (a : Option Nat) x => if x.1.1 = p then some x.2 else a) none)
theorem lastAt_nil (p : Nat) : lastAt [] p = none := rfl
theorem lastAt_snoc (q : List Wr) (x : Wr) (p : Nat) : lastAt (q ++ [x]) p = if x.1 = p then some q.length else lastAt q p := by
  unfold lastAt
  rw [List.zipIdx_append, List.foldl_append]
  simp
def curP (b : List UInt8) (q : List Wr) (p : Nat) : List UInt8 := q.foldl (fun a x => if x.1 = p then x.2 else a) b
theorem curP_snoc (b : List UInt8) (q : List Wr) (x : Wr) (p : Nat) : curP b (q ++ [x]) p = if x.1 = p then x.2 else curP b q p := by
  unfold curP; rw [List.foldl_append]; simp
theorem snocInd {α : Type} {M : List α → Prop} (h0 : M []) (h1 : ∀ l x, M l → M (l ++ [x])) : ∀ l, M l := by
  intro l
  rw [← List.reverse_reverse l]
  induction l.reverse with
  | nil => exact h0
  | cons x l ih => rw [List.reverse_cons]; exact h1 _ _ ih
theorem lastAt_lt (p : Nat) : ∀ (q : List Wr) (i : Nat), lastAt q p = some i → i < q.length := by
  refine snocInd (fun i h => by simp [lastAt_nil] at h) fun q x ih i h => ?_
  rw [lastAt_snoc] at h
  rw [List.length_append]
  split at h
  · cases h; simp
  · have := ih i h; simp; omega
theorem curP_some (b : List UInt8) (p : Nat) : ∀ (q : List Wr) (i : Nat), lastAt q p = some i → ∃ x, q[i]? = some x ∧ x.1 = p ∧ curP b q p = x.2 := by
  refine snocInd (fun i h => by simp [lastAt_nil] at h) fun q x ih i h => ?_
  rw [lastAt_snoc] at h
  rw [curP_snoc]
  split at h
  · rename_i hx
    cases h
    exact ⟨x, by simp, hx, by rw [if_pos hx]⟩
  · rename_i hx
    obtain ⟨y, h1, h2, h3⟩ := ih i h
    refine ⟨y, ?_, h2, by rw [if_neg hx]; exact h3⟩
    have hl := lastAt_lt p q i h
    rw [List.getElem?_append_left hl]; exact h1
theorem curP_none (b : List UInt8) (p : Nat) : ∀ (q : List Wr), lastAt q p = none → curP b q p = b := by
  refine snocInd (fun _ => rfl) fun q x ih h => ?_
  rw [lastAt_snoc] at h
  rw [curP_snoc]
  split at h
  · cases h
  · rename_i hx
    rw [if_neg hx]; exact ih h
def MapAt (P : Program) (k e : TypeId) (w : World) (b : Nat) (q : List Wr) : Prop :=
  ∃ n D, w.ownsMap (H := Unit) P k (plainElem P e) b n D ∧ n ≤ q.length ∧ IsMap D ∧ ∀ p : Nat, Maps.has D (.int .i64 (p : Int)) = (lastAt q p).isSome ∧ ∀ i, lastAt q p = some i → D.atKey (.int .i64 (p : Int)) (.lit (.int .i64 0)) = .lit (.int .i64 (i : Int))
theorem MapAt.lt {P : Program} {k e : TypeId} {w : World} {b : Nat} {q : List Wr} (h : MapAt P k e w b q) : b < w.heap.size := by
  obtain ⟨n, D, h1, _⟩ := h; exact h1.lt
theorem MapAt.kept {P : Program} {k e : TypeId} {w w' : World} {b : Nat} {q : List Wr} (h : MapAt P k e w b q) (hs : w'.heap[b]? = w.heap[b]?) : MapAt P k e w' b q := by
  obtain ⟨n, D, ⟨es, clock, hb, F, h1, h2⟩, h3⟩ := h
  exact ⟨n, D, ⟨es, clock, hs.trans hb, F, h1, h2⟩, h3⟩
theorem MapAt.made (P : Program) (k e : TypeId) (w : World) : MapAt P k e (w.alloc (.map #[] 0)) w.heap.size [] :=
  ⟨0, .map [], World.ownsMap_made w P k _, Nat.le_refl _, isMap_empty, fun p => ⟨rfl, fun i h => by simp [lastAt_nil] at h⟩⟩
theorem wf_nat (p : Nat) (h : p ≤ 9223372036854775807) : (Lit.int .i64 (p : Int)).wf = true := WalkArith.wf_i64 (by omega)
section
variable {P : Program} {k e t : TypeId} {Q : Exit → Act → World → Prop} {ops : Array Oper} {rest : List Oper} {o : Oper} {a : Act} {w : World} {b : Nat} {q : List Wr}
theorem arm_look (hm : MapAt P k e w b q) (hk : P.underlying k = some (.int .i64)) (he : P.underlying e = some (.int .i64)) (ht : P.underlying t = some (.map k e)) (hz : ∀ W, (zeroValue e).run P W = .ok (.int .i64 0) W)
    (m x : Operand) (ho : o.op = Op.lookup t m x true) (hg : o.guard = none) (p : Nat) (hp : p ≤ 9223372036854775807) (hm' : a.eval m = .map (some b)) (hx : a.eval x = .int .i64 (p : Int))
    (hK : ∀ c : Int, (∀ i, lastAt q p = some i → c = (i : Int)) → wpList P ops Q rest (a.put o.dst (.tuple #[.int .i64 c, .bool (lastAt q p).isSome])) w) : wpList P ops Q (o :: rest) a w := by
  obtain ⟨n, D, hown, hn, hD, h⟩ := hm
  refine wpList_lookup_own_ok_int w hg m x t ho k e .i64 (int_keyed hk) ht he (hz w) b n D hm' hown _ (.int .i64 (p : Int)) hx (keyOf_int_mk hk (wf_nat p hp)) fun c hc _ => ?_
  rw [(h p).1]
  refine hK c fun i hi => ?_
  have := (h p).2 i hi
  rw [hc] at this
  injection this with h1
  injection h1
theorem arm_mapset (hm : MapAt P k e w b q) (hk : P.underlying k = some (.int .i64)) (he : P.underlying e = some (.int .i64)) (ht : P.underlying t = some (.map k e))
    (m x v : Operand) (ho : o.op = Op.mapUpdate t m x v) (hg : o.guard = none) (p : Nat) (hp : p ≤ 9223372036854775807) (hm' : a.eval m = .map (some b)) (hx : a.eval x = .int .i64 (p : Int)) (hv : a.eval v = .int .i64 (q.length : Int)) (hq : q.length ≤ 1099511627776)
    (d : List UInt8) (hK : ∀ w', MapAt P k e w' b (q ++ [(p, d)]) → w.grownBy w' (some b) → wpList P ops Q rest (a.put o.dst undef) w') : wpList P ops Q (o :: rest) a w := by
  obtain ⟨n, D, hown, hn, hD, h⟩ := hm
  refine wpList_mapUpdate_own w hg m x v t ho k e (int_keyed hk) ht _ b n D hm' hown (by unfold maxLen; omega) _ _ (.int .i64 (p : Int)) hx hv (keyOf_int_mk hk (wf_nat p hp)) (.lit (.int .i64 (q.length : Int))) [] (plainElem_int he (wf_nat _ (by omega))) fun w' h1 h2 => hK w' ⟨n + 1, _, h1, by rw [List.length_append]; simp; omega, hD.put _ _, fun p' => ?_⟩ h2
  have hkl : WideAt.IsKeyLit (.int .i64 (p : Int)) := trivial
  rw [lastAt_snoc]
  by_cases hpp : p = p'
  · subst hpp
    rw [has_put_same hD hkl, if_pos rfl]
    refine ⟨rfl, fun i hi => ?_⟩
    cases hi
    rw [atKey_put_same hD hkl]
  · have hne : (Lit.int .i64 (p' : Int)) ≠ .int .i64 (p : Int) := by
      intro e; injection e with _ e; omega
    rw [has_put_other hne, atKey_put_other hne, if_neg hpp]
    exact h p'
theorem arm_clear (hm : MapAt P k e w b q) (ht : P.underlying t = some (.map k e)) (x : Operand) (ho : o.op = Op.call { callee := Callee.builtin Builtin.clear, args := #[x], argTypes := #[t] }) (hg : o.guard = none) (hx : a.eval x = .map (some b))
    (hK : ∀ w', MapAt P k e w' b [] → w.grownBy w' (some b) → wpList P ops Q rest (a.put o.dst (.tuple #[])) w') : wpList P ops Q (o :: rest) a w := by
  obtain ⟨n, D, hown, hn, hD, h⟩ := hm
  refine wpList_plain hg fun K' hK' => ?_
  obtain ⟨w', hrun, r1, r2⟩ := ownsMap_clear hown ht o.type
  unfold Oper.wp
  simp [execOp, ho, resolve, invoke, builtin, hx, hrun, Result.andThen]
  exact hK' _ _ (hK w' ⟨0, _, r1, Nat.le_refl _, isMap_empty, fun p => ⟨rfl, fun i h => by simp [lastAt_nil] at h⟩⟩ r2)
end
end Go.Proofs.YtopdhanbmnfeeaaDoor

/- Operations that write memory or call, each by its own law over what is known of memory. No program in sight. -/
namespace Go.Proofs.YtopdhanbmnfeeaaDoor
set_option linter.unusedSimpArgs false
open Go Go.RowKit
set_option linter.unusedVariables false
set_option linter.unusedSectionVars false
section
variable {P : Program} {ops : Array Oper} {Q : Exit → Act → World → Prop} {rest : List Oper} {o : Oper} {a : Act} {w w0 : World} {F : List Nat} {L : List Asn} {K : Act → World → Prop} {x y : Operand} {t : TypeId}
theorem list_all (l : List Value) (h : l.all (·.oneCell') = true) : l.toArray.all (·.oneCell') = true := by simpa using h
theorem res0 {fn : Func} {tmps : Array Value} (h : fn.results = #[]) : (results fn tmps).run P w = .ok (.tuple #[]) w := results_none h _ _ _
theorem res1 {fn : Func} {tmps : Array Value} {p : Tmp} {v : Value} (h : fn.results = #[.tmp p]) (hv : tmps.getD p undef = v) : (results fn tmps).run P w = .ok v w := by
  rw [results_tmp h, hv]
theorem res2 {fn : Func} {tmps : Array Value} {p q : Tmp} {v u : Value} (h : fn.results = #[.tmp p, .tmp q]) (hv : tmps.getD p undef = v) (hu : tmps.getD q undef = u) : (results fn tmps).run P w = .ok (.tuple #[v, u]) w := by
  rw [results_tmp2 h, hv, hu]
theorem res3 {fn : Func} {tmps : Array Value} {p q r : Tmp} {v u z : Value} (h : fn.results = #[.tmp p, .tmp q, .tmp r]) (hv : tmps.getD p undef = v) (hu : tmps.getD q undef = u) (hz : tmps.getD r undef = z) : (results fn tmps).run P w = .ok (.tuple #[v, u, z]) w := by
  subst hv
  subst hu
  subst hz
  simp [results, h]
theorem resc1 {fn : Func} {tmps : Array Value} {p : Tmp} {ty : TypeId} {g : Nat} {T : TypeId} {cs : List Value} (d : TypeDesc) (hd : d.isRow = true) (h : fn.results = #[.cell p ty]) (hp : tmps.getD p undef = .pointer (some ⟨g, 0, none⟩)) (hg : (blk g T cs).holds w)
    (hu : P.underlying ty = some d) (hi : Box ((P.info? ty).map (·.size) = some cs.length)) : (results fn tmps).run P w = .ok (.agg cs.toArray) w := by
  have hr : w.rangeAt g 0 cs := range_of_block hg (by simp)
  have hl := run_loadVar_mid (P := P) w g 0 ty cs d hr hu hd hi.out
  rw [Array.getD_eq_getD_getElem?] at hp
  simp [results, h, hp, asAddr, hl]
theorem resc2 {fn : Func} {tmps : Array Value} {p q : Tmp} {ty : TypeId} {g : Nat} {T : TypeId} {cs : List Value} (d : TypeDesc) (hd : d.isRow = true) {v : Value} (h : fn.results = #[.cell p ty, .tmp q]) (hp : tmps.getD p undef = .pointer (some ⟨g, 0, none⟩)) (hg : (blk g T cs).holds w)
    (hu : P.underlying ty = some d) (hi : Box ((P.info? ty).map (·.size) = some cs.length)) (hv : tmps.getD q undef = v) : (results fn tmps).run P w = .ok (.tuple #[.agg cs.toArray, v]) w := by
  have hr : w.rangeAt g 0 cs := range_of_block hg (by simp)
  have hl := run_loadVar_mid (P := P) w g 0 ty cs d hr hu hd hi.out
  subst hv
  rw [results_cell_tmp h, hp]
  simp [asAddr, hl]
theorem pl {v : Value} (M : Mem w0 F w L) (hy : YieldsIf P ops (fun W => Mem w0 F W L) o v a) (h : wpList P ops Q rest (a.put o.dst v) w) : wpList P ops Q (o :: rest) a w := by
  rcases hy with ⟨hw, he⟩ | ⟨hw, rfl⟩
  · exact wpList_step fun K hK => by
      rw [if_pos hw]
      unfold Oper.wp
      rw [he w M]
      exact hK _ _ h
  · exact wpList_step fun K hK => by
      rw [if_neg (by rw [hw]; decide)]
      exact hK _ _ h
theorem ps {Q' : Act → Prop} {v : Value} (M : Mem w0 F w L) (hy : YieldsIf P ops (fun W => Mem w0 F W L) o v a) (h : wpStill P ops w Q' rest (a.put o.dst v)) : wpStill P ops w Q' (o :: rest) a := by
  refine wpStill_step fun K hK => ?_
  rcases hy with ⟨hw, he⟩ | ⟨hw, rfl⟩
  · rw [if_pos hw]
    unfold Oper.still
    rw [he w M, Oper.stillUpon_value]
    exact hK _ h
  · rw [if_neg (by rw [hw]; decide)]
    exact hK _ h
theorem ps_skip {Q' : Act → Prop} (hw : Region.wanted o (yielded ops a.tmps) = false) (h : wpStill P ops w Q' rest (a.put o.dst undef)) : wpStill P ops w Q' (o :: rest) a :=
  wpStill_step fun K hK => by rw [if_neg (by rw [hw]; decide)]; exact hK _ h
theorem pe (hw : Region.wanted o (yielded ops a.tmps) = true) (h : ∀ K : Act → World → Prop, Box (∀ a w, wpList P ops Q rest a w → K a w) → Oper.wp P o a w K Q) : wpList P ops Q (o :: rest) a w :=
  wpList_step fun K hK => by rw [if_pos hw]; exact h K ⟨hK⟩
theorem e_yield {v : Value} (M : Mem w0 F w L) (hy : YieldsIf P ops (fun W => Mem w0 F W L) o v a) (hw : Region.wanted o (yielded ops a.tmps) = true) (h : K (a.put o.dst v) w) : Oper.wp P o a w K Q := by
  rcases hy with ⟨_, he⟩ | ⟨hw', _⟩
  · unfold Oper.wp
    rw [he w M]
    exact h
  · rw [hw] at hw'; cases hw'
theorem pskip (hw : Region.wanted o (yielded ops a.tmps) = false) (h : wpList P ops Q rest (a.put o.dst undef) w) : wpList P ops Q (o :: rest) a w :=
  wpList_step fun K hK => by rw [if_neg (by rw [hw]; decide)]; exact hK _ _ h
theorem size_of_run {n : Nat} (hs : ∀ w, (sizeOf t).run P w = .ok n w) : (P.info? t).map (·.size) = some n := by
  have h2 := hs default
  unfold sizeOf typeInfo program at h2
  simp only [Sem.run_bind] at h2
  cases hq : P.info? t with
  | none => simp [hq, stuck, Sem.run, Result.andThen] at h2
  | some j =>
    simp [hq, Sem.run, Result.andThen] at h2
    simp [h2]
theorem e_store (M : Mem w0 F w L) (i : Nat) {g off : Nat} {T : TypeId} {C : List Value} {v : Value} (ho : o.op = .store t x y) (hgd : o.guard = none) (hx : a.eval x = .pointer (some ⟨g, off, none⟩)) (hy : a.eval y = v) (hv : v.cells = #[v]) (h1 : v.oneCell' = true)
    (hs : ∀ w, (sizeOf t).run P w = .ok 1 w) (hi : L[i]? = some (blk g T C)) (hlt : off < C.length)
    (h : ∀ w', Mem w0 F w' (L.set i (blk g T (C.set off v))) → K (a.put o.dst undef) w') : Oper.wp P o a w K Q := by
  have hs' := size_of_run hs
  refine oper_list hgd (arm_store_v t x y ho hgd g off hx v hy hv h1 hs' C T (M.get i hi) hlt fun w' hb hg => ⟨rfl, h w' ?_⟩)
  exact M.setBlk i _ hi hg hb.out
theorem e_storer (M : Mem w0 F w L) (i : Nat) {g off : Nat} {T : TypeId} {C cs : List Value} (ho : o.op = .store t x y) (hgd : o.guard = none) (hx : a.eval x = .pointer (some ⟨g, off, none⟩)) (hy : a.eval y = .agg cs.toArray)
    (hs : Box ((P.info? t).map (·.size) = some cs.length)) (h1 : cs.toArray.all (·.oneCell') = true) (hi : L[i]? = some (blk g T C)) (hlt : off + cs.length ≤ C.length)
    (h : ∀ w', Mem w0 F w' (L.set i (blk g T (splice C off cs))) → K (a.put o.dst undef) w') : Oper.wp P o a w K Q := by
  refine oper_list hgd (arm_store_mid t x y ho hgd g off C cs T hx hy (M.get i hi) hlt hs.out h1 fun w' hb hg => ⟨rfl, h w' ?_⟩)
  exact M.setBlk i _ hi hg hb.out
theorem e_storew (M : Mem w0 F w L) (i : Nat) {g : Nat} {T : TypeId} {C cs : List Value} (ho : o.op = .store t x y) (hgd : o.guard = none) (hx : a.eval x = .pointer (some ⟨g, 0, none⟩)) (hy : a.eval y = .agg cs.toArray)
    (hs : Box ((P.info? t).map (·.size) = some cs.length)) (h1 : cs.toArray.all (·.oneCell') = true) (hi : L[i]? = some (blk g T C)) (hlt : cs.length = C.length)
    (h : ∀ w', Mem w0 F w' (L.set i (blk g T cs)) → K (a.put o.dst undef) w') : Oper.wp P o a w K Q := by
  refine e_storer M i ho hgd hx hy hs h1 hi (by omega) fun w' M' => h w' ?_
  rw [splice_all0 C cs hlt] at M'
  exact M'
theorem e_alloc (M : Mem w0 F w L) (cs : List Value) (ho : o.op = .alloc t) (hz : ∀ w, (zeroValue t).run P w = .ok (.agg cs.toArray) w)
    (h : ∀ g w', Mem w0 F w' (blk g t cs :: L) → K (a.put o.dst (.pointer (some ⟨g, 0, none⟩))) w') : Oper.wp P o a w K Q := by
  unfold Oper.wp execOp
  simp only [ho, Instr.alloc, Sem.run_bind, hz, Result.andThen_ok, newVar, newRow, newObj]
  exact h _ _ (M.alloc cs t)
theorem e_alloc1 (M : Mem w0 F w L) (v : Value) (hv : v.cells = #[v]) (ho : o.op = .alloc t) (hz : ∀ w, (zeroValue t).run P w = .ok v w)
    (h : ∀ g w', Mem w0 F w' (blk g t [v] :: L) → K (a.put o.dst (.pointer (some ⟨g, 0, none⟩))) w') : Oper.wp P o a w K Q := by
  unfold Oper.wp execOp
  simp only [ho, Instr.alloc, Sem.run_bind, hz, Result.andThen_ok, newVar, newRow, newObj, hv]
  exact h _ _ (M.alloc [v] t)
theorem e_box (M : Mem w0 F w L) (cs : List Value) (ho : o.op = .box t x) (hx : a.eval x = .agg cs.toArray)
    (h : ∀ g w', Mem w0 F w' (blk g t cs :: L) → K (a.put o.dst (.pointer (some ⟨g, 0, none⟩))) w') : Oper.wp P o a w K Q := by
  unfold Oper.wp execOp
  simp only [ho, hx, Instr.box, Sem.run_bind, newVar, newRow, newObj]
  exact h _ _ (M.alloc cs t)
theorem e_box1 (M : Mem w0 F w L) (v : Value) (hv : v.cells = #[v]) (ho : o.op = .box t x) (hx : a.eval x = v)
    (h : ∀ g w', Mem w0 F w' (blk g t [v] :: L) → K (a.put o.dst (.pointer (some ⟨g, 0, none⟩))) w') : Oper.wp P o a w K Q := by
  unfold Oper.wp execOp
  simp only [ho, hx, Instr.box, Sem.run_bind, newVar, newRow, newObj, hv]
  exact h _ _ (M.alloc [v] t)
theorem e_call (f : FuncId) (args : List Value) {as : List Operand} {ts : Array TypeId} (ho : o.op = .call { callee := .value (.func f), args := as.toArray, argTypes := ts }) (ha : as.map a.eval = args) (hf : ∀ ar w, (callFunc f ar).run P w = .ok (.enter f ar) w)
    {R : Ending → World → Prop} (hc : Calls P f args.toArray w R) (h : ∀ e w', R e w' → ∃ v, e = .returned v ∧ K (a.put o.dst v) w') : Oper.wp P o a w K Q := by
  subst ha
  unfold Oper.wp
  have hx : (execOp a.eval o).run P w = .ok (.enter f (as.map a.eval).toArray) w := by
    unfold execOp
    simp only [ho, resolve, Act.eval, Deferred.ofValue, Sem.run_bind, Sem.run_pure, Result.andThen_ok, invoke, Array.append_empty, Array.empty_append, List.map_toArray]
    exact hf _ w
  rw [hx]
  refine Calls.mono hc fun e w' hr => ?_
  obtain ⟨v, rfl, hk⟩ := h e w' hr
  exact hk
end
end Go.Proofs.YtopdhanbmnfeeaaDoor

/- More operations that act: lists grown, made, copied; the map of numbers; function values. No program in sight. -/
namespace Go.Proofs.YtopdhanbmnfeeaaDoor
set_option linter.unusedSimpArgs false
open Go Go.RowKit
set_option linter.unusedVariables false
set_option linter.unusedSectionVars false
def ElemTy (P : Program) (t e : TypeId) (k b : Nat) : Prop := ∃ (i : TypeInfo) (z : Value), P.underlying t = some (.slice e) ∧ P.info? e = some i ∧ i.zero = some z ∧ i.size = k ∧ i.bytes = b ∧ z.cells.size = k
def elemTyB (P : Program) (t e k b : Nat) : Bool :=
  match P.underlying t, P.info? e with
  | some (.slice e'), some i => decide (e' = e) && (match i.zero with | some z => decide (i.size = k) && decide (i.bytes = b) && decide (z.cells.size = k) | none => false)
  | _, _ => false
theorem elemTy_of {P : Program} {t e k b : Nat} (h : elemTyB P t e k b = true) : ElemTy P t e k b := by
  unfold elemTyB at h
  split at h
  · rename_i e' i h1 h2
    rw [Bool.and_eq_true, decide_eq_true_iff] at h
    obtain ⟨rfl, h⟩ := h
    split at h
    · rename_i z hz
      simp only [Bool.and_eq_true, decide_eq_true_iff] at h
      exact ⟨i, z, h1, h2, hz, h.1.1, h.1.2, h.2⟩
    · cases h
  · cases h
def mapq' (P : Program) (kt et : TypeId) (b : Nat) (q : List Wr) : Asn where
  foot := [b]
  holds w := MapAt P kt et w b q
  lt w h c hc := by
    obtain rfl : c = b := by simpa using hc
    exact h.lt
  keep w w' h hk := h.kept (hk b (by simp))
theorem obs_nodup (v : Value) : (obs v).Nodup := by
  unfold obs
  cases v.ownBlock <;> simp
theorem lst_at {e : TypeId} {k : Nat} {v : Value} {n : Nat} {xs : List Value} {w : World} (h : (lst e k v n xs).holds w) : (v = .slice none 0 0 ∧ n = 0 ∧ xs = []) ∨ ∃ g cap, v = .slice (some ⟨g, 0, none⟩) n cap ∧ n ≤ cap ∧ cap ≤ maxLen := by
  obtain ⟨hl, ⟨rfl, rfl⟩ | ⟨g, cap, cur, rfl, hb, hg, hc, hm, hs, ht⟩⟩ := h
  · exact .inl ⟨rfl, rfl, List.eq_nil_of_length_eq_zero (by simpa using hl)⟩
  · exact .inr ⟨g, cap, rfl, hc, hm⟩
theorem qv_at {e : TypeId} {k : Nat} {v : Value} {n : Nat} {xs : List Value} {w : World} (h : (lst e k v n xs).holds w) : ∃ qa qc, v = .slice qa n qc := by
  rcases lst_at h with ⟨rfl, rfl, _⟩ | ⟨g, c, rfl, _⟩
  · exact ⟨_, _, rfl⟩
  · exact ⟨_, _, rfl⟩
theorem lst_len {e : TypeId} {k : Nat} {v : Value} {n : Nat} {xs : List Value} {w : World} (h : (lst e k v n xs).holds w) : xs.length = n * k := h.1
theorem lst_range {e : TypeId} {k g n cap : Nat} {xs ys : List Value} {w : World} (h : (lst e k (.slice (some ⟨g, 0, none⟩) n cap) n xs).holds w) (off : Nat) (hy : (xs.drop off).take ys.length = ys) : w.rangeAt g off ys := fun j u hj => by
  have hc := World.ownsRow.cells (g := g) h rfl (off + j) u (by
    rw [← hy, List.getElem?_take] at hj
    split at hj
    · rw [List.getElem?_drop] at hj; exact hj
    · cases hj)
  rw [Addr_add, Nat.zero_add] at hc
  exact hc
theorem lst_row {e : TypeId} {g n cap : Nat} {l : List UInt8} {w : World} (h : (lst e 1 (.slice (some ⟨g, 0, none⟩) n cap) n (bvs l)).holds w) : Row w (some ⟨g, 0, none⟩) n l :=
  ⟨by have := lst_len h; rw [length_bvs] at this; omega, fun i hi => ⟨g, 0, rfl, by
    have := lst_range h 0 (ys := bvs l) (by rw [List.drop_zero, List.take_of_length_le (Nat.le_refl _)]) i (bv l[i]) (by rw [bvs_getElem?, List.getElem?_eq_getElem hi]; rfl)
    exact this⟩⟩
theorem blk_row {g : Nat} {T : TypeId} {l : List UInt8} {w : World} (h : (blk g T (bvs l)).holds w) : Row w (some ⟨g, 0, none⟩) l.length l := Row.of_row h
theorem Row.self {w : World} {ao : Option Addr} {n : Nat} {l : List UInt8} (h : Row w ao n l) : Row w ao l.length l := by rw [h.1]; exact h
theorem foldl_sets (v : List Value) : ∀ (pre post : List Value) (off : Nat), post.length = v.length → off = pre.length → (v.zipIdx off).foldl (fun (cs : Array Value) (c, j) => cs.setIfInBounds (0 + j) c) (pre ++ post).toArray = (pre ++ v).toArray := by
  induction v with
  | nil => intro pre post off h _; have : post = [] := List.eq_nil_of_length_eq_zero (by simpa using h); simp [this]
  | cons c v ih =>
    intro pre post off h ho
    match post, h with
    | p :: post, h =>
      subst ho
      rw [List.zipIdx_cons, List.foldl_cons]
      have e : (pre ++ p :: post).toArray.setIfInBounds (0 + pre.length) c = ((pre ++ [c]) ++ post).toArray := by
        simp
      show List.foldl _ ((pre ++ p :: post).toArray.setIfInBounds (0 + pre.length) c) _ = _
      rw [e, ih (pre ++ [c]) post (pre.length + 1) (by simpa using h) (by simp)]
      simp
theorem fill_one (place : Nat → Option (Nat × Nat)) (z v : List Value) (hp : place 0 = some (0, z.length)) (hv : v.length = z.length) : Instr.fill place z.toArray [(0, .agg v.toArray)] = some v.toArray := by
  unfold Instr.fill
  simp only [hp]
  rw [if_neg (by simp [Value.cells, hv])]
  unfold Instr.fill
  congr 1
  have h := foldl_sets v [] z 0 hv.symm rfl
  simp only [List.nil_append] at h
  refine Eq.trans ?_ h
  show (Array.zipIdx v.toArray).foldl _ _ = _
  rw [← Array.foldl_toList]
  simp
section
variable {P : Program} {ops : Array Oper} {Q : Exit → Act → World → Prop} {rest : List Oper} {o : Oper} {a : Act} {w w0 : World} {F : List Nat} {L : List Asn} {K : Act → World → Prop} {x y : Operand} {t e : TypeId} {k b : Nat}
theorem e_append (M : Mem w0 F w L) (i : Nat) (hT : ElemTy P t e k b) (hk : 0 < k) {v : Value} {n : Nat} {xs news : List Value} {ao : Option Addr} {m c : Nat} (hi : L[i]? = some (lst e k v n xs))
    (ho : o.op = .call { callee := .builtin .append, args := #[x, y], argTypes := #[t, t] }) (hs : a.eval x = v) (hx : a.eval y = .slice ao m c) (hl : news.length = m * k) (hnone : ao = none → m = 0 ∧ c = 0)
    (hnews : ∀ ad, ao = some ad → ∀ j u, news[j]? = some u → w.cell? (ad.add j) = some u) (h1 : ∀ u ∈ news, u.oneCell' = true) (hb : n + m ≤ maxLen ∧ (n + m) * b ≤ 140737488355328)
    (h : ∀ v' w', Mem w0 F w' (L.set i (lst e k v' (n + m) (xs ++ news))) → K (a.put o.dst v') w') : Oper.wp P o a w K Q := by
  obtain ⟨ti, z, ht, hti, hz, hsz, hby, hzs⟩ := hT
  have hown := M.get i hi
  cases ao with
  | none =>
    obtain ⟨rfl, rfl⟩ := hnone rfl
    obtain rfl : news = [] := List.eq_nil_of_length_eq_zero (by simpa using hl)
    have hrun := run_append_owned_none (P := P) (w := w) 0 t o.type e ti k ht hti v n xs hown
    unfold Oper.wp
    simp [execOp, ho, resolve, invoke, builtin, hs, hx, hrun, Result.andThen]
    refine h v w ?_
    have hset : L.set i (lst e k v (n + 0) (xs ++ [])) = L := by
      rw [List.append_nil, Nat.add_zero]
      obtain ⟨hlt, he⟩ := List.getElem?_eq_some_iff.1 hi
      rw [← he, List.set_getElem_self]
    rw [hset]
    exact M
  | some ad =>
    obtain ⟨v', w', hrun, r1, r2, _, r4⟩ := run_append_own_at (P := P) w 0 t o.type e ti z k b ht hti hz hsz hby hzs hk v n xs hown ad m c news hl (hnews ad rfl) h1 hb.1 hb.2 (Nat.zero_le _)
    unfold Oper.wp
    simp [execOp, ho, resolve, invoke, builtin, hs, hx, hrun, Result.andThen]
    refine h v' w' (M.upd i hi (Mem.one r2 (fun g hg => mem_obs.2 hg) r1 (obs_nodup _) fun c hc => ?_))
    rcases r4 with r4 | r4
    · left
      have hc : c ∈ obs v' := hc
      show c ∈ obs v
      rw [mem_obs] at hc ⊢
      rw [← hc]; exact r4.symm
    · right
      have hc : c ∈ obs v' := hc
      rw [mem_obs, r4] at hc
      cases hc
      exact Nat.le_refl _
theorem Mem.nilst (h : Mem w0 F w L) (e k : Nat) : Mem w0 F w (lst e k (.slice none 0 0) 0 [] :: L) :=
  h.step (R := [lst e k (.slice none 0 0) 0 []]) ⟨Grew.refl _ _, fun A hA => by
    obtain rfl : A = _ := by simpa using hA
    exact World.ownsRow_nil _ _ _ _, by simp [foots, lst, obs, Value.ownBlock], by simp [foots, lst, obs, Value.ownBlock]⟩
theorem e_bslice (M : Mem w0 F w L) (cs : List Value) {len : Nat} {ps : List (Nat × Operand)} {pv : List (Nat × Value)} {z : Value} (ho : o.op = .buildSlice t len ps.toArray) (hp : (ps.map fun p => (p.1, a.eval p.2)) = pv) (hu : P.underlying t = some (.slice e))
    (hz : ∀ w, (sizeOf e).run P w = .ok k w) (hzz : ∀ w, (zeroValue e).run P w = .ok z w) (hn : 0 < len * k ∧ len * k ≤ 16777216)
    (hf : Instr.fill (fun i => some (i * k, k)) ((Array.range (len * k)).map (z.cells[· % z.cells.size]!)) pv = some cs.toArray)
    (h : ∀ g w', Mem w0 F w' (blk g e cs :: L) → K (a.put o.dst (.slice (some ⟨g, 0, none⟩) len len)) w') : Oper.wp P o a w K Q := by
  have h1 : ¬ (len * k > 2 ^ 24) := by have := hn.2; omega
  have h2 : ¬ (len * k = 0) := by have := hn.1; omega
  have hrun : (Instr.buildSlice t len pv.toArray).run P w = .ok (.slice (some ⟨w.heap.size, 0, none⟩) len len) (w.alloc (.cells cs.toArray e)) := by
    unfold Instr.buildSlice
    simp only [Sem.run_bind, run_underlying hu, Result.andThen_ok, hz, if_neg h1, if_neg h2, hzz, Sem.run_pure, hf, newRow, newObj]
    rfl
  unfold Oper.wp
  have hx : (execOp a.eval o).run P w = .ok (.value (.slice (some ⟨w.heap.size, 0, none⟩) len len)) (w.alloc (.cells cs.toArray e)) := by
    unfold execOp
    simp only [ho, Sem.run_bind]
    rw [show (ps.toArray.map fun (i, x) => (i, a.eval x)) = pv.toArray by rw [← hp]; simp, hrun]
    rfl
  rw [hx]
  exact h _ _ (M.alloc cs e)
theorem e_make (M : Mem w0 F w L) (hT : ElemTy P t e k b) (cs : List Value) {kl kc : IntKind} {l c : Int} {n m : Nat} (ho : o.op = .makeSlice t x y) (hx : a.eval x = .int kl l) (hy : a.eval y = .int kc c) (hl : l = (n : Int)) (hc : c = (m : Int)) (hnm : n ≤ m) (hb : b * m ≤ 281474976710656) (h63 : m ≤ 9223372036854775807)
    (hcs : ∀ z : Value, (P.info? e).bind (·.zero) = some z → madeCells z.cells (m * k) = cs.toArray)
    (h : ∀ g w', Mem w0 F w' (blk g e cs :: L) → K (a.put o.dst (.slice (some ⟨g, 0, none⟩) n m)) w') : Oper.wp P o a w K Q := by
  obtain ⟨ti, z, ht, hti, hz, hsz, hby, hzs⟩ := hT
  subst hl
  subst hc
  have hrun := run_make (P := P) w t e ti z ht hti hz kl kc n m (by omega) (by omega) (by subst hby; have := hb; rw [← Int.natCast_mul]; omega) (by omega)
  simp only [Int.toNat_natCast, hsz, hcs z (by rw [hti]; exact hz)] at hrun
  unfold Oper.wp
  simp only [execOp, ho, hx, hy, hrun, Sem.run_bind, Result.andThen_ok]
  exact h _ _ (M.alloc cs e)
theorem e_copy (M : Mem w0 F w L) (i : Nat) {g off dLen dCap sLen sCap : Nat} {T : TypeId} {C : List Value} {sp : Option Addr} {sT : TypeId} (ho : o.op = .call { callee := .builtin .copy, args := #[x, y], argTypes := #[t, sT] }) (hgd : o.guard = none) (hu : P.underlying t = some (.slice e)) (hz : ∀ w, (sizeOf e).run P w = .ok 1 w)
    (hx : a.eval x = .slice (some ⟨g, off, none⟩) dLen dCap) (hy : a.eval y = .slice sp sLen sCap) (hi : L[i]? = some (blk g T C)) {l : List UInt8} (hn : l.length = Nat.min sLen dLen) (hrow : Row w sp l.length l) (hfit : off + l.length ≤ C.length)
    (h : ∀ w', Mem w0 F w' (L.set i (blk g T (splice C off (bvs l)))) → K (a.put o.dst (.int .i64 (l.length : Int))) w') : Oper.wp P o a w K Q := by
  refine oper_list hgd (wpList_copy_bytes (e := e) hgd x y t sT ho hu (size_of_run hz) (some ⟨g, off, none⟩) sp dLen dCap sLen sCap hx hy g off C T (M.get i hi) l hn (fun _ => rfl) hrow hfit fun w' hb hg => ⟨rfl, h w' ?_⟩)
  exact M.setBlk i _ hi hg hb.out
theorem e_mapset {kt et : TypeId} {q : List Wr} {g : Nat} (M : Mem w0 F w L) (i : Nat) (hi : L[i]? = some (mapq' P kt et g q)) (hk : P.underlying kt = some (.int .i64)) (he : P.underlying et = some (.int .i64)) (ht : P.underlying t = some (.map kt et))
    {m x v : Operand} {p : Nat} {pi qi : Int} (ho : o.op = Op.mapUpdate t m x v) (hg : o.guard = none) (hm' : a.eval m = .map (some g)) (hx : a.eval x = .int .i64 pi) (hv : a.eval v = .int .i64 qi) (hpi : pi = (p : Int)) (hqi : qi = (q.length : Int)) (hp : p ≤ 9223372036854775807) (hq : q.length ≤ 1099511627776) (d : List UInt8)
    (h : ∀ w', Mem w0 F w' (L.set i (mapq' P kt et g (q ++ [(p, d)]))) → K (a.put o.dst undef) w') : Oper.wp P o a w K Q := by
  subst hpi
  subst hqi
  refine oper_list hg (arm_mapset (M.get i hi) hk he ht m x v ho hg p hp hm' hx hv hq d fun w' h1 h2 => ⟨rfl, h w' ?_⟩)
  exact M.upd i hi (Mem.one h2 (fun c hc => by cases hc; simp [mapq']) h1 (by simp [mapq']) fun c hc => .inl hc)
theorem e_clear {kt et : TypeId} {q : List Wr} {g : Nat} (M : Mem w0 F w L) (i : Nat) (hi : L[i]? = some (mapq' P kt et g q)) (ht : P.underlying t = some (.map kt et)) (ho : o.op = Op.call { callee := Callee.builtin Builtin.clear, args := #[x], argTypes := #[t] }) (hg : o.guard = none) (hx : a.eval x = .map (some g))
    (h : ∀ w', Mem w0 F w' (L.set i (mapq' P kt et g [])) → K (a.put o.dst (.tuple #[])) w') : Oper.wp P o a w K Q := by
  refine oper_list hg (arm_clear (M.get i hi) ht x ho hg hx fun w' h1 h2 => ⟨rfl, h w' ?_⟩)
  exact M.upd i hi (Mem.one h2 (fun c hc => by cases hc; simp [mapq']) h1 (by simp [mapq']) fun c hc => .inl hc)
theorem e_look {kt et : TypeId} {q : List Wr} {g : Nat} (M : Mem w0 F w L) (i : Nat) (hi : L[i]? = some (mapq' P kt et g q)) (hk : P.underlying kt = some (.int .i64)) (he : P.underlying et = some (.int .i64)) (ht : P.underlying t = some (.map kt et)) (hz : ∀ W, (zeroValue et).run P W = .ok (.int .i64 0) W)
    {m x : Operand} {p : Nat} {pi : Int} (ho : o.op = Op.lookup t m x true) (hg : o.guard = none) (hm' : a.eval m = .map (some g)) (hx : a.eval x = .int .i64 pi) (hpi : pi = (p : Int)) (hp : p ≤ 9223372036854775807)
    (h : ∀ c : Int, (∀ i, lastAt q p = some i → c = (i : Int)) → K (a.put o.dst (.tuple #[.int .i64 c, .bool (lastAt q p).isSome])) w) : Oper.wp P o a w K Q := by
  subst hpi
  exact oper_list hg (arm_look (M.get i hi) hk he ht hz m x ho hg p hp hm' hx fun c hc => ⟨rfl, h c hc⟩)
theorem e_makemap {kt et : TypeId} (M : Mem w0 F w L) (ho : o.op = .makeMap t none) (h : ∀ g w', Mem w0 F w' (mapq' P kt et g [] :: L) → K (a.put o.dst (.map (some g))) w') : Oper.wp P o a w K Q := by
  unfold Oper.wp execOp
  simp only [ho, Instr.makeMap, Option.map_none, Sem.run_bind, newObj]
  refine h _ _ (M.step (R := [mapq' P kt et w.heap.size []]) ⟨Grew.low (Below.refl_alloc w (.map #[] 0)) _, fun A hA => ?_, by simp [foots, mapq'], by simp [foots, mapq']⟩)
  obtain rfl : A = _ := by simpa using hA
  exact MapAt.made P kt et w
theorem e_callv (f : FuncId) (args : List Value) {as : List Operand} {ts : Array TypeId} {x : Operand} {fi ca : List Value} (ho : o.op = .call { callee := .value x, args := as.toArray, argTypes := ts }) (hx : a.eval x = .func (.func f) fi.toArray ca.toArray) (ha : fi ++ as.map a.eval ++ ca = args) (hf : ∀ ar w, (callFunc f ar).run P w = .ok (.enter f ar) w)
    {R : Ending → World → Prop} (hc : Calls P f args.toArray w R) (h : ∀ e w', R e w' → ∃ v, e = .returned v ∧ K (a.put o.dst v) w') : Oper.wp P o a w K Q := by
  subst ha
  unfold Oper.wp
  have hx : (execOp a.eval o).run P w = .ok (.enter f (fi ++ as.map a.eval ++ ca).toArray) w := by
    unfold execOp
    simp only [ho, resolve, hx, Deferred.ofValue, Sem.run_bind, Sem.run_pure, Result.andThen_ok, invoke, List.map_toArray, List.append_toArray]
    exact hf _ w
  rw [hx]
  refine Calls.mono hc fun e w' hr => ?_
  obtain ⟨v, rfl, hk⟩ := h e w' hr
  exact hk
end
end Go.Proofs.YtopdhanbmnfeeaaDoor

/- Still more operations: slices as arrays, text; contracts of the older form over what is known of memory. No program in sight. -/
namespace Go.Proofs.YtopdhanbmnfeeaaDoor
open Go Go.RowKit
set_option linter.unusedVariables false
set_option linter.unusedSectionVars false
set_option linter.unusedSimpArgs false
section
variable {P : Program} {ops : Array Oper} {S : World → Prop} {Q : Exit → Act → World → Prop} {rest : List Oper} {o : Oper} {a : Act} {w w' w0 : World} {F : List Nat} {L : List Asn} {K : Act → World → Prop} {x y : Operand} {t t' e : TypeId}
theorem Mem.setBlk2 (h : Mem w0 F w L) (i : Nat) {g : Nat} {T : TypeId} {C : List Value} (C' : List Value) (hi : L[i]? = some (blk g T C)) (hg : Grew w w' [g]) (hb : w'.heap[g]? = some (.cells C'.toArray T (0, 0))) : Mem w0 F w' (L.set i (blk g T C')) :=
  h.upd i hi ⟨hg, fun A hA => by
    obtain rfl : A = _ := by simpa using hA
    exact hb, by simp [foots, blk], fun b hb => .inl (by simpa [foots, blk] using hb)⟩
theorem Mem.ownl (h : Mem w0 F w L) {v : Value} {l : List UInt8} (hb : Below w.heap.size w w') (ho : Own w' w.heap.size e v l) : Mem w0 F w' (lst e 1 v l.length (bvs l) :: L) :=
  h.step (R := [lst e 1 v l.length (bvs l)]) ⟨Grew.low hb _, fun A hA => by
    obtain rfl : A = _ := by simpa using hA
    obtain ⟨h1, h2⟩ := ho
    refine ⟨h1, ?_⟩
    rcases h2 with h2 | ⟨g, cap, cur, hv, _, hr⟩
    · exact .inl h2
    · exact .inr ⟨g, cap, cur, hv, Nat.zero_le _, hr⟩, by simp only [foots, List.flatMap_cons, List.flatMap_nil, List.append_nil]; exact obs_nodup v, fun b hb' => .inr (by
      simp only [foots, List.flatMap_cons, List.flatMap_nil, List.append_nil] at hb'
      exact (ownsRow_lt ho b (mem_obs.1 hb')).1)⟩
theorem Mem.same (h : Mem w0 F w L) (e : w' = w) : Mem w0 F w' L := by rw [e]; exact h
theorem y_toarr {p : Addr} {len c n : Nat} (hw : Region.wanted o (yielded ops a.tmps) = true) (ho : o.op = .sliceToArrayPointer t x) (hx : a.eval x = .slice (some p) len c) (hu : P.underlying t = some (.array n e)) (hn : n ≤ len) : YieldsIf P ops S o (.pointer (some p)) a :=
  y_run hw fun w _ => by
    unfold execOp
    simp only [ho, hx]
    rw [Sem.run_bind, run_arrayAt w t e n p len c hu hn]
    rfl
theorem y_convw {u r : Value} (hw : Region.wanted o (yielded ops a.tmps) = true) (ho : o.op = .convert t t' x) (hx : a.eval x = u) (hr : ∀ w, S w → (convert t t' u).run P w = .ok r w) : YieldsIf P ops S o r a :=
  y_run hw fun w h => by
    unfold execOp
    simp only [ho, hx, Sem.run_bind, hr w h, Result.andThen_ok]
    rfl
theorem y_strne {l m : List UInt8} {b : Bool} (hw : Region.wanted o (yielded ops a.tmps) = true) (ho : o.op = .binOp .neq t x y t') (hx : a.eval x = .string ⟨l.toArray⟩) (hy : a.eval y = .string ⟨m.toArray⟩) (hb : (!eqB l m) = b) : YieldsIf P ops S o (.bool b) a :=
  y_bin hw ho hx hy (by unfold eqGuard; rfl) fun w => by
    rw [binOp_string_neq]
    subst hb
    show Result.ok (Value.bool (!((ByteArray.mk l.toArray).toList == (ByteArray.mk m.toArray).toList))) w = _
    congr 3
    rw [Bool.eq_iff_iff, beq_iff_eq]
    unfold eqB
    rw [decide_eq_true_iff, ByteArray.toList_eq, ByteArray.toList_eq]
theorem e_copys (M : Mem w0 F w L) (i : Nat) {g off dLen dCap : Nat} {T : TypeId} {C : List Value} {sT : TypeId} {s : ByteArray} (l : List UInt8) (ho : o.op = .call { callee := .builtin .copy, args := #[x, y], argTypes := #[t, sT] }) (hu : P.underlying t = some (.slice e)) (hz : ∀ w, (sizeOf e).run P w = .ok 1 w)
    (hx : a.eval x = .slice (some ⟨g, off, none⟩) dLen dCap) (hy : a.eval y = .string s) (hi : L[i]? = some (blk g T C)) (hn : l.length = Nat.min s.size dLen) (hf : Builtin.firstCells 1 (Nat.min s.size dLen) (.string s) = pure (bvs l).toArray) (hfit : off + l.length ≤ C.length)
    (h : ∀ w', Mem w0 F w' (L.set i (blk g T (splice C off (bvs l)))) → K (a.put o.dst (.int .i64 (l.length : Int))) w') : Oper.wp P o a w K Q := by
  have hb := M.get i hi
  have hb' : w.heap[g]? = some (.cells C.toArray T (0, 0)) := hb
  have hst := run_storeCells_at (P := P) g off T (bvs l) 0 C.toArray w hb' (by simpa using hfit) (bvs_oneCell l)
  have hrun : (Builtin.copy_ #[t, sT] o.type #[.slice (some ⟨g, off, none⟩) dLen dCap, .string s]).run P w = .ok (goInt l.length) (w.setRow g (splice C off (bvs l)).toArray) := by
    unfold Builtin.copy_
    simp only [Builtin.lenOf, Sem.run_bind, run_underlying hu, Result.andThen_ok, Sem.run_pure, hz]
    simp [hf, Sem.run_bind, run_underlying hu, hz, hst, splice, hn, Builtin.lenOf, Result.andThen]
  unfold Oper.wp
  simp [execOp, ho, resolve, invoke, builtin, hx, hy, hrun, Result.andThen]
  exact h _ (M.setBlk i _ hi (grownBy_setRow w g _) (setRow_heap w g _ _ T _ hb'))
end
end Go.Proofs.YtopdhanbmnfeeaaDoor
