/- Texts joined: Eff2, Eff3, Sha, CrcP. -/
import Derived.Test.YtehnnnohoaapdaaFC02
import Derived.Maps.AppendAt
import Derived.Test.YtehnnnohoaapdaaFC00
/- More operations that act: lists grown, made, copied; the map of numbers; function values. No program in sight. -/
namespace Go.Proofs.Ytehnnnohoaapdaa
set_option linter.unusedSimpArgs false
open Go Go.RowKit
set_option linter.unusedVariables false
set_option linter.unusedSectionVars false
def ElemTy (P : Program) (t e : TypeId) (k b : Nat) : Prop := ∃ (i : TypeInfo) (z : Value), P.underlying t = some (.slice e) ∧ P.info? e = some i ∧ i.zero = some z ∧ i.size = k ∧ i.bytes = b ∧ z.cells.size = k
def elemTyB (P : Program) (t e k b : Nat) : Bool :=
  match P.underlying t, P.info? e with
  | some (.slice e'), some i => decide (e' = e) && (match i.zero with | some z => decide (i.size = k) && decide (i.bytes = b) && decide (z.cells.size = k) | none => false)
  | _, _ => false
theorem elemTy_of {P : Program} {t e k b : Nat} (h : elemTyB P t e k b = true) : ElemTy P t e k b := by
  unfold elemTyB at h
  split at h
  · rename_i e' i h1 h2
    rw [Bool.and_eq_true, decide_eq_true_iff] at h
    obtain ⟨rfl, h⟩ := h
    split at h
    · rename_i z hz
      simp only [Bool.and_eq_true, decide_eq_true_iff] at h
      exact ⟨i, z, h1, h2, hz, h.1.1, h.1.2, h.2⟩
    · cases h
  · cases h
def mapq' (P : Program) (kt et : TypeId) (b : Nat) (q : List Wr) : Asn where
  foot := [b]
  holds w := MapAt P kt et w b q
  lt w h c hc := by
    obtain rfl : c = b := by simpa using hc
    exact h.lt
  keep w w' h hk := h.kept (hk b (by simp))
theorem obs_nodup (v : Value) : (obs v).Nodup := by
  unfold obs
  cases v.ownBlock <;> simp
theorem lst_at {e : TypeId} {k : Nat} {v : Value} {n : Nat} {xs : List Value} {w : World} (h : (lst e k v n xs).holds w) : (v = .slice none 0 0 ∧ n = 0 ∧ xs = []) ∨ ∃ g cap, v = .slice (some ⟨g, 0, none⟩) n cap ∧ n ≤ cap ∧ cap ≤ maxLen := by
  obtain ⟨hl, ⟨rfl, rfl⟩ | ⟨g, cap, cur, rfl, hb, hg, hc, hm, hs, ht⟩⟩ := h
  · exact .inl ⟨rfl, rfl, List.eq_nil_of_length_eq_zero (by simpa using hl)⟩
  · exact .inr ⟨g, cap, rfl, hc, hm⟩
theorem qv_at {e : TypeId} {k : Nat} {v : Value} {n : Nat} {xs : List Value} {w : World} (h : (lst e k v n xs).holds w) : ∃ qa qc, v = .slice qa n qc := by
  rcases lst_at h with ⟨rfl, rfl, _⟩ | ⟨g, c, rfl, _⟩
  · exact ⟨_, _, rfl⟩
  · exact ⟨_, _, rfl⟩
theorem lst_len {e : TypeId} {k : Nat} {v : Value} {n : Nat} {xs : List Value} {w : World} (h : (lst e k v n xs).holds w) : xs.length = n * k := h.1
theorem lst_range {e : TypeId} {k g n cap : Nat} {xs ys : List Value} {w : World} (h : (lst e k (.slice (some ⟨g, 0, none⟩) n cap) n xs).holds w) (off : Nat) (hy : (xs.drop off).take ys.length = ys) : w.rangeAt g off ys := fun j u hj => by
  have hc := World.ownsRow.cells (g := g) h rfl (off + j) u (by
    rw [← hy, List.getElem?_take] at hj
    split at hj
    · rw [List.getElem?_drop] at hj; exact hj
    · cases hj)
  rw [Addr_add, Nat.zero_add] at hc
  exact hc
theorem lst_row {e : TypeId} {g n cap : Nat} {l : List UInt8} {w : World} (h : (lst e 1 (.slice (some ⟨g, 0, none⟩) n cap) n (bvs l)).holds w) : Row w (some ⟨g, 0, none⟩) n l :=
  ⟨by have := lst_len h; rw [length_bvs] at this; omega, fun i hi => ⟨g, 0, rfl, by
    have := lst_range h 0 (ys := bvs l) (by rw [List.drop_zero, List.take_of_length_le (Nat.le_refl _)]) i (bv l[i]) (by rw [bvs_getElem?, List.getElem?_eq_getElem hi]; rfl)
    exact this⟩⟩
theorem blk_row {g : Nat} {T : TypeId} {l : List UInt8} {w : World} (h : (blk g T (bvs l)).holds w) : Row w (some ⟨g, 0, none⟩) l.length l := Row.of_row h
theorem Row.self {w : World} {ao : Option Addr} {n : Nat} {l : List UInt8} (h : Row w ao n l) : Row w ao l.length l := by rw [h.1]; exact h
theorem foldl_sets (v : List Value) : ∀ (pre post : List Value) (off : Nat), post.length = v.length → off = pre.length → (v.zipIdx off).foldl (fun (cs : Array Value) (c, j) => cs.setIfInBounds (0 + j) c) (pre ++ post).toArray = (pre ++ v).toArray := by
  induction v with
  | nil => intro pre post off h _; have : post = [] := List.eq_nil_of_length_eq_zero (by simpa using h); simp [this]
  | cons c v ih =>
    intro pre post off h ho
    match post, h with
    | p :: post, h =>
      subst ho
      rw [List.zipIdx_cons, List.foldl_cons]
      have e : (pre ++ p :: post).toArray.setIfInBounds (0 + pre.length) c = ((pre ++ [c]) ++ post).toArray := by
        simp
      show List.foldl _ ((pre ++ p :: post).toArray.setIfInBounds (0 + pre.length) c) _ = _
      rw [e, ih (pre ++ [c]) post (pre.length + 1) (by simpa using h) (by simp)]
      simp
theorem fill_one (place : Nat → Option (Nat × Nat)) (z v : List Value) (hp : place 0 = some (0, z.length)) (hv : v.length = z.length) : Instr.fill place z.toArray [(0, .agg v.toArray)] = some v.toArray := by
  unfold Instr.fill
  simp only [hp]
  rw [if_neg (by simp [Value.cells, hv])]
  unfold Instr.fill
  congr 1
  have h := foldl_sets v [] z 0 hv.symm rfl
  simp only [List.nil_append] at h
  refine Eq.trans ?_ h
  show (Array.zipIdx v.toArray).foldl _ _ = _
  rw [← Array.foldl_toList]
  simp
section
variable {P : Program} {ops : Array Oper} {Q : Exit → Act → World → Prop} {rest : List Oper} {o : Oper} {a : Act} {w w0 : World} {F : List Nat} {L : List Asn} {K : Act → World → Prop} {x y : Operand} {t e : TypeId} {k b : Nat}
theorem e_append (M : Mem w0 F w L) (i : Nat) (hT : ElemTy P t e k b) (hk : 0 < k) {v : Value} {n : Nat} {xs news : List Value} {ao : Option Addr} {m c : Nat} (hi : L[i]? = some (lst e k v n xs))
    (ho : o.op = .call { callee := .builtin .append, args := #[x, y], argTypes := #[t, t] }) (hs : a.eval x = v) (hx : a.eval y = .slice ao m c) (hl : news.length = m * k) (hnone : ao = none → m = 0 ∧ c = 0)
    (hnews : ∀ ad, ao = some ad → ∀ j u, news[j]? = some u → w.cell? (ad.add j) = some u) (h1 : ∀ u ∈ news, u.oneCell' = true) (hb : n + m ≤ maxLen ∧ (n + m) * b ≤ 140737488355328)
    (h : ∀ v' w', Mem w0 F w' (L.set i (lst e k v' (n + m) (xs ++ news))) → K (a.put o.dst v') w') : Oper.wp P o a w K Q := by
  obtain ⟨ti, z, ht, hti, hz, hsz, hby, hzs⟩ := hT
  have hown := M.get i hi
  cases ao with
  | none =>
    obtain ⟨rfl, rfl⟩ := hnone rfl
    obtain rfl : news = [] := List.eq_nil_of_length_eq_zero (by simpa using hl)
    have hrun := run_append_owned_none (P := P) (w := w) 0 t o.type e ti k ht hti v n xs hown
    unfold Oper.wp
    simp [execOp, ho, resolve, invoke, builtin, hs, hx, hrun, Result.andThen]
    refine h v w ?_
    have hset : L.set i (lst e k v (n + 0) (xs ++ [])) = L := by
      rw [List.append_nil, Nat.add_zero]
      obtain ⟨hlt, he⟩ := List.getElem?_eq_some_iff.1 hi
      rw [← he, List.set_getElem_self]
    rw [hset]
    exact M
  | some ad =>
    obtain ⟨v', w', hrun, r1, r2, _, r4⟩ := run_append_own_at (P := P) w 0 t o.type e ti z k b ht hti hz hsz hby hzs hk v n xs hown ad m c news hl (hnews ad rfl) h1 hb.1 hb.2 (Nat.zero_le _)
    unfold Oper.wp
    simp [execOp, ho, resolve, invoke, builtin, hs, hx, hrun, Result.andThen]
    refine h v' w' (M.upd i hi (Mem.one r2 (fun g hg => mem_obs.2 hg) r1 (obs_nodup _) fun c hc => ?_))
    rcases r4 with r4 | r4
    · left
      have hc : c ∈ obs v' := hc
      show c ∈ obs v
      rw [mem_obs] at hc ⊢
      rw [← hc]; exact r4.symm
    · right
      have hc : c ∈ obs v' := hc
      rw [mem_obs, r4] at hc
      cases hc
      exact Nat.le_refl _
theorem Mem.nilst (h : Mem w0 F w L) (e k : Nat) : Mem w0 F w (lst e k (.slice none 0 0) 0 [] :: L) :=
  h.step (R := [lst e k (.slice none 0 0) 0 []]) ⟨Grew.refl _ _, fun A hA => by
    obtain rfl : A = _ := by simpa using hA
    exact World.ownsRow_nil _ _ _ _, by simp [foots, lst, obs, Value.ownBlock], by simp [foots, lst, obs, Value.ownBlock]⟩
theorem e_bslice (M : Mem w0 F w L) (cs : List Value) {len : Nat} {ps : List (Nat × Operand)} {pv : List (Nat × Value)} {z : Value} (ho : o.op = .buildSlice t len ps.toArray) (hp : (ps.map fun p => (p.1, a.eval p.2)) = pv) (hu : P.underlying t = some (.slice e))
    (hz : ∀ w, (sizeOf e).run P w = .ok k w) (hzz : ∀ w, (zeroValue e).run P w = .ok z w) (hn : 0 < len * k ∧ len * k ≤ 16777216)
    (hf : Instr.fill (fun i => some (i * k, k)) ((Array.range (len * k)).map (z.cells[· % z.cells.size]!)) pv = some cs.toArray)
    (h : ∀ g w', Mem w0 F w' (blk g e cs :: L) → K (a.put o.dst (.slice (some ⟨g, 0, none⟩) len len)) w') : Oper.wp P o a w K Q := by
  have h1 : ¬ (len * k > 2 ^ 24) := by have := hn.2; omega
  have h2 : ¬ (len * k = 0) := by have := hn.1; omega
  have hrun : (Instr.buildSlice t len pv.toArray).run P w = .ok (.slice (some ⟨w.heap.size, 0, none⟩) len len) (w.alloc (.cells cs.toArray e)) := by
    unfold Instr.buildSlice
    simp only [Sem.run_bind, run_underlying hu, Result.andThen_ok, hz, if_neg h1, if_neg h2, hzz, Sem.run_pure, hf, newRow, newObj]
    rfl
  unfold Oper.wp
  have hx : (execOp a.eval o).run P w = .ok (.value (.slice (some ⟨w.heap.size, 0, none⟩) len len)) (w.alloc (.cells cs.toArray e)) := by
    unfold execOp
    simp only [ho, Sem.run_bind]
    rw [show (ps.toArray.map fun (i, x) => (i, a.eval x)) = pv.toArray by rw [← hp]; simp, hrun]
    rfl
  rw [hx]
  exact h _ _ (M.alloc cs e)
theorem e_make (M : Mem w0 F w L) (hT : ElemTy P t e k b) (cs : List Value) {kl kc : IntKind} {l c : Int} {n m : Nat} (ho : o.op = .makeSlice t x y) (hx : a.eval x = .int kl l) (hy : a.eval y = .int kc c) (hl : l = (n : Int)) (hc : c = (m : Int)) (hnm : n ≤ m) (hb : b * m ≤ 281474976710656) (h63 : m ≤ 9223372036854775807)
    (hcs : ∀ z : Value, (P.info? e).bind (·.zero) = some z → madeCells z.cells (m * k) = cs.toArray)
    (h : ∀ g w', Mem w0 F w' (blk g e cs :: L) → K (a.put o.dst (.slice (some ⟨g, 0, none⟩) n m)) w') : Oper.wp P o a w K Q := by
  obtain ⟨ti, z, ht, hti, hz, hsz, hby, hzs⟩ := hT
  subst hl
  subst hc
  have hrun := run_make (P := P) w t e ti z ht hti hz kl kc n m (by omega) (by omega) (by subst hby; have := hb; rw [← Int.natCast_mul]; omega) (by omega)
  simp only [Int.toNat_natCast, hsz, hcs z (by rw [hti]; exact hz)] at hrun
  unfold Oper.wp
  simp only [execOp, ho, hx, hy, hrun, Sem.run_bind, Result.andThen_ok]
  exact h _ _ (M.alloc cs e)
theorem e_copy (M : Mem w0 F w L) (i : Nat) {g off dLen dCap sLen sCap : Nat} {T : TypeId} {C : List Value} {sp : Option Addr} {sT : TypeId} (ho : o.op = .call { callee := .builtin .copy, args := #[x, y], argTypes := #[t, sT] }) (hgd : o.guard = none) (hu : P.underlying t = some (.slice e)) (hz : ∀ w, (sizeOf e).run P w = .ok 1 w)
    (hx : a.eval x = .slice (some ⟨g, off, none⟩) dLen dCap) (hy : a.eval y = .slice sp sLen sCap) (hi : L[i]? = some (blk g T C)) {l : List UInt8} (hn : l.length = Nat.min sLen dLen) (hrow : Row w sp l.length l) (hfit : off + l.length ≤ C.length)
    (h : ∀ w', Mem w0 F w' (L.set i (blk g T (splice C off (bvs l)))) → K (a.put o.dst (.int .i64 (l.length : Int))) w') : Oper.wp P o a w K Q := by
  refine oper_list hgd (wpList_copy_bytes (e := e) hgd x y t sT ho hu (size_of_run hz) (some ⟨g, off, none⟩) sp dLen dCap sLen sCap hx hy g off C T (M.get i hi) l hn (fun _ => rfl) hrow hfit fun w' hb hg => ⟨rfl, h w' ?_⟩)
  exact M.setBlk i _ hi hg hb.out
theorem e_mapset {kt et : TypeId} {q : List Wr} {g : Nat} (M : Mem w0 F w L) (i : Nat) (hi : L[i]? = some (mapq' P kt et g q)) (hk : P.underlying kt = some (.int .i64)) (he : P.underlying et = some (.int .i64)) (ht : P.underlying t = some (.map kt et))
    {m x v : Operand} {p : Nat} {pi qi : Int} (ho : o.op = Op.mapUpdate t m x v) (hg : o.guard = none) (hm' : a.eval m = .map (some g)) (hx : a.eval x = .int .i64 pi) (hv : a.eval v = .int .i64 qi) (hpi : pi = (p : Int)) (hqi : qi = (q.length : Int)) (hp : p ≤ 9223372036854775807) (hq : q.length ≤ 1099511627776) (d : List UInt8)
    (h : ∀ w', Mem w0 F w' (L.set i (mapq' P kt et g (q ++ [(p, d)]))) → K (a.put o.dst undef) w') : Oper.wp P o a w K Q := by
  subst hpi
  subst hqi
  refine oper_list hg (arm_mapset (M.get i hi) hk he ht m x v ho hg p hp hm' hx hv hq d fun w' h1 h2 => ⟨rfl, h w' ?_⟩)
  exact M.upd i hi (Mem.one h2 (fun c hc => by cases hc; simp [mapq']) h1 (by simp [mapq']) fun c hc => .inl hc)
theorem e_clear {kt et : TypeId} {q : List Wr} {g : Nat} (M : Mem w0 F w L) (i : Nat) (hi : L[i]? = some (mapq' P kt et g q)) (ht : P.underlying t = some (.map kt et)) (ho : o.op = Op.call { callee := Callee.builtin Builtin.clear, args := #[x], argTypes := #[t] }) (hg : o.guard = none) (hx : a.eval x = .map (some g))
    (h : ∀ w', Mem w0 F w' (L.set i (mapq' P kt et g [])) → K (a.put o.dst (.tuple #[])) w') : Oper.wp P o a w K Q := by
  refine oper_list hg (arm_clear (M.get i hi) ht x ho hg hx fun w' h1 h2 => ⟨rfl, h w' ?_⟩)
  exact M.upd i hi (Mem.one h2 (fun c hc => by cases hc; simp [mapq']) h1 (by simp [mapq']) fun c hc => .inl hc)
theorem e_look {kt et : TypeId} {q : List Wr} {g : Nat} (M : Mem w0 F w L) (i : Nat) (hi : L[i]? = some (mapq' P kt et g q)) (hk : P.underlying kt = some (.int .i64)) (he : P.underlying et = some (.int .i64)) (ht : P.underlying t = some (.map kt et)) (hz : ∀ W, (zeroValue et).run P W = .ok (.int .i64 0) W)
    {m x : Operand} {p : Nat} {pi : Int} (ho : o.op = Op.lookup t m x true) (hg : o.guard = none) (hm' : a.eval m = .map (some g)) (hx : a.eval x = .int .i64 pi) (hpi : pi = (p : Int)) (hp : p ≤ 9223372036854775807)
    (h : ∀ c : Int, (∀ i, lastAt q p = some i → c = (i : Int)) → K (a.put o.dst (.tuple #[.int .i64 c, .bool (lastAt q p).isSome])) w) : Oper.wp P o a w K Q := by
  subst hpi
  exact oper_list hg (arm_look (M.get i hi) hk he ht hz m x ho hg p hp hm' hx fun c hc => ⟨rfl, h c hc⟩)
theorem e_makemap {kt et : TypeId} (M : Mem w0 F w L) (ho : o.op = .makeMap t none) (h : ∀ g w', Mem w0 F w' (mapq' P kt et g [] :: L) → K (a.put o.dst (.map (some g))) w') : Oper.wp P o a w K Q := by
  unfold Oper.wp execOp
  simp only [ho, Instr.makeMap, Option.map_none, Sem.run_bind, newObj]
  refine h _ _ (M.step (R := [mapq' P kt et w.heap.size []]) ⟨Grew.low (Below.refl_alloc w (.map #[] 0)) _, fun A hA => ?_, by simp [foots, mapq'], by simp [foots, mapq']⟩)
  obtain rfl : A = _ := by simpa using hA
  exact MapAt.made P kt et w
theorem e_callv (f : FuncId) (args : List Value) {as : List Operand} {ts : Array TypeId} {x : Operand} {fi ca : List Value} (ho : o.op = .call { callee := .value x, args := as.toArray, argTypes := ts }) (hx : a.eval x = .func (.func f) fi.toArray ca.toArray) (ha : fi ++ as.map a.eval ++ ca = args) (hf : ∀ ar w, (callFunc f ar).run P w = .ok (.enter f ar) w)
    {R : Ending → World → Prop} (hc : Calls P f args.toArray w R) (h : ∀ e w', R e w' → ∃ v, e = .returned v ∧ K (a.put o.dst v) w') : Oper.wp P o a w K Q := by
  subst ha
  unfold Oper.wp
  have hx : (execOp a.eval o).run P w = .ok (.enter f (fi ++ as.map a.eval ++ ca).toArray) w := by
    unfold execOp
    simp only [ho, resolve, hx, Deferred.ofValue, Sem.run_bind, Sem.run_pure, Result.andThen_ok, invoke, List.map_toArray, List.append_toArray]
    exact hf _ w
  rw [hx]
  refine Calls.mono hc fun e w' hr => ?_
  obtain ⟨v, rfl, hk⟩ := h e w' hr
  exact hk
end
end Go.Proofs.Ytehnnnohoaapdaa

/- Still more operations: slices as arrays, text; contracts of the older form over what is known of memory. No program in sight. -/
namespace Go.Proofs.Ytehnnnohoaapdaa
open Go Go.RowKit
set_option linter.unusedVariables false
set_option linter.unusedSectionVars false
set_option linter.unusedSimpArgs false
section
variable {P : Program} {ops : Array Oper} {S : World → Prop} {Q : Exit → Act → World → Prop} {rest : List Oper} {o : Oper} {a : Act} {w w' w0 : World} {F : List Nat} {L : List Asn} {K : Act → World → Prop} {x y : Operand} {t t' e : TypeId}
theorem Mem.setBlk2 (h : Mem w0 F w L) (i : Nat) {g : Nat} {T : TypeId} {C : List Value} (C' : List Value) (hi : L[i]? = some (blk g T C)) (hg : Grew w w' [g]) (hb : w'.heap[g]? = some (.cells C'.toArray T (0, 0))) : Mem w0 F w' (L.set i (blk g T C')) :=
  h.upd i hi ⟨hg, fun A hA => by
    obtain rfl : A = _ := by simpa using hA
    exact hb, by simp [foots, blk], fun b hb => .inl (by simpa [foots, blk] using hb)⟩
theorem Mem.ownl (h : Mem w0 F w L) {v : Value} {l : List UInt8} (hb : Below w.heap.size w w') (ho : Own w' w.heap.size e v l) : Mem w0 F w' (lst e 1 v l.length (bvs l) :: L) :=
  h.step (R := [lst e 1 v l.length (bvs l)]) ⟨Grew.low hb _, fun A hA => by
    obtain rfl : A = _ := by simpa using hA
    obtain ⟨h1, h2⟩ := ho
    refine ⟨h1, ?_⟩
    rcases h2 with h2 | ⟨g, cap, cur, hv, _, hr⟩
    · exact .inl h2
    · exact .inr ⟨g, cap, cur, hv, Nat.zero_le _, hr⟩, by simp only [foots, List.flatMap_cons, List.flatMap_nil, List.append_nil]; exact obs_nodup v, fun b hb' => .inr (by
      simp only [foots, List.flatMap_cons, List.flatMap_nil, List.append_nil] at hb'
      exact (ownsRow_lt ho b (mem_obs.1 hb')).1)⟩
theorem Mem.same (h : Mem w0 F w L) (e : w' = w) : Mem w0 F w' L := by rw [e]; exact h
theorem y_toarr {p : Addr} {len c n : Nat} (hw : Region.wanted o (yielded ops a.tmps) = true) (ho : o.op = .sliceToArrayPointer t x) (hx : a.eval x = .slice (some p) len c) (hu : P.underlying t = some (.array n e)) (hn : n ≤ len) : YieldsIf P ops S o (.pointer (some p)) a :=
  y_run hw fun w _ => by
    unfold execOp
    simp only [ho, hx]
    rw [Sem.run_bind, run_arrayAt w t e n p len c hu hn]
    rfl
theorem y_convw {u r : Value} (hw : Region.wanted o (yielded ops a.tmps) = true) (ho : o.op = .convert t t' x) (hx : a.eval x = u) (hr : ∀ w, S w → (convert t t' u).run P w = .ok r w) : YieldsIf P ops S o r a :=
  y_run hw fun w h => by
    unfold execOp
    simp only [ho, hx, Sem.run_bind, hr w h, Result.andThen_ok]
    rfl
theorem y_strne {l m : List UInt8} {b : Bool} (hw : Region.wanted o (yielded ops a.tmps) = true) (ho : o.op = .binOp .neq t x y t') (hx : a.eval x = .string ⟨l.toArray⟩) (hy : a.eval y = .string ⟨m.toArray⟩) (hb : (!eqB l m) = b) : YieldsIf P ops S o (.bool b) a :=
  y_bin hw ho hx hy (by unfold eqGuard; rfl) fun w => by
    rw [binOp_string_neq]
    subst hb
    show Result.ok (Value.bool (!((ByteArray.mk l.toArray).toList == (ByteArray.mk m.toArray).toList))) w = _
    congr 3
    rw [Bool.eq_iff_iff, beq_iff_eq]
    unfold eqB
    rw [decide_eq_true_iff, ByteArray.toList_eq, ByteArray.toList_eq]
theorem e_copys (M : Mem w0 F w L) (i : Nat) {g off dLen dCap : Nat} {T : TypeId} {C : List Value} {sT : TypeId} {s : ByteArray} (l : List UInt8) (ho : o.op = .call { callee := .builtin .copy, args := #[x, y], argTypes := #[t, sT] }) (hu : P.underlying t = some (.slice e)) (hz : ∀ w, (sizeOf e).run P w = .ok 1 w)
    (hx : a.eval x = .slice (some ⟨g, off, none⟩) dLen dCap) (hy : a.eval y = .string s) (hi : L[i]? = some (blk g T C)) (hn : l.length = Nat.min s.size dLen) (hf : Builtin.firstCells 1 (Nat.min s.size dLen) (.string s) = pure (bvs l).toArray) (hfit : off + l.length ≤ C.length)
    (h : ∀ w', Mem w0 F w' (L.set i (blk g T (splice C off (bvs l)))) → K (a.put o.dst (.int .i64 (l.length : Int))) w') : Oper.wp P o a w K Q := by
  have hb := M.get i hi
  have hb' : w.heap[g]? = some (.cells C.toArray T (0, 0)) := hb
  have hst := run_storeCells_at (P := P) g off T (bvs l) 0 C.toArray w hb' (by simpa using hfit) (bvs_oneCell l)
  have hrun : (Builtin.copy_ #[t, sT] o.type #[.slice (some ⟨g, off, none⟩) dLen dCap, .string s]).run P w = .ok (goInt l.length) (w.setRow g (splice C off (bvs l)).toArray) := by
    unfold Builtin.copy_
    simp only [Builtin.lenOf, Sem.run_bind, run_underlying hu, Result.andThen_ok, Sem.run_pure, hz]
    simp [hf, Sem.run_bind, run_underlying hu, hz, hst, splice, hn, Builtin.lenOf, Result.andThen]
  unfold Oper.wp
  simp [execOp, ho, resolve, invoke, builtin, hx, hy, hrun, Result.andThen]
  exact h _ (M.setBlk i _ hi (grownBy_setRow w g _) (setRow_heap w g _ _ T _ hb'))
end
end Go.Proofs.Ytehnnnohoaapdaa

/- SHA-256 as this program reckons it, in plain Lean; words as values of the model. -/
namespace Go.Proofs.Ytehnnnohoaapdaa
set_option linter.unusedSectionVars false
set_option linter.unusedSimpArgs false
set_option linter.unusedVariables false
open Go Go.RowKit
def uv (x : UInt32) : Value := .int .u32 (x.toNat : Int)
def uvs (l : List UInt32) : List Value := l.map uv
@[simp] theorem length_uvs (l : List UInt32) : (uvs l).length = l.length := by simp [uvs]
theorem uvs_getElem? (l : List UInt32) (i : Nat) : (uvs l)[i]? = l[i]?.map uv := by simp [uvs]
@[go_sem ↓ high] theorem uv_cells (x : UInt32) : (uv x).cells = #[uv x] := rfl
@[go_sem ↓ high] theorem bv_cells (x : UInt8) : (bv x).cells = #[bv x] := rfl
theorem wrap_u32 (n : Nat) : IntKind.u32.wrap (n : Int) = ((UInt32.ofNat n).toNat : Int) := by
  rw [UInt32.toNat_ofNat']; simp [IntKind.wrap, IntKind.signed, IntKind.bits]
theorem bitvec_uv (x : UInt32) : BitVec.ofInt 32 (x.toNat : Int) = x.toBitVec := by
  apply BitVec.eq_of_toNat_eq; simp
theorem uv_back (x : UInt32) : UInt32.ofNat x.toNat = x := by simp
theorem wrap_u8 (n : Nat) : IntKind.u8.wrap (n : Int) = ((UInt8.ofNat n).toNat : Int) := by
  rw [UInt8.toNat_ofNat']; simp [IntKind.wrap, IntKind.signed, IntKind.bits]
section
variable (t : TypeId) (x y : UInt32)
@[go_sem] theorem uv_add : binOp .add t (uv x) (uv y) = pure (uv (x + y)) := by
  show binOp .add t (.int .u32 _) (.int .u32 _) = _
  rw [binOp_add]
  simp only [Op.intArith, uv]
  rw [← Int.natCast_add, wrap_u32]
  simp
@[go_sem] theorem uv_xor : binOp .xor t (uv x) (uv y) = pure (uv (x ^^^ y)) := by
  show binOp .xor t (.int .u32 _) (.int .u32 _) = _
  rw [binOp_xor]
  show pure (Value.int .u32 (IntKind.u32.wrap ((BitVec.ofInt 32 (x.toNat : Int) ^^^ BitVec.ofInt 32 (y.toNat : Int)).toNat : Int))) = _
  rw [wrap_u32, bitvec_uv, bitvec_uv]
  show pure (uv (UInt32.ofNat (x ^^^ y).toNat)) = _
  rw [uv_back]
@[go_sem] theorem uv_and : binOp .and t (uv x) (uv y) = pure (uv (x &&& y)) := by
  show binOp .and t (.int .u32 _) (.int .u32 _) = _
  rw [binOp_and]
  show pure (Value.int .u32 (IntKind.u32.wrap ((BitVec.ofInt 32 (x.toNat : Int) &&& BitVec.ofInt 32 (y.toNat : Int)).toNat : Int))) = _
  rw [wrap_u32, bitvec_uv, bitvec_uv]
  show pure (uv (UInt32.ofNat (x &&& y).toNat)) = _
  rw [uv_back]
@[go_sem] theorem uv_or : binOp .or t (uv x) (uv y) = pure (uv (x ||| y)) := by
  show binOp .or t (.int .u32 _) (.int .u32 _) = _
  rw [binOp_or]
  show pure (Value.int .u32 (IntKind.u32.wrap ((BitVec.ofInt 32 (x.toNat : Int) ||| BitVec.ofInt 32 (y.toNat : Int)).toNat : Int))) = _
  rw [wrap_u32, bitvec_uv, bitvec_uv]
  show pure (uv (UInt32.ofNat (x ||| y).toNat)) = _
  rw [uv_back]
theorem uv_shl (yk : IntKind) (n : Nat) (hn : n < 32) : binOp .shl t (uv x) (.int yk (n : Int)) = pure (uv (x <<< UInt32.ofNat n)) := by
  show Op.shift .shl .u32 (x.toNat : Int) yk (n : Int) = _
  unfold Op.shift
  rw [if_neg (by omega)]
  have hm : min ((n : Int).toNat) IntKind.u32.bits = n := by simp [IntKind.bits]; omega
  simp only [hm]
  have : (x.toNat : Int) * 2 ^ n = ((x.toNat * 2 ^ n : Nat) : Int) := by simp
  rw [this, wrap_u32]
  show pure (uv _) = _
  congr 2
  apply UInt32.toNat_inj.1
  rw [UInt32.toNat_shiftLeft, UInt32.toNat_ofNat', UInt32.toNat_ofNat', Nat.shiftLeft_eq, Nat.mod_eq_of_lt (show n < 2 ^ 32 by omega), Nat.mod_eq_of_lt hn]
theorem uv_shr (yk : IntKind) (n : Nat) (hn : n < 32) : binOp .shr t (uv x) (.int yk (n : Int)) = pure (uv (x >>> UInt32.ofNat n)) := by
  show Op.shift .shr .u32 (x.toNat : Int) yk (n : Int) = _
  unfold Op.shift
  rw [if_neg (by omega)]
  have hm : min ((n : Int).toNat) IntKind.u32.bits = n := by simp [IntKind.bits]; omega
  simp only [hm]
  have : (x.toNat : Int).fdiv (2 ^ n) = ((x.toNat / 2 ^ n : Nat) : Int) := by
    rw [Int.fdiv_eq_ediv_of_nonneg _ (by exact_mod_cast Nat.zero_le _)]; simp
  rw [this]
  show pure (Value.int .u32 _) = pure (Value.int .u32 _)
  congr 3
  rw [UInt32.toNat_shiftRight, UInt32.toNat_ofNat', Nat.shiftRight_eq_div_pow, Nat.mod_eq_of_lt (show n < 2 ^ 32 by omega), Nat.mod_eq_of_lt hn]
@[go_sem] theorem uv_shl_1 (yk : IntKind) : binOp .shl t (uv x) (.int yk 1) = pure (uv (x <<< 1)) := uv_shl t x yk 1 (by decide)
@[go_sem] theorem uv_shr_1 (yk : IntKind) : binOp .shr t (uv x) (.int yk 1) = pure (uv (x >>> 1)) := uv_shr t x yk 1 (by decide)
@[go_sem] theorem uv_shl_2 (yk : IntKind) : binOp .shl t (uv x) (.int yk 2) = pure (uv (x <<< 2)) := uv_shl t x yk 2 (by decide)
@[go_sem] theorem uv_shr_2 (yk : IntKind) : binOp .shr t (uv x) (.int yk 2) = pure (uv (x >>> 2)) := uv_shr t x yk 2 (by decide)
@[go_sem] theorem uv_shl_3 (yk : IntKind) : binOp .shl t (uv x) (.int yk 3) = pure (uv (x <<< 3)) := uv_shl t x yk 3 (by decide)
@[go_sem] theorem uv_shr_3 (yk : IntKind) : binOp .shr t (uv x) (.int yk 3) = pure (uv (x >>> 3)) := uv_shr t x yk 3 (by decide)
@[go_sem] theorem uv_shl_4 (yk : IntKind) : binOp .shl t (uv x) (.int yk 4) = pure (uv (x <<< 4)) := uv_shl t x yk 4 (by decide)
@[go_sem] theorem uv_shr_4 (yk : IntKind) : binOp .shr t (uv x) (.int yk 4) = pure (uv (x >>> 4)) := uv_shr t x yk 4 (by decide)
@[go_sem] theorem uv_shl_5 (yk : IntKind) : binOp .shl t (uv x) (.int yk 5) = pure (uv (x <<< 5)) := uv_shl t x yk 5 (by decide)
@[go_sem] theorem uv_shr_5 (yk : IntKind) : binOp .shr t (uv x) (.int yk 5) = pure (uv (x >>> 5)) := uv_shr t x yk 5 (by decide)
@[go_sem] theorem uv_shl_6 (yk : IntKind) : binOp .shl t (uv x) (.int yk 6) = pure (uv (x <<< 6)) := uv_shl t x yk 6 (by decide)
@[go_sem] theorem uv_shr_6 (yk : IntKind) : binOp .shr t (uv x) (.int yk 6) = pure (uv (x >>> 6)) := uv_shr t x yk 6 (by decide)
@[go_sem] theorem uv_shl_7 (yk : IntKind) : binOp .shl t (uv x) (.int yk 7) = pure (uv (x <<< 7)) := uv_shl t x yk 7 (by decide)
@[go_sem] theorem uv_shr_7 (yk : IntKind) : binOp .shr t (uv x) (.int yk 7) = pure (uv (x >>> 7)) := uv_shr t x yk 7 (by decide)
@[go_sem] theorem uv_shl_8 (yk : IntKind) : binOp .shl t (uv x) (.int yk 8) = pure (uv (x <<< 8)) := uv_shl t x yk 8 (by decide)
@[go_sem] theorem uv_shr_8 (yk : IntKind) : binOp .shr t (uv x) (.int yk 8) = pure (uv (x >>> 8)) := uv_shr t x yk 8 (by decide)
@[go_sem] theorem uv_shl_9 (yk : IntKind) : binOp .shl t (uv x) (.int yk 9) = pure (uv (x <<< 9)) := uv_shl t x yk 9 (by decide)
@[go_sem] theorem uv_shr_9 (yk : IntKind) : binOp .shr t (uv x) (.int yk 9) = pure (uv (x >>> 9)) := uv_shr t x yk 9 (by decide)
@[go_sem] theorem uv_shl_10 (yk : IntKind) : binOp .shl t (uv x) (.int yk 10) = pure (uv (x <<< 10)) := uv_shl t x yk 10 (by decide)
@[go_sem] theorem uv_shr_10 (yk : IntKind) : binOp .shr t (uv x) (.int yk 10) = pure (uv (x >>> 10)) := uv_shr t x yk 10 (by decide)
@[go_sem] theorem uv_shl_11 (yk : IntKind) : binOp .shl t (uv x) (.int yk 11) = pure (uv (x <<< 11)) := uv_shl t x yk 11 (by decide)
@[go_sem] theorem uv_shr_11 (yk : IntKind) : binOp .shr t (uv x) (.int yk 11) = pure (uv (x >>> 11)) := uv_shr t x yk 11 (by decide)
@[go_sem] theorem uv_shl_12 (yk : IntKind) : binOp .shl t (uv x) (.int yk 12) = pure (uv (x <<< 12)) := uv_shl t x yk 12 (by decide)
@[go_sem] theorem uv_shr_12 (yk : IntKind) : binOp .shr t (uv x) (.int yk 12) = pure (uv (x >>> 12)) := uv_shr t x yk 12 (by decide)
@[go_sem] theorem uv_shl_13 (yk : IntKind) : binOp .shl t (uv x) (.int yk 13) = pure (uv (x <<< 13)) := uv_shl t x yk 13 (by decide)
@[go_sem] theorem uv_shr_13 (yk : IntKind) : binOp .shr t (uv x) (.int yk 13) = pure (uv (x >>> 13)) := uv_shr t x yk 13 (by decide)
@[go_sem] theorem uv_shl_14 (yk : IntKind) : binOp .shl t (uv x) (.int yk 14) = pure (uv (x <<< 14)) := uv_shl t x yk 14 (by decide)
@[go_sem] theorem uv_shr_14 (yk : IntKind) : binOp .shr t (uv x) (.int yk 14) = pure (uv (x >>> 14)) := uv_shr t x yk 14 (by decide)
@[go_sem] theorem uv_shl_15 (yk : IntKind) : binOp .shl t (uv x) (.int yk 15) = pure (uv (x <<< 15)) := uv_shl t x yk 15 (by decide)
@[go_sem] theorem uv_shr_15 (yk : IntKind) : binOp .shr t (uv x) (.int yk 15) = pure (uv (x >>> 15)) := uv_shr t x yk 15 (by decide)
@[go_sem] theorem uv_shl_16 (yk : IntKind) : binOp .shl t (uv x) (.int yk 16) = pure (uv (x <<< 16)) := uv_shl t x yk 16 (by decide)
@[go_sem] theorem uv_shr_16 (yk : IntKind) : binOp .shr t (uv x) (.int yk 16) = pure (uv (x >>> 16)) := uv_shr t x yk 16 (by decide)
@[go_sem] theorem uv_shl_17 (yk : IntKind) : binOp .shl t (uv x) (.int yk 17) = pure (uv (x <<< 17)) := uv_shl t x yk 17 (by decide)
@[go_sem] theorem uv_shr_17 (yk : IntKind) : binOp .shr t (uv x) (.int yk 17) = pure (uv (x >>> 17)) := uv_shr t x yk 17 (by decide)
@[go_sem] theorem uv_shl_18 (yk : IntKind) : binOp .shl t (uv x) (.int yk 18) = pure (uv (x <<< 18)) := uv_shl t x yk 18 (by decide)
@[go_sem] theorem uv_shr_18 (yk : IntKind) : binOp .shr t (uv x) (.int yk 18) = pure (uv (x >>> 18)) := uv_shr t x yk 18 (by decide)
@[go_sem] theorem uv_shl_19 (yk : IntKind) : binOp .shl t (uv x) (.int yk 19) = pure (uv (x <<< 19)) := uv_shl t x yk 19 (by decide)
@[go_sem] theorem uv_shr_19 (yk : IntKind) : binOp .shr t (uv x) (.int yk 19) = pure (uv (x >>> 19)) := uv_shr t x yk 19 (by decide)
@[go_sem] theorem uv_shl_20 (yk : IntKind) : binOp .shl t (uv x) (.int yk 20) = pure (uv (x <<< 20)) := uv_shl t x yk 20 (by decide)
@[go_sem] theorem uv_shr_20 (yk : IntKind) : binOp .shr t (uv x) (.int yk 20) = pure (uv (x >>> 20)) := uv_shr t x yk 20 (by decide)
@[go_sem] theorem uv_shl_21 (yk : IntKind) : binOp .shl t (uv x) (.int yk 21) = pure (uv (x <<< 21)) := uv_shl t x yk 21 (by decide)
@[go_sem] theorem uv_shr_21 (yk : IntKind) : binOp .shr t (uv x) (.int yk 21) = pure (uv (x >>> 21)) := uv_shr t x yk 21 (by decide)
@[go_sem] theorem uv_shl_22 (yk : IntKind) : binOp .shl t (uv x) (.int yk 22) = pure (uv (x <<< 22)) := uv_shl t x yk 22 (by decide)
@[go_sem] theorem uv_shr_22 (yk : IntKind) : binOp .shr t (uv x) (.int yk 22) = pure (uv (x >>> 22)) := uv_shr t x yk 22 (by decide)
@[go_sem] theorem uv_shl_23 (yk : IntKind) : binOp .shl t (uv x) (.int yk 23) = pure (uv (x <<< 23)) := uv_shl t x yk 23 (by decide)
@[go_sem] theorem uv_shr_23 (yk : IntKind) : binOp .shr t (uv x) (.int yk 23) = pure (uv (x >>> 23)) := uv_shr t x yk 23 (by decide)
@[go_sem] theorem uv_shl_24 (yk : IntKind) : binOp .shl t (uv x) (.int yk 24) = pure (uv (x <<< 24)) := uv_shl t x yk 24 (by decide)
@[go_sem] theorem uv_shr_24 (yk : IntKind) : binOp .shr t (uv x) (.int yk 24) = pure (uv (x >>> 24)) := uv_shr t x yk 24 (by decide)
@[go_sem] theorem uv_shl_25 (yk : IntKind) : binOp .shl t (uv x) (.int yk 25) = pure (uv (x <<< 25)) := uv_shl t x yk 25 (by decide)
@[go_sem] theorem uv_shr_25 (yk : IntKind) : binOp .shr t (uv x) (.int yk 25) = pure (uv (x >>> 25)) := uv_shr t x yk 25 (by decide)
@[go_sem] theorem uv_shl_26 (yk : IntKind) : binOp .shl t (uv x) (.int yk 26) = pure (uv (x <<< 26)) := uv_shl t x yk 26 (by decide)
@[go_sem] theorem uv_shr_26 (yk : IntKind) : binOp .shr t (uv x) (.int yk 26) = pure (uv (x >>> 26)) := uv_shr t x yk 26 (by decide)
@[go_sem] theorem uv_shl_27 (yk : IntKind) : binOp .shl t (uv x) (.int yk 27) = pure (uv (x <<< 27)) := uv_shl t x yk 27 (by decide)
@[go_sem] theorem uv_shr_27 (yk : IntKind) : binOp .shr t (uv x) (.int yk 27) = pure (uv (x >>> 27)) := uv_shr t x yk 27 (by decide)
@[go_sem] theorem uv_shl_28 (yk : IntKind) : binOp .shl t (uv x) (.int yk 28) = pure (uv (x <<< 28)) := uv_shl t x yk 28 (by decide)
@[go_sem] theorem uv_shr_28 (yk : IntKind) : binOp .shr t (uv x) (.int yk 28) = pure (uv (x >>> 28)) := uv_shr t x yk 28 (by decide)
@[go_sem] theorem uv_shl_29 (yk : IntKind) : binOp .shl t (uv x) (.int yk 29) = pure (uv (x <<< 29)) := uv_shl t x yk 29 (by decide)
@[go_sem] theorem uv_shr_29 (yk : IntKind) : binOp .shr t (uv x) (.int yk 29) = pure (uv (x >>> 29)) := uv_shr t x yk 29 (by decide)
@[go_sem] theorem uv_shl_30 (yk : IntKind) : binOp .shl t (uv x) (.int yk 30) = pure (uv (x <<< 30)) := uv_shl t x yk 30 (by decide)
@[go_sem] theorem uv_shr_30 (yk : IntKind) : binOp .shr t (uv x) (.int yk 30) = pure (uv (x >>> 30)) := uv_shr t x yk 30 (by decide)
@[go_sem] theorem uv_shl_31 (yk : IntKind) : binOp .shl t (uv x) (.int yk 31) = pure (uv (x <<< 31)) := uv_shl t x yk 31 (by decide)
@[go_sem] theorem uv_shr_31 (yk : IntKind) : binOp .shr t (uv x) (.int yk 31) = pure (uv (x >>> 31)) := uv_shr t x yk 31 (by decide)
end
section
variable {P : Program} (w : World) (src dst : TypeId)
@[go_sem high] theorem run_convert_bv_uv (b : UInt8) (hs : (P.underlying src).isSome = true) (hd : P.underlying dst = some (.int .u32)) : (convert src dst (bv b)).run P w = .ok (uv b.toUInt32) w := by
  obtain ⟨d, hd'⟩ := Option.isSome_iff_exists.1 hs
  simp only [convert, bv, Sem.run_bind, run_underlying hd', run_underlying hd, Result.andThen_ok]
  show Result.ok (Value.int .u32 (IntKind.u32.wrap (b.toNat : Int))) w = _
  rw [wrap_u32]
  unfold uv
  congr 4
  apply UInt32.toNat_inj.1
  rw [UInt32.toNat_ofNat', UInt8.toNat_toUInt32]
  have := b.toNat_lt
  omega
@[go_sem high] theorem run_convert_uv_bv (x : UInt32) (hs : (P.underlying src).isSome = true) (hd : P.underlying dst = some (.int .u8)) : (convert src dst (uv x)).run P w = .ok (bv x.toUInt8) w := by
  obtain ⟨d, hd'⟩ := Option.isSome_iff_exists.1 hs
  simp only [convert, uv, Sem.run_bind, run_underlying hd', run_underlying hd, Result.andThen_ok]
  show Result.ok (Value.int .u8 (IntKind.u8.wrap (x.toNat : Int))) w = _
  rw [wrap_u8]
  unfold bv
  congr 4
end
end Go.Proofs.Ytehnnnohoaapdaa

/- The checksum, in plain Lean. No program in sight. -/
namespace Go.Proofs.Ytehnnnohoaapdaa
set_option linter.unusedSectionVars false
set_option linter.unusedSimpArgs false
open Go Go.RowKit
set_option linter.unusedVariables false
def stepT : List UInt32 := [0x00000000, 0x1DB71064, 0x3B6E20C8, 0x26D930AC, 0x76DC4190, 0x6B6B51F4, 0x4DB26158, 0x5005713C, 0xEDB88320, 0xF00F9344, 0xD6D6A3E8, 0xCB61B38C, 0x9B64C2B0, 0x86D3D2D4, 0xA00AE278, 0xBDBDF21C]
def stepV (i : UInt32) : UInt32 := stepT.getD i.toNat 0
def stepR (r : UInt32) : UInt32 := stepV (r &&& 15) ^^^ (r >>> 4)
def feedB (r : UInt32) (x : UInt8) : UInt32 := stepR (stepR (r ^^^ x.toUInt32))
def feedL (r : UInt32) (l : List UInt8) : UInt32 := l.foldl feedB r
def updL (c : UInt32) (l : List UInt8) : UInt32 := ~~~ (feedL (~~~ c) l)
def crcL (l : List UInt8) : UInt32 := updL 0 l
def sum4 (s : UInt32) : List UInt8 := [s.toUInt8, (s >>> 8).toUInt8, (s >>> 16).toUInt8, (s >>> 24).toUInt8]
def sealB (l : List UInt8) : List UInt8 := l ++ sum4 (crcL l)
def wholeB (l : List UInt8) : Bool := decide (4 ≤ l.length ∧ l.drop (l.length - 4) = sum4 (crcL (l.take (l.length - 4))))
theorem length_sealB (l : List UInt8) : (sealB l).length = l.length + 4 := by simp [sealB, sum4]
theorem wholeB_sealB (l : List UInt8) : wholeB (sealB l) = true := by
  unfold wholeB
  rw [decide_eq_true_iff, length_sealB, Nat.add_sub_cancel]
  refine ⟨by omega, ?_⟩
  unfold sealB
  rw [List.drop_left' rfl, List.take_left' rfl]
theorem sum4_cells (s : UInt32) : [bv s.toUInt8, bv (s >>> 8).toUInt8, bv (s >>> 16).toUInt8, bv (s >>> 24).toUInt8] = bvs (sum4 s) := rfl
theorem feedL_succ (r : UInt32) (l : List UInt8) (k : Nat) (h : k < l.length) : feedL r (l.take (k + 1)) = feedB (feedL r (l.take k)) l[k] := by
  unfold feedL
  rw [List.take_succ_eq_append_getElem h, List.foldl_append]; rfl
theorem and15 (r : UInt32) : (r &&& 15).toNat < 16 := by
  rw [UInt32.toNat_and]
  have h := @Nat.and_two_pow_sub_one_eq_mod r.toNat 4
  have e : UInt32.toNat 15 = 2 ^ 4 - 1 := rfl
  rw [e, h]
  exact Nat.mod_lt _ (by decide)
end Go.Proofs.Ytehnnnohoaapdaa
