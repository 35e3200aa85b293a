/- Texts joined: StoreO, Arm3, Sep, Law. -/
import Derived.Test.YtopdhanbmnfeeaaDoorIR01
import Derived.Laws.CopyRow
/- A byte stored into bytes of the call's own. No program in sight. -/
namespace Go.Proofs.YtopdhanbmnfeeaaDoor
set_option linter.unusedSectionVars false
set_option linter.unusedSimpArgs false
open Go Go.RowKit
set_option linter.unusedVariables false
section
variable {P : Program} {e : TypeId} {Q : Exit → Act → World → Prop} {ops : Array Oper} {rest : List Oper} {o : Oper} {a : Act} {w : World}
theorem arm_store_cell (ty : TypeId) (x y : Operand) (ho : o.op = .store ty x y) (hgd : o.guard = none) (b off : Nat) (hx : a.eval x = .pointer (some ⟨b, off, none⟩)) (u : UInt8) (hy : a.eval y = .int .u8 (u.toNat : Int))
    (hs : (P.info? ty).map (·.size) = some 1) (C : List Value) (e : TypeId) (hg : w.heap[b]? = some (.cells C.toArray e (0, 0))) (hlt : off < C.length)
    (h : ∀ w', Hid (w'.heap[b]? = some (.cells (C.set off (bv u)).toArray e (0, 0))) → w.grownBy w' (some b) → wpList P ops Q rest (a.put o.dst undef) w') : wpList P ops Q (o :: rest) a w := by
  have hc : w.cell? ⟨b, off, none⟩ = some C[off] := by
    rw [cell_of_row w b off _ e (0, 0) hg, ← Array.getElem?_toList, List.getElem?_eq_getElem hlt]
  have hf : w.frozen? ⟨b, off, none⟩ = false := by
    unfold World.frozen?
    rw [hg]
    simp
  refine wpList_store_int hgd ty x y ho ⟨b, off, none⟩ (bv u) hx hy ⟨_, _, rfl⟩ hs ⟨_, hc⟩ hf (h _ ?_ (grownBy_setC _ _ _))
  show _ = _
  rw [heap_setCell_same w b off _ e _ hg]
  congr 2
  apply Array.ext'
  simp
end
end Go.Proofs.YtopdhanbmnfeeaaDoor

/- Steps: rows in the midst of a block, whole rows stored, conversions. No program in sight. -/
namespace Go.Proofs.YtopdhanbmnfeeaaDoor
set_option linter.unusedSectionVars false
set_option linter.unusedSimpArgs false
open Go Go.RowKit
set_option linter.unusedVariables false
section
variable {P : Program} {Q : Exit → Act → World → Prop} {ops : Array Oper} {rest : List Oper} {o : Oper} {a : Act} {w : World}
theorem arm_midr (ty : TypeId) (x : Operand) (ho : o.op = .load ty x) (hw : Region.wanted o (yielded ops a.tmps) = true)
    (b off : Nat) (hx : a.eval x = .pointer (some ⟨b, off, none⟩)) (cs : List Value) (d : TypeDesc) (hS : w.rangeAt b off cs) (hu : P.underlying ty = some d) (hd : d.isRow = true) (hi : (P.info? ty).map (·.size) = some cs.length)
    (h : wpList P ops Q rest (a.put o.dst (.agg cs.toArray)) w) : wpList P ops Q (o :: rest) a w :=
  wpList_yields hw (yieldsIf_load_mid hw ty x ho b off hx cs d (fun W hW => by rw [hW]; exact hS) hu hd hi) h
theorem arm_storer (ty : TypeId) (x y : Operand) (ho : o.op = .store ty x y) (hgd : o.guard = none)
    (g : Nat) (old cells : Array Value) (et : TypeId) (hx : a.eval x = .pointer (some ⟨g, 0, none⟩)) (hy : a.eval y = .agg cells) (hg : w.heap[g]? = some (.cells old et (0, 0))) (hs : old.size = cells.size)
    (hi : (P.info? ty).map (·.size) = some cells.size) (h1 : cells.all (·.oneCell') = true)
    (h : ∀ w', Hid (w'.heap[g]? = some (.cells cells et (0, 0))) → w.grownBy w' (some g) → wpList P ops Q rest (a.put o.dst undef) w') : wpList P ops Q (o :: rest) a w :=
  wpList_store_row hgd ty x y ho g old cells et hx hy hg hs hi h1 h
theorem arm_store_mid (ty : TypeId) (x y : Operand) (ho : o.op = .store ty x y) (hgd : o.guard = none)
    (g off : Nat) (C cells : List Value) (et : TypeId) (hx : a.eval x = .pointer (some ⟨g, off, none⟩)) (hy : a.eval y = .agg cells.toArray) (hg : w.heap[g]? = some (.cells C.toArray et (0, 0))) (hs : off + cells.length ≤ C.length)
    (hi : (P.info? ty).map (·.size) = some cells.length) (h1 : cells.toArray.all (·.oneCell') = true)
    (h : ∀ w', Hid (w'.heap[g]? = some (.cells (splice C off cells).toArray et (0, 0))) → w.grownBy w' (some g) → wpList P ops Q rest (a.put o.dst undef) w') : wpList P ops Q (o :: rest) a w := by
  refine wpList_plain hgd fun _ hK => ?_
  have hrun : (storeVar ty ⟨g, off, none⟩ (.agg cells.toArray)).run P w = .ok () (w.setRow g (splice C off cells).toArray) := by
    have := run_storeCells_at (P := P) g off et cells 0 C.toArray w hg (by simpa using hs) (fun v hv => (Array.all_eq_true_iff_forall_mem.1 h1) v (by simpa using hv))
    cases hq : P.info? ty with
    | none => simp [hq] at hi
    | some i =>
      have hz : cells.length = i.size := by simp [hq] at hi; omega
      simp [storeVar, sizeOf, typeInfo, hq, Value.cells, hz, this, splice]
  unfold Oper.wp execOp
  simp only [ho, hx, hy, Instr.storeAt, Instr.sureAddr, Sem.run_bind, Sem.run_pure, Result.andThen_ok, hrun]
  exact hK _ _ (h _ (setRow_heap w g _ _ et (0, 0) hg) (grownBy_setRow w g _))
theorem arm_store_v (ty : TypeId) (x y : Operand) (ho : o.op = .store ty x y) (hgd : o.guard = none) (b off : Nat) (hx : a.eval x = .pointer (some ⟨b, off, none⟩)) (v : Value) (hy : a.eval y = v) (hv : v.cells = #[v]) (h1 : v.oneCell' = true)
    (hs : (P.info? ty).map (·.size) = some 1) (C : List Value) (e : TypeId) (hg : w.heap[b]? = some (.cells C.toArray e (0, 0))) (hlt : off < C.length)
    (h : ∀ w', Hid (w'.heap[b]? = some (.cells (C.set off v).toArray e (0, 0))) → w.grownBy w' (some b) → wpList P ops Q rest (a.put o.dst undef) w') : wpList P ops Q (o :: rest) a w := by
  have hc : w.cell? ⟨b, off, none⟩ = some C[off] := by
    rw [cell_of_row w b off _ e (0, 0) hg, ← Array.getElem?_toList, List.getElem?_eq_getElem hlt]
  have hf : w.frozen? ⟨b, off, none⟩ = false := by
    unfold World.frozen?
    rw [hg]
    simp
  refine wpList_plain hgd fun _ hK => ?_
  cases hq : P.info? ty with
  | none => simp [hq] at hs
  | some i =>
    have hs' : i.size = 1 := by simpa [hq] using hs
    have hst : (store ((⟨b, off, none⟩ : Addr).add 0) v).run P w = .ok () (w.setCell ⟨b, off, none⟩ v) := by
      have ha : (⟨b, off, none⟩ : Addr).add 0 = ⟨b, off, none⟩ := by unfold Addr.add; split <;> simp_all
      rw [ha, run_store P w _ v _ h1, hc]
      simp [hf]
    unfold Oper.wp execOp
    simp only [ho, hx, hy, Instr.storeAt, Instr.sureAddr, Sem.run_bind, Sem.run_pure, Result.andThen_ok]
    have : (storeVar ty ⟨b, off, none⟩ v).run P w = .ok () (w.setCell ⟨b, off, none⟩ v) := by
      simp [storeVar, sizeOf, typeInfo, hq, hs', hv, storeCells, hst]
    rw [this]
    refine hK _ _ (h _ ?_ (grownBy_setC _ _ _))
    show _ = _
    rw [heap_setCell_same w b off _ e _ hg]
    congr 2
    apply Array.ext'
    simp
end
theorem Row.range {w : World} {b o n : Nat} {l : List UInt8} (h : Row w (some ⟨b, o, none⟩) n l) : w.rangeAt b o (bvs l) := fun j v hj => by
  rw [bvs_getElem?] at hj
  obtain ⟨u, hu, rfl⟩ := Option.map_eq_some_iff.1 hj
  obtain ⟨hl, rfl⟩ := List.getElem?_eq_some_iff.1 hu
  exact h.cell j hl
theorem range_of_block {w : World} {g off : Nat} {C xs : List Value} {T : TypeId} {fr : Nat × Nat} (hg : w.heap[g]? = some (.cells C.toArray T fr)) (h : (C.drop off).take xs.length = xs) : w.rangeAt g off xs := fun j v hj => by
  rw [cell_of_row w g (off + j) _ _ _ hg, ← Array.getElem?_toList]
  show C[off + j]? = _
  rw [← h, List.getElem?_take] at hj
  split at hj
  · rw [List.getElem?_drop] at hj; exact hj
  · cases hj
section
variable {P : Program}
theorem oper_mono3 {o : Oper} {a : Act} {w : World} {K K' : Act → World → Prop} {Q Q' : Exit → Act → World → Prop} (h : ∀ a w, K a w → K' a w) (hq : ∀ e a w, e ≠ .normal → Q e a w → Q' e a w)
    (hh : o.wp P a w K Q) : o.wp P a w K' Q' := by
  have hl : LetsOut Q → LetsOut Q' := fun ⟨a, w, x⟩ => ⟨a, w, hq _ _ _ (by intro e; cases e) x⟩
  unfold Oper.wp at *
  generalize (execOp a.eval o).run P w = r at *
  cases r with
  | ok n w' =>
    cases n <;> simp only [Oper.upon] at hh ⊢ <;>
      first
        | exact h _ _ hh
        | exact Calls.mono hh (fun e w'' he => by cases e <;> first | exact h _ _ he | exact hq _ _ _ (by intro e; cases e) he | exact hl he)
        | exact Rows.mono hh (fun _ _ he => h _ _ he)
  | halt x w' => cases x <;> simp only [Oper.upon] at hh ⊢ <;> first | exact hh | exact hq _ _ _ (by intro e; cases e) hh | exact hl hh
theorem oper_list {o : Oper} {a : Act} {w : World} {K : Act → World → Prop} {Q : Exit → Act → World → Prop} (hg : o.guard = none)
    (h : wpList P #[] (fun e a w => e = .normal ∧ K a w) [o] a w) : o.wp P a w K Q := by
  have hw : Region.wanted o (yielded #[] a.tmps) = true := by simp [Region.wanted, hg]
  unfold wpList at h
  rw [if_pos hw] at h
  rcases h with h | ⟨_, a', w', h, _⟩
  · exact oper_mono3 (fun a w h => h.2) (fun e a w h1 h2 => absurd h2.1 h1) h
  · cases h
end
theorem held_built {P : Program} {S : World → Prop} {o : Oper} {a : Act} {ops : Array Oper} (hw : Region.wanted o (yielded ops a.tmps) = true) (t : TypeId) (parts : List (Nat × Operand)) (ho : o.op = .build t parts.toArray)
    (ps : List (Nat × Value)) (hp : (parts.map fun p => (p.1, a.eval p.2)) = ps) (cells : Array Value) (hc : P.built t ps = some cells) : YieldsIf P ops S o (.agg cells) a :=
  held_pure hw fun W => by
    have hm : (parts.toArray.map fun (i, x) => (i, a.eval x)).toList = ps := by rw [← hp]; simp
    unfold execOp
    simp only [ho, Sem.run_bind, run_build W t _ cells (by rw [hm]; exact hc), Result.andThen_ok]
    rfl
theorem results_rowt {P : Program} {fn : Func} {p u : Tmp} {ty : TypeId} (h : fn.results = #[.cell p ty, .tmp u]) (tmps : Array Value) (w : World) (g : Nat) (t : TypeId) (cs : Array Value) (fr : Nat × Nat) (d : TypeDesc)
    (hp : tmps.getD p undef = .pointer (some ⟨g, 0, none⟩)) (hg : w.heap[g]? = some (.cells cs t fr)) (hu : P.underlying ty = some d) (hd : (match d with | .struct _ | .array _ _ => true | _ => false) = true) (hi : (P.info? ty).map (·.size) = some cs.size)
    (v : Value) (hv : tmps.getD u undef = v) : (results fn tmps).run P w = .ok (.tuple #[.agg cs, v]) w := by
  rw [results_cell_tmp h, hp, hv]
  simp [asAddr, run_loadVar_row w g t ty cs fr d hg hu hd hi]
end Go.Proofs.YtopdhanbmnfeeaaDoor

/- Memory as a list of assertions, each with the blocks that it stands on. No program in sight. -/
namespace Go.Proofs.YtopdhanbmnfeeaaDoor
set_option linter.unusedSectionVars false
set_option linter.unusedSimpArgs false
open Go Go.RowKit
set_option linter.unusedVariables false
structure Asn where
  foot : List Nat
  holds : World → Prop
  lt : ∀ w, holds w → ∀ b ∈ foot, b < w.heap.size
  keep : ∀ w w', holds w → (∀ b ∈ foot, w'.heap[b]? = w.heap[b]?) → holds w'
def foots (L : List Asn) : List Nat := L.flatMap Asn.foot
def blk (g : Nat) (T : TypeId) (C : List Value) : Asn where
  foot := [g]
  holds w := w.heap[g]? = some (.cells C.toArray T (0, 0))
  lt w h b hb := by
    obtain rfl : b = g := by simpa using hb
    exact heap_lt h
  keep w w' h hk := (hk g (by simp)).trans h
def lst (e : TypeId) (k : Nat) (v : Value) (n : Nat) (xs : List Value) : Asn where
  foot := obs v
  holds w := w.ownsRow 0 e k v n xs
  lt w h b hb := (ownsRow_lt h b (mem_obs.1 hb)).2
  keep w w' h hk := ownsRow_same h fun g hg => hk g (mem_obs.2 hg)
def star (p : Prop) (L : List Asn) : Asn where
  foot := foots L
  holds w := p ∧ ∀ A ∈ L, A.holds w
  lt w h b hb := by
    obtain ⟨A, hA, hb⟩ := List.mem_flatMap.1 hb
    exact A.lt w (h.2 A hA) b hb
  keep w w' h hk := ⟨h.1, fun A hA => A.keep w w' (h.2 A hA) fun b hb => hk b (List.mem_flatMap.2 ⟨A, hA, hb⟩)⟩
structure Mem (w0 : World) (F : List Nat) (w : World) (L : List Asn) : Prop where
  grew : Grew w0 w F
  all : ∀ A ∈ L, A.holds w
  nodup : (foots L).Nodup
  new : ∀ b ∈ foots L, b ∈ F ∨ w0.heap.size ≤ b
theorem foots_append (L R : List Asn) : foots (L ++ R) = foots L ++ foots R := by simp [foots]
theorem foots_cons (A : Asn) (R : List Asn) : foots (A :: R) = A.foot ++ foots R := by simp [foots]
theorem mem_foots {L : List Asn} {b : Nat} : b ∈ foots L ↔ ∃ A ∈ L, b ∈ A.foot := List.mem_flatMap
section
variable {w0 w w' : World} {F : List Nat} {L R : List Asn}
theorem Mem.nil (w : World) : Mem w [] w [] := ⟨Grew.refl _ _, by simp, by simp [foots], by simp [foots]⟩
theorem Mem.lt (h : Mem w0 F w L) : ∀ b ∈ foots L, b < w.heap.size := fun b hb => by
  obtain ⟨A, hA, hb⟩ := mem_foots.1 hb
  exact A.lt w (h.all A hA) b hb
theorem Mem.get (h : Mem w0 F w L) (i : Nat) {A : Asn} (hi : L[i]? = some A) : A.holds w := h.all A (List.mem_of_getElem? hi)
theorem Mem.perm {L' : List Asn} (h : Mem w0 F w L) (p : L.Perm L') : Mem w0 F w L' := by
  have p' : (foots L).Perm (foots L') := List.Perm.flatMap_right _ p
  exact ⟨h.grew, fun A hA => h.all A (p.mem_iff.2 hA), p'.nodup_iff.1 h.nodup, fun b hb => h.new b (p'.mem_iff.2 hb)⟩
theorem Mem.left (h : Mem w0 F w (L ++ R)) : Mem w0 F w L := by
  have := h.nodup
  rw [foots_append, List.nodup_append] at this
  exact ⟨h.grew, fun A hA => h.all A (List.mem_append_left _ hA), this.1, fun b hb => h.new b (by rw [foots_append]; exact List.mem_append_left _ hb)⟩
theorem Mem.right (h : Mem w0 F w (L ++ R)) : Mem w0 F w R := (h.perm List.perm_append_comm).left
theorem Mem.here (h : Mem w0 F w (L ++ R)) : Mem w (foots L) w L := by
  have := h.left
  exact ⟨Grew.refl _ _, this.all, this.nodup, fun b hb => .inl hb⟩
theorem Mem.frame {Pre Post : List Asn} (h : Mem w0 F w (Pre ++ R)) (h' : Mem w (foots Pre) w' Post) : Mem w0 F w' (Post ++ R) := by
  have hn := h.nodup
  rw [foots_append, List.nodup_append] at hn
  obtain ⟨n1, n2, n3⟩ := hn
  have hR : ∀ b ∈ foots R, w'.heap[b]? = w.heap[b]? := fun b hb => h'.grew.block b (h.lt b (by rw [foots_append]; exact List.mem_append_right _ hb)) fun hp => n3 b hp b hb rfl
  have hPF : ∀ b ∈ foots Pre, b ∈ F ∨ w0.heap.size ≤ b := fun b hb => h.new b (by rw [foots_append]; exact List.mem_append_left _ hb)
  refine ⟨h.grew.trans h'.grew hPF, fun A hA => ?_, ?_, fun b hb => ?_⟩
  · rcases List.mem_append.1 hA with hA | hA
    · exact h'.all A hA
    · exact A.keep w w' (h.all A (List.mem_append_right _ hA)) fun b hb => hR b (mem_foots.2 ⟨A, hA, hb⟩)
  · rw [foots_append, List.nodup_append]
    refine ⟨h'.nodup, n2, fun a ha b hb e => ?_⟩
    subst e
    rcases h'.new a ha with hx | hx
    · exact n3 a hx a hb rfl
    · have := h.lt a (by rw [foots_append]; exact List.mem_append_right _ hb); omega
  · rw [foots_append] at hb
    rcases List.mem_append.1 hb with hb | hb
    · rcases h'.new b hb with hx | hx
      · exact hPF b hx
      · exact .inr (Nat.le_trans h.grew.size hx)
    · exact h.new b (by rw [foots_append]; exact List.mem_append_right _ hb)
theorem Mem.step (h : Mem w0 F w L) (h' : Mem w [] w' R) : Mem w0 F w' (R ++ L) := Mem.frame (Pre := []) (R := L) h h'
theorem Mem.low (h : Mem w0 F w L) (h' : Below w.heap.size w w') : Mem w0 F w' L := h.step (R := []) ⟨Grew.low h' _, by simp, by simp [foots], by simp [foots]⟩
theorem Mem.drew (h : Mem w0 F w L) : Mem w0 F w.drew L := h.low (Below.refl _ _).drew
theorem Mem.alloc (h : Mem w0 F w L) (C : List Value) (T : TypeId) : Mem w0 F (w.alloc (.cells C.toArray T)) (blk w.heap.size T C :: L) :=
  h.step (R := [blk w.heap.size T C]) ⟨Grew.low (Below.refl_alloc w _) _, fun A hA => by
    obtain rfl : A = _ := by simpa using hA
    exact heap_new rfl, by simp [foots, blk], fun b hb => .inr (by
      obtain rfl : b = w.heap.size := by simpa [foots, blk] using hb
      exact Nat.le_refl _)⟩
theorem splice_all0 (l m : List Value) (h : m.length = l.length) : splice l 0 m = m := by
  unfold splice; simp [h]
theorem set_split {α : Type} : ∀ (L : List α) (i : Nat) (A B : α), L[i]? = some A → ∃ X Y, L = X ++ A :: Y ∧ L.set i B = X ++ B :: Y
  | [], i, A, B, h => by simp at h
  | x :: L, 0, A, B, h => ⟨[], L, by obtain rfl : x = A := by simpa using h
                                     rfl, rfl⟩
  | x :: L, i + 1, A, B, h => by
    obtain ⟨X, Y, h1, h2⟩ := set_split L i A B (by simpa using h)
    exact ⟨x :: X, Y, by rw [h1]; rfl, by rw [List.set_cons_succ, h2]; rfl⟩
theorem Mem.upd (h : Mem w0 F w L) (i : Nat) {A B : Asn} (hi : L[i]? = some A) (h' : Mem w A.foot w' [B]) : Mem w0 F w' (L.set i B) := by
  obtain ⟨X, Y, h1, h2⟩ := set_split L i A B hi
  rw [h2]
  rw [h1] at h
  have h3 : Mem w0 F w ([A] ++ (X ++ Y)) := h.perm (List.perm_middle)
  have h4 : Mem w0 F w' ([B] ++ (X ++ Y)) := h3.frame (by rw [show foots [A] = A.foot by simp [foots]]; exact h')
  have hp : ([B] ++ (X ++ Y)).Perm (X ++ B :: Y) := (List.perm_middle (a := B) (l₁ := X) (l₂ := Y)).symm
  exact h4.perm hp
theorem Mem.one {A : Asn} {row : Option Nat} (hg : w.grownBy w' row) (hr : ∀ g, row = some g → g ∈ F) (hA : A.holds w') (hn : A.foot.Nodup) (hf : ∀ b ∈ A.foot, b ∈ F ∨ w.heap.size ≤ b) : Mem w F w' [A] :=
  ⟨Grew.of hg hr, fun B hB => by obtain rfl : B = A := by simpa using hB
                                 exact hA, by simpa [foots] using hn, fun b hb => hf b (by simpa [foots] using hb)⟩
theorem Mem.setBlk (h : Mem w0 F w L) (i : Nat) {g : Nat} {T : TypeId} {C : List Value} (C' : List Value) (hi : L[i]? = some (blk g T C)) (hg : w.grownBy w' (some g)) (hb : w'.heap[g]? = some (.cells C'.toArray T (0, 0))) : Mem w0 F w' (L.set i (blk g T C')) :=
  h.upd i hi (Mem.one hg (fun x hx => by cases hx; simp [blk]) hb (by simp [blk]) (fun b hb => .inl hb))
theorem Mem.arr (h : Mem w0 F w L) (ix : List Nat) (hn : ix.Nodup) : Mem w0 F w (ix.filterMap (L[·]?)) := by
  have hs : ∀ A ∈ ix.filterMap (L[·]?), A ∈ L := fun A hA => by
    obtain ⟨i, _, hi⟩ := List.mem_filterMap.1 hA
    exact List.mem_of_getElem? hi
  have hN := h.nodup
  unfold foots List.Nodup at hN
  rw [List.pairwise_flatMap] at hN
  refine ⟨h.grew, fun A hA => h.all A (hs A hA), ?_, fun b hb => ?_⟩
  · unfold foots List.Nodup
    rw [List.pairwise_flatMap]
    refine ⟨fun A hA => hN.1 A (hs A hA), ?_⟩
    rw [List.pairwise_filterMap]
    refine List.Pairwise.imp (fun {i j} hij A hA B hB x hx y hy => ?_) hn
    obtain ⟨hi, rfl⟩ := List.getElem?_eq_some_iff.1 hA
    obtain ⟨hj, rfl⟩ := List.getElem?_eq_some_iff.1 hB
    have hp := List.pairwise_iff_getElem.1 hN.2
    rcases Nat.lt_or_gt_of_ne hij with hlt | hlt
    · exact hp i j hi hj hlt x hx y hy
    · exact (hp j i hj hi hlt y hy x hx).symm
  · obtain ⟨A, hA, hb⟩ := mem_foots.1 hb
    exact h.new b (mem_foots.2 ⟨A, hs A hA, hb⟩)
theorem Mem.apart (h : Mem w0 F w L) (i j : Nat) (hij : i ≠ j) {A B : Asn} (hA : L[i]? = some A) (hB : L[j]? = some B) {b : Nat} (h1 : b ∈ A.foot) (h2 : b ∈ B.foot) : False := by
  have hN := h.nodup
  unfold foots List.Nodup at hN
  rw [List.pairwise_flatMap] at hN
  obtain ⟨hi, rfl⟩ := List.getElem?_eq_some_iff.1 hA
  obtain ⟨hj, rfl⟩ := List.getElem?_eq_some_iff.1 hB
  have hp := List.pairwise_iff_getElem.1 hN.2
  rcases Nat.lt_or_gt_of_ne hij with hlt | hlt
  · exact hp i j hi hj hlt b h1 b h2 rfl
  · exact hp j i hj hi hlt b h2 b h1 rfl
theorem Mem.open {p : Prop} {X : List Asn} (h : Mem w0 F w (star p X :: R)) : p ∧ Mem w0 F w (X ++ R) := by
  have hs := h.all (star p X) (List.mem_cons_self ..)
  refine ⟨hs.1, h.grew, fun A hA => ?_, ?_, fun b hb => h.new b ?_⟩
  · rcases List.mem_append.1 hA with hA | hA
    · exact hs.2 A hA
    · exact h.all A (List.mem_cons_of_mem _ hA)
  · have := h.nodup
    rw [foots_cons] at this
    rw [foots_append]
    exact this
  · rw [foots_append] at hb
    rw [foots_cons]
    exact hb
theorem Mem.close {p : Prop} {X : List Asn} (hp : p) (h : Mem w0 F w (X ++ R)) : Mem w0 F w (star p X :: R) := by
  refine ⟨h.grew, fun A hA => ?_, ?_, fun b hb => h.new b ?_⟩
  · rcases List.mem_cons.1 hA with rfl | hA
    · exact ⟨hp, fun A hA => h.all A (List.mem_append_left _ hA)⟩
    · exact h.all A (List.mem_append_right _ hA)
  · have := h.nodup
    rw [foots_append] at this
    rw [foots_cons]
    exact this
  · rw [foots_cons] at hb
    rw [foots_append]
    exact hb
theorem Mem.old (h : Mem w0 F w L) {b : Nat} (hb : b < w0.heap.size) (hF : b ∉ F) : w.heap[b]? = w0.heap[b]? := h.grew.block b hb hF
theorem Mem.row (h : Mem w0 F w L) {ao : Option Addr} {n : Nat} {l : List UInt8} (hr : Row w0 ao n l) (hF : ∀ b o, ao = some ⟨b, o, none⟩ → 0 < n → b ∉ F) : Row w ao n l := by
  refine ⟨hr.1, fun i hi => ?_⟩
  obtain ⟨b, o, e, hc⟩ := hr.2 i hi
  exact ⟨b, o, e, (World.cell?_of_block (w := w0) (w' := w) (a := ⟨b, o + i, none⟩) (h.old (block_lt_of_cell hc) (hF b o e (by have := hr.1; omega)))).trans hc⟩
end
end Go.Proofs.YtopdhanbmnfeeaaDoor

/- What single operations yield, each by its own law: the operation's text, its operands, what it leaves. No program in sight. -/
namespace Go.Proofs.YtopdhanbmnfeeaaDoor
set_option linter.unusedSimpArgs false
open Go Go.RowKit
set_option linter.unusedVariables false
set_option linter.unusedSectionVars false
section
variable {P : Program} {ops : Array Oper} {S : World → Prop} {o : Oper} {a : Act} {k : IntKind} {m n : Int} {x y : Operand} {t t' : TypeId}
theorem y_run {v : Value} (hw : Region.wanted o (yielded ops a.tmps) = true) (h : ∀ w, S w → (execOp a.eval o).run P w = .ok (.value v) w) : YieldsIf P ops S o v a := .inl ⟨hw, h⟩
theorem y_move {v : Value} (hw : Region.wanted o (yielded ops a.tmps) = true) (ho : o.op = .move x) (hx : a.eval x = v) : YieldsIf P ops S o v a :=
  y_run hw fun w _ => by unfold execOp; simp only [ho, hx]; rfl
theorem y_assign {v : Value} (hw : Region.wanted o (yielded ops a.tmps) = true) (ho : o.op = .assign x) (hx : a.eval x = v) : YieldsIf P ops S o v a :=
  y_run hw fun w _ => by unfold execOp; simp only [ho, hx]; rfl
theorem y_pickT {c : Operand} {v : Value} (hw : Region.wanted o (yielded ops a.tmps) = true) (ho : o.op = .pick c x y) (hc : a.eval c = .bool true) (hx : a.eval x = v) : YieldsIf P ops S o v a :=
  y_run hw fun w _ => by unfold execOp; simp only [ho, hc, hx]; rfl
theorem y_pickF {c : Operand} {v : Value} (hw : Region.wanted o (yielded ops a.tmps) = true) (ho : o.op = .pick c x y) (hc : a.eval c = .bool false) (hy : a.eval y = v) : YieldsIf P ops S o v a :=
  y_run hw fun w _ => by unfold execOp; simp only [ho, hc, hy]; rfl
theorem y_not {b b' : Bool} (hw : Region.wanted o (yielded ops a.tmps) = true) (ho : o.op = .unOp .not t x) (hx : a.eval x = .bool b) (hb : (!b) = b') : YieldsIf P ops S o (.bool b') a :=
  y_run hw fun w _ => by unfold execOp; simp only [ho, hx, ← hb]; rfl
theorem y_nil {p : Addr} (hw : Region.wanted o (yielded ops a.tmps) = true) (ho : o.op = .nilCheck x) (hx : a.eval x = .pointer (some p)) : YieldsIf P ops S o (.pointer (some p)) a :=
  y_run hw fun w _ => by unfold execOp; simp only [ho, hx]; rfl
theorem y_bin {op : BinOp} {u u' r : Value} (hw : Region.wanted o (yielded ops a.tmps) = true) (ho : o.op = .binOp op t x y t') (hx : a.eval x = u) (hy : a.eval y = u') (hg : eqGuard op t x y u u' = pure ()) (hr : ∀ w, (binOp op t u u').run P w = .ok r w) : YieldsIf P ops S o r a :=
  y_run hw fun w _ => by
    unfold execOp
    simp only [ho, hx, hy, hg, Sem.run_bind, Sem.run_pure, Result.andThen_ok, hr]
theorem guard_int (op : BinOp) (k : IntKind) (m : Int) (u : Value) : eqGuard op t x y (.int k m) u = pure () := by unfold eqGuard; split <;> rfl
theorem guard_ptr (op : BinOp) (b : Option Addr) (u : Value) : eqGuard op t x y (.pointer b) u = pure () := by unfold eqGuard; split <;> rfl
theorem y_lss {b : Bool} (hw : Region.wanted o (yielded ops a.tmps) = true) (ho : o.op = .binOp .lss t x y t') (hx : a.eval x = .int k m) (hy : a.eval y = .int k n) (hb : decide (m < n) = b) : YieldsIf P ops S o (.bool b) a :=
  y_bin hw ho hx hy (guard_int ..) fun w => by unfold binOp; simp [Op.intCmp, ← hb]
theorem y_leq {b : Bool} (hw : Region.wanted o (yielded ops a.tmps) = true) (ho : o.op = .binOp .leq t x y t') (hx : a.eval x = .int k m) (hy : a.eval y = .int k n) (hb : decide (m ≤ n) = b) : YieldsIf P ops S o (.bool b) a :=
  y_bin hw ho hx hy (guard_int ..) fun w => by unfold binOp; simp [Op.intCmp, ← hb]
theorem y_gtr {b : Bool} (hw : Region.wanted o (yielded ops a.tmps) = true) (ho : o.op = .binOp .gtr t x y t') (hx : a.eval x = .int k m) (hy : a.eval y = .int k n) (hb : decide (n < m) = b) : YieldsIf P ops S o (.bool b) a :=
  y_bin hw ho hx hy (guard_int ..) fun w => by unfold binOp; simp [Op.intCmp, ← hb]
theorem y_geq {b : Bool} (hw : Region.wanted o (yielded ops a.tmps) = true) (ho : o.op = .binOp .geq t x y t') (hx : a.eval x = .int k m) (hy : a.eval y = .int k n) (hb : decide (n ≤ m) = b) : YieldsIf P ops S o (.bool b) a :=
  y_bin hw ho hx hy (guard_int ..) fun w => by unfold binOp; simp [Op.intCmp, ← hb]
theorem y_eql {b : Bool} (hw : Region.wanted o (yielded ops a.tmps) = true) (ho : o.op = .binOp .eql t x y t') (hx : a.eval x = .int k m) (hy : a.eval y = .int k n) (hb : decide (m = n) = b) : YieldsIf P ops S o (.bool b) a :=
  y_bin hw ho hx hy (guard_int ..) fun w => by unfold binOp; simp only [Op.intCmp, ne_eq, not_true_eq_false, if_false, ← hb]; rfl
theorem y_neq {b : Bool} (hw : Region.wanted o (yielded ops a.tmps) = true) (ho : o.op = .binOp .neq t x y t') (hx : a.eval x = .int k m) (hy : a.eval y = .int k n) (hb : (!decide (m = n)) = b) : YieldsIf P ops S o (.bool b) a :=
  y_bin hw ho hx hy (guard_int ..) fun w => by unfold binOp; simp only [Op.intCmp, ne_eq, not_true_eq_false, if_false, ← hb]; rfl
theorem wrap64_of {m : Int} (h : -9223372036854775808 ≤ m ∧ m ≤ 9223372036854775807) : IntKind.i64.wrap m = m := by
  simp only [IntKind.wrap, IntKind.signed, IntKind.bits]
  simp
  omega
theorem y_add {r : Int} (hw : Region.wanted o (yielded ops a.tmps) = true) (ho : o.op = .binOp .add t x y t') (hx : a.eval x = .int .i64 m) (hy : a.eval y = .int .i64 n) (hr : m + n = r) (h : -9223372036854775808 ≤ r ∧ r ≤ 9223372036854775807) : YieldsIf P ops S o (.int .i64 r) a :=
  y_bin hw ho hx hy (guard_int ..) fun w => by subst hr; unfold binOp; simp [Op.intArith, wrap64_of h]
theorem y_sub {r : Int} (hw : Region.wanted o (yielded ops a.tmps) = true) (ho : o.op = .binOp .sub t x y t') (hx : a.eval x = .int .i64 m) (hy : a.eval y = .int .i64 n) (hr : m - n = r) (h : -9223372036854775808 ≤ r ∧ r ≤ 9223372036854775807) : YieldsIf P ops S o (.int .i64 r) a :=
  y_bin hw ho hx hy (guard_int ..) fun w => by subst hr; unfold binOp; simp [Op.intArith, wrap64_of h]
theorem y_mul {r : Int} (hw : Region.wanted o (yielded ops a.tmps) = true) (ho : o.op = .binOp .mul t x y t') (hx : a.eval x = .int .i64 m) (hy : a.eval y = .int .i64 n) (hr : m * n = r) (h : -9223372036854775808 ≤ r ∧ r ≤ 9223372036854775807) : YieldsIf P ops S o (.int .i64 r) a :=
  y_bin hw ho hx hy (guard_int ..) fun w => by subst hr; unfold binOp; simp [Op.intArith, wrap64_of h]
theorem y_addw (hw : Region.wanted o (yielded ops a.tmps) = true) (ho : o.op = .binOp .add t x y t') (hx : a.eval x = .int .i64 m) (hy : a.eval y = .int .i64 n) : YieldsIf P ops S o (.int .i64 (wrap64 (m + n))) a :=
  y_bin hw ho hx hy (guard_int ..) fun w => by unfold binOp; simp [Op.intArith, IntKind.wrap, IntKind.signed, IntKind.bits, wrap64]; split <;> omega
theorem y_rem {r : Int} (hw : Region.wanted o (yielded ops a.tmps) = true) (ho : o.op = .binOp .rem t x y t') (hx : a.eval x = .int k m) (hy : a.eval y = .int k n) (h0 : n ≠ 0) (hr : m.tmod n = r) : YieldsIf P ops S o (.int k r) a :=
  y_bin hw ho hx hy (guard_int ..) fun w => by subst hr; unfold binOp; simp [Op.intDiv, h0]
theorem y_int {op : BinOp} {k' : IntKind} {r : Value} (hw : Region.wanted o (yielded ops a.tmps) = true) (ho : o.op = .binOp op t x y t') (hx : a.eval x = .int k m) (hy : a.eval y = .int k' n) (hr : binOp op t (.int k m) (.int k' n) = pure r) : YieldsIf P ops S o r a :=
  y_bin hw ho hx hy (guard_int ..) fun w => by rw [hr]; rfl
theorem y_eqnil {e : TypeId} {p : Option Addr} {r : Bool} (hw : Region.wanted o (yielded ops a.tmps) = true) (ho : o.op = .binOp .eql t x y t') (hx : a.eval x = .pointer p) (hy : a.eval y = .pointer none) (hu : P.underlying t = some (.pointer e)) (hr : p.isNone = r) : YieldsIf P ops S o (.bool r) a :=
  y_bin hw ho hx hy (guard_ptr ..) fun w => by
    unfold binOp Op.equal Op.maxDepth Op.equalIn
    cases p <;> simp [run_underlying hu, ← hr]
theorem y_conv {k' : IntKind} {r : Int} (hw : Region.wanted o (yielded ops a.tmps) = true) (ho : o.op = .convert t t' x) (hx : a.eval x = .int k m) (hu : P.underlying t = some (.int k)) (hu' : P.underlying t' = some (.int k')) (hr : k'.wrap m = r) : YieldsIf P ops S o (.int k' r) a :=
  y_run hw fun w _ => by
    unfold execOp
    simp only [ho, hx, convert, Sem.run_bind, run_underlying hu, run_underlying hu', Result.andThen_ok, ← hr]
    rfl
theorem y_ext {vs : Array Value} {v : Value} {i : Nat} (hw : Region.wanted o (yielded ops a.tmps) = true) (ho : o.op = .extract x i) (hx : a.eval x = .tuple vs) (hi : vs[i]? = some v) : YieldsIf P ops S o v a :=
  y_run hw fun w _ => by
    unfold execOp
    simp only [ho, hx, Instr.extract, hi, Sem.run_bind, Sem.run_pure, Result.andThen_ok]
theorem Addr_add (b off n : Nat) : (⟨b, off, none⟩ : Addr).add n = ⟨b, off + n, none⟩ := by unfold Addr.add; split <;> simp_all
theorem y_fa {g off i r z : Nat} {fs : Array Field} {f : Field} (hw : Region.wanted o (yielded ops a.tmps) = true) (ho : o.op = .fieldAddr t x i) (hx : a.eval x = .pointer (some ⟨g, off, none⟩)) (hu : P.underlying t = some (.struct fs)) (hf : fs[i]? = some f)
    (hz : ∀ w, (sizeOf f.type).run P w = .ok (z + 1) w) (hr : off + f.offset = r) : YieldsIf P ops S o (.pointer (some ⟨g, r, none⟩)) a :=
  y_run hw fun w _ => by
    unfold execOp
    simp only [ho, hx, Instr.fieldAt, Sem.run_bind, run_underlying hu, Result.andThen_ok, hf, Instr.sureAddr, Sem.run_pure, fieldPlace, hz]
    simp [Addr_add, hr]
theorem y_ias {g off c k' : Nat} {l : Nat} {i : Int} {e : TypeId} {r : Nat} (hw : Region.wanted o (yielded ops a.tmps) = true) (ho : o.op = .indexAddr t x y) (hx : a.eval x = .slice (some ⟨g, off, none⟩) l c) (hy : a.eval y = .int k i) (hu : P.underlying t = some (.slice e))
    (hz : ∀ w, (sizeOf e).run P w = .ok k' w) (h : 0 ≤ i ∧ i < l) (hr : off + i.toNat * k' = r) : YieldsIf P ops S o (.pointer (some ⟨g, r, none⟩)) a :=
  y_run hw fun w _ => by
    unfold execOp
    simp only [ho, hx, hy, Instr.indexAt, asIntOf, Sem.run_bind, run_underlying hu, Result.andThen_ok, Sem.run_pure]
    rw [if_pos h]
    simp only [Sem.run_bind, hz, Result.andThen_ok, Sem.run_pure, Addr_add, hr]
theorem y_iaa {g off k' : Nat} {l : Nat} {i : Int} {e : TypeId} {r : Nat} (hw : Region.wanted o (yielded ops a.tmps) = true) (ho : o.op = .indexAddr t x y) (hx : a.eval x = .pointer (some ⟨g, off, none⟩)) (hy : a.eval y = .int k i) (hu : P.underlying t = some (.array l e))
    (hz : ∀ w, (sizeOf e).run P w = .ok k' w) (h : 0 ≤ i ∧ i < l) (hr : off + i.toNat * k' = r) : YieldsIf P ops S o (.pointer (some ⟨g, r, none⟩)) a :=
  y_run hw fun w _ => by
    unfold execOp
    simp only [ho, hx, hy, Instr.indexAt, asIntOf, Sem.run_bind, run_underlying hu, Result.andThen_ok, Sem.run_pure, Instr.sureAddr]
    rw [if_pos h]
    simp only [Sem.run_bind, hz, Result.andThen_ok, Sem.run_pure, Addr_add, hr]
def bounds? (len cap : Nat) (lo hi : Option Value) (l h : Nat) : Prop :=
  (match hi with | none => h = len | some v => ∃ k i, v = .int k i ∧ i = (h : Int) ∧ h ≤ cap) ∧ (match lo with | none => l = 0 | some v => ∃ k i, v = .int k i ∧ i = (l : Int) ∧ l ≤ h)
theorem run_bounds {isS : Bool} {len cap l h : Nat} {lo hi : Option Value} (hb : bounds? len cap lo hi l h) (w : World) : (Instr.sliceBounds isS len cap lo hi none).run P w = .ok (l, h, cap) w := by
  obtain ⟨hh, hl⟩ := hb
  unfold Instr.sliceBounds
  cases hi with
  | none =>
    subst hh
    cases lo with
    | none => subst hl; rfl
    | some v =>
      obtain ⟨k, i, rfl, rfl, h2⟩ := hl
      simp [Instr.sliceBound, asIntOf, h2]
  | some u =>
    obtain ⟨k, i, rfl, rfl, h1⟩ := hh
    cases lo with
    | none => subst hl; simp [Instr.sliceBound, asIntOf, h1]
    | some v =>
      obtain ⟨k', i', rfl, rfl, h2⟩ := hl
      simp [Instr.sliceBound, asIntOf, h1, h2]
theorem y_sla {g off k' len l h r : Nat} {e : TypeId} {lo hi : Option Operand} {lv hv : Option Value} (hw : Region.wanted o (yielded ops a.tmps) = true) (ho : o.op = .slice t x lo hi none) (hx : a.eval x = .pointer (some ⟨g, off, none⟩)) (hlo : lo.map a.eval = lv) (hhi : hi.map a.eval = hv)
    (hu : P.underlying t = some (.array len e)) (hz : ∀ w, (sizeOf e).run P w = .ok k' w) (hb : bounds? len len lv hv l h) (hr : (if len = l then off else off + l * k') = r) {n' c' : Nat} (hn : h - l = n') (hc : len - l = c') : YieldsIf P ops S o (.slice (some ⟨g, r, none⟩) n' c') a :=
  y_run hw fun w _ => by
    subst hlo
    subst hhi
    unfold execOp
    simp only [ho, hx, Instr.sliceAt, Sem.run_bind, run_underlying hu, Result.andThen_ok, Instr.sureAddr, Sem.run_pure, Option.map_none, run_bounds hb, hz, Addr_add, hn, hc, ← hr]
    congr 4
    split <;> rfl
theorem y_sls {g off k' len cap l h r : Nat} {e : TypeId} {lo hi : Option Operand} {lv hv : Option Value} (hw : Region.wanted o (yielded ops a.tmps) = true) (ho : o.op = .slice t x lo hi none) (hx : a.eval x = .slice (some ⟨g, off, none⟩) len cap) (hlo : lo.map a.eval = lv) (hhi : hi.map a.eval = hv)
    (hu : P.underlying t = some (.slice e)) (hz : ∀ w, (sizeOf e).run P w = .ok k' w) (hb : bounds? len cap lv hv l h) (hr : (if cap = l then off else off + l * k') = r) {n' c' : Nat} (hn : h - l = n') (hc : cap - l = c') : YieldsIf P ops S o (.slice (some ⟨g, r, none⟩) n' c') a :=
  y_run hw fun w _ => by
    subst hlo
    subst hhi
    unfold execOp
    simp only [ho, hx, Instr.sliceAt, Instr.slice, Sem.run_bind, run_underlying hu, Result.andThen_ok, Sem.run_pure, Option.map_none, run_bounds hb, hz, Option.map_some, Addr_add, hn, hc, ← hr]
    congr 4
    split <;> rfl
theorem y_sln {ao : Option Addr} {k' len cap l h : Nat} {e : TypeId} {lo hi : Option Operand} {lv hv : Option Value} (hw : Region.wanted o (yielded ops a.tmps) = true) (ho : o.op = .slice t x lo hi none) (hx : a.eval x = .slice ao len cap) (hlo : lo.map a.eval = lv) (hhi : hi.map a.eval = hv)
    (hu : P.underlying t = some (.slice e)) (hz : ∀ w, (sizeOf e).run P w = .ok k' w) (hb : bounds? len cap lv hv l h) {n' c' : Nat} (hn : h - l = n') (hc : cap - l = c') : YieldsIf P ops S o (.slice (if cap = l then ao else ao.map (·.add (l * k'))) n' c') a :=
  y_run hw fun w _ => by
    subst hlo
    subst hhi
    unfold execOp
    simp only [ho, hx, Instr.sliceAt, Instr.slice, Sem.run_bind, run_underlying hu, Result.andThen_ok, Sem.run_pure, Option.map_none, run_bounds hb, hz, hn, hc]
theorem y_len {ao : Option Addr} {l c : Nat} {e ty : TypeId} (hw : Region.wanted o (yielded ops a.tmps) = true) (ho : o.op = .call { callee := .builtin .len, args := #[x], argTypes := #[ty] }) (hx : a.eval x = .slice ao l c) (hu : P.underlying ty = some (.slice e)) : YieldsIf P ops S o (.int .i64 (l : Int)) a :=
  y_run hw fun w _ => by
    unfold execOp
    simp [ho, resolve, invoke, builtin, Builtin.len_, hx, run_underlying hu, Sem.run_bind, goInt]
theorem y_min {r : Int} {tys : Array TypeId} (hw : Region.wanted o (yielded ops a.tmps) = true) (ho : o.op = .call { callee := .builtin .min, args := #[x, y], argTypes := tys }) (hx : a.eval x = .int k m) (hy : a.eval y = .int k n) (hr : (if n < m then n else m) = r) : YieldsIf P ops S o (.int k r) a :=
  y_run hw fun w _ => by
    unfold execOp
    simp [ho, resolve, invoke, builtin, Builtin.min_, Builtin.min2, hx, hy, hr]
theorem y_max {r : Int} {tys : Array TypeId} (hw : Region.wanted o (yielded ops a.tmps) = true) (ho : o.op = .call { callee := .builtin .max, args := #[x, y], argTypes := tys }) (hx : a.eval x = .int k m) (hy : a.eval y = .int k n) (hr : (if n > m then n else m) = r) : YieldsIf P ops S o (.int k r) a :=
  y_run hw fun w _ => by
    unfold execOp
    simp [ho, resolve, invoke, builtin, Builtin.max_, Builtin.max2, hx, hy, hr]
theorem y_func {fn : Fn} {fi ca : List Operand} {fv cv : List Value} (hw : Region.wanted o (yielded ops a.tmps) = true) (ho : o.op = .makeFunc fn fi.toArray ca.toArray) (hf : fi.map a.eval = fv) (hc : ca.map a.eval = cv) : YieldsIf P ops S o (.func fn fv.toArray cv.toArray) a :=
  y_run hw fun w _ => by
    subst hf
    subst hc
    unfold execOp
    simp only [ho, Instr.makeFunc, List.map_toArray]
    rfl
theorem run_loadVar1 {p : Addr} {v : Value} (w : World) (hi : (isAgg t).run P w = .ok false w) (hc : w.cell? p = some v) : (loadVar t p).run P w = .ok v w := by
  simp [loadVar, hi, hc, go_sem]
theorem y_loadc {g off : Nat} {v : Value} (hw : Region.wanted o (yielded ops a.tmps) = true) (ho : o.op = .load t x) (hx : a.eval x = .pointer (some ⟨g, off, none⟩)) (hi : ∀ w, (isAgg t).run P w = .ok false w) (hS : ∀ w, S w → w.cell? ⟨g, off, none⟩ = some v) : YieldsIf P ops S o v a :=
  y_run hw fun w hw' => by
    unfold execOp
    simp only [ho, hx, Instr.loadAt, Instr.sureAddr, Sem.run_bind, Sem.run_pure, Result.andThen_ok, run_loadVar1 w (hi w) (hS w hw')]
theorem cell_of_blk {g off : Nat} {T : TypeId} {C : List Value} {v : Value} {w : World} (h : (blk g T C).holds w) (hv : C[off]? = some v) : w.cell? ⟨g, off, none⟩ = some v := by
  have h' : w.heap[g]? = some (.cells C.toArray T (0, 0)) := h
  rw [cell_of_row w g off _ _ _ h', ← Array.getElem?_toList]
  exact hv
theorem y_load {g off : Nat} {T : TypeId} {C : List Value} {v : Value} (hw : Region.wanted o (yielded ops a.tmps) = true) (ho : o.op = .load t x) (hx : a.eval x = .pointer (some ⟨g, off, none⟩)) (hi : ∀ w, (isAgg t).run P w = .ok false w) (hS : ∀ w, S w → (blk g T C).holds w) (hv : C[off]? = some v) : YieldsIf P ops S o v a :=
  y_loadc hw ho hx hi fun w h => cell_of_blk (hS w h) hv
theorem y_loadr {g off : Nat} {d : TypeDesc} {cs : List Value} (hw : Region.wanted o (yielded ops a.tmps) = true) (ho : o.op = .load t x) (hx : a.eval x = .pointer (some ⟨g, off, none⟩)) (hu : P.underlying t = some d) (hd : d.isRow = true) (hi : Box ((P.info? t).map (·.size) = some cs.length)) (hS : ∀ w, S w → w.rangeAt g off cs) : YieldsIf P ops S o (.agg cs.toArray) a :=
  yieldsIf_load_mid hw t x ho g off hx cs d hS hu hd hi.out
theorem y_loadb {g off : Nat} {T : TypeId} {C : List Value} {d : TypeDesc} {cs : List Value} (hw : Region.wanted o (yielded ops a.tmps) = true) (ho : o.op = .load t x) (hx : a.eval x = .pointer (some ⟨g, off, none⟩)) (hu : P.underlying t = some d) (hd : d.isRow = true) (hi : Box ((P.info? t).map (·.size) = some cs.length)) (hS : ∀ w, S w → (blk g T C).holds w) (hv : (C.drop off).take cs.length = cs) : YieldsIf P ops S o (.agg cs.toArray) a :=
  y_loadr hw ho hx hu hd hi fun w h => range_of_block (hS w h) hv
theorem y_build {ps : List (Nat × Operand)} {pv : List (Nat × Value)} {cs : List Value} (hw : Region.wanted o (yielded ops a.tmps) = true) (ho : o.op = .build t ps.toArray) (hp : (ps.map fun p => (p.1, a.eval p.2)) = pv) (hc : P.built t pv = some cs.toArray) : YieldsIf P ops S o (.agg cs.toArray) a :=
  held_built hw t ps ho pv hp _ hc
theorem y_field1 {i : Nat} {fs : Array Field} {f : Field} {cs : Array Value} {v : Value} (hw : Region.wanted o (yielded ops a.tmps) = true) (ho : o.op = .field t x i) (hx : a.eval x = .agg cs) (hu : P.underlying t = some (.struct fs)) (hf : fs[i]? = some f) (hi : ∀ w, (isAgg f.type).run P w = .ok false w) (hv : cs[f.offset]? = some v) : YieldsIf P ops S o v a :=
  y_run hw fun w _ => by
    unfold execOp
    simp only [ho, hx, Instr.field, Sem.run_bind, run_underlying hu, Result.andThen_ok, hf, asAgg, Sem.run_pure, part, hi, Bool.false_eq_true, if_false, hv]
end
end Go.Proofs.YtopdhanbmnfeeaaDoor
