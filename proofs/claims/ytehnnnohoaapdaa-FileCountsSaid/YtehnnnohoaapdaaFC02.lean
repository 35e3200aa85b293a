/- Texts joined: Sep, Law, Mapq, Eff. -/
import Derived.Test.YtehnnnohoaapdaaFC01
import Derived.Maps.OwnSet
/- Memory as a list of assertions, each with the blocks that it stands on. No program in sight. -/
namespace Go.Proofs.Ytehnnnohoaapdaa
set_option linter.unusedSectionVars false
set_option linter.unusedSimpArgs false
open Go Go.RowKit
set_option linter.unusedVariables false
structure Asn where
  foot : List Nat
  holds : World → Prop
  lt : ∀ w, holds w → ∀ b ∈ foot, b < w.heap.size
  keep : ∀ w w', holds w → (∀ b ∈ foot, w'.heap[b]? = w.heap[b]?) → holds w'
def foots (L : List Asn) : List Nat := L.flatMap Asn.foot
def blk (g : Nat) (T : TypeId) (C : List Value) : Asn where
  foot := [g]
  holds w := w.heap[g]? = some (.cells C.toArray T (0, 0))
  lt w h b hb := by
    obtain rfl : b = g := by simpa using hb
    exact heap_lt h
  keep w w' h hk := (hk g (by simp)).trans h
def lst (e : TypeId) (k : Nat) (v : Value) (n : Nat) (xs : List Value) : Asn where
  foot := obs v
  holds w := w.ownsRow 0 e k v n xs
  lt w h b hb := (ownsRow_lt h b (mem_obs.1 hb)).2
  keep w w' h hk := ownsRow_same h fun g hg => hk g (mem_obs.2 hg)
def star (p : Prop) (L : List Asn) : Asn where
  foot := foots L
  holds w := p ∧ ∀ A ∈ L, A.holds w
  lt w h b hb := by
    obtain ⟨A, hA, hb⟩ := List.mem_flatMap.1 hb
    exact A.lt w (h.2 A hA) b hb
  keep w w' h hk := ⟨h.1, fun A hA => A.keep w w' (h.2 A hA) fun b hb => hk b (List.mem_flatMap.2 ⟨A, hA, hb⟩)⟩
structure Mem (w0 : World) (F : List Nat) (w : World) (L : List Asn) : Prop where
  grew : Grew w0 w F
  all : ∀ A ∈ L, A.holds w
  nodup : (foots L).Nodup
  new : ∀ b ∈ foots L, b ∈ F ∨ w0.heap.size ≤ b
theorem foots_append (L R : List Asn) : foots (L ++ R) = foots L ++ foots R := by simp [foots]
theorem foots_cons (A : Asn) (R : List Asn) : foots (A :: R) = A.foot ++ foots R := by simp [foots]
theorem mem_foots {L : List Asn} {b : Nat} : b ∈ foots L ↔ ∃ A ∈ L, b ∈ A.foot := List.mem_flatMap
section
variable {w0 w w' : World} {F : List Nat} {L R : List Asn}
theorem Mem.nil (w : World) : Mem w [] w [] := ⟨Grew.refl _ _, by simp, by simp [foots], by simp [foots]⟩
theorem Mem.lt (h : Mem w0 F w L) : ∀ b ∈ foots L, b < w.heap.size := fun b hb => by
  obtain ⟨A, hA, hb⟩ := mem_foots.1 hb
  exact A.lt w (h.all A hA) b hb
theorem Mem.get (h : Mem w0 F w L) (i : Nat) {A : Asn} (hi : L[i]? = some A) : A.holds w := h.all A (List.mem_of_getElem? hi)
theorem Mem.perm {L' : List Asn} (h : Mem w0 F w L) (p : L.Perm L') : Mem w0 F w L' := by
  have p' : (foots L).Perm (foots L') := List.Perm.flatMap_right _ p
  exact ⟨h.grew, fun A hA => h.all A (p.mem_iff.2 hA), p'.nodup_iff.1 h.nodup, fun b hb => h.new b (p'.mem_iff.2 hb)⟩
theorem Mem.left (h : Mem w0 F w (L ++ R)) : Mem w0 F w L := by
  have := h.nodup
  rw [foots_append, List.nodup_append] at this
  exact ⟨h.grew, fun A hA => h.all A (List.mem_append_left _ hA), this.1, fun b hb => h.new b (by rw [foots_append]; exact List.mem_append_left _ hb)⟩
theorem Mem.right (h : Mem w0 F w (L ++ R)) : Mem w0 F w R := (h.perm List.perm_append_comm).left
theorem Mem.here (h : Mem w0 F w (L ++ R)) : Mem w (foots L) w L := by
  have := h.left
  exact ⟨Grew.refl _ _, this.all, this.nodup, fun b hb => .inl hb⟩
theorem Mem.frame {Pre Post : List Asn} (h : Mem w0 F w (Pre ++ R)) (h' : Mem w (foots Pre) w' Post) : Mem w0 F w' (Post ++ R) := by
  have hn := h.nodup
  rw [foots_append, List.nodup_append] at hn
  obtain ⟨n1, n2, n3⟩ := hn
  have hR : ∀ b ∈ foots R, w'.heap[b]? = w.heap[b]? := fun b hb => h'.grew.block b (h.lt b (by rw [foots_append]; exact List.mem_append_right _ hb)) fun hp => n3 b hp b hb rfl
  have hPF : ∀ b ∈ foots Pre, b ∈ F ∨ w0.heap.size ≤ b := fun b hb => h.new b (by rw [foots_append]; exact List.mem_append_left _ hb)
  refine ⟨h.grew.trans h'.grew hPF, fun A hA => ?_, ?_, fun b hb => ?_⟩
  · rcases List.mem_append.1 hA with hA | hA
    · exact h'.all A hA
    · exact A.keep w w' (h.all A (List.mem_append_right _ hA)) fun b hb => hR b (mem_foots.2 ⟨A, hA, hb⟩)
  · rw [foots_append, List.nodup_append]
    refine ⟨h'.nodup, n2, fun a ha b hb e => ?_⟩
    subst e
    rcases h'.new a ha with hx | hx
    · exact n3 a hx a hb rfl
    · have := h.lt a (by rw [foots_append]; exact List.mem_append_right _ hb); omega
  · rw [foots_append] at hb
    rcases List.mem_append.1 hb with hb | hb
    · rcases h'.new b hb with hx | hx
      · exact hPF b hx
      · exact .inr (Nat.le_trans h.grew.size hx)
    · exact h.new b (by rw [foots_append]; exact List.mem_append_right _ hb)
theorem Mem.step (h : Mem w0 F w L) (h' : Mem w [] w' R) : Mem w0 F w' (R ++ L) := Mem.frame (Pre := []) (R := L) h h'
theorem Mem.low (h : Mem w0 F w L) (h' : Below w.heap.size w w') : Mem w0 F w' L := h.step (R := []) ⟨Grew.low h' _, by simp, by simp [foots], by simp [foots]⟩
theorem Mem.drew (h : Mem w0 F w L) : Mem w0 F w.drew L := h.low (Below.refl _ _).drew
theorem Mem.alloc (h : Mem w0 F w L) (C : List Value) (T : TypeId) : Mem w0 F (w.alloc (.cells C.toArray T)) (blk w.heap.size T C :: L) :=
  h.step (R := [blk w.heap.size T C]) ⟨Grew.low (Below.refl_alloc w _) _, fun A hA => by
    obtain rfl : A = _ := by simpa using hA
    exact heap_new rfl, by simp [foots, blk], fun b hb => .inr (by
      obtain rfl : b = w.heap.size := by simpa [foots, blk] using hb
      exact Nat.le_refl _)⟩
theorem splice_all0 (l m : List Value) (h : m.length = l.length) : splice l 0 m = m := by
  unfold splice; simp [h]
theorem set_split {α : Type} : ∀ (L : List α) (i : Nat) (A B : α), L[i]? = some A → ∃ X Y, L = X ++ A :: Y ∧ L.set i B = X ++ B :: Y
  | [], i, A, B, h => by simp at h
  | x :: L, 0, A, B, h => ⟨[], L, by obtain rfl : x = A := by simpa using h
                                     rfl, rfl⟩
  | x :: L, i + 1, A, B, h => by
    obtain ⟨X, Y, h1, h2⟩ := set_split L i A B (by simpa using h)
    exact ⟨x :: X, Y, by rw [h1]; rfl, by rw [List.set_cons_succ, h2]; rfl⟩
theorem Mem.upd (h : Mem w0 F w L) (i : Nat) {A B : Asn} (hi : L[i]? = some A) (h' : Mem w A.foot w' [B]) : Mem w0 F w' (L.set i B) := by
  obtain ⟨X, Y, h1, h2⟩ := set_split L i A B hi
  rw [h2]
  rw [h1] at h
  have h3 : Mem w0 F w ([A] ++ (X ++ Y)) := h.perm (List.perm_middle)
  have h4 : Mem w0 F w' ([B] ++ (X ++ Y)) := h3.frame (by rw [show foots [A] = A.foot by simp [foots]]; exact h')
  have hp : ([B] ++ (X ++ Y)).Perm (X ++ B :: Y) := (List.perm_middle (a := B) (l₁ := X) (l₂ := Y)).symm
  exact h4.perm hp
theorem Mem.one {A : Asn} {row : Option Nat} (hg : w.grownBy w' row) (hr : ∀ g, row = some g → g ∈ F) (hA : A.holds w') (hn : A.foot.Nodup) (hf : ∀ b ∈ A.foot, b ∈ F ∨ w.heap.size ≤ b) : Mem w F w' [A] :=
  ⟨Grew.of hg hr, fun B hB => by obtain rfl : B = A := by simpa using hB
                                 exact hA, by simpa [foots] using hn, fun b hb => hf b (by simpa [foots] using hb)⟩
theorem Mem.setBlk (h : Mem w0 F w L) (i : Nat) {g : Nat} {T : TypeId} {C : List Value} (C' : List Value) (hi : L[i]? = some (blk g T C)) (hg : w.grownBy w' (some g)) (hb : w'.heap[g]? = some (.cells C'.toArray T (0, 0))) : Mem w0 F w' (L.set i (blk g T C')) :=
  h.upd i hi (Mem.one hg (fun x hx => by cases hx; simp [blk]) hb (by simp [blk]) (fun b hb => .inl hb))
theorem Mem.arr (h : Mem w0 F w L) (ix : List Nat) (hn : ix.Nodup) : Mem w0 F w (ix.filterMap (L[·]?)) := by
  have hs : ∀ A ∈ ix.filterMap (L[·]?), A ∈ L := fun A hA => by
    obtain ⟨i, _, hi⟩ := List.mem_filterMap.1 hA
    exact List.mem_of_getElem? hi
  have hN := h.nodup
  unfold foots List.Nodup at hN
  rw [List.pairwise_flatMap] at hN
  refine ⟨h.grew, fun A hA => h.all A (hs A hA), ?_, fun b hb => ?_⟩
  · unfold foots List.Nodup
    rw [List.pairwise_flatMap]
    refine ⟨fun A hA => hN.1 A (hs A hA), ?_⟩
    rw [List.pairwise_filterMap]
    refine List.Pairwise.imp (fun {i j} hij A hA B hB x hx y hy => ?_) hn
    obtain ⟨hi, rfl⟩ := List.getElem?_eq_some_iff.1 hA
    obtain ⟨hj, rfl⟩ := List.getElem?_eq_some_iff.1 hB
    have hp := List.pairwise_iff_getElem.1 hN.2
    rcases Nat.lt_or_gt_of_ne hij with hlt | hlt
    · exact hp i j hi hj hlt x hx y hy
    · exact (hp j i hj hi hlt y hy x hx).symm
  · obtain ⟨A, hA, hb⟩ := mem_foots.1 hb
    exact h.new b (mem_foots.2 ⟨A, hs A hA, hb⟩)
theorem Mem.apart (h : Mem w0 F w L) (i j : Nat) (hij : i ≠ j) {A B : Asn} (hA : L[i]? = some A) (hB : L[j]? = some B) {b : Nat} (h1 : b ∈ A.foot) (h2 : b ∈ B.foot) : False := by
  have hN := h.nodup
  unfold foots List.Nodup at hN
  rw [List.pairwise_flatMap] at hN
  obtain ⟨hi, rfl⟩ := List.getElem?_eq_some_iff.1 hA
  obtain ⟨hj, rfl⟩ := List.getElem?_eq_some_iff.1 hB
  have hp := List.pairwise_iff_getElem.1 hN.2
  rcases Nat.lt_or_gt_of_ne hij with hlt | hlt
  · exact hp i j hi hj hlt b h1 b h2 rfl
  · exact hp j i hj hi hlt b h2 b h1 rfl
theorem Mem.open {p : Prop} {X : List Asn} (h : Mem w0 F w (star p X :: R)) : p ∧ Mem w0 F w (X ++ R) := by
  have hs := h.all (star p X) (List.mem_cons_self ..)
  refine ⟨hs.1, h.grew, fun A hA => ?_, ?_, fun b hb => h.new b ?_⟩
  · rcases List.mem_append.1 hA with hA | hA
    · exact hs.2 A hA
    · exact h.all A (List.mem_cons_of_mem _ hA)
  · have := h.nodup
    rw [foots_cons] at this
    rw [foots_append]
    exact this
  · rw [foots_append] at hb
    rw [foots_cons]
    exact hb
theorem Mem.close {p : Prop} {X : List Asn} (hp : p) (h : Mem w0 F w (X ++ R)) : Mem w0 F w (star p X :: R) := by
  refine ⟨h.grew, fun A hA => ?_, ?_, fun b hb => h.new b ?_⟩
  · rcases List.mem_cons.1 hA with rfl | hA
    · exact ⟨hp, fun A hA => h.all A (List.mem_append_left _ hA)⟩
    · exact h.all A (List.mem_append_right _ hA)
  · have := h.nodup
    rw [foots_append] at this
    rw [foots_cons]
    exact this
  · rw [foots_cons] at hb
    rw [foots_append]
    exact hb
theorem Mem.old (h : Mem w0 F w L) {b : Nat} (hb : b < w0.heap.size) (hF : b ∉ F) : w.heap[b]? = w0.heap[b]? := h.grew.block b hb hF
theorem Mem.row (h : Mem w0 F w L) {ao : Option Addr} {n : Nat} {l : List UInt8} (hr : Row w0 ao n l) (hF : ∀ b o, ao = some ⟨b, o, none⟩ → 0 < n → b ∉ F) : Row w ao n l := by
  refine ⟨hr.1, fun i hi => ?_⟩
  obtain ⟨b, o, e, hc⟩ := hr.2 i hi
  exact ⟨b, o, e, (World.cell?_of_block (w := w0) (w' := w) (a := ⟨b, o + i, none⟩) (h.old (block_lt_of_cell hc) (hF b o e (by have := hr.1; omega)))).trans hc⟩
end
end Go.Proofs.Ytehnnnohoaapdaa

/- What single operations yield, each by its own law: the operation's text, its operands, what it leaves. No program in sight. -/
namespace Go.Proofs.Ytehnnnohoaapdaa
set_option linter.unusedSimpArgs false
open Go Go.RowKit
set_option linter.unusedVariables false
set_option linter.unusedSectionVars false
section
variable {P : Program} {ops : Array Oper} {S : World → Prop} {o : Oper} {a : Act} {k : IntKind} {m n : Int} {x y : Operand} {t t' : TypeId}
theorem y_run {v : Value} (hw : Region.wanted o (yielded ops a.tmps) = true) (h : ∀ w, S w → (execOp a.eval o).run P w = .ok (.value v) w) : YieldsIf P ops S o v a := .inl ⟨hw, h⟩
theorem y_move {v : Value} (hw : Region.wanted o (yielded ops a.tmps) = true) (ho : o.op = .move x) (hx : a.eval x = v) : YieldsIf P ops S o v a :=
  y_run hw fun w _ => by unfold execOp; simp only [ho, hx]; rfl
theorem y_assign {v : Value} (hw : Region.wanted o (yielded ops a.tmps) = true) (ho : o.op = .assign x) (hx : a.eval x = v) : YieldsIf P ops S o v a :=
  y_run hw fun w _ => by unfold execOp; simp only [ho, hx]; rfl
theorem y_pickT {c : Operand} {v : Value} (hw : Region.wanted o (yielded ops a.tmps) = true) (ho : o.op = .pick c x y) (hc : a.eval c = .bool true) (hx : a.eval x = v) : YieldsIf P ops S o v a :=
  y_run hw fun w _ => by unfold execOp; simp only [ho, hc, hx]; rfl
theorem y_pickF {c : Operand} {v : Value} (hw : Region.wanted o (yielded ops a.tmps) = true) (ho : o.op = .pick c x y) (hc : a.eval c = .bool false) (hy : a.eval y = v) : YieldsIf P ops S o v a :=
  y_run hw fun w _ => by unfold execOp; simp only [ho, hc, hy]; rfl
theorem y_not {b b' : Bool} (hw : Region.wanted o (yielded ops a.tmps) = true) (ho : o.op = .unOp .not t x) (hx : a.eval x = .bool b) (hb : (!b) = b') : YieldsIf P ops S o (.bool b') a :=
  y_run hw fun w _ => by unfold execOp; simp only [ho, hx, ← hb]; rfl
theorem y_nil {p : Addr} (hw : Region.wanted o (yielded ops a.tmps) = true) (ho : o.op = .nilCheck x) (hx : a.eval x = .pointer (some p)) : YieldsIf P ops S o (.pointer (some p)) a :=
  y_run hw fun w _ => by unfold execOp; simp only [ho, hx]; rfl
theorem y_bin {op : BinOp} {u u' r : Value} (hw : Region.wanted o (yielded ops a.tmps) = true) (ho : o.op = .binOp op t x y t') (hx : a.eval x = u) (hy : a.eval y = u') (hg : eqGuard op t x y u u' = pure ()) (hr : ∀ w, (binOp op t u u').run P w = .ok r w) : YieldsIf P ops S o r a :=
  y_run hw fun w _ => by
    unfold execOp
    simp only [ho, hx, hy, hg, Sem.run_bind, Sem.run_pure, Result.andThen_ok, hr]
theorem guard_int (op : BinOp) (k : IntKind) (m : Int) (u : Value) : eqGuard op t x y (.int k m) u = pure () := by unfold eqGuard; split <;> rfl
theorem guard_bool (op : BinOp) (b : Bool) (u : Value) : eqGuard op t x y (.bool b) u = pure () := by unfold eqGuard; split <;> rfl
theorem guard_ptr (op : BinOp) (b : Option Addr) (u : Value) : eqGuard op t x y (.pointer b) u = pure () := by unfold eqGuard; split <;> rfl
theorem y_lss {b : Bool} (hw : Region.wanted o (yielded ops a.tmps) = true) (ho : o.op = .binOp .lss t x y t') (hx : a.eval x = .int k m) (hy : a.eval y = .int k n) (hb : decide (m < n) = b) : YieldsIf P ops S o (.bool b) a :=
  y_bin hw ho hx hy (guard_int ..) fun w => by unfold binOp; simp [Op.intCmp, ← hb]
theorem y_leq {b : Bool} (hw : Region.wanted o (yielded ops a.tmps) = true) (ho : o.op = .binOp .leq t x y t') (hx : a.eval x = .int k m) (hy : a.eval y = .int k n) (hb : decide (m ≤ n) = b) : YieldsIf P ops S o (.bool b) a :=
  y_bin hw ho hx hy (guard_int ..) fun w => by unfold binOp; simp [Op.intCmp, ← hb]
theorem y_gtr {b : Bool} (hw : Region.wanted o (yielded ops a.tmps) = true) (ho : o.op = .binOp .gtr t x y t') (hx : a.eval x = .int k m) (hy : a.eval y = .int k n) (hb : decide (n < m) = b) : YieldsIf P ops S o (.bool b) a :=
  y_bin hw ho hx hy (guard_int ..) fun w => by unfold binOp; simp [Op.intCmp, ← hb]
theorem y_geq {b : Bool} (hw : Region.wanted o (yielded ops a.tmps) = true) (ho : o.op = .binOp .geq t x y t') (hx : a.eval x = .int k m) (hy : a.eval y = .int k n) (hb : decide (n ≤ m) = b) : YieldsIf P ops S o (.bool b) a :=
  y_bin hw ho hx hy (guard_int ..) fun w => by unfold binOp; simp [Op.intCmp, ← hb]
theorem y_eql {b : Bool} (hw : Region.wanted o (yielded ops a.tmps) = true) (ho : o.op = .binOp .eql t x y t') (hx : a.eval x = .int k m) (hy : a.eval y = .int k n) (hb : decide (m = n) = b) : YieldsIf P ops S o (.bool b) a :=
  y_bin hw ho hx hy (guard_int ..) fun w => by unfold binOp; simp only [Op.intCmp, ne_eq, not_true_eq_false, if_false, ← hb]; rfl
theorem y_neq {b : Bool} (hw : Region.wanted o (yielded ops a.tmps) = true) (ho : o.op = .binOp .neq t x y t') (hx : a.eval x = .int k m) (hy : a.eval y = .int k n) (hb : (!decide (m = n)) = b) : YieldsIf P ops S o (.bool b) a :=
  y_bin hw ho hx hy (guard_int ..) fun w => by unfold binOp; simp only [Op.intCmp, ne_eq, not_true_eq_false, if_false, ← hb]; rfl
theorem wrap64_of {m : Int} (h : -9223372036854775808 ≤ m ∧ m ≤ 9223372036854775807) : IntKind.i64.wrap m = m := by
  simp only [IntKind.wrap, IntKind.signed, IntKind.bits]
  simp
  omega
theorem y_add {r : Int} (hw : Region.wanted o (yielded ops a.tmps) = true) (ho : o.op = .binOp .add t x y t') (hx : a.eval x = .int .i64 m) (hy : a.eval y = .int .i64 n) (hr : m + n = r) (h : -9223372036854775808 ≤ r ∧ r ≤ 9223372036854775807) : YieldsIf P ops S o (.int .i64 r) a :=
  y_bin hw ho hx hy (guard_int ..) fun w => by subst hr; unfold binOp; simp [Op.intArith, wrap64_of h]
theorem y_sub {r : Int} (hw : Region.wanted o (yielded ops a.tmps) = true) (ho : o.op = .binOp .sub t x y t') (hx : a.eval x = .int .i64 m) (hy : a.eval y = .int .i64 n) (hr : m - n = r) (h : -9223372036854775808 ≤ r ∧ r ≤ 9223372036854775807) : YieldsIf P ops S o (.int .i64 r) a :=
  y_bin hw ho hx hy (guard_int ..) fun w => by subst hr; unfold binOp; simp [Op.intArith, wrap64_of h]
theorem y_addw (hw : Region.wanted o (yielded ops a.tmps) = true) (ho : o.op = .binOp .add t x y t') (hx : a.eval x = .int .i64 m) (hy : a.eval y = .int .i64 n) : YieldsIf P ops S o (.int .i64 (wrap64 (m + n))) a :=
  y_bin hw ho hx hy (guard_int ..) fun w => by unfold binOp; simp [Op.intArith, IntKind.wrap, IntKind.signed, IntKind.bits, wrap64]; split <;> omega
theorem y_rem {r : Int} (hw : Region.wanted o (yielded ops a.tmps) = true) (ho : o.op = .binOp .rem t x y t') (hx : a.eval x = .int k m) (hy : a.eval y = .int k n) (h0 : n ≠ 0) (hr : m.tmod n = r) : YieldsIf P ops S o (.int k r) a :=
  y_bin hw ho hx hy (guard_int ..) fun w => by subst hr; unfold binOp; simp [Op.intDiv, h0]
theorem y_neb {b c r : Bool} (hw : Region.wanted o (yielded ops a.tmps) = true) (ho : o.op = .binOp .neq t x y t') (hx : a.eval x = .bool b) (hy : a.eval y = .bool c) (hu : P.underlying t = some .bool) (hr : (!(b == c)) = r) : YieldsIf P ops S o (.bool r) a :=
  y_bin hw ho hx hy (guard_bool ..) fun w => by
    unfold binOp Op.equal Op.maxDepth Op.equalIn
    simp [run_underlying hu, ← hr]
theorem y_eqnil {e : TypeId} {p : Option Addr} {r : Bool} (hw : Region.wanted o (yielded ops a.tmps) = true) (ho : o.op = .binOp .eql t x y t') (hx : a.eval x = .pointer p) (hy : a.eval y = .pointer none) (hu : P.underlying t = some (.pointer e)) (hr : p.isNone = r) : YieldsIf P ops S o (.bool r) a :=
  y_bin hw ho hx hy (guard_ptr ..) fun w => by
    unfold binOp Op.equal Op.maxDepth Op.equalIn
    cases p <;> simp [run_underlying hu, ← hr]
theorem y_conv {k' : IntKind} {r : Int} (hw : Region.wanted o (yielded ops a.tmps) = true) (ho : o.op = .convert t t' x) (hx : a.eval x = .int k m) (hu : P.underlying t = some (.int k)) (hu' : P.underlying t' = some (.int k')) (hr : k'.wrap m = r) : YieldsIf P ops S o (.int k' r) a :=
  y_run hw fun w _ => by
    unfold execOp
    simp only [ho, hx, convert, Sem.run_bind, run_underlying hu, run_underlying hu', Result.andThen_ok, ← hr]
    rfl
theorem y_ext {vs : Array Value} {v : Value} {i : Nat} (hw : Region.wanted o (yielded ops a.tmps) = true) (ho : o.op = .extract x i) (hx : a.eval x = .tuple vs) (hi : vs[i]? = some v) : YieldsIf P ops S o v a :=
  y_run hw fun w _ => by
    unfold execOp
    simp only [ho, hx, Instr.extract, hi, Sem.run_bind, Sem.run_pure, Result.andThen_ok]
theorem Addr_add (b off n : Nat) : (⟨b, off, none⟩ : Addr).add n = ⟨b, off + n, none⟩ := by unfold Addr.add; split <;> simp_all
theorem y_fa {g off i r z : Nat} {fs : Array Field} {f : Field} (hw : Region.wanted o (yielded ops a.tmps) = true) (ho : o.op = .fieldAddr t x i) (hx : a.eval x = .pointer (some ⟨g, off, none⟩)) (hu : P.underlying t = some (.struct fs)) (hf : fs[i]? = some f)
    (hz : ∀ w, (sizeOf f.type).run P w = .ok (z + 1) w) (hr : off + f.offset = r) : YieldsIf P ops S o (.pointer (some ⟨g, r, none⟩)) a :=
  y_run hw fun w _ => by
    unfold execOp
    simp only [ho, hx, Instr.fieldAt, Sem.run_bind, run_underlying hu, Result.andThen_ok, hf, Instr.sureAddr, Sem.run_pure, fieldPlace, hz]
    simp [Addr_add, hr]
theorem y_ias {g off c k' : Nat} {l : Nat} {i : Int} {e : TypeId} {r : Nat} (hw : Region.wanted o (yielded ops a.tmps) = true) (ho : o.op = .indexAddr t x y) (hx : a.eval x = .slice (some ⟨g, off, none⟩) l c) (hy : a.eval y = .int k i) (hu : P.underlying t = some (.slice e))
    (hz : ∀ w, (sizeOf e).run P w = .ok k' w) (h : 0 ≤ i ∧ i < l) (hr : off + i.toNat * k' = r) : YieldsIf P ops S o (.pointer (some ⟨g, r, none⟩)) a :=
  y_run hw fun w _ => by
    unfold execOp
    simp only [ho, hx, hy, Instr.indexAt, asIntOf, Sem.run_bind, run_underlying hu, Result.andThen_ok, Sem.run_pure]
    rw [if_pos h]
    simp only [Sem.run_bind, hz, Result.andThen_ok, Sem.run_pure, Addr_add, hr]
theorem y_iaa {g off k' : Nat} {l : Nat} {i : Int} {e : TypeId} {r : Nat} (hw : Region.wanted o (yielded ops a.tmps) = true) (ho : o.op = .indexAddr t x y) (hx : a.eval x = .pointer (some ⟨g, off, none⟩)) (hy : a.eval y = .int k i) (hu : P.underlying t = some (.array l e))
    (hz : ∀ w, (sizeOf e).run P w = .ok k' w) (h : 0 ≤ i ∧ i < l) (hr : off + i.toNat * k' = r) : YieldsIf P ops S o (.pointer (some ⟨g, r, none⟩)) a :=
  y_run hw fun w _ => by
    unfold execOp
    simp only [ho, hx, hy, Instr.indexAt, asIntOf, Sem.run_bind, run_underlying hu, Result.andThen_ok, Sem.run_pure, Instr.sureAddr]
    rw [if_pos h]
    simp only [Sem.run_bind, hz, Result.andThen_ok, Sem.run_pure, Addr_add, hr]
def bounds? (len cap : Nat) (lo hi : Option Value) (l h : Nat) : Prop :=
  (match hi with | none => h = len | some v => ∃ k i, v = .int k i ∧ i = (h : Int) ∧ h ≤ cap) ∧ (match lo with | none => l = 0 | some v => ∃ k i, v = .int k i ∧ i = (l : Int) ∧ l ≤ h)
theorem run_bounds {isS : Bool} {len cap l h : Nat} {lo hi : Option Value} (hb : bounds? len cap lo hi l h) (w : World) : (Instr.sliceBounds isS len cap lo hi none).run P w = .ok (l, h, cap) w := by
  obtain ⟨hh, hl⟩ := hb
  unfold Instr.sliceBounds
  cases hi with
  | none =>
    subst hh
    cases lo with
    | none => subst hl; rfl
    | some v =>
      obtain ⟨k, i, rfl, rfl, h2⟩ := hl
      simp [Instr.sliceBound, asIntOf, h2]
  | some u =>
    obtain ⟨k, i, rfl, rfl, h1⟩ := hh
    cases lo with
    | none => subst hl; simp [Instr.sliceBound, asIntOf, h1]
    | some v =>
      obtain ⟨k', i', rfl, rfl, h2⟩ := hl
      simp [Instr.sliceBound, asIntOf, h1, h2]
theorem y_sla {g off k' len l h r : Nat} {e : TypeId} {lo hi : Option Operand} {lv hv : Option Value} (hw : Region.wanted o (yielded ops a.tmps) = true) (ho : o.op = .slice t x lo hi none) (hx : a.eval x = .pointer (some ⟨g, off, none⟩)) (hlo : lo.map a.eval = lv) (hhi : hi.map a.eval = hv)
    (hu : P.underlying t = some (.array len e)) (hz : ∀ w, (sizeOf e).run P w = .ok k' w) (hb : bounds? len len lv hv l h) (hr : (if len = l then off else off + l * k') = r) {n' c' : Nat} (hn : h - l = n') (hc : len - l = c') : YieldsIf P ops S o (.slice (some ⟨g, r, none⟩) n' c') a :=
  y_run hw fun w _ => by
    subst hlo
    subst hhi
    unfold execOp
    simp only [ho, hx, Instr.sliceAt, Sem.run_bind, run_underlying hu, Result.andThen_ok, Instr.sureAddr, Sem.run_pure, Option.map_none, run_bounds hb, hz, Addr_add, hn, hc, ← hr]
    congr 4
    split <;> rfl
theorem y_sls {g off k' len cap l h r : Nat} {e : TypeId} {lo hi : Option Operand} {lv hv : Option Value} (hw : Region.wanted o (yielded ops a.tmps) = true) (ho : o.op = .slice t x lo hi none) (hx : a.eval x = .slice (some ⟨g, off, none⟩) len cap) (hlo : lo.map a.eval = lv) (hhi : hi.map a.eval = hv)
    (hu : P.underlying t = some (.slice e)) (hz : ∀ w, (sizeOf e).run P w = .ok k' w) (hb : bounds? len cap lv hv l h) (hr : (if cap = l then off else off + l * k') = r) {n' c' : Nat} (hn : h - l = n') (hc : cap - l = c') : YieldsIf P ops S o (.slice (some ⟨g, r, none⟩) n' c') a :=
  y_run hw fun w _ => by
    subst hlo
    subst hhi
    unfold execOp
    simp only [ho, hx, Instr.sliceAt, Instr.slice, Sem.run_bind, run_underlying hu, Result.andThen_ok, Sem.run_pure, Option.map_none, run_bounds hb, hz, Option.map_some, Addr_add, hn, hc, ← hr]
    congr 4
    split <;> rfl
theorem y_len {ao : Option Addr} {l c : Nat} {e ty : TypeId} (hw : Region.wanted o (yielded ops a.tmps) = true) (ho : o.op = .call { callee := .builtin .len, args := #[x], argTypes := #[ty] }) (hx : a.eval x = .slice ao l c) (hu : P.underlying ty = some (.slice e)) : YieldsIf P ops S o (.int .i64 (l : Int)) a :=
  y_run hw fun w _ => by
    unfold execOp
    simp [ho, resolve, invoke, builtin, Builtin.len_, hx, run_underlying hu, Sem.run_bind, goInt]
theorem y_func {fn : Fn} {fi ca : List Operand} {fv cv : List Value} (hw : Region.wanted o (yielded ops a.tmps) = true) (ho : o.op = .makeFunc fn fi.toArray ca.toArray) (hf : fi.map a.eval = fv) (hc : ca.map a.eval = cv) : YieldsIf P ops S o (.func fn fv.toArray cv.toArray) a :=
  y_run hw fun w _ => by
    subst hf
    subst hc
    unfold execOp
    simp only [ho, Instr.makeFunc, List.map_toArray]
    rfl
theorem run_loadVar1 {p : Addr} {v : Value} (w : World) (hi : (isAgg t).run P w = .ok false w) (hc : w.cell? p = some v) : (loadVar t p).run P w = .ok v w := by
  simp [loadVar, hi, hc, go_sem]
theorem y_loadc {g off : Nat} {v : Value} (hw : Region.wanted o (yielded ops a.tmps) = true) (ho : o.op = .load t x) (hx : a.eval x = .pointer (some ⟨g, off, none⟩)) (hi : ∀ w, (isAgg t).run P w = .ok false w) (hS : ∀ w, S w → w.cell? ⟨g, off, none⟩ = some v) : YieldsIf P ops S o v a :=
  y_run hw fun w hw' => by
    unfold execOp
    simp only [ho, hx, Instr.loadAt, Instr.sureAddr, Sem.run_bind, Sem.run_pure, Result.andThen_ok, run_loadVar1 w (hi w) (hS w hw')]
theorem cell_of_blk {g off : Nat} {T : TypeId} {C : List Value} {v : Value} {w : World} (h : (blk g T C).holds w) (hv : C[off]? = some v) : w.cell? ⟨g, off, none⟩ = some v := by
  have h' : w.heap[g]? = some (.cells C.toArray T (0, 0)) := h
  rw [cell_of_row w g off _ _ _ h', ← Array.getElem?_toList]
  exact hv
theorem y_load {g off : Nat} {T : TypeId} {C : List Value} {v : Value} (hw : Region.wanted o (yielded ops a.tmps) = true) (ho : o.op = .load t x) (hx : a.eval x = .pointer (some ⟨g, off, none⟩)) (hi : ∀ w, (isAgg t).run P w = .ok false w) (hS : ∀ w, S w → (blk g T C).holds w) (hv : C[off]? = some v) : YieldsIf P ops S o v a :=
  y_loadc hw ho hx hi fun w h => cell_of_blk (hS w h) hv
theorem y_loadr {g off : Nat} {d : TypeDesc} {cs : List Value} (hw : Region.wanted o (yielded ops a.tmps) = true) (ho : o.op = .load t x) (hx : a.eval x = .pointer (some ⟨g, off, none⟩)) (hu : P.underlying t = some d) (hd : d.isRow = true) (hi : Box ((P.info? t).map (·.size) = some cs.length)) (hS : ∀ w, S w → w.rangeAt g off cs) : YieldsIf P ops S o (.agg cs.toArray) a :=
  yieldsIf_load_mid hw t x ho g off hx cs d hS hu hd hi.out
theorem y_loadb {g off : Nat} {T : TypeId} {C : List Value} {d : TypeDesc} {cs : List Value} (hw : Region.wanted o (yielded ops a.tmps) = true) (ho : o.op = .load t x) (hx : a.eval x = .pointer (some ⟨g, off, none⟩)) (hu : P.underlying t = some d) (hd : d.isRow = true) (hi : Box ((P.info? t).map (·.size) = some cs.length)) (hS : ∀ w, S w → (blk g T C).holds w) (hv : (C.drop off).take cs.length = cs) : YieldsIf P ops S o (.agg cs.toArray) a :=
  y_loadr hw ho hx hu hd hi fun w h => range_of_block (hS w h) hv
theorem y_build {ps : List (Nat × Operand)} {pv : List (Nat × Value)} {cs : List Value} (hw : Region.wanted o (yielded ops a.tmps) = true) (ho : o.op = .build t ps.toArray) (hp : (ps.map fun p => (p.1, a.eval p.2)) = pv) (hc : P.built t pv = some cs.toArray) : YieldsIf P ops S o (.agg cs.toArray) a :=
  held_built hw t ps ho pv hp _ hc
theorem y_field1 {i : Nat} {fs : Array Field} {f : Field} {cs : Array Value} {v : Value} (hw : Region.wanted o (yielded ops a.tmps) = true) (ho : o.op = .field t x i) (hx : a.eval x = .agg cs) (hu : P.underlying t = some (.struct fs)) (hf : fs[i]? = some f) (hi : ∀ w, (isAgg f.type).run P w = .ok false w) (hv : cs[f.offset]? = some v) : YieldsIf P ops S o v a :=
  y_run hw fun w _ => by
    unfold execOp
    simp only [ho, hx, Instr.field, Sem.run_bind, run_underlying hu, Result.andThen_ok, hf, asAgg, Sem.run_pure, part, hi, Bool.false_eq_true, if_false, hv]
end
end Go.Proofs.Ytehnnnohoaapdaa

/- A map of numbers by numbers: the last places of a list of writes. No program in sight. -/
namespace Go.Proofs.Ytehnnnohoaapdaa
set_option linter.unusedSectionVars false
set_option linter.unusedSimpArgs false
open Go Go.RowKit Go.ChangeMaps Go.MapKept Go.Maps
open Go.WideElems (Fit rd rg pl rd_val elemAt)
set_option linter.unusedVariables false
section
variable {H : Type} {P : Program} {k e t : TypeId} {R : Value → Option (DataW H × List MemPlace)} {w : World} {b n : Nat} {D : DataW H}
theorem ownsMap_clear (h : w.ownsMap P k R b n D) (ht : P.underlying t = some (.map k e)) (ty : TypeId) :
    ∃ w', (Builtin.clear_ #[t] ty #[.map (some b)]).run P w = .ok (.tuple #[]) w' ∧ w'.ownsMap P k R b 0 (.map []) ∧ w.grownBy w' (some b) := by
  obtain ⟨es, clock, hb, F, hs, rfl⟩ := h
  refine ⟨setBlock w b (.map #[] clock), ?_, ⟨#[], clock, heap_setBlock_same hb _, ⟨by simp, stamped_empty clock, by simp⟩, Nat.le_refl _, rfl⟩, ⟨rfl, rfl, rfl, by simp [setBlock], fun i _ hi => heap_setBlock_other hb _ (fun e => hi (by rw [e]))⟩⟩
  simp [Builtin.clear_, run_underlying ht, MapKept.run_getObj_map hb, MapKept.run_setObj_map _ hb, Result.andThen, setBlock]
end
abbrev Wr := Nat × List UInt8
def lastAt (q : List Wr) (p : Nat) : Option Nat := (q.zipIdx.foldl (fun (a : Option Nat) x => if x.1.1 = p then some x.2 else a) none)
theorem lastAt_nil (p : Nat) : lastAt [] p = none := rfl
theorem lastAt_snoc (q : List Wr) (x : Wr) (p : Nat) : lastAt (q ++ [x]) p = if x.1 = p then some q.length else lastAt q p := by
  unfold lastAt
  rw [List.zipIdx_append, List.foldl_append]
  simp
def curP (b : List UInt8) (q : List Wr) (p : Nat) : List UInt8 := q.foldl (fun a x => if x.1 = p then x.2 else a) b
theorem curP_snoc (b : List UInt8) (q : List Wr) (x : Wr) (p : Nat) : curP b (q ++ [x]) p = if x.1 = p then x.2 else curP b q p := by
  unfold curP; rw [List.foldl_append]; simp
theorem snocInd {α : Type} {M : List α → Prop} (h0 : M []) (h1 : ∀ l x, M l → M (l ++ [x])) : ∀ l, M l := by
  intro l
  rw [← List.reverse_reverse l]
  induction l.reverse with
  | nil => exact h0
  | cons x l ih => rw [List.reverse_cons]; exact h1 _ _ ih
theorem lastAt_lt (p : Nat) : ∀ (q : List Wr) (i : Nat), lastAt q p = some i → i < q.length := by
  refine snocInd (fun i h => by simp [lastAt_nil] at h) fun q x ih i h => ?_
  rw [lastAt_snoc] at h
  rw [List.length_append]
  split at h
  · cases h; simp
  · have := ih i h; simp; omega
theorem curP_some (b : List UInt8) (p : Nat) : ∀ (q : List Wr) (i : Nat), lastAt q p = some i → ∃ x, q[i]? = some x ∧ x.1 = p ∧ curP b q p = x.2 := by
  refine snocInd (fun i h => by simp [lastAt_nil] at h) fun q x ih i h => ?_
  rw [lastAt_snoc] at h
  rw [curP_snoc]
  split at h
  · rename_i hx
    cases h
    exact ⟨x, by simp, hx, by rw [if_pos hx]⟩
  · rename_i hx
    obtain ⟨y, h1, h2, h3⟩ := ih i h
    refine ⟨y, ?_, h2, by rw [if_neg hx]; exact h3⟩
    have hl := lastAt_lt p q i h
    rw [List.getElem?_append_left hl]; exact h1
theorem curP_none (b : List UInt8) (p : Nat) : ∀ (q : List Wr), lastAt q p = none → curP b q p = b := by
  refine snocInd (fun _ => rfl) fun q x ih h => ?_
  rw [lastAt_snoc] at h
  rw [curP_snoc]
  split at h
  · cases h
  · rename_i hx
    rw [if_neg hx]; exact ih h
def MapAt (P : Program) (k e : TypeId) (w : World) (b : Nat) (q : List Wr) : Prop :=
  ∃ n D, w.ownsMap (H := Unit) P k (plainElem P e) b n D ∧ n ≤ q.length ∧ IsMap D ∧ ∀ p : Nat, Maps.has D (.int .i64 (p : Int)) = (lastAt q p).isSome ∧ ∀ i, lastAt q p = some i → D.atKey (.int .i64 (p : Int)) (.lit (.int .i64 0)) = .lit (.int .i64 (i : Int))
theorem MapAt.lt {P : Program} {k e : TypeId} {w : World} {b : Nat} {q : List Wr} (h : MapAt P k e w b q) : b < w.heap.size := by
  obtain ⟨n, D, h1, _⟩ := h; exact h1.lt
theorem MapAt.kept {P : Program} {k e : TypeId} {w w' : World} {b : Nat} {q : List Wr} (h : MapAt P k e w b q) (hs : w'.heap[b]? = w.heap[b]?) : MapAt P k e w' b q := by
  obtain ⟨n, D, ⟨es, clock, hb, F, h1, h2⟩, h3⟩ := h
  exact ⟨n, D, ⟨es, clock, hs.trans hb, F, h1, h2⟩, h3⟩
theorem MapAt.made (P : Program) (k e : TypeId) (w : World) : MapAt P k e (w.alloc (.map #[] 0)) w.heap.size [] :=
  ⟨0, .map [], World.ownsMap_made w P k _, Nat.le_refl _, isMap_empty, fun p => ⟨rfl, fun i h => by simp [lastAt_nil] at h⟩⟩
theorem wf_nat (p : Nat) (h : p ≤ 9223372036854775807) : (Lit.int .i64 (p : Int)).wf = true := WalkArith.wf_i64 (by omega)
section
variable {P : Program} {k e t : TypeId} {Q : Exit → Act → World → Prop} {ops : Array Oper} {rest : List Oper} {o : Oper} {a : Act} {w : World} {b : Nat} {q : List Wr}
theorem arm_look (hm : MapAt P k e w b q) (hk : P.underlying k = some (.int .i64)) (he : P.underlying e = some (.int .i64)) (ht : P.underlying t = some (.map k e)) (hz : ∀ W, (zeroValue e).run P W = .ok (.int .i64 0) W)
    (m x : Operand) (ho : o.op = Op.lookup t m x true) (hg : o.guard = none) (p : Nat) (hp : p ≤ 9223372036854775807) (hm' : a.eval m = .map (some b)) (hx : a.eval x = .int .i64 (p : Int))
    (hK : ∀ c : Int, (∀ i, lastAt q p = some i → c = (i : Int)) → wpList P ops Q rest (a.put o.dst (.tuple #[.int .i64 c, .bool (lastAt q p).isSome])) w) : wpList P ops Q (o :: rest) a w := by
  obtain ⟨n, D, hown, hn, hD, h⟩ := hm
  refine wpList_lookup_own_ok_int w hg m x t ho k e .i64 (int_keyed hk) ht he (hz w) b n D hm' hown _ (.int .i64 (p : Int)) hx (keyOf_int_mk hk (wf_nat p hp)) fun c hc _ => ?_
  rw [(h p).1]
  refine hK c fun i hi => ?_
  have := (h p).2 i hi
  rw [hc] at this
  injection this with h1
  injection h1
theorem arm_mapset (hm : MapAt P k e w b q) (hk : P.underlying k = some (.int .i64)) (he : P.underlying e = some (.int .i64)) (ht : P.underlying t = some (.map k e))
    (m x v : Operand) (ho : o.op = Op.mapUpdate t m x v) (hg : o.guard = none) (p : Nat) (hp : p ≤ 9223372036854775807) (hm' : a.eval m = .map (some b)) (hx : a.eval x = .int .i64 (p : Int)) (hv : a.eval v = .int .i64 (q.length : Int)) (hq : q.length ≤ 1099511627776)
    (d : List UInt8) (hK : ∀ w', MapAt P k e w' b (q ++ [(p, d)]) → w.grownBy w' (some b) → wpList P ops Q rest (a.put o.dst undef) w') : wpList P ops Q (o :: rest) a w := by
  obtain ⟨n, D, hown, hn, hD, h⟩ := hm
  refine wpList_mapUpdate_own w hg m x v t ho k e (int_keyed hk) ht _ b n D hm' hown (by unfold maxLen; omega) _ _ (.int .i64 (p : Int)) hx hv (keyOf_int_mk hk (wf_nat p hp)) (.lit (.int .i64 (q.length : Int))) [] (plainElem_int he (wf_nat _ (by omega))) fun w' h1 h2 => hK w' ⟨n + 1, _, h1, by rw [List.length_append]; simp; omega, hD.put _ _, fun p' => ?_⟩ h2
  have hkl : WideAt.IsKeyLit (.int .i64 (p : Int)) := trivial
  rw [lastAt_snoc]
  by_cases hpp : p = p'
  · subst hpp
    rw [has_put_same hD hkl, if_pos rfl]
    refine ⟨rfl, fun i hi => ?_⟩
    cases hi
    rw [atKey_put_same hD hkl]
  · have hne : (Lit.int .i64 (p' : Int)) ≠ .int .i64 (p : Int) := by
      intro e; injection e with _ e; omega
    rw [has_put_other hne, atKey_put_other hne, if_neg hpp]
    exact h p'
theorem arm_clear (hm : MapAt P k e w b q) (ht : P.underlying t = some (.map k e)) (x : Operand) (ho : o.op = Op.call { callee := Callee.builtin Builtin.clear, args := #[x], argTypes := #[t] }) (hg : o.guard = none) (hx : a.eval x = .map (some b))
    (hK : ∀ w', MapAt P k e w' b [] → w.grownBy w' (some b) → wpList P ops Q rest (a.put o.dst (.tuple #[])) w') : wpList P ops Q (o :: rest) a w := by
  obtain ⟨n, D, hown, hn, hD, h⟩ := hm
  refine wpList_plain hg fun K' hK' => ?_
  obtain ⟨w', hrun, r1, r2⟩ := ownsMap_clear hown ht o.type
  unfold Oper.wp
  simp [execOp, ho, resolve, invoke, builtin, hx, hrun, Result.andThen]
  exact hK' _ _ (hK w' ⟨0, _, r1, Nat.le_refl _, isMap_empty, fun p => ⟨rfl, fun i h => by simp [lastAt_nil] at h⟩⟩ r2)
end
end Go.Proofs.Ytehnnnohoaapdaa

/- Operations that write memory or call, each by its own law over what is known of memory. No program in sight. -/
namespace Go.Proofs.Ytehnnnohoaapdaa
set_option linter.unusedSimpArgs false
open Go Go.RowKit
set_option linter.unusedVariables false
set_option linter.unusedSectionVars false
section
variable {P : Program} {ops : Array Oper} {Q : Exit → Act → World → Prop} {rest : List Oper} {o : Oper} {a : Act} {w w0 : World} {F : List Nat} {L : List Asn} {K : Act → World → Prop} {x y : Operand} {t : TypeId}
theorem list_all (l : List Value) (h : l.all (·.oneCell') = true) : l.toArray.all (·.oneCell') = true := by simpa using h
theorem res0 {fn : Func} {tmps : Array Value} (h : fn.results = #[]) : (results fn tmps).run P w = .ok (.tuple #[]) w := results_none h _ _ _
theorem res1 {fn : Func} {tmps : Array Value} {p : Tmp} {v : Value} (h : fn.results = #[.tmp p]) (hv : tmps.getD p undef = v) : (results fn tmps).run P w = .ok v w := by
  rw [results_tmp h, hv]
theorem res2 {fn : Func} {tmps : Array Value} {p q : Tmp} {v u : Value} (h : fn.results = #[.tmp p, .tmp q]) (hv : tmps.getD p undef = v) (hu : tmps.getD q undef = u) : (results fn tmps).run P w = .ok (.tuple #[v, u]) w := by
  rw [results_tmp2 h, hv, hu]
theorem res3 {fn : Func} {tmps : Array Value} {p q r : Tmp} {v u z : Value} (h : fn.results = #[.tmp p, .tmp q, .tmp r]) (hv : tmps.getD p undef = v) (hu : tmps.getD q undef = u) (hz : tmps.getD r undef = z) : (results fn tmps).run P w = .ok (.tuple #[v, u, z]) w := by
  subst hv
  subst hu
  subst hz
  simp [results, h]
theorem resc1 {fn : Func} {tmps : Array Value} {p : Tmp} {ty : TypeId} {g : Nat} {T : TypeId} {cs : List Value} (d : TypeDesc) (hd : d.isRow = true) (h : fn.results = #[.cell p ty]) (hp : tmps.getD p undef = .pointer (some ⟨g, 0, none⟩)) (hg : (blk g T cs).holds w)
    (hu : P.underlying ty = some d) (hi : Box ((P.info? ty).map (·.size) = some cs.length)) : (results fn tmps).run P w = .ok (.agg cs.toArray) w := by
  have hr : w.rangeAt g 0 cs := range_of_block hg (by simp)
  have hl := run_loadVar_mid (P := P) w g 0 ty cs d hr hu hd hi.out
  rw [Array.getD_eq_getD_getElem?] at hp
  simp [results, h, hp, asAddr, hl]
theorem resc2 {fn : Func} {tmps : Array Value} {p q : Tmp} {ty : TypeId} {g : Nat} {T : TypeId} {cs : List Value} (d : TypeDesc) (hd : d.isRow = true) {v : Value} (h : fn.results = #[.cell p ty, .tmp q]) (hp : tmps.getD p undef = .pointer (some ⟨g, 0, none⟩)) (hg : (blk g T cs).holds w)
    (hu : P.underlying ty = some d) (hi : Box ((P.info? ty).map (·.size) = some cs.length)) (hv : tmps.getD q undef = v) : (results fn tmps).run P w = .ok (.tuple #[.agg cs.toArray, v]) w := by
  have hr : w.rangeAt g 0 cs := range_of_block hg (by simp)
  have hl := run_loadVar_mid (P := P) w g 0 ty cs d hr hu hd hi.out
  subst hv
  rw [results_cell_tmp h, hp]
  simp [asAddr, hl]
theorem pl {v : Value} (M : Mem w0 F w L) (hy : YieldsIf P ops (fun W => Mem w0 F W L) o v a) (h : wpList P ops Q rest (a.put o.dst v) w) : wpList P ops Q (o :: rest) a w := by
  rcases hy with ⟨hw, he⟩ | ⟨hw, rfl⟩
  · exact wpList_step fun K hK => by
      rw [if_pos hw]
      unfold Oper.wp
      rw [he w M]
      exact hK _ _ h
  · exact wpList_step fun K hK => by
      rw [if_neg (by rw [hw]; decide)]
      exact hK _ _ h
theorem ps {Q' : Act → Prop} {v : Value} (M : Mem w0 F w L) (hy : YieldsIf P ops (fun W => Mem w0 F W L) o v a) (h : wpStill P ops w Q' rest (a.put o.dst v)) : wpStill P ops w Q' (o :: rest) a := by
  refine wpStill_step fun K hK => ?_
  rcases hy with ⟨hw, he⟩ | ⟨hw, rfl⟩
  · rw [if_pos hw]
    unfold Oper.still
    rw [he w M, Oper.stillUpon_value]
    exact hK _ h
  · rw [if_neg (by rw [hw]; decide)]
    exact hK _ h
theorem ps_skip {Q' : Act → Prop} (hw : Region.wanted o (yielded ops a.tmps) = false) (h : wpStill P ops w Q' rest (a.put o.dst undef)) : wpStill P ops w Q' (o :: rest) a :=
  wpStill_step fun K hK => by rw [if_neg (by rw [hw]; decide)]; exact hK _ h
theorem pe (hw : Region.wanted o (yielded ops a.tmps) = true) (h : ∀ K : Act → World → Prop, Box (∀ a w, wpList P ops Q rest a w → K a w) → Oper.wp P o a w K Q) : wpList P ops Q (o :: rest) a w :=
  wpList_step fun K hK => by rw [if_pos hw]; exact h K ⟨hK⟩
theorem e_yield {v : Value} (M : Mem w0 F w L) (hy : YieldsIf P ops (fun W => Mem w0 F W L) o v a) (hw : Region.wanted o (yielded ops a.tmps) = true) (h : K (a.put o.dst v) w) : Oper.wp P o a w K Q := by
  rcases hy with ⟨_, he⟩ | ⟨hw', _⟩
  · unfold Oper.wp
    rw [he w M]
    exact h
  · rw [hw] at hw'; cases hw'
theorem pskip (hw : Region.wanted o (yielded ops a.tmps) = false) (h : wpList P ops Q rest (a.put o.dst undef) w) : wpList P ops Q (o :: rest) a w :=
  wpList_step fun K hK => by rw [if_neg (by rw [hw]; decide)]; exact hK _ _ h
theorem size_of_run {n : Nat} (hs : ∀ w, (sizeOf t).run P w = .ok n w) : (P.info? t).map (·.size) = some n := by
  have h2 := hs default
  unfold sizeOf typeInfo program at h2
  simp only [Sem.run_bind] at h2
  cases hq : P.info? t with
  | none => simp [hq, stuck, Sem.run, Result.andThen] at h2
  | some j =>
    simp [hq, Sem.run, Result.andThen] at h2
    simp [h2]
theorem e_store (M : Mem w0 F w L) (i : Nat) {g off : Nat} {T : TypeId} {C : List Value} {v : Value} (ho : o.op = .store t x y) (hgd : o.guard = none) (hx : a.eval x = .pointer (some ⟨g, off, none⟩)) (hy : a.eval y = v) (hv : v.cells = #[v]) (h1 : v.oneCell' = true)
    (hs : ∀ w, (sizeOf t).run P w = .ok 1 w) (hi : L[i]? = some (blk g T C)) (hlt : off < C.length)
    (h : ∀ w', Mem w0 F w' (L.set i (blk g T (C.set off v))) → K (a.put o.dst undef) w') : Oper.wp P o a w K Q := by
  have hs' := size_of_run hs
  refine oper_list hgd (arm_store_v t x y ho hgd g off hx v hy hv h1 hs' C T (M.get i hi) hlt fun w' hb hg => ⟨rfl, h w' ?_⟩)
  exact M.setBlk i _ hi hg hb.out
theorem e_storer (M : Mem w0 F w L) (i : Nat) {g off : Nat} {T : TypeId} {C cs : List Value} (ho : o.op = .store t x y) (hgd : o.guard = none) (hx : a.eval x = .pointer (some ⟨g, off, none⟩)) (hy : a.eval y = .agg cs.toArray)
    (hs : Box ((P.info? t).map (·.size) = some cs.length)) (h1 : cs.toArray.all (·.oneCell') = true) (hi : L[i]? = some (blk g T C)) (hlt : off + cs.length ≤ C.length)
    (h : ∀ w', Mem w0 F w' (L.set i (blk g T (splice C off cs))) → K (a.put o.dst undef) w') : Oper.wp P o a w K Q := by
  refine oper_list hgd (arm_store_mid t x y ho hgd g off C cs T hx hy (M.get i hi) hlt hs.out h1 fun w' hb hg => ⟨rfl, h w' ?_⟩)
  exact M.setBlk i _ hi hg hb.out
theorem e_storew (M : Mem w0 F w L) (i : Nat) {g : Nat} {T : TypeId} {C cs : List Value} (ho : o.op = .store t x y) (hgd : o.guard = none) (hx : a.eval x = .pointer (some ⟨g, 0, none⟩)) (hy : a.eval y = .agg cs.toArray)
    (hs : Box ((P.info? t).map (·.size) = some cs.length)) (h1 : cs.toArray.all (·.oneCell') = true) (hi : L[i]? = some (blk g T C)) (hlt : cs.length = C.length)
    (h : ∀ w', Mem w0 F w' (L.set i (blk g T cs)) → K (a.put o.dst undef) w') : Oper.wp P o a w K Q := by
  refine e_storer M i ho hgd hx hy hs h1 hi (by omega) fun w' M' => h w' ?_
  rw [splice_all0 C cs hlt] at M'
  exact M'
theorem e_alloc (M : Mem w0 F w L) (cs : List Value) (ho : o.op = .alloc t) (hz : ∀ w, (zeroValue t).run P w = .ok (.agg cs.toArray) w)
    (h : ∀ g w', Mem w0 F w' (blk g t cs :: L) → K (a.put o.dst (.pointer (some ⟨g, 0, none⟩))) w') : Oper.wp P o a w K Q := by
  unfold Oper.wp execOp
  simp only [ho, Instr.alloc, Sem.run_bind, hz, Result.andThen_ok, newVar, newRow, newObj]
  exact h _ _ (M.alloc cs t)
theorem e_box (M : Mem w0 F w L) (cs : List Value) (ho : o.op = .box t x) (hx : a.eval x = .agg cs.toArray)
    (h : ∀ g w', Mem w0 F w' (blk g t cs :: L) → K (a.put o.dst (.pointer (some ⟨g, 0, none⟩))) w') : Oper.wp P o a w K Q := by
  unfold Oper.wp execOp
  simp only [ho, hx, Instr.box, Sem.run_bind, newVar, newRow, newObj]
  exact h _ _ (M.alloc cs t)
theorem e_box1 (M : Mem w0 F w L) (v : Value) (hv : v.cells = #[v]) (ho : o.op = .box t x) (hx : a.eval x = v)
    (h : ∀ g w', Mem w0 F w' (blk g t [v] :: L) → K (a.put o.dst (.pointer (some ⟨g, 0, none⟩))) w') : Oper.wp P o a w K Q := by
  unfold Oper.wp execOp
  simp only [ho, hx, Instr.box, Sem.run_bind, newVar, newRow, newObj, hv]
  exact h _ _ (M.alloc [v] t)
theorem e_call (f : FuncId) (args : List Value) {as : List Operand} {ts : Array TypeId} (ho : o.op = .call { callee := .value (.func f), args := as.toArray, argTypes := ts }) (ha : as.map a.eval = args) (hf : ∀ ar w, (callFunc f ar).run P w = .ok (.enter f ar) w)
    {R : Ending → World → Prop} (hc : Calls P f args.toArray w R) (h : ∀ e w', R e w' → ∃ v, e = .returned v ∧ K (a.put o.dst v) w') : Oper.wp P o a w K Q := by
  subst ha
  unfold Oper.wp
  have hx : (execOp a.eval o).run P w = .ok (.enter f (as.map a.eval).toArray) w := by
    unfold execOp
    simp only [ho, resolve, Act.eval, Deferred.ofValue, Sem.run_bind, Sem.run_pure, Result.andThen_ok, invoke, Array.append_empty, Array.empty_append, List.map_toArray]
    exact hf _ w
  rw [hx]
  refine Calls.mono hc fun e w' hr => ?_
  obtain ⟨v, rfl, hk⟩ := h e w' hr
  exact hk
end
end Go.Proofs.Ytehnnnohoaapdaa
