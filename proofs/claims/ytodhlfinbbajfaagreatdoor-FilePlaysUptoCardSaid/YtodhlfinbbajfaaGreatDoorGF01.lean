/- Texts joined. -/
import Derived.Test.YtodhlfinbbajfaaGreatDoorGF00
import Derived.Maps.AppendAt
import Derived.Laws.CopyRow
namespace Go.Proofs.YtodhlfinbbajfaaGreatDoor
open Go Go.RowKit
set_option linter.unusedVariables false
set_option linter.unusedSimpArgs false
set_option linter.unusedSectionVars false
set_option maxRecDepth 100000
set_option maxHeartbeats 40000000
def obs (v : Value) : List Nat := v.ownBlock.toList
theorem Jhm {v : Value} {g : Nat} : g ∈ obs v ↔ v.ownBlock = some g := by simp [obs]
structure Grew (w w' : World) (F : List Nat) : Prop where
  os : w'.os = w.os
  tape : w'.tape = w.tape
  output : w'.output = w.output
  size : w.heap.size ≤ w'.heap.size
  block : ∀ k, k < w.heap.size → k ∉ F → w'.heap[k]? = w.heap[k]?
theorem Grew.refl (w : World) (F : List Nat) : Grew w w F := ⟨rfl, rfl, rfl, Nat.le_refl _, fun _ _ _ => rfl⟩
theorem Grew.of {w w' : World} {r : Option Nat} {F : List Nat} (h : w.grownBy w' r) (hr : ∀ g, r = some g → g ∈ F) : Grew w w' F :=
  ⟨h.os, h.tape, h.output, h.size, fun k hk hF => h.block k hk fun e => hF (hr k e.symm)⟩
theorem Grew.low {w w' : World} (h : Below w.heap.size w w') (F : List Nat) : Grew w w' F :=
  ⟨h.os, h.tape, h.output, h.size, fun k hk _ => h.block k hk⟩
theorem Grew.trans {w w1 w2 : World} {F F' : List Nat} (h : Grew w w1 F) (h' : Grew w1 w2 F') (hF : ∀ g ∈ F', g ∈ F ∨ w.heap.size ≤ g) : Grew w w2 F :=
  ⟨h'.os.trans h.os, h'.tape.trans h.tape, h'.output.trans h.output, Nat.le_trans h.size h'.size, fun k hk hn =>
    (h'.block k (Nat.lt_of_lt_of_le hk h.size) fun hx => by exact (hF k hx).elim hn fun h1 => by omega).trans (h.block k hk hn)⟩
theorem Jof {w w' : World} {base size : Nat} {e : TypeId} {v : Value} {n : Nat} {xs : List Value} (h : w.ownsRow base e size v n xs) (hs : ∀ g, v.ownBlock = some g → w'.heap[g]? = w.heap[g]?) : w'.ownsRow base e size v n xs := by
 obtain ⟨hl, h⟩ := h;refine ⟨hl, ?_⟩;rcases h with h | ⟨g, cap, cur, rfl, h1, h2, h3⟩
 ·exact .inl h
 ·exact .inr ⟨g, cap, cur, rfl, h1, (hs g rfl).trans h2, h3⟩
theorem Jmg {w : World} {base size : Nat} {e : TypeId} {v : Value} {n : Nat} {xs : List Value} (h : w.ownsRow base e size v n xs) : ∀ g, v.ownBlock = some g → base ≤ g ∧ g < w.heap.size := by
 intro g hg;obtain ⟨hl, h | ⟨g', cap, cur, rfl, h1, h2, h3⟩⟩ := h
 ·obtain ⟨rfl, _⟩ := h; cases hg
 ·cases hg; exact ⟨h1, Jb5 h2⟩
def OwnS (w : World) (base : Nat) (e : TypeId) (v : Value) (vs : List Value) : Prop := w.ownsRow base e 1 v vs.length vs
abbrev Ent := Value × List UInt8
def entB (x : Ent) : List Nat := obs x.1
def kb (p : Nat) (vL vW : Value) (ls ws : List Ent) : List Nat := p :: (obs vL ++ (obs vW ++ (ls.flatMap entB ++ ws.flatMap entB)))
structure Keeper (T es eb : TypeId) (w : World) (base p : Nat) (vL vW : Value) (ls ws : List Ent) : Prop where
  blk : w.heap[p]? = some (.cells #[vL, vW] T (0, 0))
  hp : base ≤ p
  ownL : OwnS w base es vL (ls.map (·.1))
  ownW : OwnS w base es vW (ws.map (·.1))
  eachL : ∀ x ∈ ls, Own w base eb x.1 x.2
  eachW : ∀ x ∈ ws, Own w base eb x.1 x.2
  dist : (kb p vL vW ls ws).Nodup
section
variable {T es eb : TypeId} {w w' : World} {base p : Nat} {vL vW : Value} {ls ws : List Ent}
end
section
variable {P : Program} {t e : TypeId} {Q : Exit → Act → World → Prop} {ops : Array Oper} {rest : List Oper} {o : Oper} {a : Act} {w : World}
end
section
variable {P : Program} {e : TypeId} {Q : Exit → Act → World → Prop} {ops : Array Oper} {rest : List Oper} {o : Oper} {a : Act} {w : World}
theorem Jl8 (ty : TypeId) (x y : Operand) (ho : o.op = .store ty x y) (hgd : o.guard = none) (b off : Nat) (hx : a.eval x = .pointer (some ⟨b, off, none⟩)) (u : UInt8) (hy : a.eval y = .int .u8 (u.toNat : Int))
    (hs : (P.info? ty).map (·.size) = some 1) (C : List Value) (e : TypeId) (hg : w.heap[b]? = some (.cells C.toArray e (0, 0))) (hlt : off < C.length)
    (h : ∀ w', Hid (w'.heap[b]? = some (.cells (C.set off (bv u)).toArray e (0, 0))) → w.grownBy w' (some b) → wpList P ops Q rest (a.put o.dst undef) w') : wpList P ops Q (o :: rest) a w := by
 have hc : w.cell? ⟨b, off, none⟩ = some C[off] := by
   rw [cell_of_row w b off _ e (0, 0) hg, ← Array.getElem?_toList, List.getElem?_eq_getElem hlt]
 have hf : w.frozen? ⟨b, off, none⟩ = false := by
   unfold World.frozen?;rw [hg];simp
 refine Jkk hgd ty x y ho ⟨b, off, none⟩ (bv u) hx hy ⟨_, _, rfl⟩ hs ⟨_, hc⟩ hf (h _ ?_ (Jkf _ _ _));show _ = _;rw [heap_setCell_same w b off _ e _ hg];congr 2;apply Array.ext';simp
end
section
variable {P : Program} {Q : Exit → Act → World → Prop} {ops : Array Oper} {rest : List Oper} {o : Oper} {a : Act} {w : World}
theorem Jvj (ty : TypeId) (x : Operand) (ho : o.op = .load ty x) (hw : Region.wanted o (yielded ops a.tmps) = true)
    (b off : Nat) (hx : a.eval x = .pointer (some ⟨b, off, none⟩)) (cs : List Value) (d : TypeDesc) (hS : w.rangeAt b off cs) (hu : P.underlying ty = some d) (hd : d.isRow = true) (hi : (P.info? ty).map (·.size) = some cs.length)
    (h : wpList P ops Q rest (a.put o.dst (.agg cs.toArray)) w) : wpList P ops Q (o :: rest) a w :=
  Jda hw (yieldsIf_load_mid hw ty x ho b off hx cs d (fun W hW => by rw [hW]; exact hS) hu hd hi) h
theorem Jd2 (ty : TypeId) (x y : Operand) (ho : o.op = .store ty x y) (hgd : o.guard = none)
    (g : Nat) (old cells : Array Value) (et : TypeId) (hx : a.eval x = .pointer (some ⟨g, 0, none⟩)) (hy : a.eval y = .agg cells) (hg : w.heap[g]? = some (.cells old et (0, 0))) (hs : old.size = cells.size)
    (hi : (P.info? ty).map (·.size) = some cells.size) (h1 : cells.all (·.oneCell') = true)
    (h : ∀ w', Hid (w'.heap[g]? = some (.cells cells et (0, 0))) → w.grownBy w' (some g) → wpList P ops Q rest (a.put o.dst undef) w') : wpList P ops Q (o :: rest) a w :=
  Jhc hgd ty x y ho g old cells et hx hy hg hs hi h1 h
theorem Jm3 (ty : TypeId) (x y : Operand) (ho : o.op = .store ty x y) (hgd : o.guard = none)
    (g off : Nat) (C cells : List Value) (et : TypeId) (hx : a.eval x = .pointer (some ⟨g, off, none⟩)) (hy : a.eval y = .agg cells.toArray) (hg : w.heap[g]? = some (.cells C.toArray et (0, 0))) (hs : off + cells.length ≤ C.length)
    (hi : (P.info? ty).map (·.size) = some cells.length) (h1 : cells.toArray.all (·.oneCell') = true)
    (h : ∀ w', Hid (w'.heap[g]? = some (.cells (splice C off cells).toArray et (0, 0))) → w.grownBy w' (some g) → wpList P ops Q rest (a.put o.dst undef) w') : wpList P ops Q (o :: rest) a w := by
 refine wpList_plain hgd fun _ hK => ?_
 have hrun : (storeVar ty ⟨g, off, none⟩ (.agg cells.toArray)).run P w = .ok () (w.setRow g (splice C off cells).toArray) := by
   have := run_storeCells_at (P := P) g off et cells 0 C.toArray w hg (by simpa using hs) (fun v hv => (Array.all_eq_true_iff_forall_mem.1 h1) v (by simpa using hv));cases hq : P.info? ty with
   | none => simp [hq] at hi
   | some i =>
     have hz : cells.length = i.size := by simp [hq] at hi; omega
     simp [storeVar, sizeOf, typeInfo, hq, Value.cells, hz, this, splice]
 unfold Oper.wp execOp;simp only [ho, hx, hy, Instr.storeAt, Instr.sureAddr, Sem.run_bind, Sem.run_pure, Result.andThen_ok, hrun];exact hK _ _ (h _ (setRow_heap w g _ _ et (0, 0) hg) (Jem w g _))
theorem Jgo (ty : TypeId) (x y : Operand) (ho : o.op = .store ty x y) (hgd : o.guard = none) (b off : Nat) (hx : a.eval x = .pointer (some ⟨b, off, none⟩)) (v : Value) (hy : a.eval y = v) (hv : v.cells = #[v]) (h1 : v.oneCell' = true)
    (hs : (P.info? ty).map (·.size) = some 1) (C : List Value) (e : TypeId) (hg : w.heap[b]? = some (.cells C.toArray e (0, 0))) (hlt : off < C.length)
    (h : ∀ w', Hid (w'.heap[b]? = some (.cells (C.set off v).toArray e (0, 0))) → w.grownBy w' (some b) → wpList P ops Q rest (a.put o.dst undef) w') : wpList P ops Q (o :: rest) a w := by
 have hc : w.cell? ⟨b, off, none⟩ = some C[off] := by
   rw [cell_of_row w b off _ e (0, 0) hg, ← Array.getElem?_toList, List.getElem?_eq_getElem hlt]
 have hf : w.frozen? ⟨b, off, none⟩ = false := by
   unfold World.frozen?;rw [hg];simp
 refine wpList_plain hgd fun _ hK => ?_;cases hq : P.info? ty with
 | none => simp [hq] at hs
 | some i =>
   have hs' : i.size = 1 := by simpa [hq] using hs
   have hst : (store ((⟨b, off, none⟩ : Addr).add 0) v).run P w = .ok () (w.setCell ⟨b, off, none⟩ v) := by
     have ha : (⟨b, off, none⟩ : Addr).add 0 = ⟨b, off, none⟩ := by unfold Addr.add; split <;> simp_all
     rw [ha, run_store P w _ v _ h1, hc];simp [hf]
   unfold Oper.wp execOp;simp only [ho, hx, hy, Instr.storeAt, Instr.sureAddr, Sem.run_bind, Sem.run_pure, Result.andThen_ok]
   have : (storeVar ty ⟨b, off, none⟩ v).run P w = .ok () (w.setCell ⟨b, off, none⟩ v) := by
     simp [storeVar, sizeOf, typeInfo, hq, hs', hv, storeCells, hst]
   rw [this];refine hK _ _ (h _ ?_ (Jkf _ _ _));show _ = _;rw [heap_setCell_same w b off _ e _ hg];congr 2;apply Array.ext';simp
end
theorem Row.range {w : World} {b o n : Nat} {l : List UInt8} (h : Row w (some ⟨b, o, none⟩) n l) : w.rangeAt b o (bvs l) := fun j v hj => by
  rw [Jbw] at hj
  obtain ⟨u, hu, rfl⟩ := Option.map_eq_some_iff.1 hj
  obtain ⟨hl, rfl⟩ := List.getElem?_eq_some_iff.1 hu
  exact h.cell j hl
theorem Jel {w : World} {g off : Nat} {C xs : List Value} {T : TypeId} {fr : Nat × Nat} (hg : w.heap[g]? = some (.cells C.toArray T fr)) (h : (C.drop off).take xs.length = xs) : w.rangeAt g off xs := fun j v hj => by
  rw [cell_of_row w g (off + j) _ _ _ hg, ← Array.getElem?_toList]
  show C[off + j]? = _
  rw [← h, List.getElem?_take] at hj
  split at hj
  · rw [List.getElem?_drop] at hj; exact hj
  · cases hj
section
variable {P : Program}
theorem Jrk {o : Oper} {a : Act} {w : World} {K K' : Act → World → Prop} {Q Q' : Exit → Act → World → Prop} (h : ∀ a w, K a w → K' a w) (hq : ∀ e a w, e ≠ .normal → Q e a w → Q' e a w)
    (hh : o.wp P a w K Q) : o.wp P a w K' Q' := by
 have hl : LetsOut Q → LetsOut Q' := fun ⟨a, w, x⟩ => ⟨a, w, hq _ _ _ (by intro e; cases e) x⟩;unfold Oper.wp at *;generalize (execOp a.eval o).run P w = r at *;cases r with
 | ok n w' =>
   cases n <;> simp only [Oper.upon] at hh ⊢ <;>
     first
       | exact h _ _ hh;| exact Calls.mono hh (fun e w'' he => by cases e <;> first | exact h _ _ he | exact hq _ _ _ (by intro e; cases e) he | exact hl he);| exact Rows.mono hh (fun _ _ he => h _ _ he)
 | halt x w' => cases x <;> simp only [Oper.upon] at hh ⊢ <;> first | exact hh | exact hq _ _ _ (by intro e; cases e) hh | exact hl hh
theorem Jd6 {o : Oper} {a : Act} {w : World} {K : Act → World → Prop} {Q : Exit → Act → World → Prop} (hg : o.guard = none)
    (h : wpList P #[] (fun e a w => e = .normal ∧ K a w) [o] a w) : o.wp P a w K Q := by
 have hw : Region.wanted o (yielded #[] a.tmps) = true := by simp [Region.wanted, hg]
 unfold wpList at h;rw [if_pos hw] at h;rcases h with h | ⟨_, a', w', h, _⟩
 ·exact Jrk (fun a w h => h.2) (fun e a w h1 h2 => absurd h2.1 h1) h
 ·cases h
end
theorem Jrl {P : Program} {S : World → Prop} {o : Oper} {a : Act} {ops : Array Oper} (hw : Region.wanted o (yielded ops a.tmps) = true) (t : TypeId) (parts : List (Nat × Operand)) (ho : o.op = .build t parts.toArray)
    (ps : List (Nat × Value)) (hp : (parts.map fun p => (p.1, a.eval p.2)) = ps) (cells : Array Value) (hc : P.built t ps = some cells) : YieldsIf P ops S o (.agg cells) a :=
  Jc2 hw fun W => by
    have hm : (parts.toArray.map fun (i, x) => (i, a.eval x)).toList = ps := by rw [← hp]; simp
    unfold execOp
    simp only [ho, Sem.run_bind, run_build W t _ cells (by rw [hm]; exact hc), Result.andThen_ok]
    rfl
theorem Jeq {P : Program} {fn : Func} {p u : Tmp} {ty : TypeId} (h : fn.results = #[.cell p ty, .tmp u]) (tmps : Array Value) (w : World) (g : Nat) (t : TypeId) (cs : Array Value) (fr : Nat × Nat) (d : TypeDesc)
    (hp : tmps.getD p undef = .pointer (some ⟨g, 0, none⟩)) (hg : w.heap[g]? = some (.cells cs t fr)) (hu : P.underlying ty = some d) (hd : (match d with | .struct _ | .array _ _ => true | _ => false) = true) (hi : (P.info? ty).map (·.size) = some cs.size)
    (v : Value) (hv : tmps.getD u undef = v) : (results fn tmps).run P w = .ok (.tuple #[.agg cs, v]) w := by
 rw [results_cell_tmp h, hp, hv];simp [asAddr, run_loadVar_row w g t ty cs fr d hg hu hd hi]
structure Asn where
  foot : List Nat
  holds : World → Prop
  lt : ∀ w, holds w → ∀ b ∈ foot, b < w.heap.size
  keep : ∀ w w', holds w → (∀ b ∈ foot, w'.heap[b]? = w.heap[b]?) → holds w'
def Jag (L : List Asn) : List Nat := L.flatMap Asn.foot
def blk (g : Nat) (T : TypeId) (C : List Value) : Asn where
  foot := [g]
  holds w := w.heap[g]? = some (.cells C.toArray T (0, 0))
  lt w h b hb := by
    obtain rfl : b = g := by simpa using hb
    exact Jb5 h
  keep w w' h hk := (hk g (by simp)).trans h
def lst (e : TypeId) (k : Nat) (v : Value) (n : Nat) (xs : List Value) : Asn where
  foot := obs v
  holds w := w.ownsRow 0 e k v n xs
  lt w h b hb := (Jmg h b (Jhm.1 hb)).2
  keep w w' h hk := Jof h fun g hg => hk g (Jhm.2 hg)
def star (p : Prop) (L : List Asn) : Asn where
  foot := Jag L
  holds w := p ∧ ∀ A ∈ L, A.holds w
  lt w h b hb := by
    obtain ⟨A, hA, hb⟩ := List.mem_flatMap.1 hb
    exact A.lt w (h.2 A hA) b hb
  keep w w' h hk := ⟨h.1, fun A hA => A.keep w w' (h.2 A hA) fun b hb => hk b (List.mem_flatMap.2 ⟨A, hA, hb⟩)⟩
structure Mem (w0 : World) (F : List Nat) (w : World) (L : List Asn) : Prop where
  grew : Grew w0 w F
  all : ∀ A ∈ L, A.holds w
  nodup : (Jag L).Nodup
  new : ∀ b ∈ Jag L, b ∈ F ∨ w0.heap.size ≤ b
theorem Jbr (L R : List Asn) : Jag (L ++ R) = Jag L ++ Jag R := by simp [Jag]
theorem Jcm (A : Asn) (R : List Asn) : Jag (A :: R) = A.foot ++ Jag R := by simp [Jag]
theorem Jde {L : List Asn} {b : Nat} : b ∈ Jag L ↔ ∃ A ∈ L, b ∈ A.foot := List.mem_flatMap
section
variable {w0 w w' : World} {F : List Nat} {L R : List Asn}
theorem Mem.nil (w : World) : Mem w [] w [] := ⟨Grew.refl _ _, by simp, by simp [Jag], by simp [Jag]⟩
theorem Mem.lt (h : Mem w0 F w L) : ∀ b ∈ Jag L, b < w.heap.size := fun b hb => by
  obtain ⟨A, hA, hb⟩ := Jde.1 hb
  exact A.lt w (h.all A hA) b hb
theorem Mem.get (h : Mem w0 F w L) (i : Nat) {A : Asn} (hi : L[i]? = some A) : A.holds w := h.all A (List.mem_of_getElem? hi)
theorem Mem.perm {L' : List Asn} (h : Mem w0 F w L) (p : L.Perm L') : Mem w0 F w L' := by
 have p' : (Jag L).Perm (Jag L') := List.Perm.flatMap_right _ p;exact ⟨h.grew, fun A hA => h.all A (p.mem_iff.2 hA), p'.nodup_iff.1 h.nodup, fun b hb => h.new b (p'.mem_iff.2 hb)⟩
theorem Mem.left (h : Mem w0 F w (L ++ R)) : Mem w0 F w L := by
 have := h.nodup;rw [Jbr, List.nodup_append] at this;exact ⟨h.grew, fun A hA => h.all A (List.mem_append_left _ hA), this.1, fun b hb => h.new b (by rw [Jbr]; exact List.mem_append_left _ hb)⟩
theorem Mem.here (h : Mem w0 F w (L ++ R)) : Mem w (Jag L) w L := by
 have := h.left;exact ⟨Grew.refl _ _, this.all, this.nodup, fun b hb => .inl hb⟩
theorem Mem.frame {Pre Post : List Asn} (h : Mem w0 F w (Pre ++ R)) (h' : Mem w (Jag Pre) w' Post) : Mem w0 F w' (Post ++ R) := by
 have hn := h.nodup;rw [Jbr, List.nodup_append] at hn;obtain ⟨n1, n2, n3⟩ := hn;have hR : ∀ b ∈ Jag R, w'.heap[b]? = w.heap[b]? := fun b hb => h'.grew.block b (h.lt b (by rw [Jbr]; exact List.mem_append_right _ hb)) fun hp => n3 b hp b hb rfl;have hPF : ∀ b ∈ Jag Pre, b ∈ F ∨ w0.heap.size ≤ b := fun b hb => h.new b (by rw [Jbr]; exact List.mem_append_left _ hb);refine ⟨h.grew.trans h'.grew hPF, fun A hA => ?_, ?_, fun b hb => ?_⟩
 ·rcases List.mem_append.1 hA with hA | hA
  ·exact h'.all A hA
  ·exact A.keep w w' (h.all A (List.mem_append_right _ hA)) fun b hb => hR b (Jde.2 ⟨A, hA, hb⟩)
 ·rw [Jbr, List.nodup_append];refine ⟨h'.nodup, n2, fun a ha b hb e => ?_⟩;subst e;rcases h'.new a ha with hx | hx
  ·exact n3 a hx a hb rfl
  ·have := h.lt a (by rw [Jbr]; exact List.mem_append_right _ hb); omega
 ·rw [Jbr] at hb;rcases List.mem_append.1 hb with hb | hb
  ·rcases h'.new b hb with hx | hx
   ·exact hPF b hx
   ·exact .inr (Nat.le_trans h.grew.size hx)
  ·exact h.new b (by rw [Jbr]; exact List.mem_append_right _ hb)
theorem Mem.step (h : Mem w0 F w L) (h' : Mem w [] w' R) : Mem w0 F w' (R ++ L) := Mem.frame (Pre := []) (R := L) h h'
theorem Mem.low (h : Mem w0 F w L) (h' : Below w.heap.size w w') : Mem w0 F w' L := h.step (R := []) ⟨Grew.low h' _, by simp, by simp [Jag], by simp [Jag]⟩
theorem Mem.drew (h : Mem w0 F w L) : Mem w0 F w.drew L := h.low (Below.refl _ _).drew
theorem Mem.alloc (h : Mem w0 F w L) (C : List Value) (T : TypeId) : Mem w0 F (w.alloc (.cells C.toArray T)) (blk w.heap.size T C :: L) :=
  h.step (R := [blk w.heap.size T C]) ⟨Grew.low (Below.refl_alloc w _) _, fun A hA => by
    obtain rfl : A = _ := by simpa using hA
    exact Jgp rfl, by simp [Jag, blk], fun b hb => .inr (by
      obtain rfl : b = w.heap.size := by simpa [Jag, blk] using hb
      exact Nat.le_refl _)⟩
theorem Jqs (l m : List Value) (h : m.length = l.length) : splice l 0 m = m := by
 unfold splice; simp [h]
theorem Jpe {α : Type} : ∀ (L : List α) (i : Nat) (A B : α), L[i]? = some A → ∃ X Y, L = X ++ A :: Y ∧ L.set i B = X ++ B :: Y
  | [], i, A, B, h => by simp at h
  | x :: L, 0, A, B, h => ⟨[], L, by obtain rfl : x = A := by simpa using h
                                     rfl, rfl⟩
  | x :: L, i + 1, A, B, h => by
    obtain ⟨X, Y, h1, h2⟩ := Jpe L i A B (by simpa using h)
    exact ⟨x :: X, Y, by rw [h1]; rfl, by rw [List.set_cons_succ, h2]; rfl⟩
theorem Mem.upd (h : Mem w0 F w L) (i : Nat) {A B : Asn} (hi : L[i]? = some A) (h' : Mem w A.foot w' [B]) : Mem w0 F w' (L.set i B) := by
 obtain ⟨X, Y, h1, h2⟩ := Jpe L i A B hi;rw [h2];rw [h1] at h;have h3 : Mem w0 F w ([A] ++ (X ++ Y)) := h.perm (List.perm_middle);have h4 : Mem w0 F w' ([B] ++ (X ++ Y)) := h3.frame (by rw [show Jag [A] = A.foot by simp [Jag]]; exact h');have hp : ([B] ++ (X ++ Y)).Perm (X ++ B :: Y) := (List.perm_middle (a := B) (l₁ := X) (l₂ := Y)).symm;exact h4.perm hp
theorem Mem.one {A : Asn} {row : Option Nat} (hg : w.grownBy w' row) (hr : ∀ g, row = some g → g ∈ F) (hA : A.holds w') (hn : A.foot.Nodup) (hf : ∀ b ∈ A.foot, b ∈ F ∨ w.heap.size ≤ b) : Mem w F w' [A] :=
  ⟨Grew.of hg hr, fun B hB => by obtain rfl : B = A := by simpa using hB
                                 exact hA, by simpa [Jag] using hn, fun b hb => hf b (by simpa [Jag] using hb)⟩
theorem Mem.setBlk (h : Mem w0 F w L) (i : Nat) {g : Nat} {T : TypeId} {C : List Value} (C' : List Value) (hi : L[i]? = some (blk g T C)) (hg : w.grownBy w' (some g)) (hb : w'.heap[g]? = some (.cells C'.toArray T (0, 0))) : Mem w0 F w' (L.set i (blk g T C')) :=
  h.upd i hi (Mem.one hg (fun x hx => by cases hx; simp [blk]) hb (by simp [blk]) (fun b hb => .inl hb))
theorem Mem.arr (h : Mem w0 F w L) (ix : List Nat) (hn : ix.Nodup) : Mem w0 F w (ix.filterMap (L[·]?)) := by
 have hs : ∀ A ∈ ix.filterMap (L[·]?), A ∈ L := fun A hA => by
   obtain ⟨i, _, hi⟩ := List.mem_filterMap.1 hA;exact List.mem_of_getElem? hi
 have hN := h.nodup;unfold Jag List.Nodup at hN;rw [List.pairwise_flatMap] at hN;refine ⟨h.grew, fun A hA => h.all A (hs A hA), ?_, fun b hb => ?_⟩
 ·unfold Jag List.Nodup;rw [List.pairwise_flatMap];refine ⟨fun A hA => hN.1 A (hs A hA), ?_⟩;rw [List.pairwise_filterMap];refine List.Pairwise.imp (fun {i j} hij A hA B hB x hx y hy => ?_) hn;obtain ⟨hi, rfl⟩ := List.getElem?_eq_some_iff.1 hA;obtain ⟨hj, rfl⟩ := List.getElem?_eq_some_iff.1 hB;have hp := List.pairwise_iff_getElem.1 hN.2;rcases Nat.lt_or_gt_of_ne hij with hlt | hlt
  ·exact hp i j hi hj hlt x hx y hy
  ·exact (hp j i hj hi hlt y hy x hx).symm
 ·obtain ⟨A, hA, hb⟩ := Jde.1 hb;exact h.new b (Jde.2 ⟨A, hs A hA, hb⟩)
theorem Mem.apart (h : Mem w0 F w L) (i j : Nat) (hij : i ≠ j) {A B : Asn} (hA : L[i]? = some A) (hB : L[j]? = some B) {b : Nat} (h1 : b ∈ A.foot) (h2 : b ∈ B.foot) : False := by
 have hN := h.nodup;unfold Jag List.Nodup at hN;rw [List.pairwise_flatMap] at hN;obtain ⟨hi, rfl⟩ := List.getElem?_eq_some_iff.1 hA;obtain ⟨hj, rfl⟩ := List.getElem?_eq_some_iff.1 hB;have hp := List.pairwise_iff_getElem.1 hN.2;rcases Nat.lt_or_gt_of_ne hij with hlt | hlt
 ·exact hp i j hi hj hlt b h1 b h2 rfl
 ·exact hp j i hj hi hlt b h2 b h1 rfl
theorem Mem.open {p : Prop} {X : List Asn} (h : Mem w0 F w (star p X :: R)) : p ∧ Mem w0 F w (X ++ R) := by
 have hs := h.all (star p X) (List.mem_cons_self ..);refine ⟨hs.1, h.grew, fun A hA => ?_, ?_, fun b hb => h.new b ?_⟩
 ·rcases List.mem_append.1 hA with hA | hA
  ·exact hs.2 A hA
  ·exact h.all A (List.mem_cons_of_mem _ hA)
 ·have := h.nodup;rw [Jcm] at this;rw [Jbr];exact this
 ·rw [Jbr] at hb;rw [Jcm];exact hb
theorem Mem.close {p : Prop} {X : List Asn} (hp : p) (h : Mem w0 F w (X ++ R)) : Mem w0 F w (star p X :: R) := by
 refine ⟨h.grew, fun A hA => ?_, ?_, fun b hb => h.new b ?_⟩
 ·rcases List.mem_cons.1 hA with rfl | hA
  ·exact ⟨hp, fun A hA => h.all A (List.mem_append_left _ hA)⟩
  ·exact h.all A (List.mem_append_right _ hA)
 ·have := h.nodup;rw [Jbr] at this;rw [Jcm];exact this
 ·rw [Jcm] at hb;rw [Jbr];exact hb
theorem Mem.old (h : Mem w0 F w L) {b : Nat} (hb : b < w0.heap.size) (hF : b ∉ F) : w.heap[b]? = w0.heap[b]? := h.grew.block b hb hF
theorem Mem.row (h : Mem w0 F w L) {ao : Option Addr} {n : Nat} {l : List UInt8} (hr : Row w0 ao n l) (hF : ∀ b o, ao = some ⟨b, o, none⟩ → 0 < n → b ∉ F) : Row w ao n l := by
 refine ⟨hr.1, fun i hi => ?_⟩;obtain ⟨b, o, e, hc⟩ := hr.2 i hi;exact ⟨b, o, e, (World.cell?_of_block (w := w0) (w' := w) (a := ⟨b, o + i, none⟩) (h.old (block_lt_of_cell hc) (hF b o e (by have := hr.1; omega)))).trans hc⟩
end
end Go.Proofs.YtodhlfinbbajfaaGreatDoor
