/- Texts joined. -/
import Derived.Test.YtodhlfinbbajfaaGreatDoorGF02
import Derived.Test.YtodhlfinbbajfaaGreatDoorGF00
import Derived.Test.YtodhlfinbbajfaaGreatDoorChecked
namespace Go.Proofs.YtodhlfinbbajfaaGreatDoor
open Go Go.RowKit
set_option linter.unusedVariables false
set_option linter.unusedSimpArgs false
set_option linter.unusedSectionVars false
set_option maxRecDepth 100000
set_option maxHeartbeats 40000000
section
variable {P : Program} {ops : Array Oper} {S : World → Prop} {Q : Exit → Act → World → Prop} {rest : List Oper} {o : Oper} {a : Act} {w w' w0 : World} {F : List Nat} {L : List Asn} {K : Act → World → Prop} {x y : Operand} {t t' e : TypeId}
theorem Mem.setBlk2 (h : Mem w0 F w L) (i : Nat) {g : Nat} {T : TypeId} {C : List Value} (C' : List Value) (hi : L[i]? = some (blk g T C)) (hg : Grew w w' [g]) (hb : w'.heap[g]? = some (.cells C'.toArray T (0, 0))) : Mem w0 F w' (L.set i (blk g T C')) :=
  h.upd i hi ⟨hg, fun A hA => by
    obtain rfl : A = _ := by simpa using hA
    exact hb, by simp [Jag, blk], fun b hb => .inl (by simpa [Jag, blk] using hb)⟩
theorem Mem.ownl (h : Mem w0 F w L) {v : Value} {l : List UInt8} (hb : Below w.heap.size w w') (ho : Own w' w.heap.size e v l) : Mem w0 F w' (lst e 1 v l.length (bvs l) :: L) :=
  h.step (R := [lst e 1 v l.length (bvs l)]) ⟨Grew.low hb _, fun A hA => by
    obtain rfl : A = _ := by simpa using hA
    obtain ⟨h1, h2⟩ := ho
    refine ⟨h1, ?_⟩
    rcases h2 with h2 | ⟨g, cap, cur, hv, _, hr⟩
    · exact .inl h2
    · exact .inr ⟨g, cap, cur, hv, Nat.zero_le _, hr⟩, by simp only [Jag, List.flatMap_cons, List.flatMap_nil, List.append_nil]; exact Jn8 v, fun b hb' => .inr (by
      simp only [Jag, List.flatMap_cons, List.flatMap_nil, List.append_nil] at hb'
      exact (Jmg ho b (Jhm.1 hb')).1)⟩
theorem Mem.same (h : Mem w0 F w L) (e : w' = w) : Mem w0 F w' L := by rw [e]; exact h
theorem Jx2 {p : Addr} {len c n : Nat} (hw : Region.wanted o (yielded ops a.tmps) = true) (ho : o.op = .sliceToArrayPointer t x) (hx : a.eval x = .slice (some p) len c) (hu : P.underlying t = some (.array n e)) (hn : n ≤ len) : YieldsIf P ops S o (.pointer (some p)) a :=
  Je4 hw fun w _ => by
    unfold execOp
    simp only [ho, hx]
    rw [Sem.run_bind, run_arrayAt w t e n p len c hu hn]
    rfl
theorem Jx3 {u r : Value} (hw : Region.wanted o (yielded ops a.tmps) = true) (ho : o.op = .convert t t' x) (hx : a.eval x = u) (hr : ∀ w, S w → (convert t t' u).run P w = .ok r w) : YieldsIf P ops S o r a :=
  Je4 hw fun w h => by
    unfold execOp
    simp only [ho, hx, Sem.run_bind, hr w h, Result.andThen_ok]
    rfl
theorem Jts {l m : List UInt8} {b : Bool} (hw : Region.wanted o (yielded ops a.tmps) = true) (ho : o.op = .binOp .neq t x y t') (hx : a.eval x = .string ⟨l.toArray⟩) (hy : a.eval y = .string ⟨m.toArray⟩) (hb : (!eqB l m) = b) : YieldsIf P ops S o (.bool b) a :=
  Jgx hw ho hx hy (by unfold eqGuard; rfl) fun w => by
    rw [binOp_string_neq]
    subst hb
    show Result.ok (Value.bool (!((ByteArray.mk l.toArray).toList == (ByteArray.mk m.toArray).toList))) w = _
    congr 3
    rw [Bool.eq_iff_iff, beq_iff_eq]
    unfold eqB
    rw [decide_eq_true_iff, ByteArray.toList_eq, ByteArray.toList_eq]
theorem Jx4 (M : Mem w0 F w L) (i : Nat) {g off dLen dCap : Nat} {T : TypeId} {C : List Value} {sT : TypeId} {s : ByteArray} (l : List UInt8) (ho : o.op = .call { callee := .builtin .copy, args := #[x, y], argTypes := #[t, sT] }) (hu : P.underlying t = some (.slice e)) (hz : ∀ w, (sizeOf e).run P w = .ok 1 w)
    (hx : a.eval x = .slice (some ⟨g, off, none⟩) dLen dCap) (hy : a.eval y = .string s) (hi : L[i]? = some (blk g T C)) (hn : l.length = Nat.min s.size dLen) (hf : Builtin.firstCells 1 (Nat.min s.size dLen) (.string s) = pure (bvs l).toArray) (hfit : off + l.length ≤ C.length)
    (h : ∀ w', Mem w0 F w' (L.set i (blk g T (splice C off (bvs l)))) → K (a.put o.dst (.int .i64 (l.length : Int))) w') : Oper.wp P o a w K Q := by
 have hb := M.get i hi;have hb' : w.heap[g]? = some (.cells C.toArray T (0, 0)) := hb;have hst := run_storeCells_at (P := P) g off T (bvs l) 0 C.toArray w hb' (by simpa using hfit) (Jcc l)
 have hrun : (Builtin.copy_ #[t, sT] o.type #[.slice (some ⟨g, off, none⟩) dLen dCap, .string s]).run P w = .ok (goInt l.length) (w.setRow g (splice C off (bvs l)).toArray) := by
   unfold Builtin.copy_;simp only [Builtin.lenOf, Sem.run_bind, run_underlying hu, Result.andThen_ok, Sem.run_pure, hz];simp [hf, Sem.run_bind, run_underlying hu, hz, hst, splice, hn, Builtin.lenOf, Result.andThen]
 unfold Oper.wp;simp [execOp, ho, resolve, invoke, builtin, hx, hy, hrun, Result.andThen];exact h _ (M.setBlk i _ hi (Jem w g _) (setRow_heap w g _ _ T _ hb'))
end
section
variable {P : Program} {S : World → Prop}
theorem Jld {k : IntKind} {ty : TypeId} {p : Addr} {v : Value} (w : World) (hu : P.underlying ty = some (.int k)) (hc : w.cell? p = some v) : (loadVar ty p).run P w = .ok v w := by
 simp [loadVar, isAgg, run_underlying hu, hc, go_sem]
theorem Jj4 {o : Oper} {a : Act} {ops : Array Oper} (hw : Region.wanted o (yielded ops a.tmps) = true) (ty : TypeId) (x : Operand) (ho : o.op = .load ty x)
    (b off : Nat) (hx : a.eval x = .pointer (some ⟨b, off, none⟩)) (k : IntKind) (v : Value) (hS : ∀ w, S w → w.cell? ⟨b, off, none⟩ = some v) (hu : P.underlying ty = some (.int k)) :
    YieldsIf P ops S o v a :=
  .inl ⟨hw, fun w hw' => by
    unfold execOp
    simp only [ho, hx, Instr.loadAt, Instr.sureAddr, Sem.run_bind, Sem.run_pure, Result.andThen_ok, Jld w hu (hS w hw')]⟩
end
section
variable {P : Program} {ops : Array Oper} {S : World → Prop} {Q : Exit → Act → World → Prop} {os os' l : List Oper} {o : Oper} {a a' : Act} {w w0 w1 w' : World} {F : List Nat} {L : List Asn} {x y : Operand} {t t' : TypeId} {k : IntKind} {m n : Int} {b : Bool}
def zlk (a : Act) : Operand → Option Value
  | .tmp i => a.tmps.toList[i]?
  | .const v => some v
  | _ => none
theorem Jbg {v : Value} (h : zlk a x = some v) : a.eval x = v := by
 cases x with
 | tmp i =>
   show a.tmps.getD i undef = v;have h' : a.tmps.toList[i]? = some v := h;rw [Array.getD_eq_getD_getElem?, ← Array.getElem?_toList, h'];rfl
 | const u => exact Option.some.inj h;| global g => cases h;| func f => cases h
def zset {α : Type} : List α → Nat → α → List α
  | [], _, _ => []
  | _ :: xs, 0, v => v :: xs
  | x :: xs, i + 1, v => x :: zset xs i v
theorem Jri {α : Type} (v : α) : ∀ (xs : List α) (i : Nat), zset xs i v = xs.set i v
  | [], _ => rfl
  | _ :: _, 0 => rfl
  | _ :: xs, i + 1 => congrArg _ (Jri v xs i)
def zput (a : Act) (d : Option Tmp) (v : Value) : Act :=
  match d with
  | some i => ⟨(zset a.tmps.toList i v).toArray, a.defers⟩
  | none => a
theorem Jef (a : Act) (d : Option Tmp) (v : Value) : a.put d v = zput a d v := by
 cases d with
 | none => rfl
 | some i =>
   obtain ⟨⟨xs⟩, df⟩ := a;show (⟨xs.toArray.setIfInBounds i v, df⟩ : Act) = ⟨(zset xs i v).toArray, df⟩;rw [List.setIfInBounds_toArray, Jri]
def zwd (ops : Array Oper) (a : Act) (o : Oper) : Bool :=
  match o.guard with
  | none => true
  | some (j, want) => match ((ops[j]?).bind (·.dst)).bind (a.tmps.toList[·]?) with
    | some (.bool b) => b == want
    | _ => false
theorem Jcb : Region.wanted o (yielded ops a.tmps) = zwd ops a o := by
 rcases hg : o.guard with _ | ⟨j, want⟩
 ·simp only [Region.wanted, zwd, hg]
 ·have e : ((ops[j]?).bind (·.dst)).bind (a.tmps.toList[·]?) = ((ops[j]?).bind (·.dst)).bind (a.tmps[·]?) := by
    congr 1;funext i;exact Array.getElem?_toList
  simp only [Region.wanted, zwd, hg, yielded];rw [e];generalize ((ops[j]?).bind (·.dst)).bind (a.tmps[·]?) = r;rcases r with _ | v
  ·rfl
  ·cases v with
   | bool b => cases b <;> cases want <;> rfl;| _ => rfl
def zpv (a : Act) (o : Oper) : Option Value :=
  match o.op with
  | .move x => zlk a x
  | .assign x => zlk a x
  | .pick c x y => match zlk a c with
    | some (.bool true) => zlk a x
    | some (.bool false) => zlk a y
    | _ => none
  | .nilCheck x => match zlk a x with
    | some (.pointer (some p)) => some (.pointer (some p))
    | _ => none
  | .unOp .not _ x => match zlk a x with
    | some (.bool b) => some (.bool (!b))
    | _ => none
  | .extract x i => match zlk a x with
    | some (.tuple vs) => vs.toList[i]?
    | _ => none
  | _ => none
theorem Jkd {v : Value} (hw : zwd ops a o = true) (h : zpv a o = some v) : YieldsIf P ops S o v a := by
 rw [← Jcb] at hw;unfold zpv at h;split at h
 ·next x ho => exact Jzd hw ho (Jbg h)
 ·next x ho => exact Jq6 hw ho (Jbg h)
 ·next c x y ho =>
  split at h
  ·next hc => exact Jyb hw ho (Jbg hc) (Jbg h)
  ·next hc => exact Jyc hw ho (Jbg hc) (Jbg h)
  ·cases h
 ·next x ho =>
  split at h
  ·next p hx => cases h; exact y_nil hw ho (Jbg hx)
  ·cases h
 ·next ty x ho =>
  split at h
  ·next b hx => cases h; exact y_not hw ho (Jbg hx) rfl
  ·cases h
 ·next x i ho =>
  split at h
  ·next vs hx => exact y_ext hw ho (Jbg hx) (by rw [← Array.getElem?_toList]; exact h)
  ·cases h
 ·cases h
theorem zo {v : Value} (M : Mem w0 F w L) (hy : YieldsIf P ops (fun W => Mem w0 F W L) o v a) (h : wpList P ops Q os (zput a o.dst v) w) : wpList P ops Q (o :: os) a w :=
  pl M hy (by rw [Jef]; exact h)
theorem zq {Q' : Act → Prop} {v : Value} (M : Mem w0 F w L) (hy : YieldsIf P ops (fun W => Mem w0 F W L) o v a) (h : wpStill P ops w Q' os (zput a o.dst v)) : wpStill P ops w Q' (o :: os) a :=
  ps M hy (by rw [Jef]; exact h)
def zst (ops : Array Oper) (a : Act) (o : Oper) : Option Act :=
  match zwd ops a o with
  | true => match zpv a o with
    | some v => some (zput a o.dst v)
    | none => none
  | false => some (zput a o.dst undef)
def zrun (ops : Array Oper) : Nat → List Oper → Act → Option (List Oper × Act)
  | 0, os, a => some (os, a)
  | _ + 1, [], _ => none
  | i + 1, o :: os, a => match zst ops a o with
    | some a' => zrun ops i os a'
    | none => none
theorem Jz0 (h : zst ops a o = some a') (hk : wpList P ops Q os a' w) : wpList P ops Q (o :: os) a w := by
 unfold zst at h;split at h
 ·next hw =>
  split at h
  ·next v hv => cases h; exact zo (Mem.nil w) (Jkd hw hv) hk
  ·cases h
 ·next hw => cases h; exact Jpw (by rw [Jcb]; exact hw) (by rw [Jef]; exact hk)
theorem zp (i : Nat) (h : zrun ops i os a = some (os', a')) (hk : wpList P ops Q os' a' w) : wpList P ops Q os a w := by
 induction i generalizing os a with
 | zero => cases h; exact hk
 | succ i ih =>
   cases os with
   | nil => cases h
   | cons o os =>
     unfold zrun at h;split at h
     ·next a1 h1 => exact Jz0 h1 (ih h)
     ·cases h
theorem Jz1 {Q' : Act → Prop} (h : zst ops a o = some a') (hk : wpStill P ops w Q' os a') : wpStill P ops w Q' (o :: os) a := by
 unfold zst at h;split at h
 ·next hw =>
  split at h
  ·next v hv => cases h; exact zq (Mem.nil w) (Jkd hw hv) hk
  ·cases h
 ·next hw => cases h; exact Jxy (by rw [Jcb]; exact hw) (by rw [Jef]; exact hk)
theorem Zs (i : Nat) {Q' : Act → Prop} (h : zrun ops i os a = some (os', a')) (hk : wpStill P ops w Q' os' a') : wpStill P ops w Q' os a := by
 induction i generalizing os a with
 | zero => cases h; exact hk
 | succ i ih =>
   cases os with
   | nil => cases h
   | cons o os =>
     unfold zrun at h;split at h
     ·next a1 h1 => exact Jz1 h1 (ih h)
     ·cases h
theorem zy {v : Value} (h : (zwd ops a o, zpv a o) = (true, some v)) : YieldsIf P ops S o v a :=
  Jkd (congrArg Prod.fst h) (congrArg Prod.snd h)
theorem zm {g off : Nat} {T : TypeId} {C : List Value} {v : Value} (i : Nat) (h : (zwd ops a o, o.op, zlk a x, L[i]?) = (true, Op.load t x, some (Value.pointer (some ⟨g, off, none⟩)), some (blk g T C))) (hi : ∀ w, (isAgg t).run P w = .ok false w) (hv : C[off]? = some v) : YieldsIf P ops (fun W => Mem w0 F W L) o v a := by
 cases Prod.mk.inj h with | intro h1 h2 => cases Prod.mk.inj h2 with | intro h2 h3 => cases Prod.mk.inj h3 with | intro h3 h4 => exact Jip (by rw [Jcb]; exact h1) h2 (Jbg h3) hi (fun W hW => hW.get i h4) hv
theorem zl {g off : Nat} {T : TypeId} {C : List Value} {v : Value} (i : Nat) (h : (zwd ops a o, o.op, zlk a x, L[i]?, C[off]?) = (true, Op.load t x, some (Value.pointer (some ⟨g, off, none⟩)), some (blk g T C), some v)) (hi : ∀ w, (isAgg t).run P w = .ok false w) : YieldsIf P ops (fun W => Mem w0 F W L) o v a := by
 cases Prod.mk.inj h with | intro h1 h2 => cases Prod.mk.inj h2 with | intro h2 h3 => cases Prod.mk.inj h3 with | intro h3 h4 => cases Prod.mk.inj h4 with | intro h4 h5 => exact Jip (by rw [Jcb]; exact h1) h2 (Jbg h3) hi (fun W hW => hW.get i h4) h5
theorem zf {g off i z : Nat} (r : Nat) {fs : Array Field} {f : Field} (hu : P.underlying t = some (.struct fs)) (h : (zwd ops a o, o.op, zlk a x, fs[i]?, off + f.offset) = (true, Op.fieldAddr t x i, some (Value.pointer (some ⟨g, off, none⟩)), some f, r))
    (hz : ∀ w, (sizeOf f.type).run P w = .ok (z + 1) w) : YieldsIf P ops S o (.pointer (some ⟨g, r, none⟩)) a := by
 cases Prod.mk.inj h with | intro h1 h2 => cases Prod.mk.inj h2 with | intro h2 h3 => cases Prod.mk.inj h3 with | intro h3 h4 => cases Prod.mk.inj h4 with | intro h4 h5 => exact y_fa (by rw [Jcb]; exact h1) h2 (Jbg h3) hu h4 hz h5
theorem zlss (h : (zwd ops a o, o.op, zlk a x, zlk a y) = (true, Op.binOp .lss t x y t', some (Value.int k m), some (Value.int k n))) (hb : decide (m < n) = b) : YieldsIf P ops S o (.bool b) a := by
 cases Prod.mk.inj h with | intro h1 h2 => cases Prod.mk.inj h2 with | intro h2 h3 => cases Prod.mk.inj h3 with | intro h3 h4 => exact Jv5 (by rw [Jcb]; exact h1) h2 (Jbg h3) (Jbg h4) hb
theorem zleq (h : (zwd ops a o, o.op, zlk a x, zlk a y) = (true, Op.binOp .leq t x y t', some (Value.int k m), some (Value.int k n))) (hb : decide (m ≤ n) = b) : YieldsIf P ops S o (.bool b) a := by
 cases Prod.mk.inj h with | intro h1 h2 => cases Prod.mk.inj h2 with | intro h2 h3 => cases Prod.mk.inj h3 with | intro h3 h4 => exact y_leq (by rw [Jcb]; exact h1) h2 (Jbg h3) (Jbg h4) hb
theorem zgtr (h : (zwd ops a o, o.op, zlk a x, zlk a y) = (true, Op.binOp .gtr t x y t', some (Value.int k m), some (Value.int k n))) (hb : decide (n < m) = b) : YieldsIf P ops S o (.bool b) a := by
 cases Prod.mk.inj h with | intro h1 h2 => cases Prod.mk.inj h2 with | intro h2 h3 => cases Prod.mk.inj h3 with | intro h3 h4 => exact y_gtr (by rw [Jcb]; exact h1) h2 (Jbg h3) (Jbg h4) hb
theorem zgeq (h : (zwd ops a o, o.op, zlk a x, zlk a y) = (true, Op.binOp .geq t x y t', some (Value.int k m), some (Value.int k n))) (hb : decide (n ≤ m) = b) : YieldsIf P ops S o (.bool b) a := by
 cases Prod.mk.inj h with | intro h1 h2 => cases Prod.mk.inj h2 with | intro h2 h3 => cases Prod.mk.inj h3 with | intro h3 h4 => exact y_geq (by rw [Jcb]; exact h1) h2 (Jbg h3) (Jbg h4) hb
theorem zeql (h : (zwd ops a o, o.op, zlk a x, zlk a y) = (true, Op.binOp .eql t x y t', some (Value.int k m), some (Value.int k n))) (hb : decide (m = n) = b) : YieldsIf P ops S o (.bool b) a := by
 cases Prod.mk.inj h with | intro h1 h2 => cases Prod.mk.inj h2 with | intro h2 h3 => cases Prod.mk.inj h3 with | intro h3 h4 => exact Jze (by rw [Jcb]; exact h1) h2 (Jbg h3) (Jbg h4) hb
theorem zneq (h : (zwd ops a o, o.op, zlk a x, zlk a y) = (true, Op.binOp .neq t x y t', some (Value.int k m), some (Value.int k n))) (hb : (!decide (m = n)) = b) : YieldsIf P ops S o (.bool b) a := by
 cases Prod.mk.inj h with | intro h1 h2 => cases Prod.mk.inj h2 with | intro h2 h3 => cases Prod.mk.inj h3 with | intro h3 h4 => exact y_neq (by rw [Jcb]; exact h1) h2 (Jbg h3) (Jbg h4) hb
theorem zT {p : Prop} {d : Decidable p} (h : p) : decide p = true := decide_eq_true h
theorem zF {p : Prop} {d : Decidable p} (h : ¬ p) : decide p = false := decide_eq_false h
theorem zt (i : Nat) {oi : Oper} {v : Value} {md : Region.Mode} {fuel : Nat} {listed : Array Bool} (hi : l[i]? = some oi)
    (hy : YieldsIf P l.toArray S oi v a) (hS : S w)
    (h : wpAnyH P md l.toArray (NoPanic Q) S fuel (listed.setIfInBounds i true) (zput a oi.dst v) w)
    (hb : (Region.noSelect l.toArray && (Region.free md l.toArray listed i && (Region.ready md l.toArray listed).contains i)) = true := by kernel_rfl) : wpAnyH P md l.toArray (NoPanic Q) S (fuel + 1) listed a w := by
 have h1 := Bool.and_eq_true_iff.1 hb;have h2 := Bool.and_eq_true_iff.1 h1.2;exact Jdm i v hi h1.1 h2.1 h2.2 hy hS (by rw [Jef]; exact h)
theorem zlb {g : Nat} {T : TypeId} {d : TypeDesc} {cs : List Value} (i : Nat) (h : (zwd ops a o, o.op, zlk a x, L[i]?) = (true, Op.load t x, some (Value.pointer (some ⟨g, 0, none⟩)), some (blk g T cs))) (hu : P.underlying t = some d) (hd : d.isRow = true) (hi : Box ((P.info? t).map (·.size) = some cs.length)) : YieldsIf P ops (fun W => Mem w0 F W L) o (.agg cs.toArray) a := by
 cases Prod.mk.inj h with | intro h1 h2 => cases Prod.mk.inj h2 with | intro h2 h3 => cases Prod.mk.inj h3 with | intro h3 h4 => exact Jdo (by rw [Jcb]; exact h1) h2 (Jbg h3) hu hd hi (fun W hW => hW.get i h4) (List.take_of_length_le (Nat.le_refl _))
theorem zi {id : Nat} : Exit.inBlock id Q .ret = Q .ret := rfl
theorem zj {K : Act → World → Prop} : Exit.then K Q .ret = Q .ret := rfl
theorem zR {fn : Func} {R : Ending → World → Prop} {v : Value} (hr : (results fn a.tmps).run P w = .ok v w) (hd : a.defers = []) (hR : R (.returned v) w) : bodyPost P fn R .ret a w := bodyPost_ret hr hd hR
theorem zpe (hw : zwd ops a o = true) (h : ∀ K : Act → World → Prop, Box (∀ a w, wpList P ops Q os a w → K a w) → Oper.wp P o a w K Q) : wpList P ops Q (o :: os) a w := pe (by rw [Jcb]; exact hw) h
theorem Jxp (h : o.guard = none) : zwd ops a o = true := by
 unfold zwd;rw [h]
theorem zsw (M : Mem w0 F w L) (i : Nat) {g : Nat} {T : TypeId} {C cs : List Value} (hh : (o.op, o.guard, zlk a x, zlk a y, L[i]?) = (Op.store t x y, none, some (Value.pointer (some ⟨g, 0, none⟩)), some (Value.agg cs.toArray), some (blk g T C)))
    (hs : Box ((P.info? t).map (·.size) = some cs.length)) (h1 : cs.toArray.all (·.oneCell') = true) (hlt : cs.length = C.length)
    (h : ∀ w', Mem w0 F w' (L.set i (blk g T cs)) → wpList P ops Q os (zput a o.dst undef) w') : wpList P ops Q (o :: os) a w := by
 cases Prod.mk.inj hh with | intro h1' h2 => cases Prod.mk.inj h2 with | intro h2 h3 => cases Prod.mk.inj h3 with | intro h3 h4 => cases Prod.mk.inj h4 with | intro h4 h5 => exact zpe (Jxp h2) fun K hK => Jbj M i h1' h2 (Jbg h3) (Jbg h4) hs h1 h5 hlt fun w' M' => hK.out _ _ (by rw [Jef]; exact h w' M')
theorem zso (M : Mem w0 F w L) (i : Nat) {g off : Nat} {T : TypeId} {C : List Value} {v : Value} (hh : (o.op, o.guard, zlk a x, zlk a y, L[i]?) = (Op.store t x y, none, some (Value.pointer (some ⟨g, off, none⟩)), some v, some (blk g T C)))
    (hv : (v.cells, v.oneCell') = (#[v], true)) (hs : ∀ w, (sizeOf t).run P w = .ok 1 w) (hlt : off < C.length)
    (h : ∀ w', Mem w0 F w' (L.set i (blk g T (C.set off v))) → wpList P ops Q os (zput a o.dst undef) w') : wpList P ops Q (o :: os) a w := by
 cases Prod.mk.inj hh with | intro h1' h2 => cases Prod.mk.inj h2 with | intro h2 h3 => cases Prod.mk.inj h3 with | intro h3 h4 => cases Prod.mk.inj h4 with | intro h4 h5 => cases Prod.mk.inj hv with | intro h6 h7 => exact zpe (Jxp h2) fun K hK => Jc9 M i h1' h2 (Jbg h3) (Jbg h4) h6 h7 hs h5 hlt fun w' M' => hK.out _ _ (by rw [Jef]; exact h w' M')
theorem zal (M : Mem w0 F w L) (cs : List Value) (hh : (zwd ops a o, o.op) = (true, Op.alloc t)) (hz : ∀ w, (zeroValue t).run P w = .ok (.agg cs.toArray) w)
    (h : ∀ g w', Mem w0 F w' (blk g t cs :: L) → wpList P ops Q os (zput a o.dst (.pointer (some ⟨g, 0, none⟩))) w') : wpList P ops Q (o :: os) a w := by
 cases Prod.mk.inj hh with | intro h1 h2 => exact zpe h1 fun K hK => Jcw M cs h2 hz fun g w' M' => hK.out _ _ (by rw [Jef]; exact h g w' M')
theorem zbx (M : Mem w0 F w L) (cs : List Value) (hh : (zwd ops a o, o.op, zlk a x) = (true, Op.box t x, some (Value.agg cs.toArray)))
    (h : ∀ g w', Mem w0 F w' (blk g t cs :: L) → wpList P ops Q os (zput a o.dst (.pointer (some ⟨g, 0, none⟩))) w') : wpList P ops Q (o :: os) a w := by
 cases Prod.mk.inj hh with | intro h1 h2 => cases Prod.mk.inj h2 with | intro h2 h3 => exact zpe h1 fun K hK => Jzb M cs h2 (Jbg h3) fun g w' M' => hK.out _ _ (by rw [Jef]; exact h g w' M')
theorem zca (f : FuncId) (args : List Value) {xs : List Operand} {ts : Array TypeId} (hh : (zwd ops a o, o.op, xs.map a.eval) = (true, Op.call { callee := .value (.func f), args := xs.toArray, argTypes := ts }, args)) (hf : ∀ ar w, (callFunc f ar).run P w = .ok (.enter f ar) w)
    {R : Ending → World → Prop} (hc : Calls P f args.toArray w R) (h : ∀ e w', R e w' → ∃ v, e = .returned v ∧ wpList P ops Q os (zput a o.dst v) w') : wpList P ops Q (o :: os) a w := by
 cases Prod.mk.inj hh with | intro h1 h2 => cases Prod.mk.inj h2 with | intro h2 h3 => exact zpe h1 fun K hK => Jap f args h2 h3 hf hc fun e w' r => let ⟨v, hv, hk⟩ := h e w' r; ⟨v, hv, hK.out _ _ (by rw [Jef]; exact hk)⟩
theorem zem (p : Prop) [Decidable p] : p ∨ ¬ p := Decidable.em p
theorem Mem.h1 {A : Asn} {R : List Asn} (h : Mem w0 F w (A :: R)) : Mem w (Jag [A]) w [A] := Mem.here (L := [A]) (R := R) h
theorem Mem.f1 {A : Asn} {R Po : List Asn} (h : Mem w0 F w (A :: R)) (h' : Mem w (Jag [A]) w' Po) : Mem w0 F w' (Po ++ R) := Mem.frame (Pre := [A]) (R := R) h h'
theorem Mem.h2 {A B : Asn} {R : List Asn} (h : Mem w0 F w (A :: B :: R)) : Mem w (Jag [A, B]) w [A, B] := Mem.here (L := [A, B]) (R := R) h
theorem Mem.f2 {A B : Asn} {R Po : List Asn} (h : Mem w0 F w (A :: B :: R)) (h' : Mem w (Jag [A, B]) w' Po) : Mem w0 F w' (Po ++ R) := Mem.frame (Pre := [A, B]) (R := R) h h'
theorem Mem.h3 {A B C : Asn} {R : List Asn} (h : Mem w0 F w (A :: B :: C :: R)) : Mem w (Jag [A, B, C]) w [A, B, C] := Mem.here (L := [A, B, C]) (R := R) h
theorem Mem.f3 {A B C : Asn} {R Po : List Asn} (h : Mem w0 F w (A :: B :: C :: R)) (h' : Mem w (Jag [A, B, C]) w' Po) : Mem w0 F w' (Po ++ R) := Mem.frame (Pre := [A, B, C]) (R := R) h h'
theorem Mem.h4 {A B C D : Asn} {R : List Asn} (h : Mem w0 F w (A :: B :: C :: D :: R)) : Mem w (Jag [A, B, C, D]) w [A, B, C, D] := Mem.here (L := [A, B, C, D]) (R := R) h
theorem Mem.f4 {A B C D : Asn} {R Po : List Asn} (h : Mem w0 F w (A :: B :: C :: D :: R)) (h' : Mem w (Jag [A, B, C, D]) w' Po) : Mem w0 F w' (Po ++ R) := Mem.frame (Pre := [A, B, C, D]) (R := R) h h'
theorem Mem.h5 {A B C D E : Asn} {R : List Asn} (h : Mem w0 F w (A :: B :: C :: D :: E :: R)) : Mem w (Jag [A, B, C, D, E]) w [A, B, C, D, E] := Mem.here (L := [A, B, C, D, E]) (R := R) h
theorem Mem.f5 {A B C D E : Asn} {R Po : List Asn} (h : Mem w0 F w (A :: B :: C :: D :: E :: R)) (h' : Mem w (Jag [A, B, C, D, E]) w' Po) : Mem w0 F w' (Po ++ R) := Mem.frame (Pre := [A, B, C, D, E]) (R := R) h h'
theorem Mem.s1 {A : Asn} {R : List Asn} (h : Mem w0 F w (A :: R)) : Mem w0 F w ([A] ++ R) := h
theorem Mem.s2 {A B : Asn} {R : List Asn} (h : Mem w0 F w (A :: B :: R)) : Mem w0 F w ([A, B] ++ R) := h
theorem Mem.s3 {A B C : Asn} {R : List Asn} (h : Mem w0 F w (A :: B :: C :: R)) : Mem w0 F w ([A, B, C] ++ R) := h
theorem Mem.s4 {A B C D : Asn} {R : List Asn} (h : Mem w0 F w (A :: B :: C :: D :: R)) : Mem w0 F w ([A, B, C, D] ++ R) := h
theorem Mem.s5 {A B C D E : Asn} {R : List Asn} (h : Mem w0 F w (A :: B :: C :: D :: E :: R)) : Mem w0 F w ([A, B, C, D, E] ++ R) := h
theorem zw (h : Q .normal a w) : wpList P ops Q [] a w := wpList_nil h
theorem Mem.st0 (h : Mem w0 F w L) (h' : Mem w [] w' []) : Mem w0 F w' L := h.step (R := []) h'
theorem zcl (M : Mem w0 F w L) (f : FuncId) (args : List Value) {xs : List Operand} {ts : Array TypeId} {v : Value} (hh : (zwd ops a o, o.op, xs.map a.eval) = (true, Op.call { callee := .value (.func f), args := xs.toArray, argTypes := ts }, args)) (hf : ∀ ar w, (callFunc f ar).run P w = .ok (.enter f ar) w)
    (hc : Calls P f args.toArray w fun e w' => e = .returned v ∧ Mem w [] w' []) (h : ∀ w', Mem w0 F w' L → wpList P ops Q os (zput a o.dst v) w') : wpList P ops Q (o :: os) a w :=
  zca f args hh hf hc fun e w' r => ⟨v, r.1, h w' (M.st0 r.2)⟩
theorem zfl (M : Mem w0 F w L) {o2 : Oper} {t2 : TypeId} {x2 : Operand} {g g2 off off2 i z : Nat} (r : Nat) {fs : Array Field} {f : Field} (hu : P.underlying t = some (.struct fs)) (h : (zwd ops a o, o.op, zlk a x, fs[i]?, off + f.offset) = (true, Op.fieldAddr t x i, some (Value.pointer (some ⟨g, off, none⟩)), some f, r))
    (hz : ∀ w, (sizeOf f.type).run P w = .ok (z + 1) w) {T : TypeId} {C : List Value} {v : Value} (n : Nat)
    (h2 : (zwd ops (zput a o.dst (.pointer (some ⟨g, r, none⟩))) o2, o2.op, zlk (zput a o.dst (.pointer (some ⟨g, r, none⟩))) x2, L[n]?, C[off2]?) = (true, Op.load t2 x2, some (Value.pointer (some ⟨g2, off2, none⟩)), some (blk g2 T C), some v)) (hi : ∀ w, (isAgg t2).run P w = .ok false w)
    (hk : wpList P ops Q os (zput (zput a o.dst (.pointer (some ⟨g, r, none⟩))) o2.dst v) w) : wpList P ops Q (o :: o2 :: os) a w :=
  zo M (zf r hu h hz) (zo M (zl n h2 hi) hk)
theorem Za {xs : List Value} {d : List Deferred} {i : Tmp} {v : Value} : zput ⟨xs.toArray, d⟩ (some i) v = ⟨(zset xs i v).toArray, d⟩ := rfl
theorem Zb {α : Type} {a b : α} {xs : List α} : zset (a :: xs) 0 b = b :: xs := rfl
theorem Zc {α : Type} {a b : α} {xs : List α} {i : Nat} : zset (a :: xs) (i + 1) b = a :: zset xs i b := rfl
theorem Ze {xs : List Value} {d : List Deferred} {i : Tmp} {v : Value} : (⟨xs.toArray, d⟩ : Act).put (some i) v = ⟨(zset xs i v).toArray, d⟩ := Jef _ _ _
theorem Zg {α : Type} {a b : α} {xs : List α} : (a :: xs).set 0 b = b :: xs := rfl
theorem Zh {α : Type} {a b : α} {xs : List α} {i : Nat} : (a :: xs).set (i + 1) b = a :: xs.set i b := rfl
def Y4 {α : Type} : List α → Nat → List α
  | [], _ => []
  | x :: _, 0 => [x]
  | _ :: xs, i + 1 => Y4 xs i
def Y3 {α : Type} (xs : List α) : List Nat → List α
  | [] => []
  | i :: ix => Y4 xs i ++ Y3 xs ix
theorem Jxq {α : Type} : ∀ (xs : List α) (i : Nat), Y4 xs i = (xs[i]?).toList
  | [], _ => rfl
  | _ :: _, 0 => rfl
  | _ :: xs, i + 1 => by rw [List.getElem?_cons_succ]; exact Jxq xs i
theorem Jxr {α : Type} (xs : List α) : ∀ ix : List Nat, Y3 xs ix = ix.filterMap (xs[·]?)
  | [] => rfl
  | i :: ix => by
    rw [List.filterMap_cons, Y3, Jxq, Jxr xs ix]
    cases xs[i]? <;> rfl
theorem Mem.pk (h : Mem w0 F w L) (ix : List Nat) (hn : ix.Nodup := by decide) : Mem w0 F w (Y3 L ix) := by
 rw [Jxr];exact h.arr ix hn
theorem Y1 {xs : List Asn} : [] ++ xs = xs := rfl
theorem Y2 {a : Asn} {xs ys : List Asn} : (a :: xs) ++ ys = a :: (xs ++ ys) := rfl
theorem zhb {id : Nat} (M : Mem w0 F w.drew L) (hm : P.follows .mixedOrders = true)
    (h : Mem w0 F w.drew L → wpAnyH P .any l.toArray (NoPanic Q) (fun W => Mem w0 F W L) l.length (Array.replicate l.length false) a w.drew) : (Code.region id l.toArray true).wp P Q a w :=
  Jmf (fun W => Mem w0 F W L) hm M h
theorem Zv {v : Value} : zput a none v = a := rfl
theorem Zd {v : Value} : a.put none v = a := rfl
theorem zk {x y : Code} (h : ∀ K : Act → World → Prop, (∀ a w, y.wp P Q a w → K a w) → x.wp P (Exit.then K Q) a w) : (Code.seq x y).wp P Q a w := wp_seq_k h
theorem zr {id : Nat} {l : List Oper} (h : wpList P l.toArray Q l a w) : (Code.region id l.toArray false).wp P Q a w := wp_region_lit h
theorem zct {c : Operand} {x y : Code} (hc : zlk a c = some (.bool true)) (h : x.wp P Q a w) : (Code.cond c x y).wp P Q a w := wp_cond_true (Jbg hc) h
theorem zcf {c : Operand} {x y : Code} (hc : zlk a c = some (.bool false)) (h : y.wp P Q a w) : (Code.cond c x y).wp P Q a w := wp_cond_false (Jbg hc) h
theorem zbl {id : Nat} {c : Code} (h : c.wp P (Exit.inBlock id Q) a w) : (Code.block id c).wp P Q a w := wp_block h
theorem zsk (h : Q .normal a w) : Code.skip.wp P Q a w := wp_skip h
theorem zx {id : Nat} (h : Q (.exit id) a w) : (Code.exit id).wp P Q a w := wp_exit h
theorem zrt (h : Q .ret a w) : Code.ret.wp P Q a w := wp_ret h
abbrev zI (n : Int) : Value := .int .i64 n
abbrev zA (g : Nat) : Option Addr := some ⟨g, 0, none⟩
abbrev zP (g o : Nat) : Value := .pointer (some ⟨g, o, none⟩)
abbrev zS (g n c : Nat) : Value := .slice (some ⟨g, 0, none⟩) n c
abbrev zN : Value := .slice none 0 0
abbrev zU (l : List Value) (i : Nat) : Value := l.getD i undef
abbrev zM (w : World) (L : List Asn) : Prop := Mem w (Jag L) w L
end
abbrev zD (w : World) (X : List Asn) (w2 : World) (Y : List Asn) : Prop := Mem w (Jag X) w2 Y
abbrev zC (f : FuncId) (xs : List Value) (w : World) (R : Ending → World → Prop) : Prop := Calls Tryz.prog f xs.toArray w R
abbrev Jy1 := @Tryz.zeroValue110
abbrev z03 := @Tryz.zeroValue3
abbrev z05 := @Tryz.zeroValue5
abbrev z060 := @Tryz.zeroValue60
abbrev z069 := @Tryz.zeroValue69
abbrev Jqu := @Tryz.call102
abbrev Ji5 := @Tryz.call105
abbrev Jvf := @Tryz.call106
abbrev Jsp := @Tryz.call113
abbrev Jvg := @Tryz.call114
abbrev Ji6 := @Tryz.call119
abbrev zc15 := @Tryz.call15
abbrev zc16 := @Tryz.call16
abbrev zc17 := @Tryz.call17
abbrev zc19 := @Tryz.call19
abbrev zc34 := @Tryz.call34
abbrev zc36 := @Tryz.call36
abbrev zc39 := @Tryz.call39
abbrev zc41 := @Tryz.call41
abbrev zc42 := @Tryz.call42
abbrev zc57 := @Tryz.call57
abbrev zc59 := @Tryz.call59
abbrev zc62 := @Tryz.call62
abbrev zc64 := @Tryz.call64
abbrev zc82 := @Tryz.call82
abbrev zc86 := @Tryz.call86
abbrev zc87 := @Tryz.call87
abbrev zc98 := @Tryz.call98
abbrev zc99 := @Tryz.call99
abbrev Jly := @Tryz.isAgg123
abbrev Jks := @Tryz.isAgg124
abbrev Jxb := @Tryz.isAgg125
abbrev Jg9 := @Tryz.isAgg132
abbrev zg22 := @Tryz.isAgg22
abbrev zg3 := @Tryz.isAgg3
abbrev zg35 := @Tryz.isAgg35
abbrev zg4 := @Tryz.isAgg4
abbrev zg47 := @Tryz.isAgg47
abbrev zg48 := @Tryz.isAgg48
abbrev zg49 := @Tryz.isAgg49
abbrev zg5 := @Tryz.isAgg5
abbrev zg54 := @Tryz.isAgg54
abbrev zg56 := @Tryz.isAgg56
abbrev zg57 := @Tryz.isAgg57
abbrev zg60 := @Tryz.isAgg60
abbrev zg69 := @Tryz.isAgg69
abbrev Jcg := @Tryz.underlying113
abbrev Jf5 := @Tryz.underlying122
abbrev Jkt := @Tryz.underlying123
abbrev Jh3 := @Tryz.underlying124
abbrev Jxc := @Tryz.underlying125
abbrev Jbe := @Tryz.underlying127
abbrev Jha := @Tryz.underlying132
abbrev Jb1 := @Tryz.underlying134
abbrev Jke := @Tryz.underlying135
abbrev Jjw := @Tryz.underlying142
abbrev Jvh := @Tryz.underlying147
abbrev Jnx := @Tryz.underlying150
abbrev Jpi := @Tryz.underlying155
abbrev Jlz := @Tryz.underlying161
abbrev Jqv := @Tryz.underlying166
abbrev Jvi := @Tryz.underlying168
abbrev Jjx := @Tryz.underlying172
abbrev zu22 := @Tryz.underlying22
abbrev zu24 := @Tryz.underlying24
abbrev zu25 := @Tryz.underlying25
abbrev zu27 := @Tryz.underlying27
abbrev zu3 := @Tryz.underlying3
abbrev zu35 := @Tryz.underlying35
abbrev zu37 := @Tryz.underlying37
abbrev zu39 := @Tryz.underlying39
abbrev zu4 := @Tryz.underlying4
abbrev zu41 := @Tryz.underlying41
abbrev zu43 := @Tryz.underlying43
abbrev zu47 := @Tryz.underlying47
abbrev zu48 := @Tryz.underlying48
abbrev zu49 := @Tryz.underlying49
abbrev zu5 := @Tryz.underlying5
abbrev zu51 := @Tryz.underlying51
abbrev zu54 := @Tryz.underlying54
abbrev zu56 := @Tryz.underlying56
abbrev zu57 := @Tryz.underlying57
abbrev zu59 := @Tryz.underlying59
abbrev zu60 := @Tryz.underlying60
abbrev zu67 := @Tryz.underlying67
abbrev zu69 := @Tryz.underlying69
abbrev Jxd := @Tryz.sizeOf110
abbrev Jhb := @Tryz.sizeOf122
abbrev Jl0 := @Tryz.sizeOf123
abbrev Jh4 := @Tryz.sizeOf124
abbrev Jxe := @Tryz.sizeOf125
abbrev Jd1 := @Tryz.sizeOf132
abbrev Jku := @Tryz.sizeOf135
abbrev Ji7 := @Tryz.sizeOf142
abbrev Jpj := @Tryz.sizeOf150
abbrev zz22 := @Tryz.sizeOf22
abbrev zz24 := @Tryz.sizeOf24
abbrev zz3 := @Tryz.sizeOf3
abbrev zz35 := @Tryz.sizeOf35
abbrev zz39 := @Tryz.sizeOf39
abbrev zz4 := @Tryz.sizeOf4
abbrev zz47 := @Tryz.sizeOf47
abbrev zz48 := @Tryz.sizeOf48
abbrev zz49 := @Tryz.sizeOf49
abbrev zz5 := @Tryz.sizeOf5
abbrev zz54 := @Tryz.sizeOf54
abbrev zz56 := @Tryz.sizeOf56
abbrev zz57 := @Tryz.sizeOf57
abbrev zz60 := @Tryz.sizeOf60
abbrev zz69 := @Tryz.sizeOf69
theorem Row.cellD {w : World} {b o n : Nat} {l : List UInt8} (h : Row w (some ⟨b, o, none⟩) n l) {i : Nat} (hi : i < n) : w.cell? ⟨b, o + i, none⟩ = some (.int .u8 ((l.getD i 0).toNat : Int)) := by
 have hl : i < l.length := by rw [h.1]; exact hi
 rw [h.cell i hl, List.getD_eq_getElem?_getD, List.getElem?_eq_getElem hl]; rfl
theorem Jju {l : List UInt8} {R : List Value} {i : Nat} (hi : i < l.length) : (bvs l ++ R)[i]? = some (.int .u8 ((l.getD i 0).toNat : Int)) := by
 rw [List.getElem?_append_left (by rw [Jam]; exact hi), Jbw, List.getD_eq_getElem?_getD, List.getElem?_eq_getElem hi]; rfl
theorem Jjv {l : List UInt8} {i : Nat} (hi : i < l.length) : (bvs l)[i]? = some (.int .u8 ((l.getD i 0).toNat : Int)) := by
 rw [Jbw, List.getD_eq_getElem?_getD, List.getElem?_eq_getElem hi]; rfl
theorem Jk3 {l : List UInt8} {R : List Value} {i : Nat} (x : UInt8) (hi : i < l.length) : (bvs l ++ R).set i (.int .u8 (x.toNat : Int)) = bvs (l.set i x) ++ R := by
 rw [List.set_append_left _ _ (by rw [Jam]; exact hi), ← Jpl]; rfl
section
variable {w0 w w' : World} {F : List Nat} {L R : List Asn}
theorem Mem.lstblk {e : TypeId} {k g n c : Nat} {xs : List Value} (h : Mem w0 F w (lst e k (.slice (some ⟨g, 0, none⟩) n c) n xs :: R)) :
    ∃ rest, n ≤ c ∧ c ≤ maxLen ∧ xs.length = n * k ∧ (xs ++ rest).length = c * k ∧ Mem w0 F w (blk g e (xs ++ rest) :: R) := by
 have h0 : (lst e k (.slice (some ⟨g, 0, none⟩) n c) n xs).holds w := h.all _ (List.mem_cons_self ..);obtain ⟨hl, ⟨h1, _⟩ | ⟨g', cap, cur, hv, hb, hg, hc, hm, hs, ht⟩⟩ := h0
 ·cases h1
 ·cases hv
  have e1 : xs ++ cur.toList.drop (n * k) = cur.toList := by rw [← ht, List.take_append_drop]
  refine ⟨cur.toList.drop (n * k), hc, hm, hl, by rw [e1]; simpa using hs, ?_⟩
  have := h.upd 0 (B := blk g e (xs ++ cur.toList.drop (n * k))) rfl ⟨Grew.refl _ _, fun A hA => by
    obtain rfl : A = _ := by simpa using hA
    show w.heap[g]? = _;rw [hg, e1], by simp [Jag, blk], fun b hb => .inl (by
    obtain rfl : b = g := by simpa [Jag, blk] using hb
    simp [lst, obs, Value.ownBlock])⟩
  simpa using this
theorem Mem.blklst {e : TypeId} {k g n c : Nat} {xs rest : List Value} (h : Mem w0 F w (blk g e (xs ++ rest) :: R)) (hx : xs.length = n * k) (hr : (xs ++ rest).length = c * k) (hnc : n ≤ c) (hc : c ≤ maxLen) :
    Mem w0 F w (lst e k (.slice (some ⟨g, 0, none⟩) n c) n xs :: R) := by
 have h0 : w.heap[g]? = some (.cells (xs ++ rest).toArray e (0, 0)) := h.all _ (List.mem_cons_self ..)
 have := h.upd 0 (B := lst e k (.slice (some ⟨g, 0, none⟩) n c) n xs) rfl ⟨Grew.refl _ _, fun A hA => by
   obtain rfl : A = _ := by simpa using hA
   refine ⟨hx, .inr ⟨g, c, (xs ++ rest).toArray, rfl, Nat.zero_le _, h0, hnc, hc, by simpa using hr, ?_⟩⟩;rw [← hx]; simp, by simp [Jag, lst, obs, Value.ownBlock], fun b hb => .inl (by
   simpa [Jag, lst, obs, Value.ownBlock, blk] using hb)⟩
 simpa using this
theorem Mem.lstpt {e : TypeId} {k n : Nat} {v : Value} {xs : List Value} (h : Mem w0 F w (lst e k v n xs :: R)) (hn : 0 < n) : ∃ g c, v = .slice (some ⟨g, 0, none⟩) n c := by
 rcases Jct (h.all _ (List.mem_cons_self ..)) with ⟨_, h0, _⟩ | ⟨g, c, h1, _⟩
 ·omega
 ·exact ⟨g, c, h1⟩
theorem Jii {α : Type} : ∀ (L : List α) (i : Nat) (A : α), L[i]? = some A → ∃ X, L.Perm (A :: X) ∧ ∀ B, (L.set i B).Perm (B :: X)
  | [], i, A, h => by simp at h
  | x :: L, 0, A, h => by
    obtain rfl : x = A := by simpa using h
    exact ⟨L, List.Perm.refl _, fun B => List.Perm.refl _⟩
  | x :: L, i + 1, A, h => by
    obtain ⟨X, h1, h2⟩ := Jii L i A (by simpa using h)
    refine ⟨x :: X, (List.Perm.cons x h1).trans (List.Perm.swap A x X), fun B => ?_⟩
    rw [List.set_cons_succ]
    exact (List.Perm.cons x (h2 B)).trans (List.Perm.swap B x X)
theorem Jvd {α : Type} (L : List α) (i j : Nat) (A B : α) (hij : i ≠ j) (hi : L[i]? = some A) (hj : L[j]? = some B) : ∃ X, L.Perm (A :: B :: X) ∧ ∀ A' B', ((L.set i A').set j B').Perm (A' :: B' :: X) := by
 obtain ⟨X, h1, h2⟩ := Jii L i A hi
 have hjB : B ∈ X ∨ B = A := by
   have := h1.mem_iff.1 (List.mem_of_getElem? hj);rcases List.mem_cons.1 this with h | h
   ·exact .inr h
   ·exact .inl h
 clear h1 h2 hjB X;induction L generalizing i j with
 | nil => simp at hi
 | cons x L ih =>
   match i, j, hij, hi, hj with
   | 0, 0, h, _, _ => exact absurd rfl h
   | 0, j + 1, _, hi, hj =>
     obtain rfl : x = A := by simpa using hi
     obtain ⟨X, h1, h2⟩ := Jii L j B (by simpa using hj);refine ⟨X, List.Perm.cons _ h1, fun A' B' => ?_⟩;rw [List.set_cons_zero, List.set_cons_succ];exact List.Perm.cons _ (h2 B')
   | i + 1, 0, _, hi, hj =>
     obtain rfl : x = B := by simpa using hj
     obtain ⟨X, h1, h2⟩ := Jii L i A (by simpa using hi);refine ⟨X, (List.Perm.cons _ h1).trans (List.Perm.swap _ _ _), fun A' B' => ?_⟩;rw [List.set_cons_succ, List.set_cons_zero];exact (List.Perm.cons _ (h2 A')).trans (List.Perm.swap _ _ _)
   | i + 1, j + 1, hij, hi, hj =>
     obtain ⟨X, h1, h2⟩ := ih i j (fun h => hij (by rw [h])) (by simpa using hi) (by simpa using hj);have sw : ∀ a b : α, (x :: a :: b :: X).Perm (a :: b :: x :: X) := fun a b => (List.Perm.swap a x _).trans (List.Perm.cons a (List.Perm.swap b x X));refine ⟨x :: X, (List.Perm.cons x h1).trans (sw A B), fun A' B' => ?_⟩;rw [List.set_cons_succ, List.set_cons_succ];exact (List.Perm.cons x (h2 A' B')).trans (sw A' B')
theorem Mem.old_off (h : Mem w0 F w L) {b : Nat} (hb : b < w0.heap.size) (hF : b ∉ F) : b ∉ Jag L := fun hx => by
  rcases h.new b hx with h | h
  · exact hF h
  · omega
end
end Go.Proofs.YtodhlfinbbajfaaGreatDoor
