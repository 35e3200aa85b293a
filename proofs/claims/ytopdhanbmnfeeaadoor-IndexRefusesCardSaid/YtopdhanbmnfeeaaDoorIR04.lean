/- Texts joined: Held1, Zov, Ring, RingC. -/
import Derived.Test.YtopdhanbmnfeeaaDoorIR01
import Derived.Test.YtopdhanbmnfeeaaDoorChecked
import Derived.Test.YtopdhanbmnfeeaaDoorIR03
import Derived.Test.YtopdhanbmnfeeaaDoorIR02
/- One cell loaded, in a region that draws its order. No program in sight. -/
namespace Go.Proofs.YtopdhanbmnfeeaaDoor
set_option linter.unusedSectionVars false
set_option linter.unusedSimpArgs false
open Go Go.RowKit
set_option linter.unusedVariables false
section
variable {P : Program} {S : World → Prop}
theorem run_loadVar_int {k : IntKind} {ty : TypeId} {p : Addr} {v : Value} (w : World) (hu : P.underlying ty = some (.int k)) (hc : w.cell? p = some v) : (loadVar ty p).run P w = .ok v w := by
  simp [loadVar, isAgg, run_underlying hu, hc, go_sem]
theorem held_load1 {o : Oper} {a : Act} {ops : Array Oper} (hw : Region.wanted o (yielded ops a.tmps) = true) (ty : TypeId) (x : Operand) (ho : o.op = .load ty x)
    (b off : Nat) (hx : a.eval x = .pointer (some ⟨b, off, none⟩)) (k : IntKind) (v : Value) (hS : ∀ w, S w → w.cell? ⟨b, off, none⟩ = some v) (hu : P.underlying ty = some (.int k)) :
    YieldsIf P ops S o v a :=
  .inl ⟨hw, fun w hw' => by
    unfold execOp
    simp only [ho, hx, Instr.loadAt, Instr.sureAddr, Sem.run_bind, Sem.run_pure, Result.andThen_ok, run_loadVar_int w hu (hS w hw')]⟩
end
end Go.Proofs.YtopdhanbmnfeeaaDoor

/- The steps of a walk over a frame of slots with a list of what was written into it since: nothing is reckoned out but what is asked. No program in sight. -/
namespace Go.Proofs.YtopdhanbmnfeeaaDoor
set_option linter.unusedSimpArgs false
open Go Go.RowKit
set_option linter.unusedVariables false
set_option linter.unusedSectionVars false
section
variable {P : Program} {ops : Array Oper} {S : World → Prop} {Q : Exit → Act → World → Prop} {os os' l : List Oper} {o : Oper} {a a' : Act} {e e' : List (Nat × Value)} {w w0 w1 w' : World} {F : List Nat} {L : List Asn} {x y : Operand} {t t' : TypeId} {k : IntKind} {m n : Int} {b : Bool}
def zovd (a : Act) : List (Nat × Value) → Act
  | [] => a
  | (j, v) :: e => (zovd a e).put (some j) v
theorem zov_ex : ∃ f : Act → List (Nat × Value) → Act, f = zovd := ⟨zovd, rfl⟩
noncomputable def zov : Act → List (Nat × Value) → Act := Classical.choose zov_ex
theorem zov_eq : zov = zovd := Classical.choose_spec zov_ex
theorem zov_nil : zov a [] = a := by rw [zov_eq]; rfl
theorem zov_cons {j : Nat} {v : Value} : zov a ((j, v) :: e) = (zov a e).put (some j) v := by rw [zov_eq]; rfl
def zpd (e : List (Nat × Value)) (d : Option Tmp) (v : Value) : List (Nat × Value) :=
  match d with
  | some j => (j, v) :: e
  | none => e
theorem put_zov (d : Option Tmp) (v : Value) : (zov a e).put d v = zov a (zpd e d v) := by
  cases d with
  | none => rfl
  | some j => exact zov_cons.symm
def zfi (xs : List Value) : List (Nat × Value) → Nat → Option Value
  | [], i => xs[i]?
  | (j, v) :: e, i => match Nat.beq j i with
    | true => match xs[i]? with
      | some _ => some v
      | none => none
    | false => zfi xs e i
theorem zov_size : ∀ e : List (Nat × Value), (zov a e).tmps.size = a.tmps.size
  | [] => by rw [zov_nil]
  | (j, v) :: e => by
    rw [zov_cons]
    show ((zov a e).tmps.setIfInBounds j v).size = _
    rw [Array.size_setIfInBounds]
    exact zov_size e
theorem zfi_get {v : Value} {i : Nat} : ∀ e : List (Nat × Value), zfi a.tmps.toList e i = some v → (zov a e).tmps[i]? = some v
  | [], h => by
    have h' : a.tmps.toList[i]? = some v := h
    rw [Array.getElem?_toList] at h'
    rw [zov_nil]
    exact h'
  | (j, u) :: e, h => by
    rw [zov_cons]
    show ((zov a e).tmps.setIfInBounds j u)[i]? = some v
    unfold zfi at h
    split at h
    · next hb =>
      split at h
      · next x hx =>
        cases h
        obtain rfl := Nat.eq_of_beq_eq_true hb
        rw [Array.getElem?_toList] at hx
        have hlt : j < (zov a e).tmps.size := by
          rw [zov_size]
          exact (Array.getElem?_eq_some_iff.1 hx).1
        rw [Array.getElem?_setIfInBounds, if_pos rfl, if_pos hlt]
      · cases h
    · next hb =>
      have hne : j ≠ i := fun hc => by rw [hc] at hb; rw [Nat.beq_refl] at hb; cases hb
      rw [Array.getElem?_setIfInBounds, if_neg hne]
      exact zfi_get e h
def zmg (xs : List Value) : List (Nat × Value) → List Value
  | [] => xs
  | (j, v) :: e => (zmg xs e).set j v
theorem zmk {xs l : List Value} {d : List Deferred} (h : zmg xs e = l) : zov ⟨xs.toArray, d⟩ e = ⟨l.toArray, d⟩ := by
  subst h
  induction e with
  | nil => rw [zov_nil]; rfl
  | cons q e ih =>
    obtain ⟨j, v⟩ := q
    rw [zov_cons, ih]
    show (⟨(zmg xs e).toArray.setIfInBounds j v, d⟩ : Act) = ⟨((zmg xs e).set j v).toArray, d⟩
    rw [List.setIfInBounds_toArray]
def zlk (a : Act) (e : List (Nat × Value)) : Operand → Option Value
  | .tmp i => zfi a.tmps.toList e i
  | .const v => some v
  | .global g => some (.pointer (some ⟨g, 0, none⟩))
  | .func f => some (.func (.func f) #[] #[])
theorem zev {v : Value} (h : zlk a e x = some v) : (zov a e).eval x = v := by
  cases x with
  | tmp i =>
    show (zov a e).tmps.getD i undef = v
    rw [Array.getD_eq_getD_getElem?, zfi_get e h]
    rfl
  | const u => exact Option.some.inj h
  | global g => exact Option.some.inj h
  | func f => exact Option.some.inj h
theorem zgd {v : Value} {i : Nat} (h : zfi a.tmps.toList e i = some v) : (zov a e).tmps.getD i undef = v := by
  rw [Array.getD_eq_getD_getElem?, zfi_get e h]
  rfl
theorem zdf : ∀ e : List (Nat × Value), (zov a e).defers = a.defers
  | [] => by rw [zov_nil]
  | (j, v) :: e => by
    rw [zov_cons]
    exact zdf e
def zwd (ops : Array Oper) (a : Act) (e : List (Nat × Value)) (o : Oper) : Option Bool :=
  match o.guard with
  | none => some true
  | some (j, want) => match (ops[j]?).bind (·.dst) with
    | some i => match zfi a.tmps.toList e i with
      | some (.bool b) => some (b == want)
      | some _ => some false
      | none => none
    | none => some false
theorem zwn {r : Bool} (h : zwd ops a e o = some r) : Region.wanted o (yielded ops (zov a e).tmps) = r := by
  unfold zwd at h
  rcases hg : o.guard with _ | ⟨j, want⟩
  · rw [hg] at h
    simp only [Region.wanted, hg]
    exact Option.some.inj h
  · rw [hg] at h
    simp only [Region.wanted, hg, yielded]
    rcases hd : (ops[j]?).bind (·.dst) with _ | i
    · simp only [hd] at h
      simp only [Option.bind_none]
      exact Option.some.inj h
    · simp only [hd] at h
      rcases hz : zfi a.tmps.toList e i with _ | v
      · rw [hz] at h; cases h
      · simp only [Option.bind_some, zfi_get e hz]
        rw [hz] at h
        cases v with
        | bool b => simp only at h; rw [← Option.some.inj h]; cases b <;> cases want <;> rfl
        | _ => exact Option.some.inj h
def zpv (a : Act) (e : List (Nat × Value)) (o : Oper) : Option Value :=
  match o.op with
  | .move x => zlk a e x
  | .assign x => zlk a e x
  | .pick c x y => match zlk a e c with
    | some (.bool true) => zlk a e x
    | some (.bool false) => zlk a e y
    | _ => none
  | .nilCheck x => match zlk a e x with
    | some (.pointer (some p)) => some (.pointer (some p))
    | _ => none
  | .unOp .not _ x => match zlk a e x with
    | some (.bool b) => some (.bool (!b))
    | _ => none
  | .extract x i => match zlk a e x with
    | some (.tuple vs) => vs.toList[i]?
    | _ => none
  | _ => none
theorem zpv_yields {v : Value} (hw : zwd ops a e o = some true) (h : zpv a e o = some v) : YieldsIf P ops S o v (zov a e) := by
  have hw := zwn hw
  unfold zpv at h
  split at h
  · next x ho => exact y_move hw ho (zev h)
  · next x ho => exact y_assign hw ho (zev h)
  · next c x y ho =>
    split at h
    · next hc => exact y_pickT hw ho (zev hc) (zev h)
    · next hc => exact y_pickF hw ho (zev hc) (zev h)
    · cases h
  · next x ho =>
    split at h
    · next p hx => cases h; exact y_nil hw ho (zev hx)
    · cases h
  · next ty x ho =>
    split at h
    · next b hx => cases h; exact y_not hw ho (zev hx) rfl
    · cases h
  · next x i ho =>
    split at h
    · next vs hx => exact y_ext hw ho (zev hx) (by rw [← Array.getElem?_toList]; exact h)
    · cases h
  · cases h
theorem zin {c : Code} (h : c.wp P Q (zov a []) w) : c.wp P Q a w := by
  rw [zov_nil] at h
  exact h
theorem zpu {d : Option Tmp} {v : Value} (h : wpList P ops Q os (zov a (zpd e d v)) w) : wpList P ops Q os ((zov a e).put d v) w := by
  rw [put_zov]
  exact h
theorem zo {v : Value} (M : Mem w0 F w L) (hy : YieldsIf P ops (fun W => Mem w0 F W L) o v (zov a e)) (h : wpList P ops Q os (zov a (zpd e o.dst v)) w) : wpList P ops Q (o :: os) (zov a e) w :=
  pl M hy (zpu h)
theorem zq {Q' : Act → Prop} {v : Value} (M : Mem w0 F w L) (hy : YieldsIf P ops (fun W => Mem w0 F W L) o v (zov a e)) (h : wpStill P ops w Q' os (zov a (zpd e o.dst v))) : wpStill P ops w Q' (o :: os) (zov a e) :=
  ps M hy (by rw [put_zov]; exact h)
def zst (ops : Array Oper) (a : Act) (e : List (Nat × Value)) (o : Oper) : Option (List (Nat × Value)) :=
  match zwd ops a e o with
  | some true => match zpv a e o with
    | some v => some (zpd e o.dst v)
    | none => none
  | some false => some (zpd e o.dst undef)
  | none => none
def zrun (ops : Array Oper) (a : Act) : Nat → List Oper → List (Nat × Value) → Option (List Oper × List (Nat × Value))
  | 0, os, e => some (os, e)
  | _ + 1, [], _ => none
  | i + 1, o :: os, e => match zst ops a e o with
    | some e' => zrun ops a i os e'
    | none => none
theorem zst_pl (h : zst ops a e o = some e') (hk : wpList P ops Q os (zov a e') w) : wpList P ops Q (o :: os) (zov a e) w := by
  unfold zst at h
  split at h
  · next hw =>
    split at h
    · next v hv => cases h; exact zo (Mem.nil w) (zpv_yields hw hv) hk
    · cases h
  · next hw => cases h; exact pskip (zwn hw) (zpu hk)
  · cases h
theorem zp (i : Nat) (h : zrun ops a i os e = some (os', e')) (hk : wpList P ops Q os' (zov a e') w) : wpList P ops Q os (zov a e) w := by
  induction i generalizing os e with
  | zero => cases h; exact hk
  | succ i ih =>
    cases os with
    | nil => cases h
    | cons o os =>
      unfold zrun at h
      split at h
      · next a1 h1 => exact zst_pl h1 (ih h)
      · cases h
theorem zst_ps {Q' : Act → Prop} (h : zst ops a e o = some e') (hk : wpStill P ops w Q' os (zov a e')) : wpStill P ops w Q' (o :: os) (zov a e) := by
  unfold zst at h
  split at h
  · next hw =>
    split at h
    · next v hv => cases h; exact zq (Mem.nil w) (zpv_yields hw hv) hk
    · cases h
  · next hw => cases h; exact ps_skip (zwn hw) (by rw [put_zov]; exact hk)
  · cases h
theorem Zs (i : Nat) {Q' : Act → Prop} (h : zrun ops a i os e = some (os', e')) (hk : wpStill P ops w Q' os' (zov a e')) : wpStill P ops w Q' os (zov a e) := by
  induction i generalizing os e with
  | zero => cases h; exact hk
  | succ i ih =>
    cases os with
    | nil => cases h
    | cons o os =>
      unfold zrun at h
      split at h
      · next a1 h1 => exact zst_ps h1 (ih h)
      · cases h
theorem zy {v : Value} (h : (zwd ops a e o, zpv a e o) = (some true, some v)) : YieldsIf P ops S o v (zov a e) :=
  zpv_yields (congrArg Prod.fst h) (congrArg Prod.snd h)
theorem zm {g off : Nat} {T : TypeId} {C : List Value} {v : Value} (i : Nat) (h : (zwd ops a e o, o.op, zlk a e x, L[i]?) = (some true, Op.load t x, some (Value.pointer (some ⟨g, off, none⟩)), some (blk g T C))) (hi : ∀ w, (isAgg t).run P w = .ok false w) (hv : C[off]? = some v) : YieldsIf P ops (fun W => Mem w0 F W L) o v (zov a e) := by
  cases Prod.mk.inj h with | intro h1 h2 => cases Prod.mk.inj h2 with | intro h2 h3 => cases Prod.mk.inj h3 with | intro h3 h4 => exact y_load (zwn h1) h2 (zev h3) hi (fun W hW => hW.get i h4) hv
theorem zl {g off : Nat} {T : TypeId} {C : List Value} {v : Value} (i : Nat) (h : (zwd ops a e o, o.op, zlk a e x, L[i]?, C[off]?) = (some true, Op.load t x, some (Value.pointer (some ⟨g, off, none⟩)), some (blk g T C), some v)) (hi : ∀ w, (isAgg t).run P w = .ok false w) : YieldsIf P ops (fun W => Mem w0 F W L) o v (zov a e) := by
  cases Prod.mk.inj h with | intro h1 h2 => cases Prod.mk.inj h2 with | intro h2 h3 => cases Prod.mk.inj h3 with | intro h3 h4 => cases Prod.mk.inj h4 with | intro h4 h5 => exact y_load (zwn h1) h2 (zev h3) hi (fun W hW => hW.get i h4) h5
theorem zlb {g : Nat} {T : TypeId} {d : TypeDesc} {cs : List Value} (i : Nat) (h : (zwd ops a e o, o.op, zlk a e x, L[i]?) = (some true, Op.load t x, some (Value.pointer (some ⟨g, 0, none⟩)), some (blk g T cs))) (hu : P.underlying t = some d) (hd : d.isRow = true) (hi : Box ((P.info? t).map (·.size) = some cs.length)) : YieldsIf P ops (fun W => Mem w0 F W L) o (.agg cs.toArray) (zov a e) := by
  cases Prod.mk.inj h with | intro h1 h2 => cases Prod.mk.inj h2 with | intro h2 h3 => cases Prod.mk.inj h3 with | intro h3 h4 => exact y_loadb (zwn h1) h2 (zev h3) hu hd hi (fun W hW => hW.get i h4) (List.take_of_length_le (Nat.le_refl _))
theorem zf {g off i z : Nat} (r : Nat) {fs : Array Field} {f : Field} (hu : P.underlying t = some (.struct fs)) (h : (zwd ops a e o, o.op, zlk a e x, fs[i]?, off + f.offset) = (some true, Op.fieldAddr t x i, some (Value.pointer (some ⟨g, off, none⟩)), some f, r))
    (hz : ∀ w, (sizeOf f.type).run P w = .ok (z + 1) w) : YieldsIf P ops S o (.pointer (some ⟨g, r, none⟩)) (zov a e) := by
  cases Prod.mk.inj h with | intro h1 h2 => cases Prod.mk.inj h2 with | intro h2 h3 => cases Prod.mk.inj h3 with | intro h3 h4 => cases Prod.mk.inj h4 with | intro h4 h5 => exact y_fa (zwn h1) h2 (zev h3) hu h4 hz h5
theorem zlss (h : (zwd ops a e o, o.op, zlk a e x, zlk a e y) = (some true, Op.binOp .lss t x y t', some (Value.int k m), some (Value.int k n))) (hb : decide (m < n) = b) : YieldsIf P ops S o (.bool b) (zov a e) := by
  cases Prod.mk.inj h with | intro h1 h2 => cases Prod.mk.inj h2 with | intro h2 h3 => cases Prod.mk.inj h3 with | intro h3 h4 => exact y_lss (zwn h1) h2 (zev h3) (zev h4) hb
theorem zleq (h : (zwd ops a e o, o.op, zlk a e x, zlk a e y) = (some true, Op.binOp .leq t x y t', some (Value.int k m), some (Value.int k n))) (hb : decide (m ≤ n) = b) : YieldsIf P ops S o (.bool b) (zov a e) := by
  cases Prod.mk.inj h with | intro h1 h2 => cases Prod.mk.inj h2 with | intro h2 h3 => cases Prod.mk.inj h3 with | intro h3 h4 => exact y_leq (zwn h1) h2 (zev h3) (zev h4) hb
theorem zgtr (h : (zwd ops a e o, o.op, zlk a e x, zlk a e y) = (some true, Op.binOp .gtr t x y t', some (Value.int k m), some (Value.int k n))) (hb : decide (n < m) = b) : YieldsIf P ops S o (.bool b) (zov a e) := by
  cases Prod.mk.inj h with | intro h1 h2 => cases Prod.mk.inj h2 with | intro h2 h3 => cases Prod.mk.inj h3 with | intro h3 h4 => exact y_gtr (zwn h1) h2 (zev h3) (zev h4) hb
theorem zgeq (h : (zwd ops a e o, o.op, zlk a e x, zlk a e y) = (some true, Op.binOp .geq t x y t', some (Value.int k m), some (Value.int k n))) (hb : decide (n ≤ m) = b) : YieldsIf P ops S o (.bool b) (zov a e) := by
  cases Prod.mk.inj h with | intro h1 h2 => cases Prod.mk.inj h2 with | intro h2 h3 => cases Prod.mk.inj h3 with | intro h3 h4 => exact y_geq (zwn h1) h2 (zev h3) (zev h4) hb
theorem zeql (h : (zwd ops a e o, o.op, zlk a e x, zlk a e y) = (some true, Op.binOp .eql t x y t', some (Value.int k m), some (Value.int k n))) (hb : decide (m = n) = b) : YieldsIf P ops S o (.bool b) (zov a e) := by
  cases Prod.mk.inj h with | intro h1 h2 => cases Prod.mk.inj h2 with | intro h2 h3 => cases Prod.mk.inj h3 with | intro h3 h4 => exact y_eql (zwn h1) h2 (zev h3) (zev h4) hb
theorem zneq (h : (zwd ops a e o, o.op, zlk a e x, zlk a e y) = (some true, Op.binOp .neq t x y t', some (Value.int k m), some (Value.int k n))) (hb : (!decide (m = n)) = b) : YieldsIf P ops S o (.bool b) (zov a e) := by
  cases Prod.mk.inj h with | intro h1 h2 => cases Prod.mk.inj h2 with | intro h2 h3 => cases Prod.mk.inj h3 with | intro h3 h4 => exact y_neq (zwn h1) h2 (zev h3) (zev h4) hb
theorem zT {p : Prop} {d : Decidable p} (h : p) : decide p = true := decide_eq_true h
theorem zF {p : Prop} {d : Decidable p} (h : ¬ p) : decide p = false := decide_eq_false h
theorem zt (i : Nat) {oi : Oper} {v : Value} {md : Region.Mode} {fuel : Nat} {listed : Array Bool} (hi : l[i]? = some oi)
    (hy : YieldsIf P l.toArray S oi v (zov a e)) (hS : S w)
    (h : wpAnyH P md l.toArray (NoPanic Q) S fuel (listed.setIfInBounds i true) (zov a (zpd e oi.dst v)) w)
    (hb : (Region.noSelect l.toArray && (Region.free md l.toArray listed i && (Region.ready md l.toArray listed).contains i)) = true := by kernel_rfl) : wpAnyH P md l.toArray (NoPanic Q) S (fuel + 1) listed (zov a e) w := by
  have h1 := Bool.and_eq_true_iff.1 hb
  have h2 := Bool.and_eq_true_iff.1 h1.2
  exact held_take i v hi h1.1 h2.1 h2.2 hy hS (by rw [put_zov]; exact h)
theorem zpa {md : Region.Mode} {fuel : Nat} {listed : Array Bool} {ops : Array Oper} {Q : Exit → Act → World → Prop} {d : Option Tmp} {v : Value} (h : wpAnyH P md ops Q S fuel listed (zov a (zpd e d v)) w) : wpAnyH P md ops Q S fuel listed ((zov a e).put d v) w := by
  rw [put_zov]
  exact h
theorem zi {id : Nat} : Exit.inBlock id Q .ret = Q .ret := rfl
theorem zj {K : Act → World → Prop} : Exit.then K Q .ret = Q .ret := rfl
theorem zR {fn : Func} {R : Ending → World → Prop} {v : Value} (hr : (results fn a.tmps).run P w = .ok v w) (hd : a.defers = []) (hR : R (.returned v) w) : bodyPost P fn R .ret a w := bodyPost_ret hr hd hR
theorem zpe (hw : zwd ops a e o = some true) (h : ∀ K : Act → World → Prop, Box (∀ a w, wpList P ops Q os a w → K a w) → Oper.wp P o (zov a e) w K Q) : wpList P ops Q (o :: os) (zov a e) w := pe (zwn hw) h
theorem zguard (h : o.guard = none) : zwd ops a e o = some true := by
  unfold zwd
  rw [h]
theorem zsw (M : Mem w0 F w L) (i : Nat) {g : Nat} {T : TypeId} {C cs : List Value} (h : (o.op, o.guard, zlk a e x, zlk a e y, L[i]?) = (Op.store t x y, none, some (Value.pointer (some ⟨g, 0, none⟩)), some (Value.agg cs.toArray), some (blk g T C)))
    (hs : Box ((P.info? t).map (·.size) = some cs.length)) (h1 : cs.toArray.all (·.oneCell') = true) (hlt : cs.length = C.length)
    (hk : ∀ w', Mem w0 F w' (L.set i (blk g T cs)) → wpList P ops Q os (zov a (zpd e o.dst undef)) w') : wpList P ops Q (o :: os) (zov a e) w := by
  cases Prod.mk.inj h with | intro h1' h2 => cases Prod.mk.inj h2 with | intro h2 h3 => cases Prod.mk.inj h3 with | intro h3 h4 => cases Prod.mk.inj h4 with | intro h4 h5 => exact zpe (zguard h2) fun K hK => e_storew M i h1' h2 (zev h3) (zev h4) hs h1 h5 hlt fun w' M' => hK.out _ _ (zpu (hk w' M'))
theorem zso (M : Mem w0 F w L) (i : Nat) {g off : Nat} {T : TypeId} {C : List Value} {v : Value} (h : (o.op, o.guard, zlk a e x, zlk a e y, L[i]?) = (Op.store t x y, none, some (Value.pointer (some ⟨g, off, none⟩)), some v, some (blk g T C)))
    (hv : (v.cells, v.oneCell') = (#[v], true)) (hs : ∀ w, (sizeOf t).run P w = .ok 1 w) (hlt : off < C.length)
    (hk : ∀ w', Mem w0 F w' (L.set i (blk g T (C.set off v))) → wpList P ops Q os (zov a (zpd e o.dst undef)) w') : wpList P ops Q (o :: os) (zov a e) w := by
  cases Prod.mk.inj h with | intro h1' h2 => cases Prod.mk.inj h2 with | intro h2 h3 => cases Prod.mk.inj h3 with | intro h3 h4 => cases Prod.mk.inj h4 with | intro h4 h5 => cases Prod.mk.inj hv with | intro h6 h7 => exact zpe (zguard h2) fun K hK => e_store M i h1' h2 (zev h3) (zev h4) h6 h7 hs h5 hlt fun w' M' => hK.out _ _ (zpu (hk w' M'))
theorem zal (M : Mem w0 F w L) (cs : List Value) (h : (zwd ops a e o, o.op) = (some true, Op.alloc t)) (hz : ∀ w, (zeroValue t).run P w = .ok (.agg cs.toArray) w)
    (hk : ∀ g w', Mem w0 F w' (blk g t cs :: L) → wpList P ops Q os (zov a (zpd e o.dst (.pointer (some ⟨g, 0, none⟩)))) w') : wpList P ops Q (o :: os) (zov a e) w := by
  cases Prod.mk.inj h with | intro h1 h2 => exact zpe h1 fun K hK => e_alloc M cs h2 hz fun g w' M' => hK.out _ _ (zpu (hk g w' M'))
theorem zbx (M : Mem w0 F w L) (cs : List Value) (h : (zwd ops a e o, o.op, zlk a e x) = (some true, Op.box t x, some (Value.agg cs.toArray)))
    (hk : ∀ g w', Mem w0 F w' (blk g t cs :: L) → wpList P ops Q os (zov a (zpd e o.dst (.pointer (some ⟨g, 0, none⟩)))) w') : wpList P ops Q (o :: os) (zov a e) w := by
  cases Prod.mk.inj h with | intro h1 h2 => cases Prod.mk.inj h2 with | intro h2 h3 => exact zpe h1 fun K hK => e_box M cs h2 (zev h3) fun g w' M' => hK.out _ _ (zpu (hk g w' M'))
def zls (a : Act) (e : List (Nat × Value)) : List Operand → Option (List Value)
  | [] => some []
  | x :: xs => match zlk a e x, zls a e xs with
    | some v, some vs => some (v :: vs)
    | _, _ => none
theorem zls_eval : ∀ {xs : List Operand} {vs : List Value}, zls a e xs = some vs → xs.map (zov a e).eval = vs
  | [], _, h => by cases h; rfl
  | x :: xs, vs, h => by
    unfold zls at h
    split at h
    · next v us h1 h2 =>
      cases h
      rw [List.map_cons, zev h1, zls_eval h2]
    · cases h
def zlo (a : Act) (e : List (Nat × Value)) : Option Operand → Option (Option Value)
  | none => some none
  | some x => match zlk a e x with
    | some v => some (some v)
    | none => none
theorem zeo {lo : Option Operand} {lv : Option Value} (h : zlo a e lo = some lv) : lo.map (zov a e).eval = lv := by
  cases lo with
  | none => cases h; rfl
  | some x =>
    rcases hz : zlk a e x with _ | v
    · simp only [zlo, hz] at h
      cases h
    · simp only [zlo, hz] at h
      cases h
      rw [Option.map_some, zev hz]
def zpr (a : Act) (e : List (Nat × Value)) : List (Nat × Operand) → Option (List (Nat × Value))
  | [] => some []
  | (i, x) :: xs => match zlk a e x, zpr a e xs with
    | some v, some vs => some ((i, v) :: vs)
    | _, _ => none
theorem zep : ∀ {xs : List (Nat × Operand)} {vs : List (Nat × Value)}, zpr a e xs = some vs → (xs.map fun p => (p.1, (zov a e).eval p.2)) = vs
  | [], _, h => by cases h; rfl
  | (i, x) :: xs, vs, h => by
    unfold zpr at h
    split at h
    · next v us h1 h2 =>
      cases h
      rw [List.map_cons, zev h1, zep h2]
    · cases h
theorem zcv {fi ca vs args : List Value} {xs : List Operand} (h : zls a e xs = some vs) (h2 : fi ++ vs ++ ca = args) : fi ++ xs.map (zov a e).eval ++ ca = args := by
  rw [zls_eval h]
  exact h2
theorem zca (f : FuncId) (args : List Value) {xs : List Operand} {ts : Array TypeId} (h : (zwd ops a e o, o.op, zls a e xs) = (some true, Op.call { callee := .value (.func f), args := xs.toArray, argTypes := ts }, some args)) (hf : ∀ ar w, (callFunc f ar).run P w = .ok (.enter f ar) w)
    {R : Ending → World → Prop} (hc : Calls P f args.toArray w R) (hk : ∀ e' w', R e' w' → ∃ v, e' = .returned v ∧ wpList P ops Q os (zov a (zpd e o.dst v)) w') : wpList P ops Q (o :: os) (zov a e) w := by
  cases Prod.mk.inj h with | intro h1 h2 => cases Prod.mk.inj h2 with | intro h2 h3 => exact zpe h1 fun K hK => e_call f args h2 (zls_eval h3) hf hc fun e' w' r => let ⟨v, hv, hk⟩ := hk e' w' r; ⟨v, hv, hK.out _ _ (zpu hk)⟩
theorem zem (p : Prop) [Decidable p] : p ∨ ¬ p := Decidable.em p
theorem Mem.h1 {A : Asn} {R : List Asn} (h : Mem w0 F w (A :: R)) : Mem w (foots [A]) w [A] := Mem.here (L := [A]) (R := R) h
theorem Mem.f1 {A : Asn} {R Po : List Asn} (h : Mem w0 F w (A :: R)) (h' : Mem w (foots [A]) w' Po) : Mem w0 F w' (Po ++ R) := Mem.frame (Pre := [A]) (R := R) h h'
theorem Mem.h2 {A B : Asn} {R : List Asn} (h : Mem w0 F w (A :: B :: R)) : Mem w (foots [A, B]) w [A, B] := Mem.here (L := [A, B]) (R := R) h
theorem Mem.f2 {A B : Asn} {R Po : List Asn} (h : Mem w0 F w (A :: B :: R)) (h' : Mem w (foots [A, B]) w' Po) : Mem w0 F w' (Po ++ R) := Mem.frame (Pre := [A, B]) (R := R) h h'
theorem Mem.h3 {A B C : Asn} {R : List Asn} (h : Mem w0 F w (A :: B :: C :: R)) : Mem w (foots [A, B, C]) w [A, B, C] := Mem.here (L := [A, B, C]) (R := R) h
theorem Mem.f3 {A B C : Asn} {R Po : List Asn} (h : Mem w0 F w (A :: B :: C :: R)) (h' : Mem w (foots [A, B, C]) w' Po) : Mem w0 F w' (Po ++ R) := Mem.frame (Pre := [A, B, C]) (R := R) h h'
theorem Mem.h4 {A B C D : Asn} {R : List Asn} (h : Mem w0 F w (A :: B :: C :: D :: R)) : Mem w (foots [A, B, C, D]) w [A, B, C, D] := Mem.here (L := [A, B, C, D]) (R := R) h
theorem Mem.f4 {A B C D : Asn} {R Po : List Asn} (h : Mem w0 F w (A :: B :: C :: D :: R)) (h' : Mem w (foots [A, B, C, D]) w' Po) : Mem w0 F w' (Po ++ R) := Mem.frame (Pre := [A, B, C, D]) (R := R) h h'
theorem Mem.h5 {A B C D E : Asn} {R : List Asn} (h : Mem w0 F w (A :: B :: C :: D :: E :: R)) : Mem w (foots [A, B, C, D, E]) w [A, B, C, D, E] := Mem.here (L := [A, B, C, D, E]) (R := R) h
theorem Mem.f5 {A B C D E : Asn} {R Po : List Asn} (h : Mem w0 F w (A :: B :: C :: D :: E :: R)) (h' : Mem w (foots [A, B, C, D, E]) w' Po) : Mem w0 F w' (Po ++ R) := Mem.frame (Pre := [A, B, C, D, E]) (R := R) h h'
theorem Mem.s1 {A : Asn} {R : List Asn} (h : Mem w0 F w (A :: R)) : Mem w0 F w ([A] ++ R) := h
theorem Mem.s2 {A B : Asn} {R : List Asn} (h : Mem w0 F w (A :: B :: R)) : Mem w0 F w ([A, B] ++ R) := h
theorem Mem.s3 {A B C : Asn} {R : List Asn} (h : Mem w0 F w (A :: B :: C :: R)) : Mem w0 F w ([A, B, C] ++ R) := h
theorem Mem.s4 {A B C D : Asn} {R : List Asn} (h : Mem w0 F w (A :: B :: C :: D :: R)) : Mem w0 F w ([A, B, C, D] ++ R) := h
theorem Mem.s5 {A B C D E : Asn} {R : List Asn} (h : Mem w0 F w (A :: B :: C :: D :: E :: R)) : Mem w0 F w ([A, B, C, D, E] ++ R) := h
theorem zw (h : Q .normal a w) : wpList P ops Q [] a w := wpList_nil h
theorem Mem.st0 (h : Mem w0 F w L) (h' : Mem w [] w' []) : Mem w0 F w' L := h.step (R := []) h'
theorem Zg {α : Type} {a b : α} {xs : List α} : (a :: xs).set 0 b = b :: xs := rfl
theorem Zh {α : Type} {a b : α} {xs : List α} {i : Nat} : (a :: xs).set (i + 1) b = a :: xs.set i b := rfl
def Y4 {α : Type} : List α → Nat → List α
  | [], _ => []
  | x :: _, 0 => [x]
  | _ :: xs, i + 1 => Y4 xs i
def Y3 {α : Type} (xs : List α) : List Nat → List α
  | [] => []
  | i :: ix => Y4 xs i ++ Y3 xs ix
theorem Y4_get {α : Type} : ∀ (xs : List α) (i : Nat), Y4 xs i = (xs[i]?).toList
  | [], _ => rfl
  | _ :: _, 0 => rfl
  | _ :: xs, i + 1 => by rw [List.getElem?_cons_succ]; exact Y4_get xs i
theorem Y3_map {α : Type} (xs : List α) : ∀ ix : List Nat, Y3 xs ix = ix.filterMap (xs[·]?)
  | [] => rfl
  | i :: ix => by
    rw [List.filterMap_cons, Y3, Y4_get, Y3_map xs ix]
    cases xs[i]? <;> rfl
theorem Mem.pk (h : Mem w0 F w L) (ix : List Nat) (hn : ix.Nodup := by decide) : Mem w0 F w (Y3 L ix) := by
  rw [Y3_map]
  exact h.arr ix hn
theorem Y1 {xs : List Asn} : [] ++ xs = xs := rfl
theorem Y2 {a : Asn} {xs ys : List Asn} : (a :: xs) ++ ys = a :: (xs ++ ys) := rfl
theorem zhb {id : Nat} (M : Mem w0 F w.drew L) (hm : P.follows .mixedOrders = true)
    (h : Mem w0 F w.drew L → wpAnyH P .any l.toArray (NoPanic Q) (fun W => Mem w0 F W L) l.length (Array.replicate l.length false) a w.drew) : (Code.region id l.toArray true).wp P Q a w :=
  held_begin (fun W => Mem w0 F W L) hm M h
theorem zk {x y : Code} (h : ∀ K : Act → World → Prop, (∀ a w, y.wp P Q a w → K a w) → x.wp P (Exit.then K Q) a w) : (Code.seq x y).wp P Q a w := wp_seq_k h
theorem zr {id : Nat} {l : List Oper} (h : wpList P l.toArray Q l a w) : (Code.region id l.toArray false).wp P Q a w := wp_region_lit h
theorem zct {c : Operand} {x y : Code} (hc : zlk a e c = some (.bool true)) (h : x.wp P Q (zov a e) w) : (Code.cond c x y).wp P Q (zov a e) w := wp_cond_true (zev hc) h
theorem zcf {c : Operand} {x y : Code} (hc : zlk a e c = some (.bool false)) (h : y.wp P Q (zov a e) w) : (Code.cond c x y).wp P Q (zov a e) w := wp_cond_false (zev hc) h
theorem zbl {id : Nat} {c : Code} (h : c.wp P (Exit.inBlock id Q) a w) : (Code.block id c).wp P Q a w := wp_block h
theorem zsk (h : Q .normal a w) : Code.skip.wp P Q a w := wp_skip h
theorem zx {id : Nat} (h : Q (.exit id) a w) : (Code.exit id).wp P Q a w := wp_exit h
theorem zrt (h : Q .ret a w) : Code.ret.wp P Q a w := wp_ret h
abbrev zI (n : Int) : Value := .int .i64 n
abbrev zA (g : Nat) : Option Addr := some ⟨g, 0, none⟩
abbrev zP (g o : Nat) : Value := .pointer (some ⟨g, o, none⟩)
abbrev zS (g n c : Nat) : Value := .slice (some ⟨g, 0, none⟩) n c
abbrev zN : Value := .slice none 0 0
abbrev zU (l : List Value) (i : Nat) : Value := l.getD i undef
abbrev zM (w : World) (L : List Asn) : Prop := Mem w (foots L) w L
open Classical in
theorem zlp {c : Code} (I : Nat → Act → World → Prop) (n0 : Nat) (h0 : I n0 a w) (h : ∀ n a w, I n a w → c.wp P (Exit.then (fun a' w' => ∃ m, m < n ∧ I m a' w') Q) a w) : (Code.loop c).wp P Q a w := by
  have hmin : ∀ a w, (∃ n, I n a w) → ∃ n, I n a w ∧ ∀ m, I m a w → n ≤ m := fun a w hx => by
    obtain ⟨n, hn⟩ := hx
    induction n using Nat.strongRecOn with
    | ind n ih =>
      by_cases hl : ∃ m, m < n ∧ I m a w
      · obtain ⟨m, h1, h2⟩ := hl
        exact ih m h1 h2
      · exact ⟨n, hn, fun m hm => Nat.le_of_not_lt fun h1 => hl ⟨m, h1, hm⟩⟩
  refine wp_loop (fun a' w' => ∃ n, I n a' w') (fun a' w' => if hx : ∃ n, I n a' w' then Classical.choose (hmin a' w' hx) else 0) ⟨n0, h0⟩ ?_
  intro a' w' hx
  have hs := Classical.choose_spec (hmin a' w' hx)
  refine Code.wp_mono ?_ (h _ a' w' hs.1)
  intro e a2 w2 q
  cases e with
  | normal =>
    obtain ⟨m, hm, hI⟩ := q
    refine ⟨⟨m, hI⟩, ?_⟩
    have hs2 := Classical.choose_spec (hmin a2 w2 ⟨m, hI⟩)
    rw [dif_pos hx, dif_pos ⟨m, hI⟩]
    exact Nat.lt_of_le_of_lt (hs2.2 m hI) hm
  | _ => exact q
end
abbrev zD (w : World) (X : List Asn) (w2 : World) (Y : List Asn) : Prop := Mem w (foots X) w2 Y
abbrev zC (f : FuncId) (xs : List Value) (w : World) (R : Ending → World → Prop) : Prop := Calls Tryd.prog f xs.toArray w R
abbrev z0100 := @Tryd.zeroValue100
abbrev z052 := @Tryd.zeroValue52
abbrev zc18 := @Tryd.call18
abbrev zc19 := @Tryd.call19
abbrev zc20 := @Tryd.call20
abbrev zc21 := @Tryd.call21
abbrev zc28 := @Tryd.call28
abbrev zc29 := @Tryd.call29
abbrev zc30 := @Tryd.call30
abbrev zc40 := @Tryd.call40
abbrev zc66 := @Tryd.call66
abbrev zc70 := @Tryd.call70
abbrev zc8 := @Tryd.call8
abbrev zc82 := @Tryd.call82
abbrev zg100 := @Tryd.isAgg100
abbrev zg101 := @Tryd.isAgg101
abbrev zg23 := @Tryd.isAgg23
abbrev zg3 := @Tryd.isAgg3
abbrev zg4 := @Tryd.isAgg4
abbrev zg5 := @Tryd.isAgg5
abbrev zg53 := @Tryd.isAgg53
abbrev zg56 := @Tryd.isAgg56
abbrev zg75 := @Tryd.isAgg75
abbrev zg76 := @Tryd.isAgg76
abbrev zg77 := @Tryd.isAgg77
abbrev zu100 := @Tryd.underlying100
abbrev zu101 := @Tryd.underlying101
abbrev zu103 := @Tryd.underlying103
abbrev zu105 := @Tryd.underlying105
abbrev zu107 := @Tryd.underlying107
abbrev zu109 := @Tryd.underlying109
abbrev zu118 := @Tryd.underlying118
abbrev zu140 := @Tryd.underlying140
abbrev zu152 := @Tryd.underlying152
abbrev zu23 := @Tryd.underlying23
abbrev zu24 := @Tryd.underlying24
abbrev zu3 := @Tryd.underlying3
abbrev zu31 := @Tryd.underlying31
abbrev zu5 := @Tryd.underlying5
abbrev zu52 := @Tryd.underlying52
abbrev zu53 := @Tryd.underlying53
abbrev zu54 := @Tryd.underlying54
abbrev zu58 := @Tryd.underlying58
abbrev zu61 := @Tryd.underlying61
abbrev zu74 := @Tryd.underlying74
abbrev zu75 := @Tryd.underlying75
abbrev zu76 := @Tryd.underlying76
abbrev zu77 := @Tryd.underlying77
abbrev zu79 := @Tryd.underlying79
abbrev zu80 := @Tryd.underlying80
abbrev zu82 := @Tryd.underlying82
abbrev zu99 := @Tryd.underlying99
abbrev zz100 := @Tryd.sizeOf100
abbrev zz101 := @Tryd.sizeOf101
abbrev zz103 := @Tryd.sizeOf103
abbrev zz105 := @Tryd.sizeOf105
abbrev zz23 := @Tryd.sizeOf23
abbrev zz3 := @Tryd.sizeOf3
abbrev zz4 := @Tryd.sizeOf4
abbrev zz5 := @Tryd.sizeOf5
abbrev zz52 := @Tryd.sizeOf52
abbrev zz53 := @Tryd.sizeOf53
abbrev zz56 := @Tryd.sizeOf56
abbrev zz74 := @Tryd.sizeOf74
abbrev zz75 := @Tryd.sizeOf75
abbrev zz76 := @Tryd.sizeOf76
abbrev zz77 := @Tryd.sizeOf77
abbrev zz80 := @Tryd.sizeOf80
abbrev zz82 := @Tryd.sizeOf82
end Go.Proofs.YtopdhanbmnfeeaaDoor

/- Cells by block, and rings of nodes in them: a node's fourth cell leads back, its fifth on. No program in sight. -/
namespace Go.Proofs.YtopdhanbmnfeeaaDoor
set_option linter.unusedSectionVars false
open Go Go.RowKit
set_option linter.unusedVariables false
set_option linter.unusedSimpArgs false
abbrev HM := Nat → List Value
def HM.rd (m : HM) (g o : Nat) : Option Value := (m g)[o]?
def HM.wr (m : HM) (g o : Nat) (v : Value) : HM := fun x => if x = g then (m g).set o v else m x
def HM.put (m : HM) (g : Nat) (C : List Value) : HM := fun x => if x = g then C else m x
section
variable {m : HM} {g g' o o' : Nat} {v : Value}
theorem HM.len_wr (x : Nat) : ((m.wr g o v) x).length = (m x).length := by
  unfold HM.wr
  split
  · next h => rw [List.length_set, h]
  · rfl
theorem HM.rd_same (h : (m.rd g o).isSome) : (m.wr g o v).rd g o = some v := by
  unfold HM.rd at h ⊢
  unfold HM.wr
  rw [if_pos rfl]
  have hl : o < (m g).length := by
    rcases Nat.lt_or_ge o (m g).length with h1 | h1
    · exact h1
    · rw [List.getElem?_eq_none h1] at h; cases h
  simp [hl]
theorem HM.rd_lt (h : o < (m g).length) : (m.rd g o).isSome := by
  unfold HM.rd
  rw [List.getElem?_eq_getElem h]; rfl
theorem HM.rd_other (h : ¬ (g' = g ∧ o' = o)) : (m.wr g o v).rd g' o' = m.rd g' o' := by
  unfold HM.rd HM.wr
  split
  · next hg =>
    subst hg
    rw [List.getElem?_set_ne]
    intro e
    exact h ⟨rfl, e.symm⟩
  · rfl
theorem HM.rd_put (C : List Value) : (m.put g C).rd g o = C[o]? := by
  unfold HM.rd HM.put
  rw [if_pos rfl]
theorem HM.rd_put_ne (C : List Value) (h : g' ≠ g) : (m.put g C).rd g' o = m.rd g' o := by
  unfold HM.rd HM.put
  rw [if_neg h]
end
abbrev NA := Nat × Nat
abbrev pt (a : NA) : Value := .pointer (some ⟨a.1, a.2, none⟩)
def lk (m : HM) (a b : NA) : Prop := m.rd a.1 (a.2 + 5) = some (pt b) ∧ m.rd b.1 (b.2 + 4) = some (pt a)
def lks (m : HM) : List NA → Prop
  | [] => True
  | [_] => True
  | a :: b :: t => lk m a b ∧ lks m (b :: t)
theorem lks_split (m : HM) (p : NA) (l2 : List NA) : ∀ l1 : List NA, lks m (l1 ++ p :: l2) ↔ lks m (l1 ++ [p]) ∧ lks m (p :: l2)
  | [] => by simp [lks]
  | [a] => by simp [lks]
  | a :: b :: t => by
    have ih := lks_split m p l2 (b :: t)
    simp only [List.cons_append, lks] at ih ⊢
    rw [ih, and_assoc]
theorem lks_congr {m m' : HM} : ∀ {L : List NA}, lks m L → (∀ a ∈ L.dropLast, m'.rd a.1 (a.2 + 5) = m.rd a.1 (a.2 + 5)) → (∀ b ∈ L.tail, m'.rd b.1 (b.2 + 4) = m.rd b.1 (b.2 + 4)) → lks m' L
  | [], _, _, _ => trivial
  | [_], _, _, _ => trivial
  | a :: b :: t, h, h1, h2 => by
    refine ⟨⟨?_, ?_⟩, lks_congr (L := b :: t) h.2 ?_ ?_⟩
    · rw [h1 a (by simp)]; exact h.1.1
    · rw [h2 b (by simp)]; exact h.1.2
    · intro x hx
      exact h1 x (by simp [List.dropLast] at hx ⊢; exact .inr hx)
    · intro x hx
      exact h2 x (by simp at hx ⊢; exact .inr hx)
def NOk (c : Nat) (a : NA) : Prop := a = (c, 2) ∨ a = (c, 9) ∨ (a.1 ≠ c ∧ a.2 = 0)
theorem NOk.ne45 {c : Nat} {a b : NA} (ha : NOk c a) (hb : NOk c b) : ¬ (a.1 = b.1 ∧ a.2 + 5 = b.2 + 4) := by
  rintro ⟨h1, h2⟩
  rcases ha with rfl | rfl | ⟨x1, x2⟩ <;> rcases hb with rfl | rfl | ⟨y1, y2⟩ <;> simp_all
theorem na_ext {a b : NA} (h1 : a.1 = b.1) (h2 : a.2 = b.2) : a = b := Prod.ext h1 h2
section
variable {m : HM} {c : Nat}
theorem lks_drop {l1 l2 : List NA} {p z n : NA} (h : lks m (l1 ++ p :: z :: n :: l2)) (hd : (l1 ++ [p]).Nodup) (hd2 : ∀ a ∈ (n :: l2).dropLast, a ≠ p) (ht : (n :: l2).Nodup) (ht2 : ∀ a ∈ (l1 ++ [p]).tail, a ≠ n)
    (hok : ∀ a ∈ l1 ++ p :: z :: n :: l2, NOk c a) : lks ((m.wr p.1 (p.2 + 5) (pt n)).wr n.1 (n.2 + 4) (pt p)) (l1 ++ p :: n :: l2) := by
  have okp : NOk c p := hok p (by simp)
  have okn : NOk c n := hok n (by simp)
  rw [lks_split] at h
  obtain ⟨h1, hpz, hzn, h2⟩ := h
  have rp5 : ((m.wr p.1 (p.2 + 5) (pt n)).wr n.1 (n.2 + 4) (pt p)).rd p.1 (p.2 + 5) = some (pt n) := by
    rw [HM.rd_other (okp.ne45 okn), HM.rd_same (by rw [hpz.1]; rfl)]
  have rn4 : ((m.wr p.1 (p.2 + 5) (pt n)).wr n.1 (n.2 + 4) (pt p)).rd n.1 (n.2 + 4) = some (pt p) := by
    rw [HM.rd_same]
    rw [HM.rd_other (fun e => okp.ne45 okn ⟨e.1.symm, e.2.symm⟩), hzn.2]; rfl
  have r5 : ∀ a, NOk c a → a ≠ p → ((m.wr p.1 (p.2 + 5) (pt n)).wr n.1 (n.2 + 4) (pt p)).rd a.1 (a.2 + 5) = m.rd a.1 (a.2 + 5) := fun a ha hne => by
    rw [HM.rd_other (ha.ne45 okn), HM.rd_other (fun e => hne (na_ext e.1 (by omega)))]
  have r4 : ∀ a, NOk c a → a ≠ n → ((m.wr p.1 (p.2 + 5) (pt n)).wr n.1 (n.2 + 4) (pt p)).rd a.1 (a.2 + 4) = m.rd a.1 (a.2 + 4) := fun a ha hne => by
    rw [HM.rd_other (fun e => hne (na_ext e.1 (by omega))), HM.rd_other (fun e => okp.ne45 ha ⟨e.1.symm, e.2.symm⟩)]
  rw [lks_split]
  refine ⟨lks_congr h1 (fun a ha => r5 a (hok a ?_) ?_) (fun a ha => r4 a (hok a ?_) (ht2 a ha)), ⟨rp5, rn4⟩, lks_congr h2 (fun a ha => r5 a (hok a ?_) (hd2 a ha)) (fun a ha => r4 a (hok a ?_) ?_)⟩
  · rw [List.dropLast_concat] at ha
    simp [ha]
  · rintro rfl
    rw [List.dropLast_concat] at ha
    exact (List.nodup_append.1 hd).2.2 a ha a (by simp) rfl
  · have := List.mem_of_mem_tail ha
    simp at this
    rcases this with h | h <;> simp [h]
  · have := (List.dropLast_sublist _).subset ha
    simp at this
    rcases this with h | h <;> simp [h]
  · have ha' : a ∈ l2 := ha
    simp [ha']
  · rintro rfl
    exact (List.nodup_cons.1 ht).1 ha
theorem lks_last {l1 : List NA} {q r e : NA} (h : lks m (l1 ++ [q, r])) (hd : (l1 ++ [q]).Nodup) (ht : ∀ a ∈ (l1 ++ [q]).tail, a ≠ r) (hok : ∀ a ∈ l1 ++ [q, r], NOk c a) (oke : NOk c e) (hne : ∀ a ∈ l1 ++ [q, r], a ≠ e)
    (he4 : (m.rd e.1 (e.2 + 4)).isSome) (he5 : (m.rd e.1 (e.2 + 5)).isSome) :
    lks ((((m.wr e.1 (e.2 + 4) (pt q)).wr e.1 (e.2 + 5) (pt r)).wr q.1 (q.2 + 5) (pt e)).wr r.1 (r.2 + 4) (pt e)) (l1 ++ [q, e, r]) := by
  have okq : NOk c q := hok q (by simp)
  have okr : NOk c r := hok r (by simp)
  have hqe : q ≠ e := hne q (by simp)
  have hre : r ≠ e := hne r (by simp)
  rw [show l1 ++ [q, r] = l1 ++ q :: [r] from rfl, lks_split] at h
  obtain ⟨h1, hqr, _⟩ := h
  have r5 : ∀ a, NOk c a → a ≠ q → a ≠ e → ((((m.wr e.1 (e.2 + 4) (pt q)).wr e.1 (e.2 + 5) (pt r)).wr q.1 (q.2 + 5) (pt e)).wr r.1 (r.2 + 4) (pt e)).rd a.1 (a.2 + 5) = m.rd a.1 (a.2 + 5) := fun a ha h1 h2 => by
    rw [HM.rd_other (ha.ne45 okr), HM.rd_other (fun x => h1 (na_ext x.1 (by omega))), HM.rd_other (fun x => h2 (na_ext x.1 (by omega))), HM.rd_other (ha.ne45 oke)]
  have r4 : ∀ a, NOk c a → a ≠ r → a ≠ e → ((((m.wr e.1 (e.2 + 4) (pt q)).wr e.1 (e.2 + 5) (pt r)).wr q.1 (q.2 + 5) (pt e)).wr r.1 (r.2 + 4) (pt e)).rd a.1 (a.2 + 4) = m.rd a.1 (a.2 + 4) := fun a ha h1 h2 => by
    rw [HM.rd_other (fun x => h1 (na_ext x.1 (by omega))), HM.rd_other (fun x => okq.ne45 ha ⟨x.1.symm, x.2.symm⟩), HM.rd_other (fun x => oke.ne45 ha ⟨x.1.symm, x.2.symm⟩), HM.rd_other (fun x => h2 (na_ext x.1 (by omega)))]
  have l45 : ∀ a b : NA, NOk c a → NOk c b → ¬ (a.1 = b.1 ∧ a.2 + 4 = b.2 + 5) := fun a b ha hb x => hb.ne45 ha ⟨x.1.symm, x.2.symm⟩
  have e4 : ((((m.wr e.1 (e.2 + 4) (pt q)).wr e.1 (e.2 + 5) (pt r)).wr q.1 (q.2 + 5) (pt e)).wr r.1 (r.2 + 4) (pt e)).rd e.1 (e.2 + 4) = some (pt q) := by
    rw [HM.rd_other (fun x => hre (na_ext x.1.symm (by omega))), HM.rd_other (l45 _ _ oke okq), HM.rd_other (l45 _ _ oke oke), HM.rd_same he4]
  have e5 : ((((m.wr e.1 (e.2 + 4) (pt q)).wr e.1 (e.2 + 5) (pt r)).wr q.1 (q.2 + 5) (pt e)).wr r.1 (r.2 + 4) (pt e)).rd e.1 (e.2 + 5) = some (pt r) := by
    rw [HM.rd_other (oke.ne45 okr), HM.rd_other (fun x => hqe (na_ext x.1.symm (by omega))), HM.rd_same]
    rw [HM.rd_other (oke.ne45 oke)]; exact he5
  have q5 : ((((m.wr e.1 (e.2 + 4) (pt q)).wr e.1 (e.2 + 5) (pt r)).wr q.1 (q.2 + 5) (pt e)).wr r.1 (r.2 + 4) (pt e)).rd q.1 (q.2 + 5) = some (pt e) := by
    rw [HM.rd_other (okq.ne45 okr), HM.rd_same]
    rw [HM.rd_other (fun x => hqe (na_ext x.1 (by omega))), HM.rd_other (okq.ne45 oke), hqr.1]; rfl
  have r4' : ((((m.wr e.1 (e.2 + 4) (pt q)).wr e.1 (e.2 + 5) (pt r)).wr q.1 (q.2 + 5) (pt e)).wr r.1 (r.2 + 4) (pt e)).rd r.1 (r.2 + 4) = some (pt e) := by
    rw [HM.rd_same]
    rw [HM.rd_other (l45 _ _ okr okq), HM.rd_other (l45 _ _ okr oke), HM.rd_other (fun x => hre (na_ext x.1 (by omega))), hqr.2]; rfl
  rw [show l1 ++ [q, e, r] = l1 ++ q :: [e, r] from rfl, lks_split]
  refine ⟨lks_congr h1 (fun a ha => r5 a (hok a ?_) ?_ (hne a ?_)) (fun a ha => r4 a (hok a ?_) (ht a ha) (hne a ?_)), ⟨q5, e4⟩, ⟨e5, r4'⟩, trivial⟩
  · rw [List.dropLast_concat] at ha
    simp [ha]
  · rintro rfl
    rw [List.dropLast_concat] at ha
    exact (List.nodup_append.1 hd).2.2 a ha a (by simp) rfl
  · rw [List.dropLast_concat] at ha
    simp [ha]
  · have := List.mem_of_mem_tail ha
    simp at this
    rcases this with h | h <;> simp [h]
  · have := List.mem_of_mem_tail ha
    simp at this
    rcases this with h | h <;> simp [h]
end
def ring (m : HM) (r : NA) (l : List NA) : Prop := lks m (r :: l ++ [r])
section
variable {m : HM} {c : Nat} {r : NA}
theorem ring_drop {a b : List NA} {z : NA} (h : ring m r (a ++ z :: b)) (hn : (r :: (a ++ z :: b)).Nodup) (hok : ∀ x ∈ r :: (a ++ z :: b), NOk c x) :
    ∃ p n : NA, m.rd z.1 (z.2 + 4) = some (pt p) ∧ m.rd z.1 (z.2 + 5) = some (pt n) ∧ p ∈ r :: a ∧ n ∈ r :: b ∧ (m.rd p.1 (p.2 + 5)).isSome ∧ (m.rd n.1 (n.2 + 4)).isSome ∧ ring ((m.wr p.1 (p.2 + 5) (pt n)).wr n.1 (n.2 + 4) (pt p)) r (a ++ b) := by
  obtain ⟨l1, p, hp⟩ : ∃ l1 p, r :: a = l1 ++ [p] := by
    rcases List.eq_nil_or_concat (r :: a) with h | ⟨l, x, h⟩
    · cases h
    · exact ⟨l, x, by rw [h, List.concat_eq_append]⟩
  obtain ⟨n, l2, hn2⟩ : ∃ n l2, b ++ [r] = n :: l2 := by
    cases b with
    | nil => exact ⟨r, [], rfl⟩
    | cons x b => exact ⟨x, b ++ [r], rfl⟩
  have hpm : p ∈ r :: a := by rw [hp]; simp
  have hnm : n ∈ r :: b := by
    have : n ∈ b ++ [r] := by rw [hn2]; simp
    simp at this ⊢
    rcases this with h | h
    · exact .inr h
    · exact .inl h
  have e1 : r :: (a ++ z :: b) ++ [r] = l1 ++ p :: z :: n :: l2 := by
    have : r :: (a ++ z :: b) ++ [r] = (r :: a) ++ z :: (b ++ [r]) := by simp
    rw [this, hp, hn2]; simp
  have e2 : r :: (a ++ b) ++ [r] = l1 ++ p :: n :: l2 := by
    have : r :: (a ++ b) ++ [r] = (r :: a) ++ (b ++ [r]) := by simp
    rw [this, hp, hn2]; simp
  unfold ring at h
  rw [e1] at h
  have hs := (lks_split m p (z :: n :: l2) l1).1 h
  obtain ⟨_, hpz, hzn, _⟩ := hs
  have hA : (r :: a).Nodup := by
    have : (r :: a) ++ (z :: b) = r :: (a ++ z :: b) := rfl
    rw [← this] at hn
    exact (List.nodup_append.1 hn).1
  have hB : (b ++ [r]).Nodup := by
    have hb : (r :: b).Nodup := by
      rw [List.nodup_cons] at hn ⊢
      refine ⟨fun hx => hn.1 (by simp [hx]), ?_⟩
      have := (List.nodup_append.1 hn.2).2.1
      exact (List.nodup_cons.1 this).2
    have := (List.perm_append_comm (l₁ := [r]) (l₂ := b)).nodup_iff.1 hb
    exact this
  have hAB : ∀ x ∈ a, x ∉ b := fun x hx hy => by
    rw [List.nodup_cons] at hn
    exact (List.nodup_append.1 hn.2).2.2 x hx x (by simp [hy]) rfl
  have hr1 : r ∉ a ∧ r ∉ b := by
    rw [List.nodup_cons] at hn
    exact ⟨fun hx => hn.1 (by simp [hx]), fun hx => hn.1 (by simp [hx])⟩
  refine ⟨p, n, hpz.2, hzn.1, hpm, hnm, by rw [hpz.1]; rfl, by rw [hzn.2]; rfl, ?_⟩
  unfold ring
  rw [e2]
  refine lks_drop (c := c) h (by rw [← hp]; exact hA) ?_ (by rw [← hn2]; exact hB) ?_ (by
    rw [← e1]
    intro x hx
    rcases List.mem_append.1 hx with hx | hx
    · exact hok x hx
    · obtain rfl : x = r := by simpa using hx
      exact hok _ (List.mem_cons_self ..))
  · rw [← hn2, List.dropLast_concat]
    rintro x hx rfl
    rcases List.mem_cons.1 hpm with rfl | hpa
    · exact hr1.2 hx
    · exact hAB x hpa hx
  · rw [← hp]
    rintro x hx rfl
    have hx' : x ∈ a := hx
    rcases List.mem_cons.1 hnm with rfl | hnb
    · exact hr1.1 hx'
    · exact hAB x hx' hnb
theorem ring_last {l : List NA} {e : NA} (h : ring m r l) (hn : (r :: l).Nodup) (hok : ∀ x ∈ r :: l, NOk c x) (oke : NOk c e) (hne : e ∉ r :: l) (he4 : (m.rd e.1 (e.2 + 4)).isSome) (he5 : (m.rd e.1 (e.2 + 5)).isSome) :
    ∃ q : NA, m.rd r.1 (r.2 + 4) = some (pt q) ∧ q ∈ r :: l ∧ (m.rd q.1 (q.2 + 5)).isSome ∧ (m.rd r.1 (r.2 + 4)).isSome ∧
      ring ((((m.wr e.1 (e.2 + 4) (pt q)).wr e.1 (e.2 + 5) (pt r)).wr q.1 (q.2 + 5) (pt e)).wr r.1 (r.2 + 4) (pt e)) r (l ++ [e]) := by
  obtain ⟨l1, q, hq⟩ : ∃ l1 q, r :: l = l1 ++ [q] := by
    rcases List.eq_nil_or_concat (r :: l) with h | ⟨l, x, h⟩
    · cases h
    · exact ⟨l, x, by rw [h, List.concat_eq_append]⟩
  have hqm : q ∈ r :: l := by rw [hq]; simp
  have e1 : r :: l ++ [r] = l1 ++ [q, r] := by rw [hq]; simp
  have e2 : r :: (l ++ [e]) ++ [r] = l1 ++ [q, e, r] := by
    have : r :: (l ++ [e]) ++ [r] = (r :: l) ++ [e, r] := by simp
    rw [this, hq]; simp
  unfold ring at h
  rw [e1] at h
  have hs := (lks_split m q [r] l1).1 h
  refine ⟨q, hs.2.1.2, hqm, by rw [hs.2.1.1]; rfl, by rw [hs.2.1.2]; rfl, ?_⟩
  unfold ring
  rw [e2]
  have hr : ∀ x ∈ l1 ++ [q, r], x ∈ r :: l := fun x hx => by
    rw [← e1] at hx
    rcases List.mem_append.1 hx with hx | hx
    · exact hx
    · obtain rfl : x = r := by simpa using hx
      exact List.mem_cons_self ..
  refine lks_last (c := c) h (by rw [← hq]; exact hn) ?_ (fun x hx => hok x (hr x hx)) oke (fun x hx e' => hne (e' ▸ hr x hx)) he4 he5
  rw [← hq]
  rintro x hx rfl
  exact (List.nodup_cons.1 hn).1 hx
theorem ring_same {m' : HM} {l : List NA} (h : ring m r l) (hs : ∀ a ∈ r :: l, m'.rd a.1 (a.2 + 5) = m.rd a.1 (a.2 + 5) ∧ m'.rd a.1 (a.2 + 4) = m.rd a.1 (a.2 + 4)) : ring m' r l := by
  have e : ∀ x ∈ r :: l ++ [r], x ∈ r :: l := fun x hx => by
    rcases List.mem_append.1 hx with hx | hx
    · exact hx
    · obtain rfl : x = r := by simpa using hx
      exact List.mem_cons_self ..
  exact lks_congr h (fun a ha => (hs a (e a ((List.dropLast_sublist _).subset ha))).1) (fun a ha => (hs a (e a (List.mem_of_mem_tail ha))).2)
end
end Go.Proofs.YtopdhanbmnfeeaaDoor

/- A cache's memory: two rings over one block with two roots; what each of its moves does to them. No program in sight. -/
namespace Go.Proofs.YtopdhanbmnfeeaaDoor
set_option linter.unusedSectionVars false
open Go Go.RowKit
set_option linter.unusedVariables false
set_option linter.unusedSimpArgs false
structure En where
  b : Nat
  k : Int
  kd : Int
  ld : Value
  h : Bool
  l : List UInt8
def En.nd (e : En) : NA := (e.b, 0)
def dat (m : HM) (e : En) : Prop := m.rd e.b 0 = some (.int .i64 e.k) ∧ m.rd e.b 1 = some (.int .i64 e.kd) ∧ m.rd e.b 2 = some e.ld ∧ m.rd e.b 3 = some (.bool e.h)
structure Core (c ro ro' : Nat) (A B Z : List En) (m : HM) : Prop where
  nd : ((A ++ B ++ Z).map (·.b)).Nodup
  blk : ∀ e ∈ A ++ B ++ Z, e.b ≠ c ∧ (m e.b).length = 6
  len : (m c).length = 19
  rA : ring m (c, ro) (A.map En.nd)
  rB : ring m (c, ro') (B.map En.nd)
  sA : m.rd c (ro + 6) = some (.int .i64 (A.length : Int))
  sB : m.rd c (ro' + 6) = some (.int .i64 (B.length : Int))
  dat : ∀ e ∈ A ++ B ++ Z, dat m e
def Ro (ro ro' : Nat) : Prop := (ro = 2 ∧ ro' = 9) ∨ (ro = 9 ∧ ro' = 2)
theorem Ro.symm {ro ro' : Nat} (h : Ro ro ro') : Ro ro' ro := by
  rcases h with ⟨a, b⟩ | ⟨a, b⟩
  · exact .inr ⟨b, a⟩
  · exact .inl ⟨b, a⟩
theorem Core.perm {c ro ro' : Nat} {A B Z Z' : List En} {m : HM} (h : Core c ro ro' A B Z m) (p : Z.Perm Z') : Core c ro ro' A B Z' m := by
  have q : (A ++ B ++ Z).Perm (A ++ B ++ Z') := List.Perm.append_left _ p
  exact ⟨(q.map _).nodup_iff.1 h.nd, fun e he => h.blk e (q.mem_iff.2 he), h.len, h.rA, h.rB, h.sA, h.sB, fun e he => h.dat e (q.mem_iff.2 he)⟩
theorem Core.symm {c ro ro' : Nat} {A B Z : List En} {m : HM} (h : Core c ro ro' A B Z m) : Core c ro' ro B A Z m := by
  have q : (A ++ B ++ Z).Perm (B ++ A ++ Z) := List.Perm.append_right _ List.perm_append_comm
  exact ⟨(q.map _).nodup_iff.1 h.nd, fun e he => h.blk e (q.mem_iff.2 he), h.len, h.rB, h.rA, h.sB, h.sA, fun e he => h.dat e (q.mem_iff.2 he)⟩
section
variable {c ro ro' : Nat} {A B Z : List En} {m : HM}
theorem root_ok (hr : Ro ro ro') : NOk c (c, ro) := by
  rcases hr with ⟨rfl, _⟩ | ⟨rfl, _⟩
  · exact .inl rfl
  · exact .inr (.inl rfl)
theorem Core.okA (h : Core c ro ro' A B Z m) (hr : Ro ro ro') : ∀ x ∈ (c, ro) :: A.map En.nd, NOk c x := by
  intro x hx
  rcases List.mem_cons.1 hx with rfl | hx
  · exact root_ok hr
  · obtain ⟨e, he, rfl⟩ := List.mem_map.1 hx
    exact .inr (.inr ⟨(h.blk e (by simp [he])).1, rfl⟩)
theorem Core.ndA (h : Core c ro ro' A B Z m) : ((c, ro) :: A.map En.nd).Nodup := by
  rw [List.nodup_cons]
  refine ⟨fun hx => ?_, ?_⟩
  · obtain ⟨e, he, hq⟩ := List.mem_map.1 hx
    exact (h.blk e (by simp [he])).1 (congrArg Prod.fst hq)
  · have h0 := h.nd
    rw [List.map_append, List.map_append] at h0
    have h1 := (List.nodup_append.1 (List.nodup_append.1 h0).1).1
    unfold List.Nodup at h1 ⊢
    rw [List.pairwise_map] at h1 ⊢
    exact h1.imp fun hne e => hne (congrArg Prod.fst e)
theorem na_ne {x y : NA} (h : x ≠ y) (k : Nat) : ¬ (x.1 = y.1 ∧ x.2 + k = y.2 + k) := fun e => h (na_ext e.1 (by omega))
def dropM (m : HM) (p n : NA) (c ro : Nat) (sz : Int) : HM := ((m.wr p.1 (p.2 + 5) (pt n)).wr n.1 (n.2 + 4) (pt p)).wr c (ro + 6) (.int .i64 sz)
def lastM (m : HM) (e q : NA) (c ro : Nat) (sz : Int) : HM := ((((m.wr e.1 (e.2 + 4) (pt q)).wr e.1 (e.2 + 5) (pt (c, ro))).wr q.1 (q.2 + 5) (pt e)).wr c (ro + 4) (pt e)).wr c (ro + 6) (.int .i64 sz)
theorem NOk.cell {x : NA} (h : NOk c x) : (x.1 = c ∧ (x.2 = 2 ∨ x.2 = 9)) ∨ (x.1 ≠ c ∧ x.2 = 0) := by
  rcases h with rfl | rfl | h
  · exact .inl ⟨rfl, .inl rfl⟩
  · exact .inl ⟨rfl, .inr rfl⟩
  · exact .inr h
theorem rd_dropM {p n : NA} (hp : NOk c p) (hn : NOk c n) (hr : Ro ro ro') {sz : Int} {g o : Nat} (h5 : ¬ (g = p.1 ∧ o = p.2 + 5)) (h4 : ¬ (g = n.1 ∧ o = n.2 + 4)) (h6 : ¬ (g = c ∧ o = ro + 6)) : (dropM m p n c ro sz).rd g o = m.rd g o := by
  unfold dropM
  rw [HM.rd_other h6, HM.rd_other h4, HM.rd_other h5]
theorem rd_lastM {e q : NA} {sz : Int} {g o : Nat} (h4 : ¬ (g = e.1 ∧ o = e.2 + 4)) (h5 : ¬ (g = e.1 ∧ o = e.2 + 5)) (hq : ¬ (g = q.1 ∧ o = q.2 + 5)) (hc : ¬ (g = c ∧ o = ro + 4)) (h6 : ¬ (g = c ∧ o = ro + 6)) : (lastM m e q c ro sz).rd g o = m.rd g o := by
  unfold lastM
  rw [HM.rd_other h6, HM.rd_other hc, HM.rd_other hq, HM.rd_other h5, HM.rd_other h4]
theorem Core.drop {a b : List En} {e : En} (h : Core c ro ro' (a ++ e :: b) B Z m) (hr : Ro ro ro') :
    ∃ p n : NA, m.rd e.b 4 = some (pt p) ∧ m.rd e.b 5 = some (pt n) ∧ (p.1 = c ∨ p.1 ∈ (a ++ b).map (·.b)) ∧ (n.1 = c ∨ n.1 ∈ (a ++ b).map (·.b)) ∧ (m.rd p.1 (p.2 + 5)).isSome ∧ ((m.wr p.1 (p.2 + 5) (pt n)).rd n.1 (n.2 + 4)).isSome ∧
      ((m.wr p.1 (p.2 + 5) (pt n)).wr n.1 (n.2 + 4) (pt p)).rd c (ro + 6) = some (.int .i64 (((a ++ e :: b).length : Nat) : Int)) ∧ (((m.wr p.1 (p.2 + 5) (pt n)).wr n.1 (n.2 + 4) (pt p)).rd c (ro + 6)).isSome ∧
      Core c ro ro' (a ++ b) B (e :: Z) (dropM m p n c ro (((a ++ e :: b).length : Nat) - 1 : Int)) ∧ ∀ o, o < 2 ∨ 16 ≤ o → (dropM m p n c ro (((a ++ e :: b).length : Nat) - 1 : Int)).rd c o = m.rd c o := by
  have e0 : (a ++ e :: b).map En.nd = a.map En.nd ++ e.nd :: b.map En.nd := by simp
  have hok := h.okA hr
  have hnd := h.ndA
  have hrA := h.rA
  rw [e0] at hok hnd hrA
  obtain ⟨p, n, hp, hn, mp, mn, sp, sn, hring⟩ := ring_drop (c := c) hrA hnd hok
  have okp : NOk c p := hok p (by
    rcases List.mem_cons.1 mp with rfl | h
    · exact List.mem_cons_self ..
    · exact List.mem_cons_of_mem _ (List.mem_append_left _ h))
  have okn : NOk c n := hok n (by
    rcases List.mem_cons.1 mn with rfl | h
    · exact List.mem_cons_self ..
    · exact List.mem_cons_of_mem _ (List.mem_append_right _ (List.mem_cons_of_mem _ h)))
  have memp : p.1 = c ∨ p.1 ∈ (a ++ b).map (·.b) := by
    rcases List.mem_cons.1 mp with rfl | h
    · exact .inl rfl
    · obtain ⟨x, hx, rfl⟩ := List.mem_map.1 h
      exact .inr (List.mem_map.2 ⟨x, by simp [hx], rfl⟩)
  have memn : n.1 = c ∨ n.1 ∈ (a ++ b).map (·.b) := by
    rcases List.mem_cons.1 mn with rfl | h
    · exact .inl rfl
    · obtain ⟨x, hx, rfl⟩ := List.mem_map.1 h
      exact .inr (List.mem_map.2 ⟨x, by simp [hx], rfl⟩)
  have perm : ((a ++ e :: b) ++ B ++ Z).Perm ((a ++ b) ++ B ++ (e :: Z)) := by
    have h1 : (a ++ e :: b).Perm (e :: (a ++ b)) := List.perm_middle
    have h2 : ((a ++ b) ++ B ++ (e :: Z)).Perm (e :: ((a ++ b) ++ B ++ Z)) := List.perm_middle
    refine ((h1.append_right B).append_right Z).trans ?_
    exact h2.symm
  have c6p : ¬ (c = p.1 ∧ ro + 6 = p.2 + 5) := by rintro ⟨h1, h2⟩; rcases okp.cell with ⟨_, h3⟩ | ⟨h3, _⟩ <;> rcases hr with ⟨x, _⟩ | ⟨x, _⟩ <;> omega
  have c6n : ¬ (c = n.1 ∧ ro + 6 = n.2 + 4) := by rintro ⟨h1, h2⟩; rcases okn.cell with ⟨_, h3⟩ | ⟨h3, _⟩ <;> rcases hr with ⟨x, _⟩ | ⟨x, _⟩ <;> omega
  have rd6 : ((m.wr p.1 (p.2 + 5) (pt n)).wr n.1 (n.2 + 4) (pt p)).rd c (ro + 6) = m.rd c (ro + 6) := by rw [HM.rd_other c6n, HM.rd_other c6p]
  refine ⟨p, n, hp, hn, memp, memn, sp, ?_, by rw [rd6]; exact h.sA, by rw [rd6, h.sA]; rfl, ⟨?_, ?_, ?_, ?_, ?_, ?_, ?_, ?_⟩, ?_⟩
  · rw [HM.rd_other (fun x => okp.ne45 okn ⟨x.1.symm, x.2.symm⟩)]; exact sn
  · exact (perm.map _).nodup_iff.1 h.nd
  · intro x hx
    have := h.blk x (perm.mem_iff.2 hx)
    unfold dropM
    rw [HM.len_wr, HM.len_wr, HM.len_wr]; exact this
  · unfold dropM
    rw [HM.len_wr, HM.len_wr, HM.len_wr]; exact h.len
  · rw [List.map_append]
    refine ring_same hring fun x hx => ?_
    have okx : NOk c x := hok x (by
      rcases List.mem_cons.1 hx with rfl | hx
      · exact List.mem_cons_self ..
      · rcases List.mem_append.1 hx with hx | hx
        · exact List.mem_cons_of_mem _ (List.mem_append_left _ hx)
        · exact List.mem_cons_of_mem _ (List.mem_append_right _ (List.mem_cons_of_mem _ hx)))
    unfold dropM
    constructor
    · rw [HM.rd_other]
      rintro ⟨h1, h2⟩
      rcases okx.cell with ⟨_, h3⟩ | ⟨h3, _⟩ <;> rcases hr with ⟨x, _⟩ | ⟨x, _⟩ <;> omega
    · rw [HM.rd_other]
      rintro ⟨h1, h2⟩
      rcases okx.cell with ⟨_, h3⟩ | ⟨h3, _⟩ <;> rcases hr with ⟨x, _⟩ | ⟨x, _⟩ <;> omega
  · refine ring_same h.rB fun x hx => ?_
    have okx : NOk c x := h.symm.okA hr.symm x hx
    have hne : ∀ y : NA, (y.1 = c ∧ y = (c, ro)) ∨ (y.1 ≠ c ∧ y.1 ∈ (a ++ b).map (·.b)) → x ≠ y := by
      rintro y hy rfl
      rcases List.mem_cons.1 hx with rfl | hx
      · rcases hy with ⟨_, hy⟩ | ⟨hy, _⟩
        · have := congrArg Prod.snd hy
          rcases hr with ⟨x, y⟩ | ⟨x, y⟩ <;> simp at this <;> omega
        · exact hy rfl
      · obtain ⟨z, hz, rfl⟩ := List.mem_map.1 hx
        have hzc := (h.blk z (by simp [hz])).1
        rcases hy with ⟨hy, _⟩ | ⟨_, hy⟩
        · exact hzc hy
        · obtain ⟨u, hu, he⟩ := List.mem_map.1 hy
          have hN := h.nd
          rw [List.map_append, List.map_append] at hN
          have hN2 := (List.nodup_append.1 (List.nodup_append.1 hN).1).2.2
          refine hN2 u.b (List.mem_map.2 ⟨u, by simp at hu ⊢; rcases hu with h | h <;> simp [h], rfl⟩) z.b (List.mem_map.2 ⟨z, hz, rfl⟩) he
    have toR : ∀ y : NA, (y ∈ (c, ro) :: a.map En.nd ∨ y ∈ (c, ro) :: b.map En.nd) → (y.1 = c ∧ y = (c, ro)) ∨ (y.1 ≠ c ∧ y.1 ∈ (a ++ b).map (·.b)) := by
      intro y hy
      have : y = (c, ro) ∨ ∃ u ∈ a ++ b, u.nd = y := by
        rcases hy with hy | hy <;> rcases List.mem_cons.1 hy with rfl | hy
        · exact .inl rfl
        · obtain ⟨u, hu, rfl⟩ := List.mem_map.1 hy
          exact .inr ⟨u, by simp [hu], rfl⟩
        · exact .inl rfl
        · obtain ⟨u, hu, rfl⟩ := List.mem_map.1 hy
          exact .inr ⟨u, by simp [hu], rfl⟩
      rcases this with rfl | ⟨u, hu, rfl⟩
      · exact .inl ⟨rfl, rfl⟩
      · exact .inr ⟨(h.blk u (by simp at hu ⊢; rcases hu with h | h <;> simp [h])).1, List.mem_map.2 ⟨u, hu, rfl⟩⟩
    have nep := hne p (toR p (.inl mp))
    have nen := hne n (toR n (.inr mn))
    have c65 : ¬ (x.1 = c ∧ x.2 + 5 = ro + 6) := by rintro ⟨h1, h2⟩; rcases okx.cell with ⟨_, h3⟩ | ⟨h3, _⟩ <;> rcases hr with ⟨x, _⟩ | ⟨x, _⟩ <;> omega
    have c64 : ¬ (x.1 = c ∧ x.2 + 4 = ro + 6) := by rintro ⟨h1, h2⟩; rcases okx.cell with ⟨_, h3⟩ | ⟨h3, _⟩ <;> rcases hr with ⟨x, _⟩ | ⟨x, _⟩ <;> omega
    exact ⟨rd_dropM okp okn hr (na_ne nep 5) (okx.ne45 okn) c65, rd_dropM okp okn hr (fun e => okp.ne45 okx ⟨e.1.symm, e.2.symm⟩) (na_ne nen 4) c64⟩
  · unfold dropM
    rw [HM.rd_same (by rw [rd6, h.sA]; rfl)]
    congr 2
    simp; omega
  · rw [rd_dropM okp okn hr _ _ _, h.sB]
    · rintro ⟨h1, h2⟩; rcases okp.cell with ⟨_, h3⟩ | ⟨h3, _⟩ <;> rcases hr with ⟨x, y⟩ | ⟨x, y⟩ <;> omega
    · rintro ⟨h1, h2⟩; rcases okn.cell with ⟨_, h3⟩ | ⟨h3, _⟩ <;> rcases hr with ⟨x, y⟩ | ⟨x, y⟩ <;> omega
    · rintro ⟨h1, h2⟩; rcases hr with ⟨x, y⟩ | ⟨x, y⟩ <;> omega
  · intro x hx
    have hx' := perm.mem_iff.2 hx
    have hb := (h.blk x hx').1
    have hd := h.dat x hx'
    have key : ∀ o, o < 4 → (dropM m p n c ro (((a ++ e :: b).length : Nat) - 1 : Int)).rd x.b o = m.rd x.b o := fun o ho => by
      refine rd_dropM okp okn hr ?_ ?_ (fun e => hb e.1)
      · rintro ⟨h1, h2⟩; omega
      · rintro ⟨h1, h2⟩; omega
    exact ⟨by rw [key 0 (by omega)]; exact hd.1, by rw [key 1 (by omega)]; exact hd.2.1, by rw [key 2 (by omega)]; exact hd.2.2.1, by rw [key 3 (by omega)]; exact hd.2.2.2⟩
  · intro o ho
    refine rd_dropM okp okn hr ?_ ?_ ?_
    · rintro ⟨h1, h2⟩; rcases okp.cell with ⟨_, h3⟩ | ⟨h3, _⟩ <;> omega
    · rintro ⟨h1, h2⟩; rcases okn.cell with ⟨_, h3⟩ | ⟨h3, _⟩ <;> omega
    · rintro ⟨h1, h2⟩; rcases hr with ⟨x, y⟩ | ⟨x, y⟩ <;> omega
theorem Core.last {e : En} (h : Core c ro ro' A B (e :: Z) m) (hr : Ro ro ro') :
    ∃ q : NA, m.rd c (ro + 4) = some (pt q) ∧ (q.1 = c ∨ q.1 ∈ A.map (·.b)) ∧ (m.rd e.b 4).isSome ∧ ((m.wr e.b 4 (pt q)).rd e.b 5).isSome ∧
      ((m.wr e.b 4 (pt q)).wr e.b 5 (pt (c, ro))).rd e.b 4 = some (pt q) ∧ (((m.wr e.b 4 (pt q)).wr e.b 5 (pt (c, ro))).rd q.1 (q.2 + 5)).isSome ∧
      ((m.wr e.b 4 (pt q)).wr e.b 5 (pt (c, ro))).rd e.b 5 = some (pt (c, ro)) ∧ ((((m.wr e.b 4 (pt q)).wr e.b 5 (pt (c, ro))).wr q.1 (q.2 + 5) (pt e.nd)).rd c (ro + 4)).isSome ∧
      ((((m.wr e.b 4 (pt q)).wr e.b 5 (pt (c, ro))).wr q.1 (q.2 + 5) (pt e.nd)).wr c (ro + 4) (pt e.nd)).rd c (ro + 6) = some (.int .i64 (A.length : Int)) ∧
      Core c ro ro' (A ++ [e]) B Z (lastM m e.nd q c ro ((A.length : Int) + 1)) ∧ (∀ o, o < 2 ∨ 16 ≤ o → (lastM m e.nd q c ro ((A.length : Int) + 1)).rd c o = m.rd c o) ∧ ¬ q.1 = e.b := by
  have he := h.blk e (by simp)
  have oke : NOk c e.nd := .inr (.inr ⟨he.1, rfl⟩)
  have hok := h.okA hr
  have perm : (A ++ B ++ (e :: Z)).Perm ((A ++ [e]) ++ B ++ Z) := by
    have h1 : (A ++ B ++ (e :: Z)).Perm (e :: (A ++ B ++ Z)) := List.perm_middle
    have h2 : ((A ++ [e]) ++ B ++ Z).Perm (e :: (A ++ B ++ Z)) := by
      have : ((A ++ [e]) ++ B ++ Z) = A ++ e :: (B ++ Z) := by simp
      rw [this]
      have h3 := List.perm_middle (a := e) (l₁ := A) (l₂ := B ++ Z)
      rw [List.append_assoc]
      exact h3
    exact h1.trans h2.symm
  have hen : e.nd ∉ (c, ro) :: A.map En.nd := by
    intro hx
    rcases List.mem_cons.1 hx with hx | hx
    · exact he.1 (congrArg Prod.fst hx)
    · obtain ⟨z, hz, hq⟩ := List.mem_map.1 hx
      have hN := h.nd
      rw [List.map_append, List.map_append] at hN
      exact (List.nodup_append.1 hN).2.2 z.b (by simp; exact .inl ⟨z, hz, rfl⟩) e.b (by simp) (congrArg Prod.fst hq)
  have l4 : (m.rd e.b 4).isSome := HM.rd_lt (by omega)
  have l5 : (m.rd e.b 5).isSome := HM.rd_lt (by omega)
  obtain ⟨q, hq, mq, sq, sr, hring⟩ := ring_last (c := c) h.rA h.ndA hok oke hen l4 l5
  have okq : NOk c q := hok q mq
  have hqe : ¬ q.1 = e.b := fun hx => by
    rcases okq.cell with ⟨h1, _⟩ | ⟨h1, h2⟩
    · exact he.1 (hx ▸ h1)
    · exact hen (by
        have : q = e.nd := na_ext hx h2
        rw [← this]; exact mq)
  have memq : q.1 = c ∨ q.1 ∈ A.map (·.b) := by
    rcases List.mem_cons.1 mq with rfl | h
    · exact .inl rfl
    · obtain ⟨x, hx, rfl⟩ := List.mem_map.1 h
      exact .inr (List.mem_map.2 ⟨x, hx, rfl⟩)
  have c45 : ¬ (c = q.1 ∧ ro + 4 = q.2 + 5) := fun x => okq.ne45 (root_ok hr) ⟨x.1.symm, x.2.symm⟩
  have c65 : ¬ (c = q.1 ∧ ro + 6 = q.2 + 5) := by rintro ⟨h1, h2⟩; rcases okq.cell with ⟨_, h3⟩ | ⟨h3, _⟩ <;> rcases hr with ⟨x, _⟩ | ⟨x, _⟩ <;> omega
  have rd6 : ((((m.wr e.b 4 (pt q)).wr e.b 5 (pt (c, ro))).wr q.1 (q.2 + 5) (pt e.nd)).wr c (ro + 4) (pt e.nd)).rd c (ro + 6) = some (.int .i64 (A.length : Int)) := by
    rw [HM.rd_other (by omega), HM.rd_other c65, HM.rd_other (fun x => he.1 x.1.symm), HM.rd_other (fun x => he.1 x.1.symm), h.sA]
  refine ⟨q, hq, memq, l4, ?_, ?_, ?_, ?_, ?_, rd6, ⟨?_, ?_, ?_, ?_, ?_, ?_, ?_, ?_⟩, ?_, hqe⟩
  · rw [HM.rd_other (by omega)]; exact l5
  · rw [HM.rd_other (by omega), HM.rd_same l4]
  · rw [HM.rd_other (fun x => hqe x.1), HM.rd_other (fun x => hqe x.1)]; exact sq
  · rw [HM.rd_same]
    rw [HM.rd_other (by omega)]; exact l5
  · rw [HM.rd_other c45, HM.rd_other (fun x => he.1 x.1.symm), HM.rd_other (fun x => he.1 x.1.symm)]; exact sr
  · exact (perm.map _).nodup_iff.1 h.nd
  · intro x hx
    have := h.blk x (perm.mem_iff.2 hx)
    unfold lastM
    rw [HM.len_wr, HM.len_wr, HM.len_wr, HM.len_wr, HM.len_wr]; exact this
  · unfold lastM
    rw [HM.len_wr, HM.len_wr, HM.len_wr, HM.len_wr, HM.len_wr]; exact h.len
  · rw [List.map_append]
    refine ring_same hring fun x hx => ?_
    have okx : NOk c x := by
      rcases List.mem_cons.1 hx with rfl | hx
      · exact root_ok hr
      · rcases List.mem_append.1 hx with hx | hx
        · exact hok x (List.mem_cons_of_mem _ hx)
        · obtain rfl : x = e.nd := by simpa using hx
          exact oke
    unfold lastM
    constructor
    · rw [HM.rd_other]
      · rintro ⟨h1, h2⟩
        rcases okx.cell with ⟨_, h3⟩ | ⟨h3, _⟩ <;> rcases hr with ⟨x, _⟩ | ⟨x, _⟩ <;> omega
    · rw [HM.rd_other]
      · rintro ⟨h1, h2⟩
        rcases okx.cell with ⟨_, h3⟩ | ⟨h3, _⟩ <;> rcases hr with ⟨x, _⟩ | ⟨x, _⟩ <;> omega
  · refine ring_same h.rB fun x hx => ?_
    have okx : NOk c x := h.symm.okA hr.symm x hx
    have hxr : x ≠ (c, ro) := by
      rintro rfl
      rcases List.mem_cons.1 hx with hx | hx
      · have := congrArg Prod.snd hx
        rcases hr with ⟨x, y⟩ | ⟨x, y⟩ <;> simp at this <;> omega
      · obtain ⟨z, hz, hq⟩ := List.mem_map.1 hx
        exact (h.blk z (by simp [hz])).1 (congrArg Prod.fst hq)
    have hxe : x ≠ e.nd := by
      rintro rfl
      rcases List.mem_cons.1 hx with hx | hx
      · exact he.1 (congrArg Prod.fst hx)
      · obtain ⟨z, hz, hq⟩ := List.mem_map.1 hx
        have hN := h.nd
        rw [List.map_append, List.map_append] at hN
        exact (List.nodup_append.1 hN).2.2 z.b (by simp; exact .inr ⟨z, hz, rfl⟩) e.b (by simp) (congrArg Prod.fst hq)
    have hxq : x ≠ q := by
      rintro rfl
      rcases List.mem_cons.1 mq with hq | hq
      · exact hxr hq
      · obtain ⟨u, hu, hq⟩ := List.mem_map.1 hq
        rcases List.mem_cons.1 hx with hx | hx
        · have e1 : u.b = c := by have := congrArg Prod.fst (hq.trans hx); exact this
          exact (h.blk u (by simp [hu])).1 e1
        · obtain ⟨z, hz, hz2⟩ := List.mem_map.1 hx
          have hN := h.nd
          rw [List.map_append, List.map_append] at hN
          have hN2 := (List.nodup_append.1 (List.nodup_append.1 hN).1).2.2
          exact hN2 u.b (List.mem_map.2 ⟨u, hu, rfl⟩) z.b (List.mem_map.2 ⟨z, hz, rfl⟩) (by have := congrArg Prod.fst (hq.trans hz2.symm); exact this)
    have c65 : ¬ (x.1 = c ∧ x.2 + 5 = ro + 6) := by rintro ⟨h1, h2⟩; rcases okx.cell with ⟨_, h3⟩ | ⟨h3, _⟩ <;> rcases hr with ⟨x, _⟩ | ⟨x, _⟩ <;> omega
    have c64 : ¬ (x.1 = c ∧ x.2 + 4 = ro + 6) := by rintro ⟨h1, h2⟩; rcases okx.cell with ⟨_, h3⟩ | ⟨h3, _⟩ <;> rcases hr with ⟨x, _⟩ | ⟨x, _⟩ <;> omega
    have e54 : ∀ y : NA, NOk c y → ¬ (x.1 = y.1 ∧ x.2 + 4 = y.2 + 5) := fun y hy e => hy.ne45 okx ⟨e.1.symm, e.2.symm⟩
    exact ⟨rd_lastM (okx.ne45 oke) (na_ne hxe 5) (na_ne hxq 5) (okx.ne45 (root_ok hr)) c65, rd_lastM (na_ne hxe 4) (e54 _ oke) (e54 _ okq) (na_ne hxr 4) c64⟩
  · unfold lastM
    rw [HM.rd_same]
    · congr 2
      simp
    · show (HM.rd ((((m.wr e.b 4 (pt q)).wr e.b 5 (pt (c, ro))).wr q.1 (q.2 + 5) (pt e.nd)).wr c (ro + 4) (pt e.nd)) c (ro + 6)).isSome
      rw [rd6]; rfl
  · rw [rd_lastM (fun x => he.1 x.1.symm) (fun x => he.1 x.1.symm) _ _ _, h.sB]
    · rintro ⟨h1, h2⟩; rcases okq.cell with ⟨_, h3⟩ | ⟨h3, _⟩ <;> rcases hr with ⟨x, y⟩ | ⟨x, y⟩ <;> omega
    · rintro ⟨h1, h2⟩; rcases hr with ⟨x, y⟩ | ⟨x, y⟩ <;> omega
    · rintro ⟨h1, h2⟩; rcases hr with ⟨x, y⟩ | ⟨x, y⟩ <;> omega
  · intro x hx
    have hx' := perm.mem_iff.2 hx
    have hb := (h.blk x hx').1
    have hd := h.dat x hx'
    have key : ∀ o, o < 4 → (lastM m e.nd q c ro ((A.length : Int) + 1)).rd x.b o = m.rd x.b o := fun o ho => by
      refine rd_lastM ?_ ?_ ?_ (fun e => hb e.1) (fun e => hb e.1)
      · rintro ⟨h1, h2⟩; have : e.nd.2 = 0 := rfl; omega
      · rintro ⟨h1, h2⟩; have : e.nd.2 = 0 := rfl; omega
      · rintro ⟨h1, h2⟩; omega
    exact ⟨by rw [key 0 (by omega)]; exact hd.1, by rw [key 1 (by omega)]; exact hd.2.1, by rw [key 2 (by omega)]; exact hd.2.2.1, by rw [key 3 (by omega)]; exact hd.2.2.2⟩
  · intro o ho
    refine rd_lastM (fun x => he.1 x.1.symm) (fun x => he.1 x.1.symm) ?_ ?_ ?_
    · rintro ⟨h1, h2⟩; rcases okq.cell with ⟨_, h3⟩ | ⟨h3, _⟩ <;> omega
    · rintro ⟨h1, h2⟩; rcases hr with ⟨x, y⟩ | ⟨x, y⟩ <;> omega
    · rintro ⟨h1, h2⟩; rcases hr with ⟨x, y⟩ | ⟨x, y⟩ <;> omega
end
end Go.Proofs.YtopdhanbmnfeeaaDoor
