/- Texts joined. -/
import Derived.Test.YtodhlfinbbajfaaGreatDoorGF01
import Derived.Maps.OwnSet
import Derived.Maps.AppendAt
namespace Go.Proofs.YtodhlfinbbajfaaGreatDoor
open Go Go.RowKit
set_option linter.unusedVariables false
set_option linter.unusedSimpArgs false
set_option linter.unusedSectionVars false
set_option maxRecDepth 100000
set_option maxHeartbeats 40000000
section
variable {P : Program} {ops : Array Oper} {S : World → Prop} {o : Oper} {a : Act} {k : IntKind} {m n : Int} {x y : Operand} {t t' : TypeId}
theorem Je4 {v : Value} (hw : Region.wanted o (yielded ops a.tmps) = true) (h : ∀ w, S w → (execOp a.eval o).run P w = .ok (.value v) w) : YieldsIf P ops S o v a := .inl ⟨hw, h⟩
theorem Jzd {v : Value} (hw : Region.wanted o (yielded ops a.tmps) = true) (ho : o.op = .move x) (hx : a.eval x = v) : YieldsIf P ops S o v a :=
  Je4 hw fun w _ => by unfold execOp; simp only [ho, hx]; rfl
theorem Jq6 {v : Value} (hw : Region.wanted o (yielded ops a.tmps) = true) (ho : o.op = .assign x) (hx : a.eval x = v) : YieldsIf P ops S o v a :=
  Je4 hw fun w _ => by unfold execOp; simp only [ho, hx]; rfl
theorem Jyb {c : Operand} {v : Value} (hw : Region.wanted o (yielded ops a.tmps) = true) (ho : o.op = .pick c x y) (hc : a.eval c = .bool true) (hx : a.eval x = v) : YieldsIf P ops S o v a :=
  Je4 hw fun w _ => by unfold execOp; simp only [ho, hc, hx]; rfl
theorem Jyc {c : Operand} {v : Value} (hw : Region.wanted o (yielded ops a.tmps) = true) (ho : o.op = .pick c x y) (hc : a.eval c = .bool false) (hy : a.eval y = v) : YieldsIf P ops S o v a :=
  Je4 hw fun w _ => by unfold execOp; simp only [ho, hc, hy]; rfl
theorem y_not {b b' : Bool} (hw : Region.wanted o (yielded ops a.tmps) = true) (ho : o.op = .unOp .not t x) (hx : a.eval x = .bool b) (hb : (!b) = b') : YieldsIf P ops S o (.bool b') a :=
  Je4 hw fun w _ => by unfold execOp; simp only [ho, hx, ← hb]; rfl
theorem y_nil {p : Addr} (hw : Region.wanted o (yielded ops a.tmps) = true) (ho : o.op = .nilCheck x) (hx : a.eval x = .pointer (some p)) : YieldsIf P ops S o (.pointer (some p)) a :=
  Je4 hw fun w _ => by unfold execOp; simp only [ho, hx]; rfl
theorem Jgx {op : BinOp} {u u' r : Value} (hw : Region.wanted o (yielded ops a.tmps) = true) (ho : o.op = .binOp op t x y t') (hx : a.eval x = u) (hy : a.eval y = u') (hg : eqGuard op t x y u u' = pure ()) (hr : ∀ w, (binOp op t u u').run P w = .ok r w) : YieldsIf P ops S o r a :=
  Je4 hw fun w _ => by
    unfold execOp
    simp only [ho, hx, hy, hg, Sem.run_bind, Sem.run_pure, Result.andThen_ok, hr]
theorem Jcu (op : BinOp) (k : IntKind) (m : Int) (u : Value) : eqGuard op t x y (.int k m) u = pure () := by unfold eqGuard; split <;> rfl
theorem Jmh (op : BinOp) (b : Bool) (u : Value) : eqGuard op t x y (.bool b) u = pure () := by unfold eqGuard; split <;> rfl
theorem Jog (op : BinOp) (b : Option Addr) (u : Value) : eqGuard op t x y (.pointer b) u = pure () := by unfold eqGuard; split <;> rfl
theorem Jv5 {b : Bool} (hw : Region.wanted o (yielded ops a.tmps) = true) (ho : o.op = .binOp .lss t x y t') (hx : a.eval x = .int k m) (hy : a.eval y = .int k n) (hb : decide (m < n) = b) : YieldsIf P ops S o (.bool b) a :=
  Jgx hw ho hx hy (Jcu ..) fun w => by unfold binOp; simp [Op.intCmp, ← hb]
theorem y_leq {b : Bool} (hw : Region.wanted o (yielded ops a.tmps) = true) (ho : o.op = .binOp .leq t x y t') (hx : a.eval x = .int k m) (hy : a.eval y = .int k n) (hb : decide (m ≤ n) = b) : YieldsIf P ops S o (.bool b) a :=
  Jgx hw ho hx hy (Jcu ..) fun w => by unfold binOp; simp [Op.intCmp, ← hb]
theorem y_gtr {b : Bool} (hw : Region.wanted o (yielded ops a.tmps) = true) (ho : o.op = .binOp .gtr t x y t') (hx : a.eval x = .int k m) (hy : a.eval y = .int k n) (hb : decide (n < m) = b) : YieldsIf P ops S o (.bool b) a :=
  Jgx hw ho hx hy (Jcu ..) fun w => by unfold binOp; simp [Op.intCmp, ← hb]
theorem y_geq {b : Bool} (hw : Region.wanted o (yielded ops a.tmps) = true) (ho : o.op = .binOp .geq t x y t') (hx : a.eval x = .int k m) (hy : a.eval y = .int k n) (hb : decide (n ≤ m) = b) : YieldsIf P ops S o (.bool b) a :=
  Jgx hw ho hx hy (Jcu ..) fun w => by unfold binOp; simp [Op.intCmp, ← hb]
theorem Jze {b : Bool} (hw : Region.wanted o (yielded ops a.tmps) = true) (ho : o.op = .binOp .eql t x y t') (hx : a.eval x = .int k m) (hy : a.eval y = .int k n) (hb : decide (m = n) = b) : YieldsIf P ops S o (.bool b) a :=
  Jgx hw ho hx hy (Jcu ..) fun w => by unfold binOp; simp only [Op.intCmp, ne_eq, not_true_eq_false, if_false, ← hb]; rfl
theorem y_neq {b : Bool} (hw : Region.wanted o (yielded ops a.tmps) = true) (ho : o.op = .binOp .neq t x y t') (hx : a.eval x = .int k m) (hy : a.eval y = .int k n) (hb : (!decide (m = n)) = b) : YieldsIf P ops S o (.bool b) a :=
  Jgx hw ho hx hy (Jcu ..) fun w => by unfold binOp; simp only [Op.intCmp, ne_eq, not_true_eq_false, if_false, ← hb]; rfl
theorem Jdn {m : Int} (h : -9223372036854775808 ≤ m ∧ m ≤ 9223372036854775807) : IntKind.i64.wrap m = m := by
 simp only [IntKind.wrap, IntKind.signed, IntKind.bits];simp;omega
theorem Ja0 {r : Int} (hw : Region.wanted o (yielded ops a.tmps) = true) (ho : o.op = .binOp .add t x y t') (hx : a.eval x = .int .i64 m) (hy : a.eval y = .int .i64 n) (hr : m + n = r) (h : -9223372036854775808 ≤ r ∧ r ≤ 9223372036854775807) : YieldsIf P ops S o (.int .i64 r) a :=
  Jgx hw ho hx hy (Jcu ..) fun w => by subst hr; unfold binOp; simp [Op.intArith, Jdn h]
theorem Jkn {r : Int} (hw : Region.wanted o (yielded ops a.tmps) = true) (ho : o.op = .binOp .sub t x y t') (hx : a.eval x = .int .i64 m) (hy : a.eval y = .int .i64 n) (hr : m - n = r) (h : -9223372036854775808 ≤ r ∧ r ≤ 9223372036854775807) : YieldsIf P ops S o (.int .i64 r) a :=
  Jgx hw ho hx hy (Jcu ..) fun w => by subst hr; unfold binOp; simp [Op.intArith, Jdn h]
theorem Jl2 {r : Int} (hw : Region.wanted o (yielded ops a.tmps) = true) (ho : o.op = .binOp .mul t x y t') (hx : a.eval x = .int .i64 m) (hy : a.eval y = .int .i64 n) (hr : m * n = r) (h : -9223372036854775808 ≤ r ∧ r ≤ 9223372036854775807) : YieldsIf P ops S o (.int .i64 r) a :=
  Jgx hw ho hx hy (Jcu ..) fun w => by subst hr; unfold binOp; simp [Op.intArith, Jdn h]
theorem Jea (hw : Region.wanted o (yielded ops a.tmps) = true) (ho : o.op = .binOp .add t x y t') (hx : a.eval x = .int .i64 m) (hy : a.eval y = .int .i64 n) : YieldsIf P ops S o (.int .i64 (wrap64 (m + n))) a :=
  Jgx hw ho hx hy (Jcu ..) fun w => by unfold binOp; simp [Op.intArith, IntKind.wrap, IntKind.signed, IntKind.bits, wrap64]; split <;> omega
theorem Jzf {r : Int} (hw : Region.wanted o (yielded ops a.tmps) = true) (ho : o.op = .binOp .add t x y t') (hx : a.eval x = .int k m) (hy : a.eval y = .int k n) (hr : k.wrap (m + n) = r) : YieldsIf P ops S o (.int k r) a :=
  Jgx hw ho hx hy (Jcu ..) fun w => by subst hr; unfold binOp; simp [Op.intArith]
theorem Jni {r : Int} (hw : Region.wanted o (yielded ops a.tmps) = true) (ho : o.op = .binOp .quo t x y t') (hx : a.eval x = .int .i64 m) (hy : a.eval y = .int .i64 n) (h0 : n ≠ 0) (hr : m.tdiv n = r) (h : -9223372036854775808 ≤ r ∧ r ≤ 9223372036854775807) : YieldsIf P ops S o (.int .i64 r) a :=
  Jgx hw ho hx hy (Jcu ..) fun w => by subst hr; unfold binOp; simp [Op.intDiv, h0, Jdn h]
theorem Jgy {r : Int} (hw : Region.wanted o (yielded ops a.tmps) = true) (ho : o.op = .binOp .rem t x y t') (hx : a.eval x = .int k m) (hy : a.eval y = .int k n) (h0 : n ≠ 0) (hr : m.tmod n = r) : YieldsIf P ops S o (.int k r) a :=
  Jgx hw ho hx hy (Jcu ..) fun w => by subst hr; unfold binOp; simp [Op.intDiv, h0]
theorem Jfn {op : BinOp} {k' : IntKind} {r : Value} (hw : Region.wanted o (yielded ops a.tmps) = true) (ho : o.op = .binOp op t x y t') (hx : a.eval x = .int k m) (hy : a.eval y = .int k' n) (hr : binOp op t (.int k m) (.int k' n) = pure r) : YieldsIf P ops S o r a :=
  Jgx hw ho hx hy (Jcu ..) fun w => by rw [hr]; rfl
theorem Jj5 {b c r : Bool} (hw : Region.wanted o (yielded ops a.tmps) = true) (ho : o.op = .binOp .eql t x y t') (hx : a.eval x = .bool b) (hy : a.eval y = .bool c) (hu : P.underlying t = some .bool) (hr : (b == c) = r) : YieldsIf P ops S o (.bool r) a :=
  Jgx hw ho hx hy (Jmh ..) fun w => by
    unfold binOp Op.equal Op.maxDepth Op.equalIn
    simp [run_underlying hu, ← hr]
theorem Jyd {b c r : Bool} (hw : Region.wanted o (yielded ops a.tmps) = true) (ho : o.op = .binOp .neq t x y t') (hx : a.eval x = .bool b) (hy : a.eval y = .bool c) (hu : P.underlying t = some .bool) (hr : (!(b == c)) = r) : YieldsIf P ops S o (.bool r) a :=
  Jgx hw ho hx hy (Jmh ..) fun w => by
    unfold binOp Op.equal Op.maxDepth Op.equalIn
    simp [run_underlying hu, ← hr]
theorem Ja9 {e : TypeId} {p : Option Addr} {r : Bool} (hw : Region.wanted o (yielded ops a.tmps) = true) (ho : o.op = .binOp .eql t x y t') (hx : a.eval x = .pointer p) (hy : a.eval y = .pointer none) (hu : P.underlying t = some (.pointer e)) (hr : p.isNone = r) : YieldsIf P ops S o (.bool r) a :=
  Jgx hw ho hx hy (Jog ..) fun w => by
    unfold binOp Op.equal Op.maxDepth Op.equalIn
    cases p <;> simp [run_underlying hu, ← hr]
theorem Jd0 {e : TypeId} {p : Option Addr} {r : Bool} (hw : Region.wanted o (yielded ops a.tmps) = true) (ho : o.op = .binOp .neq t x y t') (hx : a.eval x = .pointer p) (hy : a.eval y = .pointer none) (hu : P.underlying t = some (.pointer e)) (hr : p.isSome = r) : YieldsIf P ops S o (.bool r) a :=
  Jgx hw ho hx hy (Jog ..) fun w => by
    unfold binOp Op.equal Op.maxDepth Op.equalIn
    cases p <;> simp [run_underlying hu, ← hr]
theorem Jcq {k' : IntKind} {r : Int} (hw : Region.wanted o (yielded ops a.tmps) = true) (ho : o.op = .convert t t' x) (hx : a.eval x = .int k m) (hu : P.underlying t = some (.int k)) (hu' : P.underlying t' = some (.int k')) (hr : k'.wrap m = r) : YieldsIf P ops S o (.int k' r) a :=
  Je4 hw fun w _ => by
    unfold execOp
    simp only [ho, hx, convert, Sem.run_bind, run_underlying hu, run_underlying hu', Result.andThen_ok, ← hr]
    rfl
theorem y_ext {vs : Array Value} {v : Value} {i : Nat} (hw : Region.wanted o (yielded ops a.tmps) = true) (ho : o.op = .extract x i) (hx : a.eval x = .tuple vs) (hi : vs[i]? = some v) : YieldsIf P ops S o v a :=
  Je4 hw fun w _ => by
    unfold execOp
    simp only [ho, hx, Instr.extract, hi, Sem.run_bind, Sem.run_pure, Result.andThen_ok]
theorem Jcv (b off n : Nat) : (⟨b, off, none⟩ : Addr).add n = ⟨b, off + n, none⟩ := by unfold Addr.add; split <;> simp_all
theorem y_fa {g off i r z : Nat} {fs : Array Field} {f : Field} (hw : Region.wanted o (yielded ops a.tmps) = true) (ho : o.op = .fieldAddr t x i) (hx : a.eval x = .pointer (some ⟨g, off, none⟩)) (hu : P.underlying t = some (.struct fs)) (hf : fs[i]? = some f)
    (hz : ∀ w, (sizeOf f.type).run P w = .ok (z + 1) w) (hr : off + f.offset = r) : YieldsIf P ops S o (.pointer (some ⟨g, r, none⟩)) a :=
  Je4 hw fun w _ => by
    unfold execOp
    simp only [ho, hx, Instr.fieldAt, Sem.run_bind, run_underlying hu, Result.andThen_ok, hf, Instr.sureAddr, Sem.run_pure, fieldPlace, hz]
    simp [Jcv, hr]
theorem Jbc {g off c k' : Nat} {l : Nat} {i : Int} {e : TypeId} {r : Nat} (hw : Region.wanted o (yielded ops a.tmps) = true) (ho : o.op = .indexAddr t x y) (hx : a.eval x = .slice (some ⟨g, off, none⟩) l c) (hy : a.eval y = .int k i) (hu : P.underlying t = some (.slice e))
    (hz : ∀ w, (sizeOf e).run P w = .ok k' w) (h : 0 ≤ i ∧ i < l) (hr : off + i.toNat * k' = r) : YieldsIf P ops S o (.pointer (some ⟨g, r, none⟩)) a :=
  Je4 hw fun w _ => by
    unfold execOp
    simp only [ho, hx, hy, Instr.indexAt, asIntOf, Sem.run_bind, run_underlying hu, Result.andThen_ok, Sem.run_pure]
    rw [if_pos h]
    simp only [Sem.run_bind, hz, Result.andThen_ok, Sem.run_pure, Jcv, hr]
theorem Jpz {g off k' : Nat} {l : Nat} {i : Int} {e : TypeId} {r : Nat} (hw : Region.wanted o (yielded ops a.tmps) = true) (ho : o.op = .indexAddr t x y) (hx : a.eval x = .pointer (some ⟨g, off, none⟩)) (hy : a.eval y = .int k i) (hu : P.underlying t = some (.array l e))
    (hz : ∀ w, (sizeOf e).run P w = .ok k' w) (h : 0 ≤ i ∧ i < l) (hr : off + i.toNat * k' = r) : YieldsIf P ops S o (.pointer (some ⟨g, r, none⟩)) a :=
  Je4 hw fun w _ => by
    unfold execOp
    simp only [ho, hx, hy, Instr.indexAt, asIntOf, Sem.run_bind, run_underlying hu, Result.andThen_ok, Sem.run_pure, Instr.sureAddr]
    rw [if_pos h]
    simp only [Sem.run_bind, hz, Result.andThen_ok, Sem.run_pure, Jcv, hr]
def Jnj (len cap : Nat) (lo hi : Option Value) (l h : Nat) : Prop :=
  (match hi with | none => h = len | some v => ∃ k i, v = .int k i ∧ i = (h : Int) ∧ h ≤ cap) ∧ (match lo with | none => l = 0 | some v => ∃ k i, v = .int k i ∧ i = (l : Int) ∧ l ≤ h)
theorem Jj6 {isS : Bool} {len cap l h : Nat} {lo hi : Option Value} (hb : Jnj len cap lo hi l h) (w : World) : (Instr.sliceBounds isS len cap lo hi none).run P w = .ok (l, h, cap) w := by
 obtain ⟨hh, hl⟩ := hb;unfold Instr.sliceBounds;cases hi with
 | none =>
   subst hh;cases lo with
   | none => subst hl; rfl
   | some v =>
     obtain ⟨k, i, rfl, rfl, h2⟩ := hl;simp [Instr.sliceBound, asIntOf, h2]
 | some u =>
   obtain ⟨k, i, rfl, rfl, h1⟩ := hh;cases lo with
   | none => subst hl; simp [Instr.sliceBound, asIntOf, h1]
   | some v =>
     obtain ⟨k', i', rfl, rfl, h2⟩ := hl;simp [Instr.sliceBound, asIntOf, h1, h2]
theorem Je5 {g off k' len l h r : Nat} {e : TypeId} {lo hi : Option Operand} {lv hv : Option Value} (hw : Region.wanted o (yielded ops a.tmps) = true) (ho : o.op = .slice t x lo hi none) (hx : a.eval x = .pointer (some ⟨g, off, none⟩)) (hlo : lo.map a.eval = lv) (hhi : hi.map a.eval = hv)
    (hu : P.underlying t = some (.array len e)) (hz : ∀ w, (sizeOf e).run P w = .ok k' w) (hb : Jnj len len lv hv l h) (hr : (if len = l then off else off + l * k') = r) {n' c' : Nat} (hn : h - l = n') (hc : len - l = c') : YieldsIf P ops S o (.slice (some ⟨g, r, none⟩) n' c') a :=
  Je4 hw fun w _ => by
    subst hlo
    subst hhi
    unfold execOp
    simp only [ho, hx, Instr.sliceAt, Sem.run_bind, run_underlying hu, Result.andThen_ok, Instr.sureAddr, Sem.run_pure, Option.map_none, Jj6 hb, hz, Jcv, hn, hc, ← hr]
    congr 4
    split <;> rfl
theorem Jjk {g off k' len cap l h r : Nat} {e : TypeId} {lo hi : Option Operand} {lv hv : Option Value} (hw : Region.wanted o (yielded ops a.tmps) = true) (ho : o.op = .slice t x lo hi none) (hx : a.eval x = .slice (some ⟨g, off, none⟩) len cap) (hlo : lo.map a.eval = lv) (hhi : hi.map a.eval = hv)
    (hu : P.underlying t = some (.slice e)) (hz : ∀ w, (sizeOf e).run P w = .ok k' w) (hb : Jnj len cap lv hv l h) (hr : (if cap = l then off else off + l * k') = r) {n' c' : Nat} (hn : h - l = n') (hc : cap - l = c') : YieldsIf P ops S o (.slice (some ⟨g, r, none⟩) n' c') a :=
  Je4 hw fun w _ => by
    subst hlo
    subst hhi
    unfold execOp
    simp only [ho, hx, Instr.sliceAt, Instr.slice, Sem.run_bind, run_underlying hu, Result.andThen_ok, Sem.run_pure, Option.map_none, Jj6 hb, hz, Option.map_some, Jcv, hn, hc, ← hr]
    congr 4
    split <;> rfl
theorem y_sln {ao : Option Addr} {k' len cap l h : Nat} {e : TypeId} {lo hi : Option Operand} {lv hv : Option Value} (hw : Region.wanted o (yielded ops a.tmps) = true) (ho : o.op = .slice t x lo hi none) (hx : a.eval x = .slice ao len cap) (hlo : lo.map a.eval = lv) (hhi : hi.map a.eval = hv)
    (hu : P.underlying t = some (.slice e)) (hz : ∀ w, (sizeOf e).run P w = .ok k' w) (hb : Jnj len cap lv hv l h) {n' c' : Nat} (hn : h - l = n') (hc : cap - l = c') : YieldsIf P ops S o (.slice (if cap = l then ao else ao.map (·.add (l * k'))) n' c') a :=
  Je4 hw fun w _ => by
    subst hlo
    subst hhi
    unfold execOp
    simp only [ho, hx, Instr.sliceAt, Instr.slice, Sem.run_bind, run_underlying hu, Result.andThen_ok, Sem.run_pure, Option.map_none, Jj6 hb, hz, hn, hc]
theorem Jbp {ao : Option Addr} {l c : Nat} {e ty : TypeId} (hw : Region.wanted o (yielded ops a.tmps) = true) (ho : o.op = .call { callee := .builtin .len, args := #[x], argTypes := #[ty] }) (hx : a.eval x = .slice ao l c) (hu : P.underlying ty = some (.slice e)) : YieldsIf P ops S o (.int .i64 (l : Int)) a :=
  Je4 hw fun w _ => by
    unfold execOp
    simp [ho, resolve, invoke, builtin, Builtin.len_, hx, run_underlying hu, Sem.run_bind, goInt]
theorem Jye {r : Int} {tys : Array TypeId} (hw : Region.wanted o (yielded ops a.tmps) = true) (ho : o.op = .call { callee := .builtin .min, args := #[x, y], argTypes := tys }) (hx : a.eval x = .int k m) (hy : a.eval y = .int k n) (hr : (if n < m then n else m) = r) : YieldsIf P ops S o (.int k r) a :=
  Je4 hw fun w _ => by
    unfold execOp
    simp [ho, resolve, invoke, builtin, Builtin.min_, Builtin.min2, hx, hy, hr]
theorem y_max {r : Int} {tys : Array TypeId} (hw : Region.wanted o (yielded ops a.tmps) = true) (ho : o.op = .call { callee := .builtin .max, args := #[x, y], argTypes := tys }) (hx : a.eval x = .int k m) (hy : a.eval y = .int k n) (hr : (if n > m then n else m) = r) : YieldsIf P ops S o (.int k r) a :=
  Je4 hw fun w _ => by
    unfold execOp
    simp [ho, resolve, invoke, builtin, Builtin.max_, Builtin.max2, hx, hy, hr]
theorem Jle {fn : Fn} {fi ca : List Operand} {fv cv : List Value} (hw : Region.wanted o (yielded ops a.tmps) = true) (ho : o.op = .makeFunc fn fi.toArray ca.toArray) (hf : fi.map a.eval = fv) (hc : ca.map a.eval = cv) : YieldsIf P ops S o (.func fn fv.toArray cv.toArray) a :=
  Je4 hw fun w _ => by
    subst hf
    subst hc
    unfold execOp
    simp only [ho, Instr.makeFunc, List.map_toArray]
    rfl
theorem Joh {p : Addr} {v : Value} (w : World) (hi : (isAgg t).run P w = .ok false w) (hc : w.cell? p = some v) : (loadVar t p).run P w = .ok v w := by
 simp [loadVar, hi, hc, go_sem]
theorem Jbd {g off : Nat} {v : Value} (hw : Region.wanted o (yielded ops a.tmps) = true) (ho : o.op = .load t x) (hx : a.eval x = .pointer (some ⟨g, off, none⟩)) (hi : ∀ w, (isAgg t).run P w = .ok false w) (hS : ∀ w, S w → w.cell? ⟨g, off, none⟩ = some v) : YieldsIf P ops S o v a :=
  Je4 hw fun w hw' => by
    unfold execOp
    simp only [ho, hx, Instr.loadAt, Instr.sureAddr, Sem.run_bind, Sem.run_pure, Result.andThen_ok, Joh w (hi w) (hS w hw')]
theorem Jaj {g off : Nat} {T : TypeId} {C : List Value} {v : Value} {w : World} (h : (blk g T C).holds w) (hv : C[off]? = some v) : w.cell? ⟨g, off, none⟩ = some v := by
 have h' : w.heap[g]? = some (.cells C.toArray T (0, 0)) := h;rw [cell_of_row w g off _ _ _ h', ← Array.getElem?_toList];exact hv
theorem Jip {g off : Nat} {T : TypeId} {C : List Value} {v : Value} (hw : Region.wanted o (yielded ops a.tmps) = true) (ho : o.op = .load t x) (hx : a.eval x = .pointer (some ⟨g, off, none⟩)) (hi : ∀ w, (isAgg t).run P w = .ok false w) (hS : ∀ w, S w → (blk g T C).holds w) (hv : C[off]? = some v) : YieldsIf P ops S o v a :=
  Jbd hw ho hx hi fun w h => Jaj (hS w h) hv
theorem Jiy {g off : Nat} {d : TypeDesc} {cs : List Value} (hw : Region.wanted o (yielded ops a.tmps) = true) (ho : o.op = .load t x) (hx : a.eval x = .pointer (some ⟨g, off, none⟩)) (hu : P.underlying t = some d) (hd : d.isRow = true) (hi : Box ((P.info? t).map (·.size) = some cs.length)) (hS : ∀ w, S w → w.rangeAt g off cs) : YieldsIf P ops S o (.agg cs.toArray) a :=
  yieldsIf_load_mid hw t x ho g off hx cs d hS hu hd hi.out
theorem Jdo {g off : Nat} {T : TypeId} {C : List Value} {d : TypeDesc} {cs : List Value} (hw : Region.wanted o (yielded ops a.tmps) = true) (ho : o.op = .load t x) (hx : a.eval x = .pointer (some ⟨g, off, none⟩)) (hu : P.underlying t = some d) (hd : d.isRow = true) (hi : Box ((P.info? t).map (·.size) = some cs.length)) (hS : ∀ w, S w → (blk g T C).holds w) (hv : (C.drop off).take cs.length = cs) : YieldsIf P ops S o (.agg cs.toArray) a :=
  Jiy hw ho hx hu hd hi fun w h => Jel (hS w h) hv
theorem Jaf {ps : List (Nat × Operand)} {pv : List (Nat × Value)} {cs : List Value} (hw : Region.wanted o (yielded ops a.tmps) = true) (ho : o.op = .build t ps.toArray) (hp : (ps.map fun p => (p.1, a.eval p.2)) = pv) (hc : P.built t pv = some cs.toArray) : YieldsIf P ops S o (.agg cs.toArray) a :=
  Jrl hw t ps ho pv hp _ hc
end
section
open Go Go.RowKit Go.ChangeMaps Go.MapKept Go.Maps
open Go.WideElems (Fit rd rg pl rd_val elemAt)
section
variable {H : Type} {P : Program} {k e t : TypeId} {R : Value → Option (DataW H × List MemPlace)} {w : World} {b n : Nat} {D : DataW H}
theorem Jnk (h : w.ownsMap P k R b n D) (ht : P.underlying t = some (.map k e)) (ty : TypeId) :
    ∃ w', (Builtin.clear_ #[t] ty #[.map (some b)]).run P w = .ok (.tuple #[]) w' ∧ w'.ownsMap P k R b 0 (.map []) ∧ w.grownBy w' (some b) := by
 obtain ⟨es, clock, hb, F, hs, rfl⟩ := h;refine ⟨setBlock w b (.map #[] clock), ?_, ⟨#[], clock, heap_setBlock_same hb _, ⟨by simp, stamped_empty clock, by simp⟩, Nat.le_refl _, rfl⟩, ⟨rfl, rfl, rfl, by simp [setBlock], fun i _ hi => heap_setBlock_other hb _ (fun e => hi (by rw [e]))⟩⟩;simp [Builtin.clear_, run_underlying ht, MapKept.run_getObj_map hb, MapKept.run_setObj_map _ hb, Result.andThen, setBlock]
end
abbrev Wr := Nat × List UInt8
def Jew (q : List Wr) (p : Nat) : Option Nat := (q.zipIdx.foldl (fun (a : Option Nat) x => if x.1.1 = p then some x.2 else a) none)
theorem Jib (p : Nat) : Jew [] p = none := rfl
theorem Jgz (q : List Wr) (x : Wr) (p : Nat) : Jew (q ++ [x]) p = if x.1 = p then some q.length else Jew q p := by
 unfold Jew;rw [List.zipIdx_append, List.foldl_append];simp
def curP (b : List UInt8) (q : List Wr) (p : Nat) : List UInt8 := q.foldl (fun a x => if x.1 = p then x.2 else a) b
theorem Jjl (b : List UInt8) (q : List Wr) (x : Wr) (p : Nat) : curP b (q ++ [x]) p = if x.1 = p then x.2 else curP b q p := by
 unfold curP; rw [List.foldl_append]; simp
theorem Je2 {α : Type} {M : List α → Prop} (h0 : M []) (h1 : ∀ l x, M l → M (l ++ [x])) : ∀ l, M l := by
 intro l;rw [← List.reverse_reverse l];induction l.reverse with
 | nil => exact h0;| cons x l ih => rw [List.reverse_cons]; exact h1 _ _ ih
theorem Joi (p : Nat) : ∀ (q : List Wr) (i : Nat), Jew q p = some i → i < q.length := by
 refine Je2 (fun i h => by simp [Jib] at h) fun q x ih i h => ?_;rw [Jgz] at h;rw [List.length_append];split at h
 ·cases h; simp
 ·have := ih i h; simp; omega
theorem Joj (b : List UInt8) (p : Nat) : ∀ (q : List Wr) (i : Nat), Jew q p = some i → ∃ x, q[i]? = some x ∧ x.1 = p ∧ curP b q p = x.2 := by
 refine Je2 (fun i h => by simp [Jib] at h) fun q x ih i h => ?_;rw [Jgz] at h;rw [Jjl];split at h
 ·rename_i hx;cases h
  exact ⟨x, by simp, hx, by rw [if_pos hx]⟩
 ·rename_i hx;obtain ⟨y, h1, h2, h3⟩ := ih i h;refine ⟨y, ?_, h2, by rw [if_neg hx]; exact h3⟩;have hl := Joi p q i h;rw [List.getElem?_append_left hl]; exact h1
theorem Jok (b : List UInt8) (p : Nat) : ∀ (q : List Wr), Jew q p = none → curP b q p = b := by
 refine Je2 (fun _ => rfl) fun q x ih h => ?_;rw [Jgz] at h;rw [Jjl];split at h
 ·cases h
 ·rename_i hx;rw [if_neg hx]; exact ih h
def Jiz (P : Program) (k e : TypeId) (w : World) (b : Nat) (q : List Wr) : Prop :=
  ∃ n D, w.ownsMap (H := Unit) P k (plainElem P e) b n D ∧ n ≤ q.length ∧ IsMap D ∧ ∀ p : Nat, Maps.has D (.int .i64 (p : Int)) = (Jew q p).isSome ∧ ∀ i, Jew q p = some i → D.atKey (.int .i64 (p : Int)) (.lit (.int .i64 0)) = .lit (.int .i64 (i : Int))
theorem Jiz.lt {P : Program} {k e : TypeId} {w : World} {b : Nat} {q : List Wr} (h : Jiz P k e w b q) : b < w.heap.size := by
 obtain ⟨n, D, h1, _⟩ := h; exact h1.lt
theorem Jiz.kept {P : Program} {k e : TypeId} {w w' : World} {b : Nat} {q : List Wr} (h : Jiz P k e w b q) (hs : w'.heap[b]? = w.heap[b]?) : Jiz P k e w' b q := by
 obtain ⟨n, D, ⟨es, clock, hb, F, h1, h2⟩, h3⟩ := h;exact ⟨n, D, ⟨es, clock, hs.trans hb, F, h1, h2⟩, h3⟩
theorem Jiz.made (P : Program) (k e : TypeId) (w : World) : Jiz P k e (w.alloc (.map #[] 0)) w.heap.size [] :=
  ⟨0, .map [], World.ownsMap_made w P k _, Nat.le_refl _, isMap_empty, fun p => ⟨rfl, fun i h => by simp [Jib] at h⟩⟩
theorem Jt1 (p : Nat) (h : p ≤ 9223372036854775807) : (Lit.int .i64 (p : Int)).wf = true := WalkArith.wf_i64 (by omega)
section
variable {P : Program} {k e t : TypeId} {Q : Exit → Act → World → Prop} {ops : Array Oper} {rest : List Oper} {o : Oper} {a : Act} {w : World} {b : Nat} {q : List Wr}
theorem Jv6 (hm : Jiz P k e w b q) (hk : P.underlying k = some (.int .i64)) (he : P.underlying e = some (.int .i64)) (ht : P.underlying t = some (.map k e)) (hz : ∀ W, (zeroValue e).run P W = .ok (.int .i64 0) W)
    (m x : Operand) (ho : o.op = Op.lookup t m x true) (hg : o.guard = none) (p : Nat) (hp : p ≤ 9223372036854775807) (hm' : a.eval m = .map (some b)) (hx : a.eval x = .int .i64 (p : Int))
    (hK : ∀ c : Int, (∀ i, Jew q p = some i → c = (i : Int)) → wpList P ops Q rest (a.put o.dst (.tuple #[.int .i64 c, .bool (Jew q p).isSome])) w) : wpList P ops Q (o :: rest) a w := by
 obtain ⟨n, D, hown, hn, hD, h⟩ := hm;refine wpList_lookup_own_ok_int w hg m x t ho k e .i64 (int_keyed hk) ht he (hz w) b n D hm' hown _ (.int .i64 (p : Int)) hx (keyOf_int_mk hk (Jt1 p hp)) fun c hc _ => ?_;rw [(h p).1];refine hK c fun i hi => ?_;have := (h p).2 i hi;rw [hc] at this;injection this with h1;injection h1
theorem Jr1 (hm : Jiz P k e w b q) (hk : P.underlying k = some (.int .i64)) (he : P.underlying e = some (.int .i64)) (ht : P.underlying t = some (.map k e))
    (m x v : Operand) (ho : o.op = Op.mapUpdate t m x v) (hg : o.guard = none) (p : Nat) (hp : p ≤ 9223372036854775807) (hm' : a.eval m = .map (some b)) (hx : a.eval x = .int .i64 (p : Int)) (hv : a.eval v = .int .i64 (q.length : Int)) (hq : q.length ≤ 1099511627776)
    (d : List UInt8) (hK : ∀ w', Jiz P k e w' b (q ++ [(p, d)]) → w.grownBy w' (some b) → wpList P ops Q rest (a.put o.dst undef) w') : wpList P ops Q (o :: rest) a w := by
 obtain ⟨n, D, hown, hn, hD, h⟩ := hm;refine wpList_mapUpdate_own w hg m x v t ho k e (int_keyed hk) ht _ b n D hm' hown (by unfold maxLen; omega) _ _ (.int .i64 (p : Int)) hx hv (keyOf_int_mk hk (Jt1 p hp)) (.lit (.int .i64 (q.length : Int))) [] (plainElem_int he (Jt1 _ (by omega))) fun w' h1 h2 => hK w' ⟨n + 1, _, h1, by rw [List.length_append]; simp; omega, hD.put _ _, fun p' => ?_⟩ h2;have hkl : WideAt.IsKeyLit (.int .i64 (p : Int)) := trivial;rw [Jgz];by_cases hpp : p = p'
 ·subst hpp;rw [has_put_same hD hkl, if_pos rfl];refine ⟨rfl, fun i hi => ?_⟩;cases hi
  rw [atKey_put_same hD hkl]
 ·have hne : (Lit.int .i64 (p' : Int)) ≠ .int .i64 (p : Int) := by
    intro e; injection e with _ e; omega
  rw [has_put_other hne, atKey_put_other hne, if_neg hpp];exact h p'
theorem Jt2 (hm : Jiz P k e w b q) (ht : P.underlying t = some (.map k e)) (x : Operand) (ho : o.op = Op.call { callee := Callee.builtin Builtin.clear, args := #[x], argTypes := #[t] }) (hg : o.guard = none) (hx : a.eval x = .map (some b))
    (hK : ∀ w', Jiz P k e w' b [] → w.grownBy w' (some b) → wpList P ops Q rest (a.put o.dst (.tuple #[])) w') : wpList P ops Q (o :: rest) a w := by
 obtain ⟨n, D, hown, hn, hD, h⟩ := hm;refine wpList_plain hg fun K' hK' => ?_;obtain ⟨w', hrun, r1, r2⟩ := Jnk hown ht o.type;unfold Oper.wp;simp [execOp, ho, resolve, invoke, builtin, hx, hrun, Result.andThen];exact hK' _ _ (hK w' ⟨0, _, r1, Nat.le_refl _, isMap_empty, fun p => ⟨rfl, fun i h => by simp [Jib] at h⟩⟩ r2)
end
end
section
variable {P : Program} {ops : Array Oper} {Q : Exit → Act → World → Prop} {rest : List Oper} {o : Oper} {a : Act} {w w0 : World} {F : List Nat} {L : List Asn} {K : Act → World → Prop} {x y : Operand} {t : TypeId}
theorem Jak (l : List Value) (h : l.all (·.oneCell') = true) : l.toArray.all (·.oneCell') = true := by simpa using h
theorem res0 {fn : Func} {tmps : Array Value} (h : fn.results = #[]) : (results fn tmps).run P w = .ok (.tuple #[]) w := results_none h _ _ _
theorem res1 {fn : Func} {tmps : Array Value} {p : Tmp} {v : Value} (h : fn.results = #[.tmp p]) (hv : tmps.getD p undef = v) : (results fn tmps).run P w = .ok v w := by
 rw [results_tmp h, hv]
theorem res2 {fn : Func} {tmps : Array Value} {p q : Tmp} {v u : Value} (h : fn.results = #[.tmp p, .tmp q]) (hv : tmps.getD p undef = v) (hu : tmps.getD q undef = u) : (results fn tmps).run P w = .ok (.tuple #[v, u]) w := by
 rw [results_tmp2 h, hv, hu]
theorem res3 {fn : Func} {tmps : Array Value} {p q r : Tmp} {v u z : Value} (h : fn.results = #[.tmp p, .tmp q, .tmp r]) (hv : tmps.getD p undef = v) (hu : tmps.getD q undef = u) (hz : tmps.getD r undef = z) : (results fn tmps).run P w = .ok (.tuple #[v, u, z]) w := by
 subst hv;subst hu;subst hz;simp [results, h]
theorem Jbu {fn : Func} {tmps : Array Value} {p : Tmp} {ty : TypeId} {g : Nat} {T : TypeId} {cs : List Value} (d : TypeDesc) (hd : d.isRow = true) (h : fn.results = #[.cell p ty]) (hp : tmps.getD p undef = .pointer (some ⟨g, 0, none⟩)) (hg : (blk g T cs).holds w)
    (hu : P.underlying ty = some d) (hi : Box ((P.info? ty).map (·.size) = some cs.length)) : (results fn tmps).run P w = .ok (.agg cs.toArray) w := by
 have hr : w.rangeAt g 0 cs := Jel hg (by simp);have hl := run_loadVar_mid (P := P) w g 0 ty cs d hr hu hd hi.out;rw [Array.getD_eq_getD_getElem?] at hp;simp [results, h, hp, asAddr, hl]
theorem Jbb {fn : Func} {tmps : Array Value} {p q : Tmp} {ty : TypeId} {g : Nat} {T : TypeId} {cs : List Value} (d : TypeDesc) (hd : d.isRow = true) {v : Value} (h : fn.results = #[.cell p ty, .tmp q]) (hp : tmps.getD p undef = .pointer (some ⟨g, 0, none⟩)) (hg : (blk g T cs).holds w)
    (hu : P.underlying ty = some d) (hi : Box ((P.info? ty).map (·.size) = some cs.length)) (hv : tmps.getD q undef = v) : (results fn tmps).run P w = .ok (.tuple #[.agg cs.toArray, v]) w := by
 have hr : w.rangeAt g 0 cs := Jel hg (by simp);have hl := run_loadVar_mid (P := P) w g 0 ty cs d hr hu hd hi.out;subst hv;rw [results_cell_tmp h, hp];simp [asAddr, hl]
theorem pl {v : Value} (M : Mem w0 F w L) (hy : YieldsIf P ops (fun W => Mem w0 F W L) o v a) (h : wpList P ops Q rest (a.put o.dst v) w) : wpList P ops Q (o :: rest) a w := by
 rcases hy with ⟨hw, he⟩ | ⟨hw, rfl⟩
 ·exact wpList_step fun K hK => by
    rw [if_pos hw];unfold Oper.wp;rw [he w M];exact hK _ _ h
 ·exact wpList_step fun K hK => by
    rw [if_neg (by rw [hw]; decide)];exact hK _ _ h
theorem ps {Q' : Act → Prop} {v : Value} (M : Mem w0 F w L) (hy : YieldsIf P ops (fun W => Mem w0 F W L) o v a) (h : wpStill P ops w Q' rest (a.put o.dst v)) : wpStill P ops w Q' (o :: rest) a := by
 refine wpStill_step fun K hK => ?_;rcases hy with ⟨hw, he⟩ | ⟨hw, rfl⟩
 ·rw [if_pos hw];unfold Oper.still;rw [he w M, Oper.stillUpon_value];exact hK _ h
 ·rw [if_neg (by rw [hw]; decide)];exact hK _ h
theorem Jxy {Q' : Act → Prop} (hw : Region.wanted o (yielded ops a.tmps) = false) (h : wpStill P ops w Q' rest (a.put o.dst undef)) : wpStill P ops w Q' (o :: rest) a :=
  wpStill_step fun K hK => by rw [if_neg (by rw [hw]; decide)]; exact hK _ h
theorem pe (hw : Region.wanted o (yielded ops a.tmps) = true) (h : ∀ K : Act → World → Prop, Box (∀ a w, wpList P ops Q rest a w → K a w) → Oper.wp P o a w K Q) : wpList P ops Q (o :: rest) a w :=
  wpList_step fun K hK => by rw [if_pos hw]; exact h K ⟨hK⟩
theorem Jhh {v : Value} (M : Mem w0 F w L) (hy : YieldsIf P ops (fun W => Mem w0 F W L) o v a) (hw : Region.wanted o (yielded ops a.tmps) = true) (h : K (a.put o.dst v) w) : Oper.wp P o a w K Q := by
 rcases hy with ⟨_, he⟩ | ⟨hw', _⟩
 ·unfold Oper.wp;rw [he w M];exact h
 ·rw [hw] at hw'; cases hw'
theorem Jpw (hw : Region.wanted o (yielded ops a.tmps) = false) (h : wpList P ops Q rest (a.put o.dst undef) w) : wpList P ops Q (o :: rest) a w :=
  wpList_step fun K hK => by rw [if_neg (by rw [hw]; decide)]; exact hK _ _ h
theorem Jlb {n : Nat} (hs : ∀ w, (sizeOf t).run P w = .ok n w) : (P.info? t).map (·.size) = some n := by
 have h2 := hs default;unfold sizeOf typeInfo program at h2;simp only [Sem.run_bind] at h2;cases hq : P.info? t with
 | none => simp [hq, stuck, Sem.run, Result.andThen] at h2
 | some j =>
   simp [hq, Sem.run, Result.andThen] at h2;simp [h2]
theorem Jc9 (M : Mem w0 F w L) (i : Nat) {g off : Nat} {T : TypeId} {C : List Value} {v : Value} (ho : o.op = .store t x y) (hgd : o.guard = none) (hx : a.eval x = .pointer (some ⟨g, off, none⟩)) (hy : a.eval y = v) (hv : v.cells = #[v]) (h1 : v.oneCell' = true)
    (hs : ∀ w, (sizeOf t).run P w = .ok 1 w) (hi : L[i]? = some (blk g T C)) (hlt : off < C.length)
    (h : ∀ w', Mem w0 F w' (L.set i (blk g T (C.set off v))) → K (a.put o.dst undef) w') : Oper.wp P o a w K Q := by
 have hs' := Jlb hs;refine Jd6 hgd (Jgo t x y ho hgd g off hx v hy hv h1 hs' C T (M.get i hi) hlt fun w' hb hg => ⟨rfl, h w' ?_⟩);exact M.setBlk i _ hi hg hb.out
theorem Jh8 (M : Mem w0 F w L) (i : Nat) {g off : Nat} {T : TypeId} {C cs : List Value} (ho : o.op = .store t x y) (hgd : o.guard = none) (hx : a.eval x = .pointer (some ⟨g, off, none⟩)) (hy : a.eval y = .agg cs.toArray)
    (hs : Box ((P.info? t).map (·.size) = some cs.length)) (h1 : cs.toArray.all (·.oneCell') = true) (hi : L[i]? = some (blk g T C)) (hlt : off + cs.length ≤ C.length)
    (h : ∀ w', Mem w0 F w' (L.set i (blk g T (splice C off cs))) → K (a.put o.dst undef) w') : Oper.wp P o a w K Q := by
 refine Jd6 hgd (Jm3 t x y ho hgd g off C cs T hx hy (M.get i hi) hlt hs.out h1 fun w' hb hg => ⟨rfl, h w' ?_⟩);exact M.setBlk i _ hi hg hb.out
theorem Jbj (M : Mem w0 F w L) (i : Nat) {g : Nat} {T : TypeId} {C cs : List Value} (ho : o.op = .store t x y) (hgd : o.guard = none) (hx : a.eval x = .pointer (some ⟨g, 0, none⟩)) (hy : a.eval y = .agg cs.toArray)
    (hs : Box ((P.info? t).map (·.size) = some cs.length)) (h1 : cs.toArray.all (·.oneCell') = true) (hi : L[i]? = some (blk g T C)) (hlt : cs.length = C.length)
    (h : ∀ w', Mem w0 F w' (L.set i (blk g T cs)) → K (a.put o.dst undef) w') : Oper.wp P o a w K Q := by
 refine Jh8 M i ho hgd hx hy hs h1 hi (by omega) fun w' M' => h w' ?_;rw [Jqs C cs hlt] at M';exact M'
theorem Jcw (M : Mem w0 F w L) (cs : List Value) (ho : o.op = .alloc t) (hz : ∀ w, (zeroValue t).run P w = .ok (.agg cs.toArray) w)
    (h : ∀ g w', Mem w0 F w' (blk g t cs :: L) → K (a.put o.dst (.pointer (some ⟨g, 0, none⟩))) w') : Oper.wp P o a w K Q := by
 unfold Oper.wp execOp;simp only [ho, Instr.alloc, Sem.run_bind, hz, Result.andThen_ok, newVar, newRow, newObj];exact h _ _ (M.alloc cs t)
theorem Jzb (M : Mem w0 F w L) (cs : List Value) (ho : o.op = .box t x) (hx : a.eval x = .agg cs.toArray)
    (h : ∀ g w', Mem w0 F w' (blk g t cs :: L) → K (a.put o.dst (.pointer (some ⟨g, 0, none⟩))) w') : Oper.wp P o a w K Q := by
 unfold Oper.wp execOp;simp only [ho, hx, Instr.box, Sem.run_bind, newVar, newRow, newObj];exact h _ _ (M.alloc cs t)
theorem Jzc (M : Mem w0 F w L) (v : Value) (hv : v.cells = #[v]) (ho : o.op = .box t x) (hx : a.eval x = v)
    (h : ∀ g w', Mem w0 F w' (blk g t [v] :: L) → K (a.put o.dst (.pointer (some ⟨g, 0, none⟩))) w') : Oper.wp P o a w K Q := by
 unfold Oper.wp execOp;simp only [ho, hx, Instr.box, Sem.run_bind, newVar, newRow, newObj, hv];exact h _ _ (M.alloc [v] t)
theorem Jap (f : FuncId) (args : List Value) {as : List Operand} {ts : Array TypeId} (ho : o.op = .call { callee := .value (.func f), args := as.toArray, argTypes := ts }) (ha : as.map a.eval = args) (hf : ∀ ar w, (callFunc f ar).run P w = .ok (.enter f ar) w)
    {R : Ending → World → Prop} (hc : Calls P f args.toArray w R) (h : ∀ e w', R e w' → ∃ v, e = .returned v ∧ K (a.put o.dst v) w') : Oper.wp P o a w K Q := by
 subst ha;unfold Oper.wp
 have hx : (execOp a.eval o).run P w = .ok (.enter f (as.map a.eval).toArray) w := by
   unfold execOp;simp only [ho, resolve, Act.eval, Deferred.ofValue, Sem.run_bind, Sem.run_pure, Result.andThen_ok, invoke, Array.append_empty, Array.empty_append, List.map_toArray];exact hf _ w
 rw [hx];refine Calls.mono hc fun e w' hr => ?_;obtain ⟨v, rfl, hk⟩ := h e w' hr;exact hk
end
def Jgc (P : Program) (t e : TypeId) (k b : Nat) : Prop := ∃ (i : TypeInfo) (z : Value), P.underlying t = some (.slice e) ∧ P.info? e = some i ∧ i.zero = some z ∧ i.size = k ∧ i.bytes = b ∧ z.cells.size = k
def Jtp (P : Program) (t e k b : Nat) : Bool :=
  match P.underlying t, P.info? e with
  | some (.slice e'), some i => decide (e' = e) && (match i.zero with | some z => decide (i.size = k) && decide (i.bytes = b) && decide (z.cells.size = k) | none => false)
  | _, _ => false
theorem Jd8 {P : Program} {t e k b : Nat} (h : Jtp P t e k b = true) : Jgc P t e k b := by
 unfold Jtp at h;split at h
 ·rename_i e' i h1 h2;rw [Bool.and_eq_true, decide_eq_true_iff] at h;obtain ⟨rfl, h⟩ := h;split at h
  ·rename_i z hz;simp only [Bool.and_eq_true, decide_eq_true_iff] at h;exact ⟨i, z, h1, h2, hz, h.1.1, h.1.2, h.2⟩
  ·cases h
 ·cases h
def Jjf (P : Program) (kt et : TypeId) (b : Nat) (q : List Wr) : Asn where
  foot := [b]
  holds w := Jiz P kt et w b q
  lt w h c hc := by
    obtain rfl : c = b := by simpa using hc
    exact h.lt
  keep w w' h hk := h.kept (hk b (by simp))
theorem Jn8 (v : Value) : (obs v).Nodup := by
 unfold obs;cases v.ownBlock <;> simp
theorem Jct {e : TypeId} {k : Nat} {v : Value} {n : Nat} {xs : List Value} {w : World} (h : (lst e k v n xs).holds w) : (v = .slice none 0 0 ∧ n = 0 ∧ xs = []) ∨ ∃ g cap, v = .slice (some ⟨g, 0, none⟩) n cap ∧ n ≤ cap ∧ cap ≤ maxLen := by
 obtain ⟨hl, ⟨rfl, rfl⟩ | ⟨g, cap, cur, rfl, hb, hg, hc, hm, hs, ht⟩⟩ := h
 ·exact .inl ⟨rfl, rfl, List.eq_nil_of_length_eq_zero (by simpa using hl)⟩
 ·exact .inr ⟨g, cap, rfl, hc, hm⟩
theorem Jcj {e : TypeId} {k : Nat} {v : Value} {n : Nat} {xs : List Value} {w : World} (h : (lst e k v n xs).holds w) : ∃ qa qc, v = .slice qa n qc := by
 rcases Jct h with ⟨rfl, rfl, _⟩ | ⟨g, c, rfl, _⟩
 ·exact ⟨_, _, rfl⟩
 ·exact ⟨_, _, rfl⟩
theorem Jxz {e : TypeId} {k : Nat} {v : Value} {n : Nat} {xs : List Value} {w : World} (h : (lst e k v n xs).holds w) : xs.length = n * k := h.1
theorem Jgd {e : TypeId} {k g n cap : Nat} {xs ys : List Value} {w : World} (h : (lst e k (.slice (some ⟨g, 0, none⟩) n cap) n xs).holds w) (off : Nat) (hy : (xs.drop off).take ys.length = ys) : w.rangeAt g off ys := fun j u hj => by
  have hc := World.ownsRow.cells (g := g) h rfl (off + j) u (by
    rw [← hy, List.getElem?_take] at hj
    split at hj
    · rw [List.getElem?_drop] at hj; exact hj
    · cases hj)
  rw [Jcv, Nat.zero_add] at hc
  exact hc
theorem Jhi {e : TypeId} {g n cap : Nat} {l : List UInt8} {w : World} (h : (lst e 1 (.slice (some ⟨g, 0, none⟩) n cap) n (bvs l)).holds w) : Row w (some ⟨g, 0, none⟩) n l :=
  ⟨by have := Jxz h; rw [Jam] at this; omega, fun i hi => ⟨g, 0, rfl, by
    have := Jgd h 0 (ys := bvs l) (by rw [List.drop_zero, List.take_of_length_le (Nat.le_refl _)]) i (bv l[i]) (by rw [Jbw, List.getElem?_eq_getElem hi]; rfl)
    exact this⟩⟩
theorem Jgu {g : Nat} {T : TypeId} {l : List UInt8} {w : World} (h : (blk g T (bvs l)).holds w) : Row w (some ⟨g, 0, none⟩) l.length l := Row.of_row h
theorem Row.self {w : World} {ao : Option Addr} {n : Nat} {l : List UInt8} (h : Row w ao n l) : Row w ao l.length l := by rw [h.1]; exact h
theorem Jrx (v : List Value) : ∀ (pre post : List Value) (off : Nat), post.length = v.length → off = pre.length → (v.zipIdx off).foldl (fun (cs : Array Value) (c, j) => cs.setIfInBounds (0 + j) c) (pre ++ post).toArray = (pre ++ v).toArray := by
 induction v with
 | nil => intro pre post off h _; have : post = [] := List.eq_nil_of_length_eq_zero (by simpa using h); simp [this]
 | cons c v ih =>
   intro pre post off h ho;match post, h with
   | p :: post, h =>
     subst ho;rw [List.zipIdx_cons, List.foldl_cons]
     have e : (pre ++ p :: post).toArray.setIfInBounds (0 + pre.length) c = ((pre ++ [c]) ++ post).toArray := by
       simp
     show List.foldl _ ((pre ++ p :: post).toArray.setIfInBounds (0 + pre.length) c) _ = _;rw [e, ih (pre ++ [c]) post (pre.length + 1) (by simpa using h) (by simp)];simp
theorem Jvw (place : Nat → Option (Nat × Nat)) (z v : List Value) (hp : place 0 = some (0, z.length)) (hv : v.length = z.length) : Instr.fill place z.toArray [(0, .agg v.toArray)] = some v.toArray := by
 unfold Instr.fill;simp only [hp];rw [if_neg (by simp [Value.cells, hv])];unfold Instr.fill;congr 1;have h := Jrx v [] z 0 hv.symm rfl;simp only [List.nil_append] at h;refine Eq.trans ?_ h;show (Array.zipIdx v.toArray).foldl _ _ = _;rw [← Array.foldl_toList];simp
section
variable {P : Program} {ops : Array Oper} {Q : Exit → Act → World → Prop} {rest : List Oper} {o : Oper} {a : Act} {w w0 : World} {F : List Nat} {L : List Asn} {K : Act → World → Prop} {x y : Operand} {t e : TypeId} {k b : Nat}
theorem Ja5 (M : Mem w0 F w L) (i : Nat) (hT : Jgc P t e k b) (hk : 0 < k) {v : Value} {n : Nat} {xs news : List Value} {ao : Option Addr} {m c : Nat} (hi : L[i]? = some (lst e k v n xs))
    (ho : o.op = .call { callee := .builtin .append, args := #[x, y], argTypes := #[t, t] }) (hs : a.eval x = v) (hx : a.eval y = .slice ao m c) (hl : news.length = m * k) (hnone : ao = none → m = 0 ∧ c = 0)
    (hnews : ∀ ad, ao = some ad → ∀ j u, news[j]? = some u → w.cell? (ad.add j) = some u) (h1 : ∀ u ∈ news, u.oneCell' = true) (hb : n + m ≤ maxLen ∧ (n + m) * b ≤ 140737488355328)
    (h : ∀ v' w', Mem w0 F w' (L.set i (lst e k v' (n + m) (xs ++ news))) → K (a.put o.dst v') w') : Oper.wp P o a w K Q := by
 obtain ⟨ti, z, ht, hti, hz, hsz, hby, hzs⟩ := hT;have hown := M.get i hi;cases ao with
 | none =>
   obtain ⟨rfl, rfl⟩ := hnone rfl;obtain rfl : news = [] := List.eq_nil_of_length_eq_zero (by simpa using hl);have hrun := run_append_owned_none (P := P) (w := w) 0 t o.type e ti k ht hti v n xs hown;unfold Oper.wp;simp [execOp, ho, resolve, invoke, builtin, hs, hx, hrun, Result.andThen];refine h v w ?_
   have hset : L.set i (lst e k v (n + 0) (xs ++ [])) = L := by
     rw [List.append_nil, Nat.add_zero];obtain ⟨hlt, he⟩ := List.getElem?_eq_some_iff.1 hi;rw [← he, List.set_getElem_self]
   rw [hset];exact M
 | some ad =>
   obtain ⟨v', w', hrun, r1, r2, _, r4⟩ := run_append_own_at (P := P) w 0 t o.type e ti z k b ht hti hz hsz hby hzs hk v n xs hown ad m c news hl (hnews ad rfl) h1 hb.1 hb.2 (Nat.zero_le _);unfold Oper.wp;simp [execOp, ho, resolve, invoke, builtin, hs, hx, hrun, Result.andThen];refine h v' w' (M.upd i hi (Mem.one r2 (fun g hg => Jhm.2 hg) r1 (Jn8 _) fun c hc => ?_));rcases r4 with r4 | r4
   ·left;have hc : c ∈ obs v' := hc;show c ∈ obs v;rw [Jhm] at hc ⊢;rw [← hc]; exact r4.symm
   ·right;have hc : c ∈ obs v' := hc;rw [Jhm, r4] at hc;cases hc
    exact Nat.le_refl _
theorem Mem.nilst (h : Mem w0 F w L) (e k : Nat) : Mem w0 F w (lst e k (.slice none 0 0) 0 [] :: L) :=
  h.step (R := [lst e k (.slice none 0 0) 0 []]) ⟨Grew.refl _ _, fun A hA => by
    obtain rfl : A = _ := by simpa using hA
    exact World.ownsRow_nil _ _ _ _, by simp [Jag, lst, obs, Value.ownBlock], by simp [Jag, lst, obs, Value.ownBlock]⟩
theorem Ja8 (M : Mem w0 F w L) (cs : List Value) {len : Nat} {ps : List (Nat × Operand)} {pv : List (Nat × Value)} {z : Value} (ho : o.op = .buildSlice t len ps.toArray) (hp : (ps.map fun p => (p.1, a.eval p.2)) = pv) (hu : P.underlying t = some (.slice e))
    (hz : ∀ w, (sizeOf e).run P w = .ok k w) (hzz : ∀ w, (zeroValue e).run P w = .ok z w) (hn : 0 < len * k ∧ len * k ≤ 16777216)
    (hf : Instr.fill (fun i => some (i * k, k)) ((Array.range (len * k)).map (z.cells[· % z.cells.size]!)) pv = some cs.toArray)
    (h : ∀ g w', Mem w0 F w' (blk g e cs :: L) → K (a.put o.dst (.slice (some ⟨g, 0, none⟩) len len)) w') : Oper.wp P o a w K Q := by
 have h1 : ¬ (len * k > 2 ^ 24) := by have := hn.2; omega
 have h2 : ¬ (len * k = 0) := by have := hn.1; omega
 have hrun : (Instr.buildSlice t len pv.toArray).run P w = .ok (.slice (some ⟨w.heap.size, 0, none⟩) len len) (w.alloc (.cells cs.toArray e)) := by
   unfold Instr.buildSlice;simp only [Sem.run_bind, run_underlying hu, Result.andThen_ok, hz, if_neg h1, if_neg h2, hzz, Sem.run_pure, hf, newRow, newObj];rfl
 unfold Oper.wp
 have hx : (execOp a.eval o).run P w = .ok (.value (.slice (some ⟨w.heap.size, 0, none⟩) len len)) (w.alloc (.cells cs.toArray e)) := by
   unfold execOp;simp only [ho, Sem.run_bind];rw [show (ps.toArray.map fun (i, x) => (i, a.eval x)) = pv.toArray by rw [← hp]; simp, hrun];rfl
 rw [hx];exact h _ _ (M.alloc cs e)
theorem Jq3 (M : Mem w0 F w L) (hT : Jgc P t e k b) (cs : List Value) {kl kc : IntKind} {l c : Int} {n m : Nat} (ho : o.op = .makeSlice t x y) (hx : a.eval x = .int kl l) (hy : a.eval y = .int kc c) (hl : l = (n : Int)) (hc : c = (m : Int)) (hnm : n ≤ m) (hb : b * m ≤ 281474976710656) (h63 : m ≤ 9223372036854775807)
    (hcs : ∀ z : Value, (P.info? e).bind (·.zero) = some z → madeCells z.cells (m * k) = cs.toArray)
    (h : ∀ g w', Mem w0 F w' (blk g e cs :: L) → K (a.put o.dst (.slice (some ⟨g, 0, none⟩) n m)) w') : Oper.wp P o a w K Q := by
 obtain ⟨ti, z, ht, hti, hz, hsz, hby, hzs⟩ := hT;subst hl;subst hc;have hrun := run_make (P := P) w t e ti z ht hti hz kl kc n m (by omega) (by omega) (by subst hby; have := hb; rw [← Int.natCast_mul]; omega) (by omega);simp only [Int.toNat_natCast, hsz, hcs z (by rw [hti]; exact hz)] at hrun;unfold Oper.wp;simp only [execOp, ho, hx, hy, hrun, Sem.run_bind, Result.andThen_ok];exact h _ _ (M.alloc cs e)
theorem Jtq (M : Mem w0 F w L) (hT : Jgc P t e k b) (xs : List Value) {kl kc : IntKind} {l c : Int} {n m : Nat} (ho : o.op = .makeSlice t x y) (hx : a.eval x = .int kl l) (hy : a.eval y = .int kc c) (hl : l = (n : Int)) (hc : c = (m : Int)) (hnm : n ≤ m) (hb : b * m ≤ 281474976710656) (h63 : m ≤ maxLen)
    (hcs : ∀ z : Value, (P.info? e).bind (·.zero) = some z → (madeCells z.cells (m * k)).toList.take (n * k) = xs)
    (h : ∀ g w', Mem w0 F w' (lst e k (.slice (some ⟨g, 0, none⟩) n m) n xs :: L) → K (a.put o.dst (.slice (some ⟨g, 0, none⟩) n m)) w') : Oper.wp P o a w K Q := by
 obtain ⟨ti, z, ht, hti, hz, hsz, hby, hzs⟩ := hT;subst hl;subst hc;have hm : m ≤ 9223372036854775807 := by unfold maxLen at h63; omega
 have hrun := run_make (P := P) w t e ti z ht hti hz kl kc n m (by omega) (by omega) (by subst hby; have := hb; rw [← Int.natCast_mul]; omega) (by omega);simp only [Int.toNat_natCast, hsz] at hrun;have hxs := hcs z (by rw [hti]; exact hz);unfold Oper.wp;simp only [execOp, ho, hx, hy, hrun, Sem.run_bind, Result.andThen_ok];refine h _ _ (M.step (R := [lst e k (.slice (some ⟨w.heap.size, 0, none⟩) n m) n xs]) ⟨Grew.low (Below.refl_alloc w _) _, fun A hA => ?_, by simp [Jag, lst, obs, Value.ownBlock], by simp [Jag, lst, obs, Value.ownBlock]⟩);obtain rfl : A = _ := by simpa using hA
 refine ⟨?_, .inr ⟨w.heap.size, m, _, rfl, Nat.zero_le _, heap_alloc_new w _, hnm, h63, size_madeCells _ _, hxs⟩⟩;rw [← hxs, List.length_take, Array.length_toList, size_madeCells];have := Nat.mul_le_mul_right k hnm;omega
theorem Jn9 (M : Mem w0 F w L) (i : Nat) {g off dLen dCap sLen sCap : Nat} {T : TypeId} {C : List Value} {sp : Option Addr} {sT : TypeId} (ho : o.op = .call { callee := .builtin .copy, args := #[x, y], argTypes := #[t, sT] }) (hgd : o.guard = none) (hu : P.underlying t = some (.slice e)) (hz : ∀ w, (sizeOf e).run P w = .ok 1 w)
    (hx : a.eval x = .slice (some ⟨g, off, none⟩) dLen dCap) (hy : a.eval y = .slice sp sLen sCap) (hi : L[i]? = some (blk g T C)) {l : List UInt8} (hn : l.length = Nat.min sLen dLen) (hrow : Row w sp l.length l) (hfit : off + l.length ≤ C.length)
    (h : ∀ w', Mem w0 F w' (L.set i (blk g T (splice C off (bvs l)))) → K (a.put o.dst (.int .i64 (l.length : Int))) w') : Oper.wp P o a w K Q := by
 refine Jd6 hgd (Jj0 (e := e) hgd x y t sT ho hu (Jlb hz) (some ⟨g, off, none⟩) sp dLen dCap sLen sCap hx hy g off C T (M.get i hi) l hn (fun _ => rfl) hrow hfit fun w' hb hg => ⟨rfl, h w' ?_⟩);exact M.setBlk i _ hi hg hb.out
theorem Jvx {kt et : TypeId} {q : List Wr} {g : Nat} (M : Mem w0 F w L) (i : Nat) (hi : L[i]? = some (Jjf P kt et g q)) (hk : P.underlying kt = some (.int .i64)) (he : P.underlying et = some (.int .i64)) (ht : P.underlying t = some (.map kt et))
    {m x v : Operand} {p : Nat} {pi qi : Int} (ho : o.op = Op.mapUpdate t m x v) (hg : o.guard = none) (hm' : a.eval m = .map (some g)) (hx : a.eval x = .int .i64 pi) (hv : a.eval v = .int .i64 qi) (hpi : pi = (p : Int)) (hqi : qi = (q.length : Int)) (hp : p ≤ 9223372036854775807) (hq : q.length ≤ 1099511627776) (d : List UInt8)
    (h : ∀ w', Mem w0 F w' (L.set i (Jjf P kt et g (q ++ [(p, d)]))) → K (a.put o.dst undef) w') : Oper.wp P o a w K Q := by
 subst hpi;subst hqi;refine Jd6 hg (Jr1 (M.get i hi) hk he ht m x v ho hg p hp hm' hx hv hq d fun w' h1 h2 => ⟨rfl, h w' ?_⟩);exact M.upd i hi (Mem.one h2 (fun c hc => by cases hc; simp [Jjf]) h1 (by simp [Jjf]) fun c hc => .inl hc)
theorem Jx0 {kt et : TypeId} {q : List Wr} {g : Nat} (M : Mem w0 F w L) (i : Nat) (hi : L[i]? = some (Jjf P kt et g q)) (ht : P.underlying t = some (.map kt et)) (ho : o.op = Op.call { callee := Callee.builtin Builtin.clear, args := #[x], argTypes := #[t] }) (hg : o.guard = none) (hx : a.eval x = .map (some g))
    (h : ∀ w', Mem w0 F w' (L.set i (Jjf P kt et g [])) → K (a.put o.dst (.tuple #[])) w') : Oper.wp P o a w K Q := by
 refine Jd6 hg (Jt2 (M.get i hi) ht x ho hg hx fun w' h1 h2 => ⟨rfl, h w' ?_⟩);exact M.upd i hi (Mem.one h2 (fun c hc => by cases hc; simp [Jjf]) h1 (by simp [Jjf]) fun c hc => .inl hc)
theorem Jxg {kt et : TypeId} {q : List Wr} {g : Nat} (M : Mem w0 F w L) (i : Nat) (hi : L[i]? = some (Jjf P kt et g q)) (hk : P.underlying kt = some (.int .i64)) (he : P.underlying et = some (.int .i64)) (ht : P.underlying t = some (.map kt et)) (hz : ∀ W, (zeroValue et).run P W = .ok (.int .i64 0) W)
    {m x : Operand} {p : Nat} {pi : Int} (ho : o.op = Op.lookup t m x true) (hg : o.guard = none) (hm' : a.eval m = .map (some g)) (hx : a.eval x = .int .i64 pi) (hpi : pi = (p : Int)) (hp : p ≤ 9223372036854775807)
    (h : ∀ c : Int, (∀ i, Jew q p = some i → c = (i : Int)) → K (a.put o.dst (.tuple #[.int .i64 c, .bool (Jew q p).isSome])) w) : Oper.wp P o a w K Q := by
 subst hpi;exact Jd6 hg (Jv6 (M.get i hi) hk he ht hz m x ho hg p hp hm' hx fun c hc => ⟨rfl, h c hc⟩)
theorem Jtr {kt et : TypeId} (M : Mem w0 F w L) (ho : o.op = .makeMap t none) (h : ∀ g w', Mem w0 F w' (Jjf P kt et g [] :: L) → K (a.put o.dst (.map (some g))) w') : Oper.wp P o a w K Q := by
 unfold Oper.wp execOp;simp only [ho, Instr.makeMap, Option.map_none, Sem.run_bind, newObj];refine h _ _ (M.step (R := [Jjf P kt et w.heap.size []]) ⟨Grew.low (Below.refl_alloc w (.map #[] 0)) _, fun A hA => ?_, by simp [Jag, Jjf], by simp [Jag, Jjf]⟩);obtain rfl : A = _ := by simpa using hA
 exact Jiz.made P kt et w
theorem Jx1 (f : FuncId) (args : List Value) {as : List Operand} {ts : Array TypeId} {x : Operand} {fi ca : List Value} (ho : o.op = .call { callee := .value x, args := as.toArray, argTypes := ts }) (hx : a.eval x = .func (.func f) fi.toArray ca.toArray) (ha : fi ++ as.map a.eval ++ ca = args) (hf : ∀ ar w, (callFunc f ar).run P w = .ok (.enter f ar) w)
    {R : Ending → World → Prop} (hc : Calls P f args.toArray w R) (h : ∀ e w', R e w' → ∃ v, e = .returned v ∧ K (a.put o.dst v) w') : Oper.wp P o a w K Q := by
 subst ha;unfold Oper.wp
 have hx : (execOp a.eval o).run P w = .ok (.enter f (fi ++ as.map a.eval ++ ca).toArray) w := by
   unfold execOp;simp only [ho, resolve, hx, Deferred.ofValue, Sem.run_bind, Sem.run_pure, Result.andThen_ok, invoke, List.map_toArray, List.append_toArray];exact hf _ w
 rw [hx];refine Calls.mono hc fun e w' hr => ?_;obtain ⟨v, rfl, hk⟩ := h e w' hr;exact hk
end
end Go.Proofs.YtodhlfinbbajfaaGreatDoor
