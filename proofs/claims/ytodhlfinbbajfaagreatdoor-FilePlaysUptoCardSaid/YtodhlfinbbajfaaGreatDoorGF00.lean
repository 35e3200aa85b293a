/- Texts joined. -/
import Derived.WalkKit
import Derived.Deep.QuietTactic
import Derived.BigQuiet
import Derived.Lib.Hide
import Derived.Laws.CopyOwn
import Derived.Deep.RegionLaw
import Derived.WalkLawsBesides
import Derived.Deep.MidRow
import Derived.Deep.DeepCutAuto
import Derived.Deep.WholeRow
import Derived.StillTailTactics
import Derived.ChangeKeysEq
import Derived.Laws.AppendOwnNone
import Derived.Deep.RegionHeld3
import Derived.OwnWalk
namespace Go.Proofs.YtodhlfinbbajfaaGreatDoor
open Go Go.RowKit
set_option linter.unusedVariables false
set_option linter.unusedSimpArgs false
set_option linter.unusedSectionVars false
set_option maxRecDepth 100000
set_option maxHeartbeats 40000000
theorem zq1 {α : Type} {xs : List α} {i : Nat} {a : α} : xs.toArray.setIfInBounds i a = (xs.set i a).toArray := List.setIfInBounds_toArray _ _ _
theorem zq2 {α : Type} {a b : α} {xs : List α} : (a :: xs).set 0 b = b :: xs := rfl
theorem zq3 {α : Type} {a b : α} {xs : List α} {i : Nat} : (a :: xs).set (i + 1) b = a :: xs.set i b := rfl
structure Box (p : Prop) : Prop where
  out : p
def bv (b : UInt8) : Value := .int .u8 (b.toNat : Int)
def bvs (l : List UInt8) : List Value := l.map bv
@[simp] theorem Jam (l : List UInt8) : (bvs l).length = l.length := by simp [bvs]
theorem Jci (l m : List UInt8) : bvs (l ++ m) = bvs l ++ bvs m := by simp [bvs]
theorem Jbw (l : List UInt8) (i : Nat) : (bvs l)[i]? = l[i]?.map bv := by simp [bvs]
theorem Jcc (l : List UInt8) : ∀ u ∈ bvs l, u.oneCell' = true := by
 intro u hu; obtain ⟨b, _, rfl⟩ := List.mem_map.1 hu; rfl
theorem Jy4 {a b : UInt8} (h : bv a = bv b) : a = b := by
 simp only [bv, Value.int.injEq, true_and] at h;exact UInt8.toNat_inj.1 (by omega)
def eqB (l m : List UInt8) : Bool := decide (l = m)
theorem Jqw {l m : List UInt8} (h : l = m) : eqB l m = true := decide_eq_true h
theorem Jsq {l m : List UInt8} (h : l ≠ m) : eqB l m = false := decide_eq_false h
def Row (w : World) (ao : Option Addr) (n : Nat) (l : List UInt8) : Prop :=
  l.length = n ∧ ∀ i, (h : i < l.length) → ∃ b o, ao = some ⟨b, o, none⟩ ∧ w.cell? ⟨b, o + i, none⟩ = some (.int .u8 (l[i].toNat : Int))
theorem Row.at0 {w : World} {ao : Option Addr} {n : Nat} {l : List UInt8} (h : Row w ao n l) (hn : 0 < n) : ∃ b o, ao = some ⟨b, o, none⟩ := by
 obtain ⟨hl, hc⟩ := h;obtain ⟨b, o, e, _⟩ := hc 0 (by omega);exact ⟨b, o, e⟩
theorem Row.cell {w : World} {b o n : Nat} {l : List UInt8} (h : Row w (some ⟨b, o, none⟩) n l) (i : Nat) (hi : i < l.length) :
    w.cell? ⟨b, o + i, none⟩ = some (.int .u8 (l[i].toNat : Int)) := by
 obtain ⟨b', o', e, hc⟩ := h.2 i hi;cases e; exact hc
theorem Row.nil {w : World} {ao : Option Addr} : Row w ao 0 [] := ⟨rfl, fun i h => absurd h (by simp)⟩
theorem Row.news {w : World} {ao : Option Addr} {n : Nat} {l : List UInt8} (h : Row w ao n l) : ∀ ad, ao = some ad → ∀ j u, (bvs l)[j]? = some u → w.cell? (ad.add j) = some u := by
 intro ad he j u hu;rw [Jbw] at hu;obtain ⟨b, hb, rfl⟩ := Option.map_eq_some_iff.1 hu;obtain ⟨hj, rfl⟩ := List.getElem?_eq_some_iff.1 hb;obtain ⟨b', o', e, hc⟩ := h.2 j hj;rw [he] at e; cases e;rw [show ((⟨b', o', none⟩ : Addr).add j) = ⟨b', o' + j, none⟩ by unfold Addr.add; split <;> simp_all];exact hc
theorem Row.take {w : World} {ao : Option Addr} {n : Nat} {l : List UInt8} (h : Row w ao n l) (k : Nat) (hk : k ≤ n) : Row w ao k (l.take k) :=
  ⟨by rw [List.length_take, h.1]; omega, fun i hi => by
    rw [List.length_take] at hi
    obtain ⟨b, o, e, hc⟩ := h.2 i (by omega)
    exact ⟨b, o, e, by rw [List.getElem_take]; exact hc⟩⟩
theorem Row.drop {w : World} {b o n : Nat} {l : List UInt8} (h : Row w (some ⟨b, o, none⟩) n l) (k : Nat) (_hk : k ≤ n) : Row w (some ⟨b, o + k, none⟩) (n - k) (l.drop k) :=
  ⟨by rw [List.length_drop, h.1], fun i hi => by
    rw [List.length_drop] at hi
    have hc := h.cell (k + i) (by omega)
    exact ⟨b, o + k, rfl, by rw [List.getElem_drop, show o + k + i = o + (k + i) by omega]; exact hc⟩⟩
theorem Row.grownAny {w w' : World} {ao : Option Addr} {n : Nat} {l : List UInt8} {row : Option Nat} (h : Row w ao n l) (hg : w.grownBy w' row) (hne : ∀ b o, ao = some ⟨b, o, none⟩ → row ≠ some b) : Row w' ao n l :=
  ⟨h.1, fun i hi => by
    obtain ⟨b, o, e, hc⟩ := h.2 i hi
    exact ⟨b, o, e, (World.cell?_of_block (w := w) (w' := w') (a := ⟨b, o + i, none⟩) (hg.block b (block_lt_of_cell hc) (fun x => hne b o e x.symm))).trans hc⟩⟩
theorem Row.lt {w : World} {b o n : Nat} {l : List UInt8} (h : Row w (some ⟨b, o, none⟩) n l) (hn : 0 < n) : b < w.heap.size := by
 have := h.cell 0 (by have := h.1; omega);exact block_lt_of_cell this
theorem Row.old {w w' : World} {ao : Option Addr} {n : Nat} {l : List UInt8} (h : Row w ao n l) (hb : Below w.heap.size w w') : Row w' ao n l := by
 refine ⟨h.1, fun i hi => ?_⟩;obtain ⟨b, o, e, hc⟩ := h.2 i hi;have := block_lt_of_cell hc;exact ⟨b, o, e, (hb.cell (p := ⟨b, o + i, none⟩) this).trans hc⟩
def Jny (P : Program) (t e : TypeId) : Prop :=
  ∃ i, P.underlying t = some (.slice e) ∧ P.info? e = some i ∧ i.zero = some (.int .u8 0) ∧ i.size = 1 ∧ i.bytes = 1
def Own (w : World) (base : Nat) (e : TypeId) (v : Value) (l : List UInt8) : Prop := w.ownsRow base e 1 v l.length (bvs l)
theorem Own.alloc {w : World} {base : Nat} {e : TypeId} {v : Value} {l : List UInt8} (h : Own w base e v l) (o : Obj) : Own (w.alloc o) base e v l := World.ownsRow.alloc h o
theorem Row.of_block {w : World} {b off : Nat} {C : Array Value} {e : TypeId} {fr : Nat × Nat} {l : List UInt8} (hg : w.heap[b]? = some (.cells C e fr)) (hC : (C.toList.drop off).take l.length = bvs l) :
    Row w (some ⟨b, off, none⟩) l.length l := by
 refine ⟨rfl, fun i hi => ⟨b, off, rfl, ?_⟩⟩;rw [cell_of_row w b (off + i) C e fr hg, ← Array.getElem?_toList];have h1 : (bvs l)[i]? = some (bv l[i]) := by rw [Jbw, List.getElem?_eq_getElem hi]; rfl
 rw [← hC, List.getElem?_take, if_pos hi, List.getElem?_drop] at h1;exact h1
theorem Row.of_row {w : World} {b : Nat} {e : TypeId} {fr : Nat × Nat} {l : List UInt8} (hg : w.heap[b]? = some (.cells (bvs l).toArray e fr)) : Row w (some ⟨b, 0, none⟩) l.length l :=
  Row.of_block hg (by rw [List.drop_zero, List.take_of_length_le (by simp)])
theorem Row.lit (w : World) (C : Array Value) (e : TypeId) (l : List UInt8) (hC : C.toList = bvs l) : Row (w.alloc (.cells C e)) (some ⟨w.heap.size, 0, none⟩) l.length l :=
  Row.of_block (C := C) (e := e) (fr := (0, 0)) (heap_alloc_new w _) (by rw [List.drop_zero, hC, List.take_of_length_le (by simp)])
theorem Below.refl_alloc (w : World) (o : Obj) : Below w.heap.size w (w.alloc o) := (Below.refl _ w).alloc (Nat.le_refl _) o
theorem Jem (w : World) (g : Nat) (cs : Array Value) : w.grownBy (w.setRow g cs) (some g) :=
  ⟨rfl, rfl, rfl, Nat.le_of_eq (by simp), fun k _ hk => by
    have hne : g ≠ k := fun h => hk (by rw [h])
    show (w.heap.modify g _)[k]? = _
    rw [Array.getElem?_modify, if_neg hne]⟩
theorem Jk4 (l : List UInt8) : (bvs l).toArray.all (·.oneCell') = true := by
 rw [Array.all_eq_true_iff_forall_mem]; intro v hv; exact Jcc l v (by simpa using hv)
theorem Jb5 {w : World} {g : Nat} {o : Obj} (h : w.heap[g]? = some o) : g < w.heap.size := by
 rcases Nat.lt_or_ge g w.heap.size with h' | h'
 ·exact h'
 ·simp [Array.getElem?_eq_none h'] at h
theorem Jpm {P : Program} {c : Code} {Q : Exit → Act → World → Prop} {a : Act} {w : World} (R : World → Prop) (h : R w) (k : ∀ W, R W → c.wp P Q a W) : c.wp P Q a w := k w h
theorem Jgp {w : World} {o : Obj} {n : Nat} (h : n = w.heap.size) : (w.alloc o).heap[n]? = some o := by subst h; exact heap_alloc_new w o
theorem Jm4 {w : World} {o o' : Obj} {n : Nat} (h : w.heap[n]? = some o') : (w.alloc o).heap[n]? = some o' := (Below.heap_alloc w o n (Jb5 h)).trans h
def D32 : Type := { l : List UInt8 // l.length = 32 }
instance : DecidableEq D32 := fun a b => if h : a.1 = b.1 then isTrue (Subtype.ext h) else isFalse fun e => h (congrArg Subtype.val e)
def dc (d : D32) : Array Value := (bvs d.1).toArray
def Jy5 : D32 := ⟨List.replicate 32 0, by simp⟩
theorem Ji9 {P : Program} {e : TypeId} (he : P.underlying e = some (.int .u8)) (hc : P.cellsOf e = 1) (d : Nat) (l m : List UInt8) (w : World) : ∀ is : List Nat, (∀ i ∈ is, i < l.length ∧ i < m.length) →
    (Op.eqItems (d + 1) e (P.cellsOf e) (bvs l).toArray (bvs m).toArray is).run P w = .ok (is.all fun i => decide (l[i]? = m[i]?)) w
  | [], _ => by simp [Op.eqItems]
  | i :: is, h => by
    obtain ⟨hl, hm⟩ := h i (List.mem_cons_self ..)
    have hp : P.plainKey e = true := by unfold Program.plainKey; rw [he]
    have p1 : (part e (bvs l).toArray (i * P.cellsOf e)).run P w = .ok (bv l[i]) w := run_part_plain w hp (by rw [hc, Nat.mul_one]; simp [bvs, hl])
    have p2 : (part e (bvs m).toArray (i * P.cellsOf e)).run P w = .ok (bv m[i]) w := run_part_plain w hp (by rw [hc, Nat.mul_one]; simp [bvs, hm])
    have p3 : (Op.equalIn (d + 1) e (bv l[i]) (bv m[i])).run P w = .ok (((l[i]).toNat : Int) == ((m[i]).toNat : Int)) w := run_equalIn_int w d e .u8 .u8 _ _ he
    have ih := Ji9 he hc d l m w is fun j hj => h j (List.mem_cons_of_mem _ hj)
    simp only [Op.eqItems, Sem.run_bind, p1, p2, p3, Result.andThen_ok, List.all_cons, List.getElem?_eq_getElem hl, List.getElem?_eq_getElem hm, Option.some.injEq]
    by_cases hq : l[i] = m[i]
    · simp [hq, ih]
    · have : (((l[i]).toNat : Int) == ((m[i]).toNat : Int)) = false := by
        rw [beq_eq_false_iff_ne]; intro h'; exact hq (UInt8.toNat_inj.1 (by omega))
      simp [hq, this]
structure WB (w : World) where
  W : World
  h : Below w.heap.size w W
def WB.start (w : World) : WB w := ⟨w.drew, (Below.refl _ w).drew⟩
instance (w : World) : Nonempty (WB w) := ⟨WB.start w⟩
section laws
variable {P : Program} {t e : TypeId}
theorem Jjz (hT : Jny P t e) (w : World) {ops : Array Oper} {rest : List Oper} {o : Oper} {a : Act} {Q : Exit → Act → World → Prop}
    (hg : o.guard = none) (l c : Operand) (hop : o.op = Op.makeSlice t l c) (base : Nat) (kl kc : IntKind) (C : Int) (n : Nat)
    (hl : a.eval l = .int kl 0) (hc : a.eval c = .int kc C) (hC : C = (n : Int)) (b2 : n ≤ 281474976710656) (b4 : base ≤ w.heap.size)
    (hK : ∀ w', Own w' base e (.slice (some ⟨w.heap.size, 0, none⟩) 0 n) [] → w.grownBy w' none → w.heap.size < w'.heap.size → wpList P ops Q rest (a.put o.dst (.slice (some ⟨w.heap.size, 0, none⟩) 0 n)) w') :
    wpList P ops Q (o :: rest) a w := by
 obtain ⟨i, h1, h2, h3, h4, h5⟩ := hT
 exact wpList_make_own w hg l c t hop base e i (.int .u8 0) 1 h1 h2 h3 h4 kl kc C n hl hc hC (by rw [h5]; omega) (by unfold maxLen; omega) b4
   fun w' hown hgr => hK w' hown hgr (hown.lt w.heap.size rfl).2
theorem Jfp (hT : Jny P t e) (w : World) {ops : Array Oper} {rest : List Oper} {o : Oper} {a : Act} {Q : Exit → Act → World → Prop}
    (hg : o.guard = none) (s x : Operand) (hop : o.op = Op.call { callee := Callee.builtin Builtin.append, args := #[s, x], argTypes := #[t, t] })
    (base g k cap : Nat) (l : List UInt8) (hs : a.eval s = .slice (some ⟨g, 0, none⟩) k cap) (hk : l.length = k) (hown : Own w base e (.slice (some ⟨g, 0, none⟩) k cap) l)
    (ao : Option Addr) (m c : Nat) (l2 : List UInt8) (hx : a.eval x = .slice ao m c) (hnone : ao = none → m = 0 ∧ c = 0) (hrow : Row w ao m l2) (b1 : k + m ≤ cap)
    (hK : ∀ w', Own w' base e (.slice (some ⟨g, 0, none⟩) (k + m) cap) (l ++ l2) → w.grownBy w' (some g) → wpList P ops Q rest (a.put o.dst (.slice (some ⟨g, 0, none⟩) (k + m) cap)) w') :
    wpList P ops Q (o :: rest) a w := by
 obtain ⟨i, h1, h2, h3, h4, h5⟩ := hT;subst hk;have hm := hrow.1;subst hm;refine wpList_append_fits_any w hg s x t hop base e i 1 h1 h2 h4 g l.length cap (bvs l) hs hown ao l2.length c (bvs l2) hx (by simp) hnone hrow.news (Jcc _) b1 fun w' h6 h7 => hK w' ?_ h7;unfold Own;rw [List.length_append, Jci]; exact h6
theorem Jja (hT : Jny P t e) (w : World) {ops : Array Oper} {rest : List Oper} {o : Oper} {a : Act} {Q : Exit → Act → World → Prop}
    (hg : o.guard = none) (s x : Operand) (hop : o.op = Op.call { callee := Callee.builtin Builtin.append, args := #[s, x], argTypes := #[t, t] })
    (base : Nat) (v : Value) (l : List UInt8) (hs : a.eval s = v) (hown : Own w base e v l)
    (ao : Option Addr) (m c : Nat) (l2 : List UInt8) (hx : a.eval x = .slice ao m c) (hnone : ao = none → m = 0 ∧ c = 0) (hrow : Row w ao m l2) (hb : l.length + m ≤ 140737488355328) (hbase : base ≤ w.heap.size)
    (hK : ∀ v' w', Own w' base e v' (l ++ l2) → w.grownBy w' v.ownBlock → wpList P ops Q rest (a.put o.dst v') w') :
    wpList P ops Q (o :: rest) a w := by
 obtain ⟨i, h1, h2, h3, h4, h5⟩ := hT;have hm := hrow.1;subst hm;cases ao with
 | some ad =>
   refine wpList_append_own w hg s x t hop base e i (.int .u8 0) 1 1 h1 h2 h3 h4 h5 rfl (by decide) v l.length (bvs l) hs hown ad l2.length c (bvs l2) hx (by simp) (hrow.news ad rfl) (Jcc _) (by unfold maxLen; omega) (by omega) hbase fun v' w' h6 h7 _ => hK v' w' ?_ h7;unfold Own; rw [List.length_append, Jci]; exact h6
 | none =>
   obtain ⟨hm0, rfl⟩ := hnone rfl;obtain rfl : l2 = [] := List.length_eq_zero_iff.1 hm0;rw [List.append_nil] at hK;exact wpList_append_own_none hg s x t hop base e i 1 h1 h2 v l.length (bvs l) hs hown hx (hK v w hown (World.grownBy.refl _ _))
theorem Jj0 {ops : Array Oper} {rest : List Oper} {o : Oper} {a : Act} {w : World} {Q : Exit → Act → World → Prop} (hgd : o.guard = none) (d s : Operand) (dT sT : TypeId)
    (ho : o.op = .call { callee := .builtin .copy, args := #[d, s], argTypes := #[dT, sT] }) (hu : P.underlying dT = some (.slice e)) (hsz : (P.info? e).map (·.size) = some 1)
    (dp sp : Option Addr) (dLen dCap sLen sCap : Nat) (hd : a.eval d = .slice dp dLen dCap) (hs : a.eval s = .slice sp sLen sCap)
    (g off : Nat) (cur : List Value) (et : TypeId) (hg : w.heap[g]? = some (.cells cur.toArray et (0, 0))) (l : List UInt8) (hn : l.length = Nat.min sLen dLen)
    (hpos : 0 < l.length → dp = some ⟨g, off, none⟩) (hrow : Row w sp l.length l)
    (hfit : off + l.length ≤ cur.length)
    (h : ∀ w', Hid (w'.heap[g]? = some (.cells (splice cur off (bvs l)).toArray et (0, 0))) → w.grownBy w' (some g) → wpList P ops Q rest (a.put o.dst (goInt l.length)) w') : wpList P ops Q (o :: rest) a w := by
 refine wpList_plain hgd fun K hK => ?_;by_cases h0 : l.length = 0
 ·obtain rfl : l = [] := List.eq_nil_of_length_eq_zero h0;have hrun := run_copy_none (P := P) w dT sT o.type e dp sp dLen dCap sLen sCap hu hsz (by simpa using hn.symm);unfold Oper.wp;simp [execOp, ho, resolve, invoke, builtin, hd, hs, hrun, Result.andThen];exact hK _ _ (h w (show _ = _ by simpa [splice, bvs] using hg) (World.grownBy.refl _ _))
 ·obtain rfl := hpos (by omega);obtain ⟨b', o', e'⟩ := hrow.at0 (by omega);subst e';have hrun := run_copy_row (P := P) w dT sT o.type e g off dLen dCap ⟨b', o', none⟩ sLen sCap cur.toArray et (bvs l) hu hsz hg (by simpa using hn) (hrow.news _ rfl) (by simpa using hfit) (Jcc l);unfold Oper.wp;simp [execOp, ho, resolve, invoke, builtin, hd, hs, hrun, Result.andThen];exact hK _ _ (h _ (show _ = _ by simpa [splice] using setRow_heap w g _ _ et _ hg) (Jem w g _))
theorem Jhc {ops : Array Oper} {rest : List Oper} {op : Oper} {a : Act} {w : World} {Q : Exit → Act → World → Prop} (hgd : op.guard = none) (ty : TypeId) (x y : Operand) (ho : op.op = .store ty x y)
    (g : Nat) (old cells : Array Value) (et : TypeId) (hx : a.eval x = .pointer (some ⟨g, 0, none⟩)) (hy : a.eval y = .agg cells) (hg : w.heap[g]? = some (.cells old et (0, 0))) (hs : old.size = cells.size)
    (hi : (P.info? ty).map (·.size) = some cells.size) (h1 : cells.all (·.oneCell') = true)
    (h : ∀ w', Hid (w'.heap[g]? = some (.cells cells et (0, 0))) → w.grownBy w' (some g) → wpList P ops Q rest (a.put op.dst undef) w') : wpList P ops Q (op :: rest) a w := by
 refine wpList_plain hgd fun _ hK => ?_;unfold Oper.wp execOp;simp only [ho, hx, hy, Instr.storeAt, Instr.sureAddr, Sem.run_bind, Sem.run_pure, Result.andThen_ok, run_storeVar_row (P := P) w g et ty old cells hg hi hs h1];exact hK _ _ (h _ (setRow_heap w g old cells et (0, 0) hg) (Jem w g cells))
theorem Jkk {ops : Array Oper} {rest : List Oper} {op : Oper} {a : Act} {w : World} {Q : Exit → Act → World → Prop} (hgd : op.guard = none) (ty : TypeId) (x y : Operand) (ho : op.op = .store ty x y)
    (p : Addr) (v : Value) (hx : a.eval x = .pointer (some p)) (hy : a.eval y = v) (hv : ∃ k n, v = .int k n) (hs : (P.info? ty).map (·.size) = some 1) (hc : ∃ u, w.cell? p = some u) (hf : w.frozen? p = false)
    (h : wpList P ops Q rest (a.put op.dst undef) (w.setCell p v)) : wpList P ops Q (op :: rest) a w := by
 refine wpList_plain hgd fun _ hK => ?_;obtain ⟨k, n, rfl⟩ := hv;obtain ⟨u, hc⟩ := hc;cases hq : P.info? ty with
 | none => simp [hq] at hs
 | some i =>
   have hs' : i.size = 1 := by simpa [hq] using hs
   unfold Oper.wp execOp;simp only [ho, hx, hy, Instr.storeAt, Instr.sureAddr, Sem.run_bind, Sem.run_pure, Result.andThen_ok]
   have : (storeVar ty p (.int k n)).run P w = .ok () (w.setCell p (.int k n)) := by
     simp [storeVar, sizeOf, typeInfo, hq, hs', Value.cells, storeCells, hc, hf, go_sem]
   rw [this];exact hK _ _ h
theorem Jar {id : Nat} {Q : Exit → Act → World → Prop} {a : Act} {w : World} {l : List Oper} (n : Nat) (hm : P.follows .mixedOrders = true) (hB : Region.lexTailB .any l.toArray n = true)
    (h : wpStill P l.toArray w.drew (fun a' => wpList P l.toArray Q (l.drop n) a' w.drew) (l.take n) a) : (Code.region id l.toArray true).wp P Q a w :=
  wp_region_still_tail n hm hB h
end laws
section
variable {P : Program} {l : List Oper} {Q : Exit → Act → World → Prop} {md : Region.Mode} {S : World → Prop}
theorem Jds {l : List Oper} {i : Nat} {o : Oper} (h : l[i]? = some o) : l.toArray[i]? = some o := by simpa using h
theorem Jdm (i : Nat) {oi : Oper} (v : Value) {fuel : Nat} {listed : Array Bool} {a : Act} {w : World} (hi : l[i]? = some oi)
    (hs : Region.noSelect l.toArray = true) (hf : Region.free md l.toArray listed i = true) (hr : (Region.ready md l.toArray listed).contains i = true)
    (hy : YieldsIf P l.toArray S oi v a) (hS : S w)
    (h : wpAnyH P md l.toArray (NoPanic Q) S fuel (listed.setIfInBounds i true) (a.put oi.dst v) w) : wpAnyH P md l.toArray (NoPanic Q) S (fuel + 1) listed a w :=
  wpAnyH_take (Jds hi) hs hf hr (fun _ _ _ h => h) hy hS h
theorem Jc2 {o : Oper} {v : Value} {a : Act} {ops : Array Oper} (hw : Region.wanted o (yielded ops a.tmps) = true) (h : ∀ w, (execOp a.eval o).run P w = .ok (.value v) w) : YieldsIf P ops S o v a :=
  .inl ⟨hw, fun w _ => h w⟩
theorem Jae (i : Nat) {o : Oper} {fuel : Nat} {listed : Array Bool} {a : Act} {w : World} (hr : Region.ready md l.toArray listed = [i]) (ho : l[i]? = some o)
    (hw : Region.wanted o (yielded l.toArray a.tmps) = true)
    (h : ∀ K' : Act → World → Prop, Hid (∀ a w, S w → (S w → wpAnyH P md l.toArray Q S fuel (listed.setIfInBounds i true) a w) → K' a w) → Oper.wp P o a w K' Q) : wpAnyH P md l.toArray Q S (fuel + 1) listed a w :=
  wpAnyH_ready hr (by simp) (AllReadyH.cons (Jds ho) (fun K hK => by rw [if_pos hw]; exact h K hK.out) AllReadyH.nil)
theorem Jbt (i j : Nat) {oi oj : Oper} {fuel : Nat} {listed : Array Bool} {a : Act} {w : World} (hr : Region.ready md l.toArray listed = [i, j]) (hoi : l[i]? = some oi) (hoj : l[j]? = some oj)
    (hwi : Region.wanted oi (yielded l.toArray a.tmps) = true) (hwj : Region.wanted oj (yielded l.toArray a.tmps) = true)
    (h1 : ∀ K' : Act → World → Prop, Hid (∀ a w, S w → (S w → wpAnyH P md l.toArray Q S fuel (listed.setIfInBounds i true) a w) → K' a w) → Oper.wp P oi a w K' Q)
    (h2 : ∀ K' : Act → World → Prop, Hid (∀ a w, S w → (S w → wpAnyH P md l.toArray Q S fuel (listed.setIfInBounds j true) a w) → K' a w) → Oper.wp P oj a w K' Q) : wpAnyH P md l.toArray Q S (fuel + 1) listed a w :=
  wpAnyH_ready hr (by simp) (AllReadyH.cons (Jds hoi) (fun K hK => by rw [if_pos hwi]; exact h1 K hK.out)
    (AllReadyH.cons (Jds hoj) (fun K hK => by rw [if_pos hwj]; exact h2 K hK.out) AllReadyH.nil))
theorem Jmf (S : World → Prop) {id : Nat} {a : Act} {w : World} (hm : P.follows .mixedOrders = true) (hS : S w.drew)
    (h : S w.drew → wpAnyH P .any l.toArray (NoPanic Q) S l.length (Array.replicate l.length false) a w.drew) : (Code.region id l.toArray true).wp P Q a w :=
  wp_region_noPanic (wp_region_held_drew hm hS (by simpa using h))
theorem Jao {listed : Array Bool} {a : Act} {w : World} (hr : Region.ready md l.toArray listed = []) (h : Q .normal a w) (fuel : Nat) : wpAnyH P md l.toArray (NoPanic Q) S fuel listed a w :=
  wpAnyH_done hr (NoPanic.normal h) fuel
theorem Jda {ops : Array Oper} {rest : List Oper} {o : Oper} {v : Value} {a : Act} {w : World} (hw : Region.wanted o (yielded ops a.tmps) = true) (hy : YieldsIf P ops (fun W => W = w) o v a)
    (h : wpList P ops Q rest (a.put o.dst v) w) : wpList P ops Q (o :: rest) a w := by
 have hx : (execOp a.eval o).run P w = .ok (.value v) w := by
   rcases hy with ⟨_, h⟩ | ⟨h, _⟩
   ·exact h w rfl
   ·rw [hw] at h; cases h
 unfold wpList;rw [if_pos hw];left;unfold Oper.wp;rw [hx];exact h
theorem Jng {ops : Array Oper} {rest : List Oper} {o : Oper} {a : Act} {w : World} (hw : Region.wanted o (yielded ops a.tmps) = true) (t : TypeId) (parts : List (Nat × Operand)) (ho : o.op = .build t parts.toArray)
    (ps : List (Nat × Value)) (hp : (parts.map fun p => (p.1, a.eval p.2)) = ps) (cells : Array Value) (hc : P.built t ps = some cells)
    (h : wpList P ops Q rest (a.put o.dst (.agg cells)) w) : wpList P ops Q (o :: rest) a w := by
 refine Jda hw (Jc2 hw fun W => ?_) h;have hm : (parts.toArray.map fun (i, x) => (i, a.eval x)).toList = ps := by rw [← hp]; simp
 unfold execOp;simp only [ho, Sem.run_bind, run_build W t _ cells (by rw [hm]; exact hc), Result.andThen_ok];rfl
end
theorem Ji8 {P : Program} {f : FuncId} {args : Array Value} {w : World} {R : Ending → World → Prop} (h : Calls P f args w R) : Calls P f args w fun e w' => Box (R e w') :=
  h.mono fun _ _ h => ⟨h⟩
section
variable {P : Program} {Q : Exit → Act → World → Prop} {ops : Array Oper} {rest : List Oper} {o : Oper} {a : Act} {w : World}
theorem Jfd (t : TypeId) (parts : List (Nat × Operand)) (ho : o.op = .build t parts.toArray) (hw : Region.wanted o (yielded ops a.tmps) = true)
    (ps : List (Nat × Value)) (hp : (parts.map fun p => (p.1, a.eval p.2)) = ps) (cells : Array Value) (hc : P.built t ps = some cells)
    (h : wpList P ops Q rest (a.put o.dst (.agg cells)) w) : wpList P ops Q (o :: rest) a w :=
  Jng hw t parts ho ps hp cells hc h
theorem Jxs (t t' : TypeId) (x y : Operand) (ho : o.op = .binOp .eql t x y t') (hw : Region.wanted o (yielded ops a.tmps) = true) (c d : Array Value) (r : Bool)
    (hx : a.eval x = .agg c) (hy : a.eval y = .agg d) (hm : P.eqGuardType P.depth t = false) (he : ∀ W, (Op.equalIn 10000 t (.agg c) (.agg d)).run P W = .ok r W)
    (h : wpList P ops Q rest (a.put o.dst (.bool r)) w) : wpList P ops Q (o :: rest) a w :=
  Jda hw (Jc2 hw fun W => by
    unfold execOp
    simp only [ho, hx, hy, Sem.run_bind, run_eql_struct, run_eqGuard_agg (hm := hm), he, Result.andThen_ok]
    rfl) h
theorem Jpk (t t' : TypeId) (x y : Operand) (ho : o.op = .binOp .neq t x y t') (hw : Region.wanted o (yielded ops a.tmps) = true) (c d : Array Value) (r : Bool)
    (hx : a.eval x = .agg c) (hy : a.eval y = .agg d) (hm : P.eqGuardType P.depth t = false) (he : ∀ W, (Op.equalIn 10000 t (.agg c) (.agg d)).run P W = .ok (!r) W)
    (h : wpList P ops Q rest (a.put o.dst (.bool r)) w) : wpList P ops Q (o :: rest) a w :=
  Jda hw (Jc2 hw fun W => by
    unfold execOp
    simp only [ho, hx, hy, Sem.run_bind, run_neq_struct, run_eqGuard_agg (hm := hm), he, Result.andThen_ok, Bool.not_not]
    rfl) h
theorem Jgn (ty : TypeId) (x : Operand) (ho : o.op = .load ty x) (hw : Region.wanted o (yielded ops a.tmps) = true)
    (g : Nat) (hx : a.eval x = .pointer (some ⟨g, 0, none⟩)) (t : TypeId) (cs : Array Value) (fr : Nat × Nat) (d : TypeDesc) (hg : w.heap[g]? = some (.cells cs t fr))
    (hu : P.underlying ty = some d) (hd : d.isRow = true) (hi : (P.info? ty).map (·.size) = some cs.size)
    (h : wpList P ops Q rest (a.put o.dst (.agg cs)) w) : wpList P ops Q (o :: rest) a w := by
 have hS : w.rangeAt g 0 cs.toList := fun j v hj => by
   rw [cell_of_row w g (0 + j) cs t fr hg, Nat.zero_add, ← Array.getElem?_toList]; exact hj
 refine Jda hw (yieldsIf_load_mid hw ty x ho g 0 hx cs.toList d (fun W hW => by rw [hW]; exact hS) hu hd (by simpa using hi)) ?_;simpa using h
end
theorem Jjy (n : Nat) : madeCells (Value.cells (.int .u8 0)) n = (bvs (List.replicate n 0)).toArray := by
 apply Array.ext';apply List.ext_getElem?;intro i
 have h : (madeCells (Value.cells (.int .u8 0)) n).toList = List.replicate n (Value.int .u8 0) := by
   unfold madeCells;rw [Array.toList_map, Array.toList_range];apply List.ext_getElem
   ·simp
   ·intro i h1 h2;simp [Value.cells, Nat.mod_one]
 rw [h];simp [bvs, bv]
theorem Jkf (w : World) (a : Addr) (u : Value) : w.grownBy (w.setCell a u) (some a.block) :=
  ⟨rfl, rfl, rfl, Nat.le_of_eq (by simp [World.setCell]), fun k _ hk => heap_setCell_other w a k u fun h => hk (by rw [h])⟩
theorem Jpl (L : List UInt8) (i : Nat) (u : UInt8) : (bvs L).set i (bv u) = bvs (L.set i u) := by
 unfold bvs; rw [List.map_set]
theorem Row.lit1 (w : World) (e : TypeId) (u : UInt8) : Row (w.alloc (.cells #[.int .u8 (u.toNat : Int)] e)) (some ⟨w.heap.size, 0, none⟩) 1 [u] := Row.lit w _ e [u] rfl
section
variable {P : Program} {t e : TypeId} {Q : Exit → Act → World → Prop} {ops : Array Oper} {rest : List Oper} {o : Oper} {a : Act} {w : World}
theorem Jrj (hT : Jny P t e) (s x : Operand) (ho : o.op = Op.call { callee := Callee.builtin Builtin.append, args := #[s, x], argTypes := #[t, t] }) (hg : o.guard = none)
    (base : Nat) (v : Value) (l : List UInt8) (hs : a.eval s = v) (hown : Own w base e v l)
    (ao : Option Addr) (m c : Nat) (l2 : List UInt8) (hx : a.eval x = .slice ao m c) (hnone : ao = none → m = 0 ∧ c = 0) (hrow : Row w ao m l2) (hb : l.length + m ≤ 140737488355328) (hbase : base ≤ w.heap.size)
    (hK : ∀ v' w', Own w' base e v' (l ++ l2) → w.grownBy w' v.ownBlock → wpList P ops Q rest (a.put o.dst v') w') :
    wpList P ops Q (o :: rest) a w :=
  Jja hT w hg s x ho base v l hs hown ao m c l2 hx hnone hrow hb hbase hK
end
end Go.Proofs.YtodhlfinbbajfaaGreatDoor
