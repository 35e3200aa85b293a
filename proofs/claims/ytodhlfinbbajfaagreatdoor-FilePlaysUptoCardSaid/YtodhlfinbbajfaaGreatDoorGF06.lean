/- Texts joined. -/
import Derived.Test.YtodhlfinbbajfaaGreatDoorGF05
import Derived.Test.YtodhlfinbbajfaaGreatDoorGF03
import Derived.Test.YtodhlfinbbajfaaGreatDoorGF00
import Derived.Test.YtodhlfinbbajfaaGreatDoorGF02
import Derived.Test.YtodhlfinbbajfaaGreatDoorRows
namespace Go.Proofs.YtodhlfinbbajfaaGreatDoor
open Go Go.RowKit
set_option linter.unusedVariables false
set_option linter.unusedSimpArgs false
set_option linter.unusedSectionVars false
set_option maxRecDepth 100000
set_option maxHeartbeats 40000000
theorem Je1 {j : Int} (h : 0 ≤ j ∧ j < 18446744073709551616) : IntKind.u64.wrap j = j := by
 simp only [IntKind.wrap, IntKind.signed, IntKind.bits];simp;omega
theorem Jo8 {j : Int} (h : 0 ≤ j ∧ j < 4294967296) : IntKind.u32.wrap j = j := by
 simp only [IntKind.wrap, IntKind.signed, IntKind.bits];simp;omega
theorem Jk2 {j : Int} (h : 0 ≤ j ∧ j < 256) : IntKind.u8.wrap j = j := by
 simp only [IntKind.wrap, IntKind.signed, IntKind.bits];simp;omega
theorem Jzq {t : TypeId} (m k : Nat) (hk : k < 8) (yk : IntKind) : binOp .shr t (.int .u8 (m : Int)) (.int yk (k : Int)) = pure (.int .u8 ((m / 2 ^ k : Nat) : Int)) := by
 show Op.shift .shr .u8 (m : Int) yk (k : Int) = _;unfold Op.shift;rw [if_neg (by omega)];have hm : min (((k : Nat) : Int).toNat) IntKind.u8.bits = k := by simp [IntKind.bits]; omega
 simp only [hm];congr 2;rw [Int.fdiv_eq_ediv_of_nonneg _ (by exact_mod_cast Nat.zero_le _)];simp
theorem Jrf {t : TypeId} (m k : Nat) (hk : k < 32) (yk : IntKind) : binOp .shr t (.int .u32 (m : Int)) (.int yk (k : Int)) = pure (.int .u32 ((m / 2 ^ k : Nat) : Int)) := by
 show Op.shift .shr .u32 (m : Int) yk (k : Int) = _;unfold Op.shift;rw [if_neg (by omega)];have hm : min (((k : Nat) : Int).toNat) IntKind.u32.bits = k := by simp [IntKind.bits]; omega
 simp only [hm];congr 2;rw [Int.fdiv_eq_ediv_of_nonneg _ (by exact_mod_cast Nat.zero_le _)];simp
theorem Jzr {t : TypeId} (m : Nat) (hm : m < 256) : binOp .and t (.int .u8 (m : Int)) (.int .u8 1) = pure (.int .u8 ((m % 2 : Nat) : Int)) := by
 show Op.intBits .and .u8 (m : Int) 1 = _;show (pure (Value.int .u8 (IntKind.u8.wrap (((BitVec.ofInt 8 (m : Int) &&& BitVec.ofInt 8 1).toNat : Nat) : Int))) : Sem Value) = _;congr 2;rw [BitVec.toNat_and, BitVec.toNat_ofInt, BitVec.toNat_ofInt];have e1 : ((m : Int) % (2 ^ 8 : Nat)).toNat = m := by omega
 have e2 : ((1 : Int) % (2 ^ 8 : Nat)).toNat = 1 := by decide
 rw [e1, e2, Nat.and_one_is_mod, Jk2 (by omega)]
theorem Jxm {t : TypeId} (m : Nat) (hm : m < 4294967296) : binOp .and t (.int .u32 (m : Int)) (.int .u32 1) = pure (.int .u32 ((m % 2 : Nat) : Int)) := by
 show Op.intBits .and .u32 (m : Int) 1 = _;show (pure (Value.int .u32 (IntKind.u32.wrap (((BitVec.ofInt 32 (m : Int) &&& BitVec.ofInt 32 1).toNat : Nat) : Int))) : Sem Value) = _;congr 2;rw [BitVec.toNat_and, BitVec.toNat_ofInt, BitVec.toNat_ofInt];have e1 : ((m : Int) % (2 ^ 32 : Nat)).toNat = m := by omega
 have e2 : ((1 : Int) % (2 ^ 32 : Nat)).toNat = 1 := by decide
 rw [e1, e2, Nat.and_one_is_mod, Jo8 (by omega)]
theorem Jyr {t : TypeId} (x y : UInt8) : binOp .xor t (.int .u8 (x.toNat : Int)) (.int .u8 (y.toNat : Int)) = pure (.int .u8 ((x ^^^ y).toNat : Int)) := by
 show Op.intBits .xor .u8 (x.toNat : Int) (y.toNat : Int) = _;show (pure (Value.int .u8 (IntKind.u8.wrap (((BitVec.ofInt 8 (x.toNat : Int) ^^^ BitVec.ofInt 8 (y.toNat : Int)).toNat : Nat) : Int))) : Sem Value) = _;congr 2;rw [BitVec.toNat_xor, BitVec.toNat_ofInt, BitVec.toNat_ofInt];have hx := x.toNat_lt;have hy := y.toNat_lt;have e1 : ((x.toNat : Int) % (2 ^ 8 : Nat)).toNat = x.toNat := by omega
 have e2 : ((y.toNat : Int) % (2 ^ 8 : Nat)).toNat = y.toNat := by omega
 rw [e1, e2, ← UInt8.toNat_xor, Jk2];have := (x ^^^ y).toNat_lt;omega
theorem Jys {P : Program} {ops : Array Oper} {S : World → Prop} {o : Oper} {a : Act} {x : Operand} {t : TypeId} {u : UInt32} (hw : Region.wanted o (yielded ops a.tmps) = true) (ho : o.op = .unOp .xor t x) (hx : a.eval x = .int .u32 (u.toNat : Int)) : YieldsIf P ops S o (.int .u32 ((~~~ u).toNat : Int)) a :=
  Je4 hw fun w _ => by
    have h : Op.unary .xor (.int .u32 (u.toNat : Int)) = pure (.int .u32 ((~~~ u).toNat : Int)) := Jy6 u
    unfold execOp
    simp only [ho, hx, h]
    rfl
theorem Jc4 {l : List UInt8} {i : Nat} (h : i < l.length) : l.take i ++ [l.getD i 0] = l.take (i + 1) := by
 rw [List.take_succ_eq_append_getElem h, List.getD_eq_getElem?_getD, List.getElem?_eq_getElem h]; rfl
theorem Jsl (x : UInt8) {j : Nat} (hj : j < 8) : ((Jg0 x).getD j 0).toNat = x.toNat / 2 ^ j % 2 := by
 unfold Jg0;rw [Jic 8 _ j hj (by decide), UInt8.toNat_toUInt32]
theorem bit8 {t : TypeId} (x : UInt8) {j : Nat} (hj : j < 8) : binOp .and t (.int .u8 ((x.toNat / 2 ^ j : Nat) : Int)) (.int .u8 1) = pure (.int .u8 (((Jg0 x).getD j 0).toNat : Int)) := by
 have := x.toNat_lt;rw [Jzr _ (Nat.lt_of_le_of_lt (Nat.div_le_self _ _) this), Jsl x hj]
theorem Ju2 (l : List UInt8) {i : Nat} (hi : i < l.length) : Jg1 (l.take i) ++ Jg0 (l.getD i 0) = Jg1 (l.take (i + 1)) := by
 rw [← Jc4 hi];unfold Jg1;rw [List.flatMap_append]; simp
theorem Jqp (k : Nat) : Je3 k ++ [0] = Je3 (k + 1) := by unfold Je3; rw [← List.replicate_succ']
theorem Jec {l m : List UInt8} {i j : Nat} (h : l.length = i) : (l ++ m).getD (i + j) 0 = m.getD j 0 := by
 subst h;rw [List.getD_eq_getElem?_getD, List.getD_eq_getElem?_getD, List.getElem?_append_right (by omega)];congr 2; omega
theorem Jkc {l m : List UInt8} {i j : Nat} (x : UInt8) (h : l.length = i) : (l ++ m).set (i + j) x = l ++ m.set j x := by
 subst h;rw [List.set_append_right _ _ (by omega)];congr 2; omega
theorem Jit {l m : List UInt8} {i : Nat} (h : l.length = i) : (l ++ m).getD i 0 = m.getD 0 0 := Jec (j := 0) h
theorem Jlu {p X : List UInt8} (h : 0 < X.length) : p ++ X = (p ++ [X.getD 0 0]) ++ X.drop 1 := by
 match X, h with
 | x :: X, _ => simp
def inI (a : Int) : Prop := -9223372036854775808 ≤ a ∧ a ≤ 9223372036854775807
theorem Jnh (a : Int) : inI (wrap64 a) := by unfold inI wrap64; omega
section flat
variable {α β : Type} (f : α → List β) (n : Nat)
theorem Jm8 : ∀ (l : List α), (∀ y ∈ l, (f y).length = n) → (l.flatMap f).length = n * l.length
  | [], _ => by simp
  | y :: l, h => by
    rw [List.flatMap_cons, List.length_append, h y (List.mem_cons_self ..), Jm8 l (fun z hz => h z (List.mem_cons_of_mem _ hz)), List.length_cons, Nat.mul_add, Nat.mul_one, Nat.add_comm]
theorem Jh6 : ∀ (l : List α) (i : Nat) (x : α), (∀ y ∈ l, (f y).length = n) → l[i]? = some x → ((l.flatMap f).drop (n * i)).take n = f x
  | [], i, x, _, h => by simp at h
  | y :: l, 0, x, hn, h => by
    have e : y = x := by simpa using h
    subst e
    rw [List.flatMap_cons, Nat.mul_zero, List.drop_zero, List.take_left' (hn y (List.mem_cons_self ..))]
  | y :: l, i + 1, x, hn, h => by
    have h1 := hn y (List.mem_cons_self ..)
    rw [List.flatMap_cons, Nat.mul_add, Nat.mul_one, Nat.add_comm, ← List.drop_drop, List.drop_left' h1]
    exact Jh6 l i x (fun z hz => hn z (List.mem_cons_of_mem _ hz)) (by simpa using h)
theorem Jkv : ∀ (l : List α) (i : Nat) (x y : α) (o : Nat) (m : List β), (∀ y ∈ l, (f y).length = n) → l[i]? = some x → o + m.length ≤ n → f y = splice (f x) o m → splice (l.flatMap f) (n * i + o) m = (l.set i y).flatMap f
  | [], i, x, y, o, m, _, h, _, _ => by simp at h
  | z :: l, 0, x, y, o, m, hn, h, hm, hy => by
    have e : z = x := by simpa using h
    subst e
    have h1 := hn z (List.mem_cons_self ..)
    unfold splice at hy ⊢
    rw [List.set_cons_zero, List.flatMap_cons, List.flatMap_cons, hy, Nat.mul_zero, Nat.zero_add, List.take_append_of_le_length (by omega), List.drop_append_of_le_length (by omega)]
    simp [List.append_assoc]
  | z :: l, i + 1, x, y, o, m, hn, h, hm, hy => by
    have h1 := hn z (List.mem_cons_self ..)
    have ih := Jkv l i x y o m (fun z hz => hn z (List.mem_cons_of_mem _ hz)) (by simpa using h) hm hy
    rw [List.set_cons_succ, List.flatMap_cons, List.flatMap_cons, ← ih]
    have e1 : n * (i + 1) + o = (f z).length + (n * i + o) := by rw [Nat.mul_add, h1]; omega
    unfold splice
    rw [e1, List.take_length_add_append, Nat.add_assoc (f z).length, List.drop_length_add_append, List.append_assoc]
end flat
theorem Jd3 (l m : List UInt8) (o : Nat) : splice (bvs l) o (bvs m) = bvs (splice l o m) := by
 unfold splice bvs;simp [List.map_take, List.map_drop]
theorem Jrr {α : Type} (l m : List α) (h : l.length = m.length) : splice l 0 m = m := by
 unfold splice; simp [← h]
def Jaw (ps : List (List UInt8)) : List Value := ps.flatMap bvs
def wC (x : Wr) : List Value := .int .i64 (x.1 : Int) :: bvs x.2
def qC (q : List Wr) : List Value := q.flatMap wC
theorem Jk7 (ps : List (List UInt8)) : bvs ps.flatten = Jaw ps := by
 unfold Jaw;induction ps with
 | nil => rfl;| cons p ps ih => rw [List.flatten_cons, Jci, ih, List.flatMap_cons]
theorem Jsz (x : Wr) : ∀ u ∈ wC x, u.oneCell' = true := by
 intro u hu;rcases List.mem_cons.1 hu with rfl | hu
 ·rfl
 ·exact Jcc _ u hu
structure DV where
  pages : List (List UInt8)
  q : List Wr
  armed : Int
  dead : Bool
  epoch : Int
  reads : Int
  writes : Int
  syncs : Int
structure DOk (D : DV) : Prop where
  lo : 3 ≤ D.pages.length
  hi : D.pages.length ≤ 4096
  len : ∀ p ∈ D.pages, p.length = 256
  qs : ∀ x ∈ D.q, x.1 < D.pages.length ∧ x.2.length = 256
  arm : 0 ≤ D.armed ∧ D.armed ≤ 9223372036854775807
  ep : inI D.epoch
theorem Jb6 {ps : List (List UInt8)} (h : ∀ p ∈ ps, p.length = 256) {i : Nat} (hi : i < ps.length) : (ps.getD i []).length = 256 := by
 rw [List.getD_eq_getElem?_getD, List.getElem?_eq_getElem hi];exact h _ (List.getElem_mem hi)
theorem Jf6 {ps : List (List UInt8)} (h : ∀ p ∈ ps, p.length = 256) {i : Nat} {d : List UInt8} (hd : d.length = 256) : ∀ p ∈ ps.set i d, p.length = 256 := by
 intro p hp;rcases List.mem_or_eq_of_mem_set hp with h1 | h1
 ·exact h p h1
 ·rw [h1]; exact hd
def Jaz : List UInt8 := List.replicate 256 0
def newD (n : Nat) : DV := ⟨List.replicate n Jaz, [], 0, false, 0, 0, 0, 0⟩
theorem Jpp {n : Nat} (h1 : 3 ≤ n) (h2 : n ≤ 4096) : DOk (newD n) where
  lo := by simpa [newD] using h1
  hi := by simpa [newD] using h2
  len p hp := by
    have := List.eq_of_mem_replicate hp
    rw [this]; exact List.length_replicate
  qs x hx := by cases hx
  arm := ⟨Int.le_refl 0, by show (0 : Int) ≤ _; decide⟩
  ep := by show inI 0; unfold inI; decide
def DV.pg (D : DV) (p : Nat) : List UInt8 := D.pages.getD p []
def DV.cur (D : DV) (p : Nat) : List UInt8 := curP (D.pg p) D.q p
def DV.has (D : DV) (p : Int) : Prop := 0 ≤ p ∧ p < D.pages.length
instance (D : DV) (p : Int) : Decidable (D.has p) := inferInstanceAs (Decidable (_ ∧ _))
theorem Jiu {D : DV} (h : DOk D) {p : Nat} (hp : p < D.pages.length) : (D.cur p).length = 256 := by
 unfold DV.cur;cases hl : Jew D.q p with
 | none => rw [Jok _ _ _ hl]; exact Jb6 h.len hp
 | some i =>
   obtain ⟨x, h1, _, h3⟩ := Joj (D.pg p) p D.q i hl;rw [h3];exact (h.qs x (List.mem_of_getElem? h1)).2
def actD (D : DV) : DV := if D.armed = 0 then D else { D with armed := D.armed - 1, dead := decide (D.armed = 1) }
def actE (D : DV) : Int := if D.armed = 1 then 2 else 0
def Jby (D : DV) (p : Int) : DV := if D.dead then D else if D.has p then { D with reads := wrap64 (D.reads + 1) } else D
def Jdf (D : DV) (p : Int) : Int := if D.dead then 2 else if D.has p then 0 else 41
def Jch (D : DV) (p : Int) : List UInt8 := if D.dead then [] else if D.has p then D.cur p.toNat else []
def Ja4 (D : DV) (p : Int) (d : List UInt8) : Int := if D.dead then 2 else if D.has p then (if d.length = 256 then actE D else 42) else 41
def Jeg (D : DV) (p : Int) (d : List UInt8) : DV := { D with q := D.q ++ [(p.toNat, d)], writes := wrap64 (D.writes + 1) }
def Jax (D : DV) (p : Int) (d : List UInt8) : DV := if D.dead then D else if D.has p then (if d.length = 256 then actD (Jeg D p d) else D) else D
def Jcp (ps : List (List UInt8)) (q : List Wr) : List (List UInt8) := q.foldl (fun ps x => ps.set x.1 x.2) ps
def Jcd (D : DV) : Int := if D.dead then 2 else actE D
def Jin (D : DV) : DV := { D with pages := Jcp D.pages D.q, q := [], syncs := wrap64 (D.syncs + 1) }
def Jbo (D : DV) : DV := if D.dead then D else if D.armed = 1 then actD D else Jin (actD D)
def armD (D : DV) (n : Int) : DV := if D.dead then D else { D with armed := max n 0 }
def mix1 (fate : UInt8) (new old : List UInt8) (j : Nat) : List UInt8 := if fate.toNat >>> j % 2 = 1 then splice old (64 * j) ((new.drop (64 * j)).take 64) else old
def mixS (fate : UInt8) (new old : List UInt8) (k : Nat) : List UInt8 := (List.range k).foldl (mix1 fate new) old
def Ja1 (ps : List (List UInt8)) (l : List (Wr × UInt8)) : List (List UInt8) := l.foldl (fun ps x => ps.set x.1.1 (mixS x.2 x.1.2 (ps.getD x.1.1 []) 4)) ps
def Jcz (D : DV) (fates : List UInt8) : DV := { D with pages := Ja1 D.pages (D.q.zip fates), q := [], dead := false, armed := 0, epoch := wrap64 (D.epoch + 1) }
def Jcs (D : DV) : DV := { D with epoch := wrap64 (D.epoch + 1) }
theorem Jgq (ps : List (List UInt8)) (q : List Wr) (x : Wr) : Jcp ps (q ++ [x]) = (Jcp ps q).set x.1 x.2 := by unfold Jcp; rw [List.foldl_append]; rfl
theorem Jc0 (ps : List (List UInt8)) (q : List Wr) : (Jcp ps q).length = ps.length := by
 revert q;refine Je2 rfl fun q x ih => ?_;rw [Jgq, List.length_set, ih]
theorem Jgr {ps : List (List UInt8)} (h : ∀ p ∈ ps, p.length = 256) : ∀ (q : List Wr), (∀ x ∈ q, x.2.length = 256) → ∀ p ∈ Jcp ps q, p.length = 256 := by
 refine Je2 (fun _ => h) fun q x ih hq => ?_;rw [Jgq];exact Jf6 (ih fun y hy => hq y (List.mem_append_left _ hy)) (hq x (by simp))
theorem Jpq (fate : UInt8) (new old : List UInt8) (j : Nat) (hn : new.length = 256) (ho : old.length = 256) (hj : j < 4) : (mix1 fate new old j).length = 256 := by
 unfold mix1;split
 ·rw [length_splice, ho];rw [List.length_take, List.length_drop]; omega
 ·exact ho
theorem Jjb (fate : UInt8) (new old : List UInt8) (k : Nat) : mixS fate new old (k + 1) = mix1 fate new (mixS fate new old k) k := by
 unfold mixS; rw [List.range_succ, List.foldl_append]; rfl
theorem Jdj (fate : UInt8) (new old : List UInt8) (hn : new.length = 256) (ho : old.length = 256) : ∀ k, k ≤ 4 → (mixS fate new old k).length = 256
  | 0, _ => ho
  | k + 1, h => by rw [Jjb]; exact Jpq _ _ _ _ hn (Jdj fate new old hn ho k (by omega)) (by omega)
theorem Jfe (ps : List (List UInt8)) (l : List (Wr × UInt8)) (x : Wr × UInt8) : Ja1 ps (l ++ [x]) = (Ja1 ps l).set x.1.1 (mixS x.2 x.1.2 ((Ja1 ps l).getD x.1.1 []) 4) := by
 unfold Ja1; rw [List.foldl_append]; rfl
theorem Jca (ps : List (List UInt8)) (l : List (Wr × UInt8)) : (Ja1 ps l).length = ps.length := by
 revert l;refine Je2 rfl fun q x ih => ?_;rw [Jfe, List.length_set, ih]
theorem Jgs {ps : List (List UInt8)} (h : ∀ p ∈ ps, p.length = 256) : ∀ (l : List (Wr × UInt8)), (∀ x ∈ l, x.1.1 < ps.length ∧ x.1.2.length = 256) → ∀ p ∈ Ja1 ps l, p.length = 256 := by
 refine Je2 (fun _ => h) fun q x ih hq => ?_;rw [Jfe];have h1 := ih fun y hy => hq y (List.mem_append_left _ hy);have h2 := hq x (by simp);exact Jf6 h1 (Jdj _ _ _ h2.2 (Jb6 h1 (by rw [Jca]; exact h2.1)) 4 (Nat.le_refl _))
def dC (D : DV) (pg mb : Nat) (qv : Value) : List Value :=
  [.int .i64 D.reads, .int .i64 D.writes, .int .i64 D.syncs, .int .i64 (D.q.length : Int), .slice (some ⟨pg, 0, none⟩) D.pages.length D.pages.length, qv, .map (some mb), .int .i64 D.armed, .bool D.dead, .int .i64 D.epoch]
structure DiskAt (P : Program) (TD TP TW k e : TypeId) (w : World) (D : DV) (p pg mb : Nat) (qv : Value) : Prop where
  ok : DOk D
  blk : w.heap[p]? = some (.cells (dC D pg mb qv).toArray TD (0, 0))
  pgs : w.heap[pg]? = some (.cells (Jaw D.pages).toArray TP (0, 0))
  que : w.ownsRow 0 TW 257 qv D.q.length (qC D.q)
  map : Jiz P k e w mb D.q
  dist : (p :: pg :: mb :: obs qv).Nodup
section
variable {P : Program} {TD TP TW k e : TypeId} {w w' : World} {D : DV} {p pg mb : Nat} {qv : Value}
end
abbrev mapq (b : Nat) (q : List Wr) : Asn := Jjf Tryz.prog 3 3 b q
def Jy8 (D : DV) (p pg mb : Nat) (qv : Value) : List Asn := [blk p 127 (dC D pg mb qv), blk pg 135 (Jaw D.pages), lst 150 257 qv D.q.length (qC D.q), mapq mb D.q]
def disk (D : DV) (p pg mb : Nat) (qv : Value) : Asn := star (DOk D) (Jy8 D p pg mb qv)
section
variable {w0 w : World} {F : List Nat} {R : List Asn} {D : DV} {p pg mb : Nat} {qv : Value}
theorem Jal (h : Mem w0 F w (disk D p pg mb qv :: R)) : DOk D ∧ Mem w0 F w (blk p 127 (dC D pg mb qv) :: blk pg 135 (Jaw D.pages) :: lst 150 257 qv D.q.length (qC D.q) :: mapq mb D.q :: R) := h.open
theorem Jac (hD : DOk D) (h : Mem w0 F w (blk p 127 (dC D pg mb qv) :: blk pg 135 (Jaw D.pages) :: lst 150 257 qv D.q.length (qC D.q) :: mapq mb D.q :: R)) : Mem w0 F w (disk D p pg mb qv :: R) := Mem.close (X := Jy8 D p pg mb qv) hD h
end
theorem Jcn {t n : Nat} (l : List Value) (hl : l.length = n) (h : (Tryz.prog.info? t).map (·.size) = some n) : Box ((Tryz.prog.info? t).map (·.size) = some l.length) := ⟨by rw [hl]; exact h⟩
theorem Jes (l : List UInt8) (h : l.length = 256) : Box ((Tryz.prog.info? 135).map (·.size) = some (bvs l).length) := Jcn _ (by rw [Jam, h]) (by kernel_rfl)
theorem Jn4 : ∀ w : World, (zeroValue 135).run Tryz.prog w = .ok (.agg (bvs Jaz).toArray) w := fun w => by kernel_rfl
theorem Jd7 : Jgc Tryz.prog 22 5 1 1 := Jd8 (by kernel_rfl)
theorem Js0 : Jgc Tryz.prog 124 150 257 264 := Jd8 (by kernel_rfl)
theorem Jy9 : Jgc Tryz.prog 123 135 256 256 := Jd8 (by kernel_rfl)
theorem Jb7 : Jaz.length = 256 := List.length_replicate
theorem Jk8 {D : DV} (hD : DOk D) {n : Nat} (hn : n < D.pages.length) : ((Jaw D.pages).drop (256 * n)).take (bvs (D.pg n)).length = bvs (D.pg n) := by
 have hg : D.pages[n]? = some (D.pg n) := by
   unfold DV.pg;rw [List.getD_eq_getElem?_getD, List.getElem?_eq_getElem hn]; rfl
 have hl : (bvs (D.pg n)).length = 256 := by rw [Jam]; exact Jb6 hD.len hn
 rw [hl];exact Jh6 bvs 256 D.pages n (D.pg n) (fun y hy => by rw [Jam]; exact hD.len y hy) hg
theorem Js1 {q : List Wr} (hq : ∀ x ∈ q, x.2.length = 256) {i : Nat} {x : Wr} (hi : q[i]? = some x) : ((qC q).drop (257 * i + 1)).take (bvs x.2).length = bvs x.2 := by
 have h := Jh6 wC 257 q i x (fun y hy => by simp [wC, hq y hy]) hi;have hl : (bvs x.2).length = 256 := by rw [Jam]; exact hq x (List.mem_of_getElem? hi)
 rw [hl, ← List.drop_drop];have h2 := congrArg (List.drop 1) h;rw [List.drop_take] at h2;exact h2
end Go.Proofs.YtodhlfinbbajfaaGreatDoor
