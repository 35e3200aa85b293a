/- Texts joined: Base. -/
import Derived.WalkKit
import Derived.Deep.QuietTactic
import Derived.BigQuiet
import Derived.Lib.Hide
import Derived.Laws.CopyOwn
import Derived.Deep.RegionLaw
import Derived.WalkLawsBesides
import Derived.Deep.MidRow
import Derived.Deep.DeepCutAuto
import Derived.Deep.WholeRow
import Derived.StillTailTactics
import Derived.ChangeKeysEq
import Derived.Laws.AppendOwnNone
/- Plain words on byte rows in a world: no program in sight. -/
namespace Go.Proofs.YtopdhanbmnfeeaaDoor
set_option linter.unusedSectionVars false
set_option linter.unusedSimpArgs false
set_option linter.unusedVariables false
open Go Go.RowKit
theorem zq1 {α : Type} {xs : List α} {i : Nat} {a : α} : xs.toArray.setIfInBounds i a = (xs.set i a).toArray := List.setIfInBounds_toArray _ _ _
theorem zq2 {α : Type} {a b : α} {xs : List α} : (a :: xs).set 0 b = b :: xs := rfl
theorem zq3 {α : Type} {a b : α} {xs : List α} {i : Nat} : (a :: xs).set (i + 1) b = a :: xs.set i b := rfl
structure Box (p : Prop) : Prop where
  out : p
def bv (b : UInt8) : Value := .int .u8 (b.toNat : Int)
def bvs (l : List UInt8) : List Value := l.map bv
@[simp] theorem length_bvs (l : List UInt8) : (bvs l).length = l.length := by simp [bvs]
theorem bvs_append (l m : List UInt8) : bvs (l ++ m) = bvs l ++ bvs m := by simp [bvs]
theorem bvs_getElem? (l : List UInt8) (i : Nat) : (bvs l)[i]? = l[i]?.map bv := by simp [bvs]
theorem bvs_oneCell (l : List UInt8) : ∀ u ∈ bvs l, u.oneCell' = true := by
  intro u hu; obtain ⟨b, _, rfl⟩ := List.mem_map.1 hu; rfl
def eqB (l m : List UInt8) : Bool := decide (l = m)
def Row (w : World) (ao : Option Addr) (n : Nat) (l : List UInt8) : Prop :=
  l.length = n ∧ ∀ i, (h : i < l.length) → ∃ b o, ao = some ⟨b, o, none⟩ ∧ w.cell? ⟨b, o + i, none⟩ = some (.int .u8 (l[i].toNat : Int))
theorem Row.len {w : World} {ao : Option Addr} {n : Nat} {l : List UInt8} (h : Row w ao n l) : l.length = n := h.1
theorem Row.at0 {w : World} {ao : Option Addr} {n : Nat} {l : List UInt8} (h : Row w ao n l) (hn : 0 < n) : ∃ b o, ao = some ⟨b, o, none⟩ := by
  obtain ⟨hl, hc⟩ := h
  obtain ⟨b, o, e, _⟩ := hc 0 (by omega)
  exact ⟨b, o, e⟩
theorem Row.cell {w : World} {b o n : Nat} {l : List UInt8} (h : Row w (some ⟨b, o, none⟩) n l) (i : Nat) (hi : i < l.length) :
    w.cell? ⟨b, o + i, none⟩ = some (.int .u8 (l[i].toNat : Int)) := by
  obtain ⟨b', o', e, hc⟩ := h.2 i hi
  cases e; exact hc
theorem Row.nil {w : World} {ao : Option Addr} : Row w ao 0 [] := ⟨rfl, fun i h => absurd h (by simp)⟩
theorem Row.news {w : World} {ao : Option Addr} {n : Nat} {l : List UInt8} (h : Row w ao n l) : ∀ ad, ao = some ad → ∀ j u, (bvs l)[j]? = some u → w.cell? (ad.add j) = some u := by
  intro ad he j u hu
  rw [bvs_getElem?] at hu
  obtain ⟨b, hb, rfl⟩ := Option.map_eq_some_iff.1 hu
  obtain ⟨hj, rfl⟩ := List.getElem?_eq_some_iff.1 hb
  obtain ⟨b', o', e, hc⟩ := h.2 j hj
  rw [he] at e; cases e
  rw [show ((⟨b', o', none⟩ : Addr).add j) = ⟨b', o' + j, none⟩ by unfold Addr.add; split <;> simp_all]
  exact hc
theorem Row.kept {w w' : World} {ao : Option Addr} {n : Nat} {l : List UInt8} (h : Row w ao n l) (hk : ∀ b o, ao = some ⟨b, o, none⟩ → w'.heap[b]? = w.heap[b]?) : Row w' ao n l :=
  ⟨h.1, fun i hi => by
    obtain ⟨b, o, e, hc⟩ := h.2 i hi
    exact ⟨b, o, e, (World.cell?_of_block (w := w) (w' := w') (a := ⟨b, o + i, none⟩) (hk b o e)).trans hc⟩⟩
theorem Row.grown {w w' : World} {b o n : Nat} {l : List UInt8} {row : Option Nat} (h : Row w (some ⟨b, o, none⟩) n l) (hg : w.grownBy w' row) (hb : b < w.heap.size) (hne : row ≠ some b) : Row w' (some ⟨b, o, none⟩) n l :=
  h.kept fun b' o' e => by cases e; exact hg.block b hb (fun h => hne h.symm)
theorem Row.take {w : World} {ao : Option Addr} {n : Nat} {l : List UInt8} (h : Row w ao n l) (k : Nat) (hk : k ≤ n) : Row w ao k (l.take k) :=
  ⟨by rw [List.length_take, h.1]; omega, fun i hi => by
    rw [List.length_take] at hi
    obtain ⟨b, o, e, hc⟩ := h.2 i (by omega)
    exact ⟨b, o, e, by rw [List.getElem_take]; exact hc⟩⟩
theorem Row.drop {w : World} {b o n : Nat} {l : List UInt8} (h : Row w (some ⟨b, o, none⟩) n l) (k : Nat) (_hk : k ≤ n) : Row w (some ⟨b, o + k, none⟩) (n - k) (l.drop k) :=
  ⟨by rw [List.length_drop, h.1], fun i hi => by
    rw [List.length_drop] at hi
    have hc := h.cell (k + i) (by omega)
    exact ⟨b, o + k, rfl, by rw [List.getElem_drop, show o + k + i = o + (k + i) by omega]; exact hc⟩⟩
theorem Row.grownAny {w w' : World} {ao : Option Addr} {n : Nat} {l : List UInt8} {row : Option Nat} (h : Row w ao n l) (hg : w.grownBy w' row) (hne : ∀ b o, ao = some ⟨b, o, none⟩ → row ≠ some b) : Row w' ao n l :=
  ⟨h.1, fun i hi => by
    obtain ⟨b, o, e, hc⟩ := h.2 i hi
    exact ⟨b, o, e, (World.cell?_of_block (w := w) (w' := w') (a := ⟨b, o + i, none⟩) (hg.block b (block_lt_of_cell hc) (fun x => hne b o e x.symm))).trans hc⟩⟩
theorem Row.lt {w : World} {b o n : Nat} {l : List UInt8} (h : Row w (some ⟨b, o, none⟩) n l) (hn : 0 < n) : b < w.heap.size := by
  have := h.cell 0 (by have := h.1; omega)
  exact block_lt_of_cell this
theorem Row.below {w w' : World} {ao : Option Addr} {n B : Nat} {l : List UInt8} (h : Row w ao n l) (hb : Below B w w') (hB : ∀ b o, ao = some ⟨b, o, none⟩ → b < B) : Row w' ao n l :=
  h.kept fun b o e => hb.block b (hB b o e)
theorem Row.old {w w' : World} {ao : Option Addr} {n : Nat} {l : List UInt8} (h : Row w ao n l) (hb : Below w.heap.size w w') : Row w' ao n l := by
  refine ⟨h.1, fun i hi => ?_⟩
  obtain ⟨b, o, e, hc⟩ := h.2 i hi
  have := block_lt_of_cell hc
  exact ⟨b, o, e, (hb.cell (p := ⟨b, o + i, none⟩) this).trans hc⟩
def ByteTy (P : Program) (t e : TypeId) : Prop :=
  ∃ i, P.underlying t = some (.slice e) ∧ P.info? e = some i ∧ i.zero = some (.int .u8 0) ∧ i.size = 1 ∧ i.bytes = 1
def Own (w : World) (base : Nat) (e : TypeId) (v : Value) (l : List UInt8) : Prop := w.ownsRow base e 1 v l.length (bvs l)
theorem Own.kept {w w' : World} {base : Nat} {e : TypeId} {v : Value} {l : List UInt8} {row : Option Nat} (h : Own w base e v l) (hg : w.grownBy w' row) (hne : v.ownBlock = none ∨ v.ownBlock ≠ row) : Own w' base e v l :=
  World.ownsRow.kept h hg hne
theorem Own.open {w : World} {base : Nat} {e : TypeId} {v : Value} {l : List UInt8} (h : Own w base e v l) :
    ∃ ao cap, v = .slice ao l.length cap ∧ Row w ao l.length l ∧ cap ≤ maxLen ∧ l.length ≤ cap ∧ (∀ b o, ao = some ⟨b, o, none⟩ → base ≤ b ∧ b < w.heap.size) := by
  obtain ⟨hl, ⟨rfl, hn⟩ | ⟨g, cap, cur, rfl, hb, hg, hc, hm, hs, ht⟩⟩ := h
  · obtain rfl : l = [] := List.length_eq_zero_iff.1 hn
    exact ⟨none, 0, rfl, Row.nil, Nat.zero_le _, Nat.le_refl _, fun _ _ e => by cases e⟩
  · have hlt : g < w.heap.size := by
      rcases Nat.lt_or_ge g w.heap.size with h | h
      · exact h
      · simp [Array.getElem?_eq_none h] at hg
    refine ⟨some ⟨g, 0, none⟩, cap, rfl, ⟨rfl, fun i hi => ⟨g, 0, rfl, ?_⟩⟩, hm, hc, fun b o e => by cases e; exact ⟨hb, hlt⟩⟩
    have h1 : (bvs l)[i]? = some (bv l[i]) := by rw [bvs_getElem?, List.getElem?_eq_getElem hi]; rfl
    rw [← ht, List.getElem?_take] at h1
    split at h1
    · rw [cell_of_row w g (0 + i) cur e (0, 0) hg, Nat.zero_add, ← Array.getElem?_toList]; exact h1
    · cases h1
theorem Own.alloc {w : World} {base : Nat} {e : TypeId} {v : Value} {l : List UInt8} (h : Own w base e v l) (o : Obj) : Own (w.alloc o) base e v l := World.ownsRow.alloc h o
theorem Row.of_block {w : World} {b off : Nat} {C : Array Value} {e : TypeId} {fr : Nat × Nat} {l : List UInt8} (hg : w.heap[b]? = some (.cells C e fr)) (hC : (C.toList.drop off).take l.length = bvs l) :
    Row w (some ⟨b, off, none⟩) l.length l := by
  refine ⟨rfl, fun i hi => ⟨b, off, rfl, ?_⟩⟩
  rw [cell_of_row w b (off + i) C e fr hg, ← Array.getElem?_toList]
  have h1 : (bvs l)[i]? = some (bv l[i]) := by rw [bvs_getElem?, List.getElem?_eq_getElem hi]; rfl
  rw [← hC, List.getElem?_take, if_pos hi, List.getElem?_drop] at h1
  exact h1
theorem Row.of_row {w : World} {b : Nat} {e : TypeId} {fr : Nat × Nat} {l : List UInt8} (hg : w.heap[b]? = some (.cells (bvs l).toArray e fr)) : Row w (some ⟨b, 0, none⟩) l.length l :=
  Row.of_block hg (by rw [List.drop_zero, List.take_of_length_le (by simp)])
theorem Row.lit (w : World) (C : Array Value) (e : TypeId) (l : List UInt8) (hC : C.toList = bvs l) : Row (w.alloc (.cells C e)) (some ⟨w.heap.size, 0, none⟩) l.length l :=
  Row.of_block (C := C) (e := e) (fr := (0, 0)) (heap_alloc_new w _) (by rw [List.drop_zero, hC, List.take_of_length_le (by simp)])
theorem Below.refl_alloc (w : World) (o : Obj) : Below w.heap.size w (w.alloc o) := (Below.refl _ w).alloc (Nat.le_refl _) o
theorem grownBy_setRow (w : World) (g : Nat) (cs : Array Value) : w.grownBy (w.setRow g cs) (some g) :=
  ⟨rfl, rfl, rfl, Nat.le_of_eq (by simp), fun k _ hk => by
    have hne : g ≠ k := fun h => hk (by rw [h])
    show (w.heap.modify g _)[k]? = _
    rw [Array.getElem?_modify, if_neg hne]⟩
theorem bvs_all (l : List UInt8) : (bvs l).toArray.all (·.oneCell') = true := by
  rw [Array.all_eq_true_iff_forall_mem]; intro v hv; exact bvs_oneCell l v (by simpa using hv)
theorem heap_lt {w : World} {g : Nat} {o : Obj} (h : w.heap[g]? = some o) : g < w.heap.size := by
  rcases Nat.lt_or_ge g w.heap.size with h' | h'
  · exact h'
  · simp [Array.getElem?_eq_none h'] at h
theorem wp_anyWorld {P : Program} {c : Code} {Q : Exit → Act → World → Prop} {a : Act} {w : World} (R : World → Prop) (h : R w) (k : ∀ W, R W → c.wp P Q a W) : c.wp P Q a w := k w h
theorem heap_new {w : World} {o : Obj} {n : Nat} (h : n = w.heap.size) : (w.alloc o).heap[n]? = some o := by subst h; exact heap_alloc_new w o
theorem heap_old {w : World} {o o' : Obj} {n : Nat} (h : w.heap[n]? = some o') : (w.alloc o).heap[n]? = some o' := (Below.heap_alloc w o n (heap_lt h)).trans h
theorem Own.row {w : World} {base g n cap : Nat} {e : TypeId} {l : List UInt8} (h : Own w base e (.slice (some ⟨g, 0, none⟩) n cap) l) :
    Row w (some ⟨g, 0, none⟩) n l ∧ base ≤ g ∧ g < w.heap.size ∧ n ≤ cap ∧ cap ≤ maxLen := by
  obtain ⟨ao, cap', hv, hr, hm, hc, hb⟩ := h.open
  cases hv
  exact ⟨hr, (hb g 0 rfl).1, (hb g 0 rfl).2, hc, hm⟩
theorem Own.below {w w' : World} {base : Nat} {e : TypeId} {v : Value} {l : List UInt8} {B : Nat} (h : Own w base e v l) (hb : Below B w w') (hB : ∀ g, v.ownBlock = some g → g < B) : Own w' base e v l := by
  obtain ⟨hl, h⟩ := h
  refine ⟨hl, ?_⟩
  rcases h with ⟨rfl, hn⟩ | ⟨g, cap, cur, rfl, h1, h2, h3⟩
  · exact .inl ⟨rfl, hn⟩
  · exact .inr ⟨g, cap, cur, rfl, h1, (hb.block g (hB g rfl)).trans h2, h3⟩
def D32 : Type := { l : List UInt8 // l.length = 32 }
instance : DecidableEq D32 := fun a b => if h : a.1 = b.1 then isTrue (Subtype.ext h) else isFalse fun e => h (congrArg Subtype.val e)
def zero32 : D32 := ⟨List.replicate 32 0, by simp⟩
theorem eqItems_bytes {P : Program} {e : TypeId} (he : P.underlying e = some (.int .u8)) (hc : P.cellsOf e = 1) (d : Nat) (l m : List UInt8) (w : World) : ∀ is : List Nat, (∀ i ∈ is, i < l.length ∧ i < m.length) →
    (Op.eqItems (d + 1) e (P.cellsOf e) (bvs l).toArray (bvs m).toArray is).run P w = .ok (is.all fun i => decide (l[i]? = m[i]?)) w
  | [], _ => by simp [Op.eqItems]
  | i :: is, h => by
    obtain ⟨hl, hm⟩ := h i (List.mem_cons_self ..)
    have hp : P.plainKey e = true := by unfold Program.plainKey; rw [he]
    have p1 : (part e (bvs l).toArray (i * P.cellsOf e)).run P w = .ok (bv l[i]) w := run_part_plain w hp (by rw [hc, Nat.mul_one]; simp [bvs, hl])
    have p2 : (part e (bvs m).toArray (i * P.cellsOf e)).run P w = .ok (bv m[i]) w := run_part_plain w hp (by rw [hc, Nat.mul_one]; simp [bvs, hm])
    have p3 : (Op.equalIn (d + 1) e (bv l[i]) (bv m[i])).run P w = .ok (((l[i]).toNat : Int) == ((m[i]).toNat : Int)) w := run_equalIn_int w d e .u8 .u8 _ _ he
    have ih := eqItems_bytes he hc d l m w is fun j hj => h j (List.mem_cons_of_mem _ hj)
    simp only [Op.eqItems, Sem.run_bind, p1, p2, p3, Result.andThen_ok, List.all_cons, List.getElem?_eq_getElem hl, List.getElem?_eq_getElem hm, Option.some.injEq]
    by_cases hq : l[i] = m[i]
    · simp [hq, ih]
    · have : (((l[i]).toNat : Int) == ((m[i]).toNat : Int)) = false := by
        rw [beq_eq_false_iff_ne]; intro h'; exact hq (UInt8.toNat_inj.1 (by omega))
      simp [hq, this]
def Digs (w : World) (ao : Option Addr) (n : Nat) (ds : List D32) : Prop :=
  ds.length = n ∧ ∀ i, (h : i < ds.length) → ∃ b o, ao = some ⟨b, o, none⟩ ∧ w.rangeAt b (o + 32 * i) (bvs (ds[i]).1)
theorem Digs.at0 {w : World} {ao : Option Addr} {n : Nat} {ds : List D32} (h : Digs w ao n ds) (hn : 0 < n) : ∃ b o, ao = some ⟨b, o, none⟩ := by
  obtain ⟨hl, hc⟩ := h
  obtain ⟨b, o, e, _⟩ := hc 0 (by omega)
  exact ⟨b, o, e⟩
theorem Digs.range {w : World} {b o n : Nat} {ds : List D32} (h : Digs w (some ⟨b, o, none⟩) n ds) (i : Nat) (hi : i < ds.length) : w.rangeAt b (o + 32 * i) (bvs (ds[i]).1) := by
  obtain ⟨b', o', e, hc⟩ := h.2 i hi
  cases e; exact hc
theorem Digs.lt {w : World} {b o n : Nat} {ds : List D32} (h : Digs w (some ⟨b, o, none⟩) n ds) (hn : 0 < n) : b < w.heap.size := by
  have hr := h.range 0 (by have := h.1; omega)
  have hd := (ds[0]'(by have := h.1; omega)).2
  have := hr 0 (bv ((ds[0]'(by have := h.1; omega)).1[0]'(by omega))) (by rw [bvs_getElem?, List.getElem?_eq_getElem (by omega)]; rfl)
  exact block_lt_of_cell this
structure WB (w : World) where
  W : World
  h : Below w.heap.size w W
def WB.next {w : World} (x : WB w) {w' : World} (hb : Below x.W.heap.size x.W w') : WB w := ⟨w', x.h.trans (hb.mono x.h.size)⟩
def WB.start (w : World) : WB w := ⟨w.drew, (Below.refl _ w).drew⟩
instance (w : World) : Nonempty (WB w) := ⟨WB.start w⟩
section laws
variable {P : Program} {t e : TypeId}
theorem wpList_make_bytes (hT : ByteTy P t e) (w : World) {ops : Array Oper} {rest : List Oper} {o : Oper} {a : Act} {Q : Exit → Act → World → Prop}
    (hg : o.guard = none) (l c : Operand) (hop : o.op = Op.makeSlice t l c) (base : Nat) (kl kc : IntKind) (C : Int) (n : Nat)
    (hl : a.eval l = .int kl 0) (hc : a.eval c = .int kc C) (hC : C = (n : Int)) (b2 : n ≤ 281474976710656) (b4 : base ≤ w.heap.size)
    (hK : ∀ w', Own w' base e (.slice (some ⟨w.heap.size, 0, none⟩) 0 n) [] → w.grownBy w' none → w.heap.size < w'.heap.size → wpList P ops Q rest (a.put o.dst (.slice (some ⟨w.heap.size, 0, none⟩) 0 n)) w') :
    wpList P ops Q (o :: rest) a w := by
  obtain ⟨i, h1, h2, h3, h4, h5⟩ := hT
  exact wpList_make_own w hg l c t hop base e i (.int .u8 0) 1 h1 h2 h3 h4 kl kc C n hl hc hC (by rw [h5]; omega) (by unfold maxLen; omega) b4
    fun w' hown hgr => hK w' hown hgr (hown.lt w.heap.size rfl).2
theorem wpList_append_room (hT : ByteTy P t e) (w : World) {ops : Array Oper} {rest : List Oper} {o : Oper} {a : Act} {Q : Exit → Act → World → Prop}
    (hg : o.guard = none) (s x : Operand) (hop : o.op = Op.call { callee := Callee.builtin Builtin.append, args := #[s, x], argTypes := #[t, t] })
    (base g k cap : Nat) (l : List UInt8) (hs : a.eval s = .slice (some ⟨g, 0, none⟩) k cap) (hk : l.length = k) (hown : Own w base e (.slice (some ⟨g, 0, none⟩) k cap) l)
    (ao : Option Addr) (m c : Nat) (l2 : List UInt8) (hx : a.eval x = .slice ao m c) (hnone : ao = none → m = 0 ∧ c = 0) (hrow : Row w ao m l2) (b1 : k + m ≤ cap)
    (hK : ∀ w', Own w' base e (.slice (some ⟨g, 0, none⟩) (k + m) cap) (l ++ l2) → w.grownBy w' (some g) → wpList P ops Q rest (a.put o.dst (.slice (some ⟨g, 0, none⟩) (k + m) cap)) w') :
    wpList P ops Q (o :: rest) a w := by
  obtain ⟨i, h1, h2, h3, h4, h5⟩ := hT
  subst hk
  have hm := hrow.1
  subst hm
  refine wpList_append_fits_any w hg s x t hop base e i 1 h1 h2 h4 g l.length cap (bvs l) hs hown ao l2.length c (bvs l2) hx (by simp) hnone hrow.news (bvs_oneCell _) b1 fun w' h6 h7 => hK w' ?_ h7
  unfold Own
  rw [List.length_append, bvs_append]; exact h6
theorem wpList_copy_bytes {ops : Array Oper} {rest : List Oper} {o : Oper} {a : Act} {w : World} {Q : Exit → Act → World → Prop} (hgd : o.guard = none) (d s : Operand) (dT sT : TypeId)
    (ho : o.op = .call { callee := .builtin .copy, args := #[d, s], argTypes := #[dT, sT] }) (hu : P.underlying dT = some (.slice e)) (hsz : (P.info? e).map (·.size) = some 1)
    (dp sp : Option Addr) (dLen dCap sLen sCap : Nat) (hd : a.eval d = .slice dp dLen dCap) (hs : a.eval s = .slice sp sLen sCap)
    (g off : Nat) (cur : List Value) (et : TypeId) (hg : w.heap[g]? = some (.cells cur.toArray et (0, 0))) (l : List UInt8) (hn : l.length = Nat.min sLen dLen)
    (hpos : 0 < l.length → dp = some ⟨g, off, none⟩) (hrow : Row w sp l.length l)
    (hfit : off + l.length ≤ cur.length)
    (h : ∀ w', Hid (w'.heap[g]? = some (.cells (splice cur off (bvs l)).toArray et (0, 0))) → w.grownBy w' (some g) → wpList P ops Q rest (a.put o.dst (goInt l.length)) w') : wpList P ops Q (o :: rest) a w := by
  refine wpList_plain hgd fun K hK => ?_
  by_cases h0 : l.length = 0
  · obtain rfl : l = [] := List.eq_nil_of_length_eq_zero h0
    have hrun := run_copy_none (P := P) w dT sT o.type e dp sp dLen dCap sLen sCap hu hsz (by simpa using hn.symm)
    unfold Oper.wp
    simp [execOp, ho, resolve, invoke, builtin, hd, hs, hrun, Result.andThen]
    exact hK _ _ (h w (show _ = _ by simpa [splice, bvs] using hg) (World.grownBy.refl _ _))
  · obtain rfl := hpos (by omega)
    obtain ⟨b', o', e'⟩ := hrow.at0 (by omega)
    subst e'
    have hrun := run_copy_row (P := P) w dT sT o.type e g off dLen dCap ⟨b', o', none⟩ sLen sCap cur.toArray et (bvs l) hu hsz hg (by simpa using hn) (hrow.news _ rfl) (by simpa using hfit) (bvs_oneCell l)
    unfold Oper.wp
    simp [execOp, ho, resolve, invoke, builtin, hd, hs, hrun, Result.andThen]
    exact hK _ _ (h _ (show _ = _ by simpa [splice] using setRow_heap w g _ _ et _ hg) (grownBy_setRow w g _))
theorem wpList_store_row {ops : Array Oper} {rest : List Oper} {op : Oper} {a : Act} {w : World} {Q : Exit → Act → World → Prop} (hgd : op.guard = none) (ty : TypeId) (x y : Operand) (ho : op.op = .store ty x y)
    (g : Nat) (old cells : Array Value) (et : TypeId) (hx : a.eval x = .pointer (some ⟨g, 0, none⟩)) (hy : a.eval y = .agg cells) (hg : w.heap[g]? = some (.cells old et (0, 0))) (hs : old.size = cells.size)
    (hi : (P.info? ty).map (·.size) = some cells.size) (h1 : cells.all (·.oneCell') = true)
    (h : ∀ w', Hid (w'.heap[g]? = some (.cells cells et (0, 0))) → w.grownBy w' (some g) → wpList P ops Q rest (a.put op.dst undef) w') : wpList P ops Q (op :: rest) a w := by
  refine wpList_plain hgd fun _ hK => ?_
  unfold Oper.wp execOp
  simp only [ho, hx, hy, Instr.storeAt, Instr.sureAddr, Sem.run_bind, Sem.run_pure, Result.andThen_ok, run_storeVar_row (P := P) w g et ty old cells hg hi hs h1]
  exact hK _ _ (h _ (setRow_heap w g old cells et (0, 0) hg) (grownBy_setRow w g cells))
theorem wpList_store_int {ops : Array Oper} {rest : List Oper} {op : Oper} {a : Act} {w : World} {Q : Exit → Act → World → Prop} (hgd : op.guard = none) (ty : TypeId) (x y : Operand) (ho : op.op = .store ty x y)
    (p : Addr) (v : Value) (hx : a.eval x = .pointer (some p)) (hy : a.eval y = v) (hv : ∃ k n, v = .int k n) (hs : (P.info? ty).map (·.size) = some 1) (hc : ∃ u, w.cell? p = some u) (hf : w.frozen? p = false)
    (h : wpList P ops Q rest (a.put op.dst undef) (w.setCell p v)) : wpList P ops Q (op :: rest) a w := by
  refine wpList_plain hgd fun _ hK => ?_
  obtain ⟨k, n, rfl⟩ := hv
  obtain ⟨u, hc⟩ := hc
  cases hq : P.info? ty with
  | none => simp [hq] at hs
  | some i =>
    have hs' : i.size = 1 := by simpa [hq] using hs
    unfold Oper.wp execOp
    simp only [ho, hx, hy, Instr.storeAt, Instr.sureAddr, Sem.run_bind, Sem.run_pure, Result.andThen_ok]
    have : (storeVar ty p (.int k n)).run P w = .ok () (w.setCell p (.int k n)) := by
      simp [storeVar, sizeOf, typeInfo, hq, hs', Value.cells, storeCells, hc, hf, go_sem]
    rw [this]
    exact hK _ _ h
theorem wp_region_tail {id : Nat} {Q : Exit → Act → World → Prop} {a : Act} {w : World} {l : List Oper} (n : Nat) (hm : P.follows .mixedOrders = true) (hB : Region.lexTailB .any l.toArray n = true)
    (h : wpStill P l.toArray w.drew (fun a' => wpList P l.toArray Q (l.drop n) a' w.drew) (l.take n) a) : (Code.region id l.toArray true).wp P Q a w :=
  wp_region_still_tail n hm hB h
end laws
end Go.Proofs.YtopdhanbmnfeeaaDoor
