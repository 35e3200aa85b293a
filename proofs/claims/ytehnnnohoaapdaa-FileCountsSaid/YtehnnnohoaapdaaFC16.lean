/- Texts joined: OpenF, Zov, Law8, Law9. -/
import Derived.Test.YtehnnnohoaapdaaRows
import Derived.Test.YtehnnnohoaapdaaFC00
import Derived.Test.YtehnnnohoaapdaaFC15
import Derived.SizedLaws
import Derived.Test.YtehnnnohoaapdaaChecked
import Derived.Test.YtehnnnohoaapdaaFC03
import Derived.Test.YtehnnnohoaapdaaFC09
/- Reading acts and lists of lists that came in. -/
namespace Go.Proofs.Ytehnnnohoaapdaa
set_option linter.unusedSectionVars false
set_option linter.unusedSimpArgs false
open Go Go.RowKit Go.ChangeShapes Go.WideShapes Go.ChangeAt Go.Deep
set_option linter.unusedVariables false
def Sized {H : Type} (P : Program) (t : TypeId) (d : DataW H) : Prop := ∀ n ∈ d.weights P t, n ≤ reachBytes
section
variable {H : Type} {enc : TypeId × Value → H} {P : Program} {w : World} {base : Nat} {sp : Nat → Bool} {held : Bool} {t e : TypeId}
theorem sized_arg {ts : List TypeId} {ds : List (DataW H)} (h : (DataW.weightsEach P ts ds).all (· ≤ reachBytes) = true) {j : Nat} {d : DataW H} (ht : ts[j]? = some t) (hd : ds[j]? = some d) : Sized P t d := fun n hn => by
  have := List.all_eq_true.1 h _ (DataW.weights_mem_each ht hd n hn)
  simpa using this
theorem sized_part {fs : Array Field} {parts : List (DataW H)} (hu : P.underlying t = some (.struct fs)) (h : Sized P t (.agg parts)) {i : Nat} {f : Field} {d : DataW H} (hf : fs[i]? = some f) (hd : parts[i]? = some d) : Sized P f.type d := fun n hn => by
  refine h n ?_
  have : (DataW.agg parts).weights P t = DataW.weightsEach P (fs.toList.map (·.type)) parts := by simp [DataW.weights, hu]
  rw [this]
  exact DataW.weights_mem_each (j := i) (by simp [hf]) hd n hn
theorem weights_mem_all : ∀ {ds : List (DataW H)} {j : Nat} {d : DataW H}, ds[j]? = some d → ∀ n ∈ d.weights P e, n ∈ DataW.weightsAll P e ds
  | d0 :: ds, 0, d, hd, n, hn => by
    simp only [List.getElem?_cons_zero, Option.some.injEq] at hd
    subst hd
    simp only [DataW.weightsAll, List.mem_append]
    exact Or.inl hn
  | d0 :: ds, j + 1, d, hd, n, hn => by
    simp only [List.getElem?_cons_succ] at hd
    simp only [DataW.weightsAll, List.mem_append]
    exact Or.inr (weights_mem_all hd n hn)
  | [], _, _, hd, _, _ => by simp at hd
theorem sized_elem {es ss : List (DataW H)} (hu : P.underlying t = some (.slice e)) (h : Sized P t (.slice es ss)) {i : Nat} {d : DataW H} (hd : es[i]? = some d) : Sized P e d := fun n hn => by
  refine h n ?_
  simp only [DataW.weights, hu, List.mem_cons, List.mem_append]
  exact .inr (.inl (weights_mem_all hd n hn))
theorem sized_len {es ss : List (DataW H)} (hu : P.underlying t = some (.slice e)) (h : Sized P t (.slice es ss)) : (es.length + ss.length) * P.bytesOf e ≤ reachBytes :=
  h _ (by simp [DataW.weights, hu])
theorem chain_step {cs x : List Value} (o k : Nat) (h : (cs.drop o).take k = x) : cs.drop o = x ++ cs.drop (o + k) := by
  rw [← h, ← List.drop_drop, List.take_append_drop]
theorem trod_row {fuel : Nat} {cs : List Value} {x : DataW H × List MemPlace} (hsp : ∀ b, sp b = true) (ht : P.underlying t = some (.slice e)) (he : P.underlying e = some (.int .u8)) (hc : P.cellsOf e = 1) (hby : P.bytesOf e = 1)
    (h : DataW.trod enc P w base sp held fuel t cs = some x) :
    ∃ (ao : Option Addr) (n c : Nat) (l : List UInt8), cs = [.slice ao n c] ∧ InRow w ao n c l ∧ c ≤ maxLen ∧ (Sized P t x.1 → c ≤ 140737488351232) := by
  rcases open_ints ht he hc h with ⟨hcs, hx⟩ | ⟨a, len, cap, zs, hcs, _, hl, hm, hz, hx, hcell, hw⟩
  · exact ⟨none, 0, 0, [], hcs, ⟨Row.nil, fun _ => ⟨rfl, rfl⟩, Nat.le_refl _⟩, Nat.zero_le _, fun _ => by omega⟩
  · rw [hsp, if_pos rfl] at hz
    obtain ⟨l, hr⟩ := row_of_ints (len := len) (by omega) hcell hw
    refine ⟨some a, len, cap, l, hcs, ⟨hr, (fun h => by cases h), hl⟩, hm, fun hs => ?_⟩
    rw [hx] at hs
    have := sized_len ht hs
    rw [hby] at this
    simp only [lits, List.length_map, List.length_take, List.length_drop, reachBytes] at this
    omega
end
section
variable {H : Type} {enc : TypeId × Value → H} {P : Program} {w : World} {base : Nat} {sp : Nat → Bool} {held : Bool} {t e : TypeId}
def ListIn {α : Type} (cC : α → List Value) (k : Nat) (w : World) (ao : Option Addr) (n : Nat) (os : List α) : Prop :=
  os.length = n ∧ ∀ (i : Nat) (o : α), os[i]? = some o → ∃ b off, ao = some ⟨b, off, none⟩ ∧ w.rangeAt b (off + i * k) (cC o)
theorem open_list {α : Type} [Inhabited α] (cC : α → List Value) (k : Nat) (hk : ∀ o, (cC o).length = k) (hk0 : 0 < k) (ok : α → Prop) (ht : P.underlying t = some (.slice e)) (hct : P.cellsOf e = k) (hbt : 1 ≤ P.bytesOf e)
    (one : ∀ fuel cs x, DataW.trod enc P w base sp held fuel e cs = some x → Sized P e x.1 → ∃ o, cs = cC o ∧ ok o)
    {r : Reach} {b0 : Nat} {v : Value} {d : DataW H} {p : List MemPlace} (hv : Value.okWide P w r b0 t v) (h : DataW.Trod enc P w base sp held t v d p) (hs : Sized P t d) :
    ∃ (ao : Option Addr) (n c : Nat) (os : List α), v = .slice ao n c ∧ ListIn cC k w ao n os ∧ n ≤ 4611686018427387904 ∧ ∀ o ∈ os, ok o := by
  obtain ⟨a0, n, c, rfl⟩ := okWide_slice ht hv
  obtain ⟨fuel, hf⟩ := h
  rcases open_slice ht hf with ⟨hcs, hx⟩ | ⟨a, len, cap, m, f, D, Pl, hcs, _, hl, hm, hmm, hx, hel⟩
  · simp [Value.cells] at hcs
    obtain ⟨rfl, rfl, rfl⟩ := hcs
    exact ⟨none, 0, 0, [], rfl, ⟨rfl, fun i o h => by simp at h⟩, by omega, fun o ho => by cases ho⟩
  · simp [Value.cells] at hcs
    obtain ⟨rfl, rfl, rfl⟩ := hcs
    have hd : d = .slice ((List.range n).map D) ((List.range (m - n)).map fun j => D (n + j)) := (Prod.mk.inj hx).1
    rw [hd] at hs
    have hlen := sized_len ht hs
    have hn : n ≤ 4611686018427387904 := by
      simp only [List.length_map, List.length_range, reachBytes] at hlen
      have h1 : n * 1 ≤ (n + (m - n)) * P.bytesOf e := Nat.mul_le_mul (by omega) hbt
      omega
    have hnm : n ≤ m := by rw [hmm]; split <;> omega
    rw [hct] at hel
    have each : ∀ i, i < n → ∃ o : α, (∃ b off, a = ⟨b, off, none⟩ ∧ w.rangeAt b (off + i * k) (cC o)) ∧ ok o := by
      have one' : ∀ i, i < n → ∃ cs' : List Value, ∃ o : α, w.cells? base (a.add (i * k)) k = some cs' ∧ cs' = cC o ∧ ok o := fun i hi => by
        obtain ⟨cs', h1, h2⟩ := hel i (by omega)
        obtain ⟨o, h3, h4⟩ := one _ _ _ h2 (sized_elem (i := i) ht hs (by simp [hi]))
        exact ⟨cs', o, h1, h3, h4⟩
      intro i hi
      obtain ⟨cs', o, h1, rfl, h4⟩ := one' i hi
      obtain ⟨h3, hl', h5⟩ := World.cells?_some h1
      have hlo := hk o
      obtain ⟨b, off, s⟩ := a
      have hcell : ∀ j v, (cC o)[j]? = some v → w.cell? (((⟨b, off, s⟩ : Addr).add (i * k)).add j) = some v := by
        intro j v hv
        have := h5 j (by have := (List.getElem?_eq_some_iff.1 hv).1; omega)
        rw [this]; exact hv
      have hs0 : s = none := by
        obtain ⟨c0, o0, g1, rfl, _⟩ := one' 0 (by omega)
        have hl0 := hk o0
        obtain ⟨_, _, g5⟩ := World.cells?_some g1
        have := g5 0 (by omega)
        rw [List.getElem?_eq_getElem (by omega)] at this
        simpa [Addr.add] using World.cell?_spot this
      subst hs0
      refine ⟨o, ⟨b, off, rfl, fun j v hv => ?_⟩, h4⟩
      have := hcell j v hv
      rw [Addr.add_mid, Addr.add_mid] at this
      exact this
    obtain ⟨V, hV⟩ := choose_lt (α := α) (p := fun i o => (∃ b off, a = ⟨b, off, none⟩ ∧ w.rangeAt b (off + i * k) (cC o)) ∧ ok o) each
    refine ⟨some a, n, c, (List.range n).map V, rfl, ⟨by simp, fun i o hi => ?_⟩, hn, fun o ho => ?_⟩
    · obtain ⟨hi', rfl⟩ : i < n ∧ V i = o := by
        rw [List.getElem?_map] at hi
        rcases Nat.lt_or_ge i n with h | h
        · rw [List.getElem?_range h] at hi
          exact ⟨h, by simpa using hi⟩
        · rw [List.getElem?_eq_none (by simpa using h)] at hi; simp at hi
      obtain ⟨⟨b, o, rfl, hr⟩, _⟩ := hV i hi'
      exact ⟨b, o, rfl, hr⟩
    · obtain ⟨i, hi, rfl⟩ := List.mem_map.1 ho
      exact (hV i (by simpa using hi)).2
end
structure AV where
  k : Int
  n : Int
  ao : Option Addr
  m : Nat
  c : Nat
  l : List UInt8
deriving Inhabited
def actC (a : AV) : List Value := [.int .i64 a.k, .int .i64 a.n, .slice a.ao a.m a.c]
def ActIn (w : World) (a : AV) : Prop := Row w a.ao a.m a.l ∧ (a.ao = none → a.m = 0 ∧ a.c = 0) ∧ a.m ≤ a.c ∧ a.c ≤ 140737488351232
structure RV where
  ao : Option Addr
  m : Nat
  c : Nat
  l : List UInt8
deriving Inhabited
section
variable {H : Type} {enc : TypeId × Value → H} {w : World} {base : Nat} {sp : Nat → Bool} {held : Bool}
theorem field_of {fs : Array Field} {i t o : Nat} (h : (fs[i]?).map (fun f => (f.type, f.offset)) = some (t, o)) : ∃ f, fs[i]? = some f ∧ f.type = t ∧ f.offset = o := by
  cases hf : fs[i]? with
  | none => rw [hf] at h; cases h
  | some f => rw [hf] at h; simp only [Option.map_some, Option.some.injEq, Prod.mk.injEq] at h; exact ⟨f, rfl, h.1, h.2⟩
theorem trod_act {fuel : Nat} {cs : List Value} {x : DataW H × List MemPlace} (hsp : ∀ b, sp b = true) (h : DataW.trod enc Try.prog w base sp held fuel 50 cs = some x) (hs : Sized Try.prog 50 x.1) :
    ∃ (o : AV), cs = actC o ∧ ActIn w o := by
  have hu : Try.prog.underlying 50 = some (.struct (Try.prog.fieldsOf 50)) := by kernel_rfl
  obtain ⟨xs, n, _, hx, hlen, hxl, hf⟩ := DataW.trod_struct hu h
  have hfs : (Try.prog.fieldsOf 50).size = 3 := by kernel_rfl
  have hct : Try.prog.cellsOf 50 = 3 := by kernel_rfl
  rw [hfs] at hxl
  rw [hct] at hlen
  have ci : Try.prog.cellsOf 3 = 1 := by kernel_rfl
  have cb : Try.prog.cellsOf 22 = 1 := by kernel_rfl
  have c8 : Try.prog.cellsOf 5 = 1 := by kernel_rfl
  have by8 : Try.prog.bytesOf 5 = 1 := by kernel_rfl
  have get : ∀ (i t o : Nat), i < 3 → ((Try.prog.fieldsOf 50)[i]?).map (fun f => (f.type, f.offset)) = some (t, o) → ∃ y, DataW.trod enc Try.prog w base sp held n t ((cs.drop o).take (Try.prog.cellsOf t)) = some y ∧ Sized Try.prog t y.1 := fun i t o hi h => by
    obtain ⟨f, h1, rfl, rfl⟩ := field_of h
    have hy : xs[i]? = some (xs[i]'(by omega)) := List.getElem?_eq_getElem (by omega)
    refine ⟨_, (hf i f h1).trans hy, ?_⟩
    rw [hx] at hs
    exact sized_part hu hs h1 (by simp [hy])
  obtain ⟨y0, t0, _⟩ := get 0 3 0 (by omega) (by kernel_rfl)
  obtain ⟨y1, t1, _⟩ := get 1 3 1 (by omega) (by kernel_rfl)
  obtain ⟨y2, t2, s2⟩ := get 2 22 2 (by omega) (by kernel_rfl)
  rw [ci] at t0 t1
  rw [cb] at t2
  obtain ⟨a0, e0, _, w0⟩ := DataW.trod_int Try.underlying3 t0
  obtain ⟨a1, e1, _, w1⟩ := DataW.trod_int Try.underlying3 t1
  obtain ⟨ao, m, c, l, e7, hr, hm, hsv⟩ := trod_row hsp Try.underlying22 Try.underlying5 c8 by8 t2
  refine ⟨⟨a0, a1, ao, m, c, l⟩, ?_, ⟨hr.1, hr.2.1, hr.2.2, hsv s2⟩⟩
  have q0 := chain_step 0 1 e0
  rw [List.drop_zero] at q0
  rw [q0, chain_step (0 + 1) 1 e1, chain_step (0 + 1 + 1) 1 e7, List.drop_of_length_le (by omega)]
  simp [actC]
set_option maxRecDepth 100000 in
theorem open_acts {r : Reach} {b0 : Nat} {v : Value} {d : DataW H} {p : List MemPlace} (hsp : ∀ b, sp b = true) (hv : Value.okWide Try.prog w r b0 41 v) (h : DataW.Trod enc Try.prog w base sp held 41 v d p)
    (hs : Sized Try.prog 41 d) :
    ∃ (ao : Option Addr) (n c : Nat) (os : List AV), v = .slice ao n c ∧ ListIn actC 3 w ao n os ∧ n ≤ 4611686018427387904 ∧ ∀ o ∈ os, ActIn w o := by
  have hct : Try.prog.cellsOf 50 = 3 := by kernel_rfl
  have hbt : 1 ≤ Try.prog.bytesOf 50 := of_decide_eq_true (by kernel_rfl)
  exact open_list (H := H) (enc := enc) (P := Try.prog) (w := w) (base := base) (sp := sp) (held := held) (r := r) (b0 := b0) (v := v) (d := d) (p := p) (t := 41) (e := 50) actC 3 (fun _ => rfl) (by decide) (ActIn w) Try.underlying41 hct hbt (fun _ _ _ h1 h2 => trod_act hsp h1 h2) hv h hs
end
theorem Mem.range {w0 w : World} {F : List Nat} {L : List Asn} (h : Mem w0 F w L) {b o : Nat} {ys : List Value} (hr : w0.rangeAt b o ys) (hF : b ∉ F) : w.rangeAt b o ys := fun j v hj => by
  have h1 := hr j v hj
  exact (World.cell?_of_block (w := w0) (w' := w) (a := ⟨b, o + j, none⟩) (h.old (block_lt_of_cell h1) hF)).trans h1
theorem Mem.below {w w' : World} {L : List Asn} (h : Mem w [] w' L) : Below w.heap.size w w' := ⟨h.grew.os, h.grew.tape, h.grew.output, h.grew.size, fun k hk => h.grew.block k hk (by simp)⟩
end Go.Proofs.Ytehnnnohoaapdaa

/- The steps of a walk over a frame of slots with a list of what was written into it since: nothing is reckoned out but what is asked. No program in sight. -/
namespace Go.Proofs.Ytehnnnohoaapdaa
set_option linter.unusedSimpArgs false
open Go Go.RowKit
set_option linter.unusedVariables false
set_option linter.unusedSectionVars false
section
variable {P : Program} {ops : Array Oper} {S : World → Prop} {Q : Exit → Act → World → Prop} {os os' l : List Oper} {o : Oper} {a a' : Act} {e e' : List (Nat × Value)} {w w0 w1 w' : World} {F : List Nat} {L : List Asn} {x y : Operand} {t t' : TypeId} {k : IntKind} {m n : Int} {b : Bool}
def zovd (a : Act) : List (Nat × Value) → Act
  | [] => a
  | (j, v) :: e => (zovd a e).put (some j) v
theorem zov_ex : ∃ f : Act → List (Nat × Value) → Act, f = zovd := ⟨zovd, rfl⟩
noncomputable def zov : Act → List (Nat × Value) → Act := Classical.choose zov_ex
theorem zov_eq : zov = zovd := Classical.choose_spec zov_ex
theorem zov_nil : zov a [] = a := by rw [zov_eq]; rfl
theorem zov_cons {j : Nat} {v : Value} : zov a ((j, v) :: e) = (zov a e).put (some j) v := by rw [zov_eq]; rfl
def zpd (e : List (Nat × Value)) (d : Option Tmp) (v : Value) : List (Nat × Value) :=
  match d with
  | some j => (j, v) :: e
  | none => e
theorem put_zov (d : Option Tmp) (v : Value) : (zov a e).put d v = zov a (zpd e d v) := by
  cases d with
  | none => rfl
  | some j => exact zov_cons.symm
def zfi (xs : List Value) : List (Nat × Value) → Nat → Option Value
  | [], i => xs[i]?
  | (j, v) :: e, i => match Nat.beq j i with
    | true => match xs[i]? with
      | some _ => some v
      | none => none
    | false => zfi xs e i
theorem zov_size : ∀ e : List (Nat × Value), (zov a e).tmps.size = a.tmps.size
  | [] => by rw [zov_nil]
  | (j, v) :: e => by
    rw [zov_cons]
    show ((zov a e).tmps.setIfInBounds j v).size = _
    rw [Array.size_setIfInBounds]
    exact zov_size e
theorem zfi_get {v : Value} {i : Nat} : ∀ e : List (Nat × Value), zfi a.tmps.toList e i = some v → (zov a e).tmps[i]? = some v
  | [], h => by
    have h' : a.tmps.toList[i]? = some v := h
    rw [Array.getElem?_toList] at h'
    rw [zov_nil]
    exact h'
  | (j, u) :: e, h => by
    rw [zov_cons]
    show ((zov a e).tmps.setIfInBounds j u)[i]? = some v
    unfold zfi at h
    split at h
    · next hb =>
      split at h
      · next x hx =>
        cases h
        obtain rfl := Nat.eq_of_beq_eq_true hb
        rw [Array.getElem?_toList] at hx
        have hlt : j < (zov a e).tmps.size := by
          rw [zov_size]
          exact (Array.getElem?_eq_some_iff.1 hx).1
        rw [Array.getElem?_setIfInBounds, if_pos rfl, if_pos hlt]
      · cases h
    · next hb =>
      have hne : j ≠ i := fun hc => by rw [hc] at hb; rw [Nat.beq_refl] at hb; cases hb
      rw [Array.getElem?_setIfInBounds, if_neg hne]
      exact zfi_get e h
def zmg (xs : List Value) : List (Nat × Value) → List Value
  | [] => xs
  | (j, v) :: e => (zmg xs e).set j v
theorem zmk {xs l : List Value} {d : List Deferred} (h : zmg xs e = l) : zov ⟨xs.toArray, d⟩ e = ⟨l.toArray, d⟩ := by
  subst h
  induction e with
  | nil => rw [zov_nil]; rfl
  | cons q e ih =>
    obtain ⟨j, v⟩ := q
    rw [zov_cons, ih]
    show (⟨(zmg xs e).toArray.setIfInBounds j v, d⟩ : Act) = ⟨((zmg xs e).set j v).toArray, d⟩
    rw [List.setIfInBounds_toArray]
def zlk (a : Act) (e : List (Nat × Value)) : Operand → Option Value
  | .tmp i => zfi a.tmps.toList e i
  | .const v => some v
  | .global g => some (.pointer (some ⟨g, 0, none⟩))
  | .func f => some (.func (.func f) #[] #[])
theorem zev {v : Value} (h : zlk a e x = some v) : (zov a e).eval x = v := by
  cases x with
  | tmp i =>
    show (zov a e).tmps.getD i undef = v
    rw [Array.getD_eq_getD_getElem?, zfi_get e h]
    rfl
  | const u => exact Option.some.inj h
  | global g => exact Option.some.inj h
  | func f => exact Option.some.inj h
theorem zgd {v : Value} {i : Nat} (h : zfi a.tmps.toList e i = some v) : (zov a e).tmps.getD i undef = v := by
  rw [Array.getD_eq_getD_getElem?, zfi_get e h]
  rfl
theorem zdf : ∀ e : List (Nat × Value), (zov a e).defers = a.defers
  | [] => by rw [zov_nil]
  | (j, v) :: e => by
    rw [zov_cons]
    exact zdf e
def zwd (ops : Array Oper) (a : Act) (e : List (Nat × Value)) (o : Oper) : Option Bool :=
  match o.guard with
  | none => some true
  | some (j, want) => match (ops[j]?).bind (·.dst) with
    | some i => match zfi a.tmps.toList e i with
      | some (.bool b) => some (b == want)
      | some _ => some false
      | none => none
    | none => some false
theorem zwn {r : Bool} (h : zwd ops a e o = some r) : Region.wanted o (yielded ops (zov a e).tmps) = r := by
  unfold zwd at h
  rcases hg : o.guard with _ | ⟨j, want⟩
  · rw [hg] at h
    simp only [Region.wanted, hg]
    exact Option.some.inj h
  · rw [hg] at h
    simp only [Region.wanted, hg, yielded]
    rcases hd : (ops[j]?).bind (·.dst) with _ | i
    · simp only [hd] at h
      simp only [Option.bind_none]
      exact Option.some.inj h
    · simp only [hd] at h
      rcases hz : zfi a.tmps.toList e i with _ | v
      · rw [hz] at h; cases h
      · simp only [Option.bind_some, zfi_get e hz]
        rw [hz] at h
        cases v with
        | bool b => simp only at h; rw [← Option.some.inj h]; cases b <;> cases want <;> rfl
        | _ => exact Option.some.inj h
def zpv (a : Act) (e : List (Nat × Value)) (o : Oper) : Option Value :=
  match o.op with
  | .move x => zlk a e x
  | .assign x => zlk a e x
  | .pick c x y => match zlk a e c with
    | some (.bool true) => zlk a e x
    | some (.bool false) => zlk a e y
    | _ => none
  | .nilCheck x => match zlk a e x with
    | some (.pointer (some p)) => some (.pointer (some p))
    | _ => none
  | .unOp .not _ x => match zlk a e x with
    | some (.bool b) => some (.bool (!b))
    | _ => none
  | .extract x i => match zlk a e x with
    | some (.tuple vs) => vs.toList[i]?
    | _ => none
  | _ => none
theorem zpv_yields {v : Value} (hw : zwd ops a e o = some true) (h : zpv a e o = some v) : YieldsIf P ops S o v (zov a e) := by
  have hw := zwn hw
  unfold zpv at h
  split at h
  · next x ho => exact y_move hw ho (zev h)
  · next x ho => exact y_assign hw ho (zev h)
  · next c x y ho =>
    split at h
    · next hc => exact y_pickT hw ho (zev hc) (zev h)
    · next hc => exact y_pickF hw ho (zev hc) (zev h)
    · cases h
  · next x ho =>
    split at h
    · next p hx => cases h; exact y_nil hw ho (zev hx)
    · cases h
  · next ty x ho =>
    split at h
    · next b hx => cases h; exact y_not hw ho (zev hx) rfl
    · cases h
  · next x i ho =>
    split at h
    · next vs hx => exact y_ext hw ho (zev hx) (by rw [← Array.getElem?_toList]; exact h)
    · cases h
  · cases h
theorem zin {c : Code} (h : c.wp P Q (zov a []) w) : c.wp P Q a w := by
  rw [zov_nil] at h
  exact h
theorem zpu {d : Option Tmp} {v : Value} (h : wpList P ops Q os (zov a (zpd e d v)) w) : wpList P ops Q os ((zov a e).put d v) w := by
  rw [put_zov]
  exact h
theorem zo {v : Value} (M : Mem w0 F w L) (hy : YieldsIf P ops (fun W => Mem w0 F W L) o v (zov a e)) (h : wpList P ops Q os (zov a (zpd e o.dst v)) w) : wpList P ops Q (o :: os) (zov a e) w :=
  pl M hy (zpu h)
theorem zq {Q' : Act → Prop} {v : Value} (M : Mem w0 F w L) (hy : YieldsIf P ops (fun W => Mem w0 F W L) o v (zov a e)) (h : wpStill P ops w Q' os (zov a (zpd e o.dst v))) : wpStill P ops w Q' (o :: os) (zov a e) :=
  ps M hy (by rw [put_zov]; exact h)
def zst (ops : Array Oper) (a : Act) (e : List (Nat × Value)) (o : Oper) : Option (List (Nat × Value)) :=
  match zwd ops a e o with
  | some true => match zpv a e o with
    | some v => some (zpd e o.dst v)
    | none => none
  | some false => some (zpd e o.dst undef)
  | none => none
def zrun (ops : Array Oper) (a : Act) : Nat → List Oper → List (Nat × Value) → Option (List Oper × List (Nat × Value))
  | 0, os, e => some (os, e)
  | _ + 1, [], _ => none
  | i + 1, o :: os, e => match zst ops a e o with
    | some e' => zrun ops a i os e'
    | none => none
theorem zst_pl (h : zst ops a e o = some e') (hk : wpList P ops Q os (zov a e') w) : wpList P ops Q (o :: os) (zov a e) w := by
  unfold zst at h
  split at h
  · next hw =>
    split at h
    · next v hv => cases h; exact zo (Mem.nil w) (zpv_yields hw hv) hk
    · cases h
  · next hw => cases h; exact pskip (zwn hw) (zpu hk)
  · cases h
theorem zp (i : Nat) (h : zrun ops a i os e = some (os', e')) (hk : wpList P ops Q os' (zov a e') w) : wpList P ops Q os (zov a e) w := by
  induction i generalizing os e with
  | zero => cases h; exact hk
  | succ i ih =>
    cases os with
    | nil => cases h
    | cons o os =>
      unfold zrun at h
      split at h
      · next a1 h1 => exact zst_pl h1 (ih h)
      · cases h
theorem zst_ps {Q' : Act → Prop} (h : zst ops a e o = some e') (hk : wpStill P ops w Q' os (zov a e')) : wpStill P ops w Q' (o :: os) (zov a e) := by
  unfold zst at h
  split at h
  · next hw =>
    split at h
    · next v hv => cases h; exact zq (Mem.nil w) (zpv_yields hw hv) hk
    · cases h
  · next hw => cases h; exact ps_skip (zwn hw) (by rw [put_zov]; exact hk)
  · cases h
theorem Zs (i : Nat) {Q' : Act → Prop} (h : zrun ops a i os e = some (os', e')) (hk : wpStill P ops w Q' os' (zov a e')) : wpStill P ops w Q' os (zov a e) := by
  induction i generalizing os e with
  | zero => cases h; exact hk
  | succ i ih =>
    cases os with
    | nil => cases h
    | cons o os =>
      unfold zrun at h
      split at h
      · next a1 h1 => exact zst_ps h1 (ih h)
      · cases h
theorem zl {g off : Nat} {T : TypeId} {C : List Value} {v : Value} (i : Nat) (h : (zwd ops a e o, o.op, zlk a e x, L[i]?, C[off]?) = (some true, Op.load t x, some (Value.pointer (some ⟨g, off, none⟩)), some (blk g T C), some v)) (hi : ∀ w, (isAgg t).run P w = .ok false w) : YieldsIf P ops (fun W => Mem w0 F W L) o v (zov a e) := by
  cases Prod.mk.inj h with | intro h1 h2 => cases Prod.mk.inj h2 with | intro h2 h3 => cases Prod.mk.inj h3 with | intro h3 h4 => cases Prod.mk.inj h4 with | intro h4 h5 => exact y_load (zwn h1) h2 (zev h3) hi (fun W hW => hW.get i h4) h5
theorem zf {g off i z : Nat} (r : Nat) {fs : Array Field} {f : Field} (hu : P.underlying t = some (.struct fs)) (h : (zwd ops a e o, o.op, zlk a e x, fs[i]?, off + f.offset) = (some true, Op.fieldAddr t x i, some (Value.pointer (some ⟨g, off, none⟩)), some f, r))
    (hz : ∀ w, (sizeOf f.type).run P w = .ok (z + 1) w) : YieldsIf P ops S o (.pointer (some ⟨g, r, none⟩)) (zov a e) := by
  cases Prod.mk.inj h with | intro h1 h2 => cases Prod.mk.inj h2 with | intro h2 h3 => cases Prod.mk.inj h3 with | intro h3 h4 => cases Prod.mk.inj h4 with | intro h4 h5 => exact y_fa (zwn h1) h2 (zev h3) hu h4 hz h5
theorem zlss (h : (zwd ops a e o, o.op, zlk a e x, zlk a e y) = (some true, Op.binOp .lss t x y t', some (Value.int k m), some (Value.int k n))) (hb : decide (m < n) = b) : YieldsIf P ops S o (.bool b) (zov a e) := by
  cases Prod.mk.inj h with | intro h1 h2 => cases Prod.mk.inj h2 with | intro h2 h3 => cases Prod.mk.inj h3 with | intro h3 h4 => exact y_lss (zwn h1) h2 (zev h3) (zev h4) hb
theorem zgtr (h : (zwd ops a e o, o.op, zlk a e x, zlk a e y) = (some true, Op.binOp .gtr t x y t', some (Value.int k m), some (Value.int k n))) (hb : decide (n < m) = b) : YieldsIf P ops S o (.bool b) (zov a e) := by
  cases Prod.mk.inj h with | intro h1 h2 => cases Prod.mk.inj h2 with | intro h2 h3 => cases Prod.mk.inj h3 with | intro h3 h4 => exact y_gtr (zwn h1) h2 (zev h3) (zev h4) hb
theorem zgeq (h : (zwd ops a e o, o.op, zlk a e x, zlk a e y) = (some true, Op.binOp .geq t x y t', some (Value.int k m), some (Value.int k n))) (hb : decide (n ≤ m) = b) : YieldsIf P ops S o (.bool b) (zov a e) := by
  cases Prod.mk.inj h with | intro h1 h2 => cases Prod.mk.inj h2 with | intro h2 h3 => cases Prod.mk.inj h3 with | intro h3 h4 => exact y_geq (zwn h1) h2 (zev h3) (zev h4) hb
theorem zeql (h : (zwd ops a e o, o.op, zlk a e x, zlk a e y) = (some true, Op.binOp .eql t x y t', some (Value.int k m), some (Value.int k n))) (hb : decide (m = n) = b) : YieldsIf P ops S o (.bool b) (zov a e) := by
  cases Prod.mk.inj h with | intro h1 h2 => cases Prod.mk.inj h2 with | intro h2 h3 => cases Prod.mk.inj h3 with | intro h3 h4 => exact y_eql (zwn h1) h2 (zev h3) (zev h4) hb
theorem zneq (h : (zwd ops a e o, o.op, zlk a e x, zlk a e y) = (some true, Op.binOp .neq t x y t', some (Value.int k m), some (Value.int k n))) (hb : (!decide (m = n)) = b) : YieldsIf P ops S o (.bool b) (zov a e) := by
  cases Prod.mk.inj h with | intro h1 h2 => cases Prod.mk.inj h2 with | intro h2 h3 => cases Prod.mk.inj h3 with | intro h3 h4 => exact y_neq (zwn h1) h2 (zev h3) (zev h4) hb
theorem zT {p : Prop} {d : Decidable p} (h : p) : decide p = true := decide_eq_true h
theorem zF {p : Prop} {d : Decidable p} (h : ¬ p) : decide p = false := decide_eq_false h
theorem zi {id : Nat} : Exit.inBlock id Q .ret = Q .ret := rfl
theorem zj {K : Act → World → Prop} : Exit.then K Q .ret = Q .ret := rfl
theorem zR {fn : Func} {R : Ending → World → Prop} {v : Value} (hr : (results fn a.tmps).run P w = .ok v w) (hd : a.defers = []) (hR : R (.returned v) w) : bodyPost P fn R .ret a w := bodyPost_ret hr hd hR
theorem zpe (hw : zwd ops a e o = some true) (h : ∀ K : Act → World → Prop, Box (∀ a w, wpList P ops Q os a w → K a w) → Oper.wp P o (zov a e) w K Q) : wpList P ops Q (o :: os) (zov a e) w := pe (zwn hw) h
theorem zguard (h : o.guard = none) : zwd ops a e o = some true := by
  unfold zwd
  rw [h]
theorem zsw (M : Mem w0 F w L) (i : Nat) {g : Nat} {T : TypeId} {C cs : List Value} (h : (o.op, o.guard, zlk a e x, zlk a e y, L[i]?) = (Op.store t x y, none, some (Value.pointer (some ⟨g, 0, none⟩)), some (Value.agg cs.toArray), some (blk g T C)))
    (hs : Box ((P.info? t).map (·.size) = some cs.length)) (h1 : cs.toArray.all (·.oneCell') = true) (hlt : cs.length = C.length)
    (hk : ∀ w', Mem w0 F w' (L.set i (blk g T cs)) → wpList P ops Q os (zov a (zpd e o.dst undef)) w') : wpList P ops Q (o :: os) (zov a e) w := by
  cases Prod.mk.inj h with | intro h1' h2 => cases Prod.mk.inj h2 with | intro h2 h3 => cases Prod.mk.inj h3 with | intro h3 h4 => cases Prod.mk.inj h4 with | intro h4 h5 => exact zpe (zguard h2) fun K hK => e_storew M i h1' h2 (zev h3) (zev h4) hs h1 h5 hlt fun w' M' => hK.out _ _ (zpu (hk w' M'))
theorem zso (M : Mem w0 F w L) (i : Nat) {g off : Nat} {T : TypeId} {C : List Value} {v : Value} (h : (o.op, o.guard, zlk a e x, zlk a e y, L[i]?) = (Op.store t x y, none, some (Value.pointer (some ⟨g, off, none⟩)), some v, some (blk g T C)))
    (hv : (v.cells, v.oneCell') = (#[v], true)) (hs : ∀ w, (sizeOf t).run P w = .ok 1 w) (hlt : off < C.length)
    (hk : ∀ w', Mem w0 F w' (L.set i (blk g T (C.set off v))) → wpList P ops Q os (zov a (zpd e o.dst undef)) w') : wpList P ops Q (o :: os) (zov a e) w := by
  cases Prod.mk.inj h with | intro h1' h2 => cases Prod.mk.inj h2 with | intro h2 h3 => cases Prod.mk.inj h3 with | intro h3 h4 => cases Prod.mk.inj h4 with | intro h4 h5 => cases Prod.mk.inj hv with | intro h6 h7 => exact zpe (zguard h2) fun K hK => e_store M i h1' h2 (zev h3) (zev h4) h6 h7 hs h5 hlt fun w' M' => hK.out _ _ (zpu (hk w' M'))
theorem zal (M : Mem w0 F w L) (cs : List Value) (h : (zwd ops a e o, o.op) = (some true, Op.alloc t)) (hz : ∀ w, (zeroValue t).run P w = .ok (.agg cs.toArray) w)
    (hk : ∀ g w', Mem w0 F w' (blk g t cs :: L) → wpList P ops Q os (zov a (zpd e o.dst (.pointer (some ⟨g, 0, none⟩)))) w') : wpList P ops Q (o :: os) (zov a e) w := by
  cases Prod.mk.inj h with | intro h1 h2 => exact zpe h1 fun K hK => e_alloc M cs h2 hz fun g w' M' => hK.out _ _ (zpu (hk g w' M'))
theorem zbx (M : Mem w0 F w L) (cs : List Value) (h : (zwd ops a e o, o.op, zlk a e x) = (some true, Op.box t x, some (Value.agg cs.toArray)))
    (hk : ∀ g w', Mem w0 F w' (blk g t cs :: L) → wpList P ops Q os (zov a (zpd e o.dst (.pointer (some ⟨g, 0, none⟩)))) w') : wpList P ops Q (o :: os) (zov a e) w := by
  cases Prod.mk.inj h with | intro h1 h2 => cases Prod.mk.inj h2 with | intro h2 h3 => exact zpe h1 fun K hK => e_box M cs h2 (zev h3) fun g w' M' => hK.out _ _ (zpu (hk g w' M'))
def zls (a : Act) (e : List (Nat × Value)) : List Operand → Option (List Value)
  | [] => some []
  | x :: xs => match zlk a e x, zls a e xs with
    | some v, some vs => some (v :: vs)
    | _, _ => none
theorem zls_eval : ∀ {xs : List Operand} {vs : List Value}, zls a e xs = some vs → xs.map (zov a e).eval = vs
  | [], _, h => by cases h; rfl
  | x :: xs, vs, h => by
    unfold zls at h
    split at h
    · next v us h1 h2 =>
      cases h
      rw [List.map_cons, zev h1, zls_eval h2]
    · cases h
def zpr (a : Act) (e : List (Nat × Value)) : List (Nat × Operand) → Option (List (Nat × Value))
  | [] => some []
  | (i, x) :: xs => match zlk a e x, zpr a e xs with
    | some v, some vs => some ((i, v) :: vs)
    | _, _ => none
theorem zep : ∀ {xs : List (Nat × Operand)} {vs : List (Nat × Value)}, zpr a e xs = some vs → (xs.map fun p => (p.1, (zov a e).eval p.2)) = vs
  | [], _, h => by cases h; rfl
  | (i, x) :: xs, vs, h => by
    unfold zpr at h
    split at h
    · next v us h1 h2 =>
      cases h
      rw [List.map_cons, zev h1, zep h2]
    · cases h
theorem zca (f : FuncId) (args : List Value) {xs : List Operand} {ts : Array TypeId} (h : (zwd ops a e o, o.op, zls a e xs) = (some true, Op.call { callee := .value (.func f), args := xs.toArray, argTypes := ts }, some args)) (hf : ∀ ar w, (callFunc f ar).run P w = .ok (.enter f ar) w)
    {R : Ending → World → Prop} (hc : Calls P f args.toArray w R) (hk : ∀ e' w', R e' w' → ∃ v, e' = .returned v ∧ wpList P ops Q os (zov a (zpd e o.dst v)) w') : wpList P ops Q (o :: os) (zov a e) w := by
  cases Prod.mk.inj h with | intro h1 h2 => cases Prod.mk.inj h2 with | intro h2 h3 => exact zpe h1 fun K hK => e_call f args h2 (zls_eval h3) hf hc fun e' w' r => let ⟨v, hv, hk⟩ := hk e' w' r; ⟨v, hv, hK.out _ _ (zpu hk)⟩
theorem zem (p : Prop) [Decidable p] : p ∨ ¬ p := Decidable.em p
theorem Mem.h1 {A : Asn} {R : List Asn} (h : Mem w0 F w (A :: R)) : Mem w (foots [A]) w [A] := Mem.here (L := [A]) (R := R) h
theorem Mem.f1 {A : Asn} {R Po : List Asn} (h : Mem w0 F w (A :: R)) (h' : Mem w (foots [A]) w' Po) : Mem w0 F w' (Po ++ R) := Mem.frame (Pre := [A]) (R := R) h h'
theorem Mem.h2 {A B : Asn} {R : List Asn} (h : Mem w0 F w (A :: B :: R)) : Mem w (foots [A, B]) w [A, B] := Mem.here (L := [A, B]) (R := R) h
theorem Mem.f2 {A B : Asn} {R Po : List Asn} (h : Mem w0 F w (A :: B :: R)) (h' : Mem w (foots [A, B]) w' Po) : Mem w0 F w' (Po ++ R) := Mem.frame (Pre := [A, B]) (R := R) h h'
theorem Mem.h3 {A B C : Asn} {R : List Asn} (h : Mem w0 F w (A :: B :: C :: R)) : Mem w (foots [A, B, C]) w [A, B, C] := Mem.here (L := [A, B, C]) (R := R) h
theorem Mem.f3 {A B C : Asn} {R Po : List Asn} (h : Mem w0 F w (A :: B :: C :: R)) (h' : Mem w (foots [A, B, C]) w' Po) : Mem w0 F w' (Po ++ R) := Mem.frame (Pre := [A, B, C]) (R := R) h h'
theorem Mem.h4 {A B C D : Asn} {R : List Asn} (h : Mem w0 F w (A :: B :: C :: D :: R)) : Mem w (foots [A, B, C, D]) w [A, B, C, D] := Mem.here (L := [A, B, C, D]) (R := R) h
theorem Mem.f4 {A B C D : Asn} {R Po : List Asn} (h : Mem w0 F w (A :: B :: C :: D :: R)) (h' : Mem w (foots [A, B, C, D]) w' Po) : Mem w0 F w' (Po ++ R) := Mem.frame (Pre := [A, B, C, D]) (R := R) h h'
theorem Mem.h5 {A B C D E : Asn} {R : List Asn} (h : Mem w0 F w (A :: B :: C :: D :: E :: R)) : Mem w (foots [A, B, C, D, E]) w [A, B, C, D, E] := Mem.here (L := [A, B, C, D, E]) (R := R) h
theorem Mem.f5 {A B C D E : Asn} {R Po : List Asn} (h : Mem w0 F w (A :: B :: C :: D :: E :: R)) (h' : Mem w (foots [A, B, C, D, E]) w' Po) : Mem w0 F w' (Po ++ R) := Mem.frame (Pre := [A, B, C, D, E]) (R := R) h h'
theorem Mem.s1 {A : Asn} {R : List Asn} (h : Mem w0 F w (A :: R)) : Mem w0 F w ([A] ++ R) := h
theorem Mem.s2 {A B : Asn} {R : List Asn} (h : Mem w0 F w (A :: B :: R)) : Mem w0 F w ([A, B] ++ R) := h
theorem Mem.s3 {A B C : Asn} {R : List Asn} (h : Mem w0 F w (A :: B :: C :: R)) : Mem w0 F w ([A, B, C] ++ R) := h
theorem zw (h : Q .normal a w) : wpList P ops Q [] a w := wpList_nil h
theorem Mem.st0 (h : Mem w0 F w L) (h' : Mem w [] w' []) : Mem w0 F w' L := h.step (R := []) h'
theorem Zg {α : Type} {a b : α} {xs : List α} : (a :: xs).set 0 b = b :: xs := rfl
theorem Zh {α : Type} {a b : α} {xs : List α} {i : Nat} : (a :: xs).set (i + 1) b = a :: xs.set i b := rfl
def Y4 {α : Type} : List α → Nat → List α
  | [], _ => []
  | x :: _, 0 => [x]
  | _ :: xs, i + 1 => Y4 xs i
def Y3 {α : Type} (xs : List α) : List Nat → List α
  | [] => []
  | i :: ix => Y4 xs i ++ Y3 xs ix
theorem Y4_get {α : Type} : ∀ (xs : List α) (i : Nat), Y4 xs i = (xs[i]?).toList
  | [], _ => rfl
  | _ :: _, 0 => rfl
  | _ :: xs, i + 1 => by rw [List.getElem?_cons_succ]; exact Y4_get xs i
theorem Y3_map {α : Type} (xs : List α) : ∀ ix : List Nat, Y3 xs ix = ix.filterMap (xs[·]?)
  | [] => rfl
  | i :: ix => by
    rw [List.filterMap_cons, Y3, Y4_get, Y3_map xs ix]
    cases xs[i]? <;> rfl
theorem Mem.pk (h : Mem w0 F w L) (ix : List Nat) (hn : ix.Nodup := by decide) : Mem w0 F w (Y3 L ix) := by
  rw [Y3_map]
  exact h.arr ix hn
theorem Y1 {xs : List Asn} : [] ++ xs = xs := rfl
theorem Y2 {a : Asn} {xs ys : List Asn} : (a :: xs) ++ ys = a :: (xs ++ ys) := rfl
theorem zk {x y : Code} (h : ∀ K : Act → World → Prop, (∀ a w, y.wp P Q a w → K a w) → x.wp P (Exit.then K Q) a w) : (Code.seq x y).wp P Q a w := wp_seq_k h
theorem zr {id : Nat} {l : List Oper} (h : wpList P l.toArray Q l a w) : (Code.region id l.toArray false).wp P Q a w := wp_region_lit h
theorem zct {c : Operand} {x y : Code} (hc : zlk a e c = some (.bool true)) (h : x.wp P Q (zov a e) w) : (Code.cond c x y).wp P Q (zov a e) w := wp_cond_true (zev hc) h
theorem zcf {c : Operand} {x y : Code} (hc : zlk a e c = some (.bool false)) (h : y.wp P Q (zov a e) w) : (Code.cond c x y).wp P Q (zov a e) w := wp_cond_false (zev hc) h
theorem zbl {id : Nat} {c : Code} (h : c.wp P (Exit.inBlock id Q) a w) : (Code.block id c).wp P Q a w := wp_block h
theorem zsk (h : Q .normal a w) : Code.skip.wp P Q a w := wp_skip h
theorem zx {id : Nat} (h : Q (.exit id) a w) : (Code.exit id).wp P Q a w := wp_exit h
theorem zrt (h : Q .ret a w) : Code.ret.wp P Q a w := wp_ret h
abbrev zI (n : Int) : Value := .int .i64 n
abbrev zA (g : Nat) : Option Addr := some ⟨g, 0, none⟩
abbrev zP (g o : Nat) : Value := .pointer (some ⟨g, o, none⟩)
abbrev zS (g n c : Nat) : Value := .slice (some ⟨g, 0, none⟩) n c
abbrev zN : Value := .slice none 0 0
abbrev zU (l : List Value) (i : Nat) : Value := l.getD i undef
open Classical in
theorem zlp {c : Code} (I : Nat → Act → World → Prop) (n0 : Nat) (h0 : I n0 a w) (h : ∀ n a w, I n a w → c.wp P (Exit.then (fun a' w' => ∃ m, m < n ∧ I m a' w') Q) a w) : (Code.loop c).wp P Q a w := by
  have hmin : ∀ a w, (∃ n, I n a w) → ∃ n, I n a w ∧ ∀ m, I m a w → n ≤ m := fun a w hx => by
    obtain ⟨n, hn⟩ := hx
    induction n using Nat.strongRecOn with
    | ind n ih =>
      by_cases hl : ∃ m, m < n ∧ I m a w
      · obtain ⟨m, h1, h2⟩ := hl
        exact ih m h1 h2
      · exact ⟨n, hn, fun m hm => Nat.le_of_not_lt fun h1 => hl ⟨m, h1, hm⟩⟩
  refine wp_loop (fun a' w' => ∃ n, I n a' w') (fun a' w' => if hx : ∃ n, I n a' w' then Classical.choose (hmin a' w' hx) else 0) ⟨n0, h0⟩ ?_
  intro a' w' hx
  have hs := Classical.choose_spec (hmin a' w' hx)
  refine Code.wp_mono ?_ (h _ a' w' hs.1)
  intro e a2 w2 q
  cases e with
  | normal =>
    obtain ⟨m, hm, hI⟩ := q
    refine ⟨⟨m, hI⟩, ?_⟩
    have hs2 := Classical.choose_spec (hmin a2 w2 ⟨m, hI⟩)
    rw [dif_pos hx, dif_pos ⟨m, hI⟩]
    exact Nat.lt_of_le_of_lt (hs2.2 m hI) hm
  | _ => exact q
end
abbrev zC (f : FuncId) (xs : List Value) (w : World) (R : Ending → World → Prop) : Prop := Calls Try.prog f xs.toArray w R
abbrev z052 := @Try.zeroValue52
abbrev zc20 := @Try.call20
abbrev zc23 := @Try.call23
abbrev zc26 := @Try.call26
abbrev zc28 := @Try.call28
abbrev zg3 := @Try.isAgg3
abbrev zu4 := @Try.underlying4
abbrev zu50 := @Try.underlying50
abbrev zu52 := @Try.underlying52
abbrev zu60 := @Try.underlying60
abbrev zz3 := @Try.sizeOf3
abbrev zz55 := @Try.sizeOf55
end Go.Proofs.Ytehnnnohoaapdaa

/- The law FileBegins. -/
namespace Go.Proofs.Ytehnnnohoaapdaa
set_option linter.unusedSectionVars false
open Go Go.RowKit
set_option linter.unusedVariables false
set_option linter.unusedSimpArgs false
theorem live_ok {V : FV} {f : Nat} {ps : Pgs} {D : DV} {p pg mb : Nat} {qv : Value} {w : World} (hM : Mem w (foots [disk D p pg mb qv, blk f 96 (fC V p)]) w [disk D p pg mb qv, blk f 96 (fC V p)]) (hI : Inv D V ps) :
    Calls Try.prog 21 #[.pointer (some ⟨f, 0, none⟩)] w fun e w' => e = .returned (.int .i64 0) ∧ Mem w (foots [disk D p pg mb qv, blk f 96 (fC V p)]) w' [disk D p pg mb qv, blk f 96 (fC V p)] := by
  have := live_any hM
  rw [hI.isLive] at this
  exact this
theorem fits_yes {k : Nat} {width : Int} (hn : 3 ≤ k ∧ k ≤ 64) (hw : 1 ≤ width ∧ width ≤ 32) : decide (Fits (k : Int) width) = true := decide_eq_true ⟨by omega, by omega, hw.1, hw.2⟩
end Go.Proofs.Ytehnnnohoaapdaa

/- The law FileSurvives. -/
namespace Go.Proofs.Ytehnnnohoaapdaa
set_option linter.unusedSectionVars false
open Go Go.RowKit
set_option linter.unusedVariables false
set_option linter.unusedSimpArgs false
theorem size_act (a : AV) : Box ((Try.prog.info? 50).map (·.size) = some (actC a).length) := size_of_len (n := 3) _ rfl (by kernel_rfl)
theorem book_new {w0 w : World} {F : List Nat} {R : List Asn} {b : Nat} (h : Mem w0 F w (blk b 48 (bC (⟨[], 2, 1, 0, 0, 0⟩ : BV) (⟨.slice none 0 0, .slice none 0 0, []⟩ : BX)) :: R)) : Mem w0 F w (book (⟨[], 2, 1, 0, 0, 0⟩ : BV) b (⟨.slice none 0 0, .slice none 0 0, []⟩ : BX) :: R) := by
  refine book_close ?_
  have h1 := (h.nilst 3 1)
  have h2 : Mem w0 F w (innerA [] [] :: lst 3 1 (.slice none 0 0) 0 [] :: blk b 48 (bC (⟨[], 2, 1, 0, 0, 0⟩ : BV) (⟨.slice none 0 0, .slice none 0 0, []⟩ : BX)) :: R) := Mem.close (X := inner [] []) trivial h1
  have h3 := h2.nilst 22 1
  have h4 : Mem w0 F w (rows (.slice none 0 0) [] [] :: lst 3 1 (.slice none 0 0) 0 [] :: blk b 48 (bC (⟨[], 2, 1, 0, 0, 0⟩ : BV) (⟨.slice none 0 0, .slice none 0 0, []⟩ : BX)) :: R) := Mem.close (X := rowsL (.slice none 0 0) [] []) rfl h3
  refine h4.perm ?_
  exact ((List.Perm.cons _ (List.Perm.swap _ _ _)).trans (List.Perm.swap _ _ _))
theorem Out.good {D E : DV} {V V' : FV} {B B' : BV} {kd er : Int} (h : Out D V B kd er E V' B') (hn : kd ≠ 4 ∧ D.armed = 0) : er = 0 ∧ Kept D E V V' B B' ∧ BInv E V' B' ∧ E.armed = 0 := by
  obtain ⟨h1, ⟨h2, h3, h4⟩ | ⟨_, h5, _⟩⟩ := h
  · exact ⟨h2, h1, h3, h4 hn.1 hn.2⟩
  · exact absurd hn.2 h5
end Go.Proofs.Ytehnnnohoaapdaa
