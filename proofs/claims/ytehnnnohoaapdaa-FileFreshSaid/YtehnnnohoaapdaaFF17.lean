/- Texts joined: OpenF, Law8. -/
import Derived.Test.YtehnnnohoaapdaaRows
import Derived.Test.YtehnnnohoaapdaaFF00
import Derived.Test.YtehnnnohoaapdaaFF16
import Derived.SizedLaws
/- Reading acts and lists of lists that came in. -/
namespace Go.Proofs.Ytehnnnohoaapdaa
set_option linter.unusedSectionVars false
set_option linter.unusedSimpArgs false
open Go Go.RowKit Go.ChangeShapes Go.WideShapes Go.ChangeAt Go.Deep
set_option linter.unusedVariables false
def Sized {H : Type} (P : Program) (t : TypeId) (d : DataW H) : Prop := ∀ n ∈ d.weights P t, n ≤ reachBytes
section
variable {H : Type} {enc : TypeId × Value → H} {P : Program} {w : World} {base : Nat} {sp : Nat → Bool} {held : Bool} {t e : TypeId}
theorem sized_arg {ts : List TypeId} {ds : List (DataW H)} (h : (DataW.weightsEach P ts ds).all (· ≤ reachBytes) = true) {j : Nat} {d : DataW H} (ht : ts[j]? = some t) (hd : ds[j]? = some d) : Sized P t d := fun n hn => by
  have := List.all_eq_true.1 h _ (DataW.weights_mem_each ht hd n hn)
  simpa using this
theorem sized_part {fs : Array Field} {parts : List (DataW H)} (hu : P.underlying t = some (.struct fs)) (h : Sized P t (.agg parts)) {i : Nat} {f : Field} {d : DataW H} (hf : fs[i]? = some f) (hd : parts[i]? = some d) : Sized P f.type d := fun n hn => by
  refine h n ?_
  have : (DataW.agg parts).weights P t = DataW.weightsEach P (fs.toList.map (·.type)) parts := by simp [DataW.weights, hu]
  rw [this]
  exact DataW.weights_mem_each (j := i) (by simp [hf]) hd n hn
theorem weights_mem_all : ∀ {ds : List (DataW H)} {j : Nat} {d : DataW H}, ds[j]? = some d → ∀ n ∈ d.weights P e, n ∈ DataW.weightsAll P e ds
  | d0 :: ds, 0, d, hd, n, hn => by
    simp only [List.getElem?_cons_zero, Option.some.injEq] at hd
    subst hd
    simp only [DataW.weightsAll, List.mem_append]
    exact Or.inl hn
  | d0 :: ds, j + 1, d, hd, n, hn => by
    simp only [List.getElem?_cons_succ] at hd
    simp only [DataW.weightsAll, List.mem_append]
    exact Or.inr (weights_mem_all hd n hn)
  | [], _, _, hd, _, _ => by simp at hd
theorem sized_elem {es ss : List (DataW H)} (hu : P.underlying t = some (.slice e)) (h : Sized P t (.slice es ss)) {i : Nat} {d : DataW H} (hd : es[i]? = some d) : Sized P e d := fun n hn => by
  refine h n ?_
  simp only [DataW.weights, hu, List.mem_cons, List.mem_append]
  exact .inr (.inl (weights_mem_all hd n hn))
theorem sized_len {es ss : List (DataW H)} (hu : P.underlying t = some (.slice e)) (h : Sized P t (.slice es ss)) : (es.length + ss.length) * P.bytesOf e ≤ reachBytes :=
  h _ (by simp [DataW.weights, hu])
theorem chain_step {cs x : List Value} (o k : Nat) (h : (cs.drop o).take k = x) : cs.drop o = x ++ cs.drop (o + k) := by
  rw [← h, ← List.drop_drop, List.take_append_drop]
theorem trod_row {fuel : Nat} {cs : List Value} {x : DataW H × List MemPlace} (hsp : ∀ b, sp b = true) (ht : P.underlying t = some (.slice e)) (he : P.underlying e = some (.int .u8)) (hc : P.cellsOf e = 1) (hby : P.bytesOf e = 1)
    (h : DataW.trod enc P w base sp held fuel t cs = some x) :
    ∃ (ao : Option Addr) (n c : Nat) (l : List UInt8), cs = [.slice ao n c] ∧ InRow w ao n c l ∧ c ≤ maxLen ∧ (Sized P t x.1 → c ≤ 140737488351232) := by
  rcases open_ints ht he hc h with ⟨hcs, hx⟩ | ⟨a, len, cap, zs, hcs, _, hl, hm, hz, hx, hcell, hw⟩
  · exact ⟨none, 0, 0, [], hcs, ⟨Row.nil, fun _ => ⟨rfl, rfl⟩, Nat.le_refl _⟩, Nat.zero_le _, fun _ => by omega⟩
  · rw [hsp, if_pos rfl] at hz
    obtain ⟨l, hr⟩ := row_of_ints (len := len) (by omega) hcell hw
    refine ⟨some a, len, cap, l, hcs, ⟨hr, (fun h => by cases h), hl⟩, hm, fun hs => ?_⟩
    rw [hx] at hs
    have := sized_len ht hs
    rw [hby] at this
    simp only [lits, List.length_map, List.length_take, List.length_drop, reachBytes] at this
    omega
end
section
variable {H : Type} {enc : TypeId × Value → H} {P : Program} {w : World} {base : Nat} {sp : Nat → Bool} {held : Bool} {t e : TypeId}
def ListIn {α : Type} (cC : α → List Value) (k : Nat) (w : World) (ao : Option Addr) (n : Nat) (os : List α) : Prop :=
  os.length = n ∧ ∀ (i : Nat) (o : α), os[i]? = some o → ∃ b off, ao = some ⟨b, off, none⟩ ∧ w.rangeAt b (off + i * k) (cC o)
theorem open_list {α : Type} [Inhabited α] (cC : α → List Value) (k : Nat) (hk : ∀ o, (cC o).length = k) (hk0 : 0 < k) (ok : α → Prop) (ht : P.underlying t = some (.slice e)) (hct : P.cellsOf e = k) (hbt : 1 ≤ P.bytesOf e)
    (one : ∀ fuel cs x, DataW.trod enc P w base sp held fuel e cs = some x → Sized P e x.1 → ∃ o, cs = cC o ∧ ok o)
    {r : Reach} {b0 : Nat} {v : Value} {d : DataW H} {p : List MemPlace} (hv : Value.okWide P w r b0 t v) (h : DataW.Trod enc P w base sp held t v d p) (hs : Sized P t d) :
    ∃ (ao : Option Addr) (n c : Nat) (os : List α), v = .slice ao n c ∧ ListIn cC k w ao n os ∧ n ≤ 4611686018427387904 ∧ ∀ o ∈ os, ok o := by
  obtain ⟨a0, n, c, rfl⟩ := okWide_slice ht hv
  obtain ⟨fuel, hf⟩ := h
  rcases open_slice ht hf with ⟨hcs, hx⟩ | ⟨a, len, cap, m, f, D, Pl, hcs, _, hl, hm, hmm, hx, hel⟩
  · simp [Value.cells] at hcs
    obtain ⟨rfl, rfl, rfl⟩ := hcs
    exact ⟨none, 0, 0, [], rfl, ⟨rfl, fun i o h => by simp at h⟩, by omega, fun o ho => by cases ho⟩
  · simp [Value.cells] at hcs
    obtain ⟨rfl, rfl, rfl⟩ := hcs
    have hd : d = .slice ((List.range n).map D) ((List.range (m - n)).map fun j => D (n + j)) := (Prod.mk.inj hx).1
    rw [hd] at hs
    have hlen := sized_len ht hs
    have hn : n ≤ 4611686018427387904 := by
      simp only [List.length_map, List.length_range, reachBytes] at hlen
      have h1 : n * 1 ≤ (n + (m - n)) * P.bytesOf e := Nat.mul_le_mul (by omega) hbt
      omega
    have hnm : n ≤ m := by rw [hmm]; split <;> omega
    rw [hct] at hel
    have each : ∀ i, i < n → ∃ o : α, (∃ b off, a = ⟨b, off, none⟩ ∧ w.rangeAt b (off + i * k) (cC o)) ∧ ok o := by
      have one' : ∀ i, i < n → ∃ cs' : List Value, ∃ o : α, w.cells? base (a.add (i * k)) k = some cs' ∧ cs' = cC o ∧ ok o := fun i hi => by
        obtain ⟨cs', h1, h2⟩ := hel i (by omega)
        obtain ⟨o, h3, h4⟩ := one _ _ _ h2 (sized_elem (i := i) ht hs (by simp [hi]))
        exact ⟨cs', o, h1, h3, h4⟩
      intro i hi
      obtain ⟨cs', o, h1, rfl, h4⟩ := one' i hi
      obtain ⟨h3, hl', h5⟩ := World.cells?_some h1
      have hlo := hk o
      obtain ⟨b, off, s⟩ := a
      have hcell : ∀ j v, (cC o)[j]? = some v → w.cell? (((⟨b, off, s⟩ : Addr).add (i * k)).add j) = some v := by
        intro j v hv
        have := h5 j (by have := (List.getElem?_eq_some_iff.1 hv).1; omega)
        rw [this]; exact hv
      have hs0 : s = none := by
        obtain ⟨c0, o0, g1, rfl, _⟩ := one' 0 (by omega)
        have hl0 := hk o0
        obtain ⟨_, _, g5⟩ := World.cells?_some g1
        have := g5 0 (by omega)
        rw [List.getElem?_eq_getElem (by omega)] at this
        simpa [Addr.add] using World.cell?_spot this
      subst hs0
      refine ⟨o, ⟨b, off, rfl, fun j v hv => ?_⟩, h4⟩
      have := hcell j v hv
      rw [Addr.add_mid, Addr.add_mid] at this
      exact this
    obtain ⟨V, hV⟩ := choose_lt (α := α) (p := fun i o => (∃ b off, a = ⟨b, off, none⟩ ∧ w.rangeAt b (off + i * k) (cC o)) ∧ ok o) each
    refine ⟨some a, n, c, (List.range n).map V, rfl, ⟨by simp, fun i o hi => ?_⟩, hn, fun o ho => ?_⟩
    · obtain ⟨hi', rfl⟩ : i < n ∧ V i = o := by
        rw [List.getElem?_map] at hi
        rcases Nat.lt_or_ge i n with h | h
        · rw [List.getElem?_range h] at hi
          exact ⟨h, by simpa using hi⟩
        · rw [List.getElem?_eq_none (by simpa using h)] at hi; simp at hi
      obtain ⟨⟨b, o, rfl, hr⟩, _⟩ := hV i hi'
      exact ⟨b, o, rfl, hr⟩
    · obtain ⟨i, hi, rfl⟩ := List.mem_map.1 ho
      exact (hV i (by simpa using hi)).2
end
structure AV where
  k : Int
  n : Int
  ao : Option Addr
  m : Nat
  c : Nat
  l : List UInt8
deriving Inhabited
def actC (a : AV) : List Value := [.int .i64 a.k, .int .i64 a.n, .slice a.ao a.m a.c]
def ActIn (w : World) (a : AV) : Prop := Row w a.ao a.m a.l ∧ (a.ao = none → a.m = 0 ∧ a.c = 0) ∧ a.m ≤ a.c ∧ a.c ≤ 140737488351232
structure RV where
  ao : Option Addr
  m : Nat
  c : Nat
  l : List UInt8
deriving Inhabited
section
variable {H : Type} {enc : TypeId × Value → H} {w : World} {base : Nat} {sp : Nat → Bool} {held : Bool}
theorem field_of {fs : Array Field} {i t o : Nat} (h : (fs[i]?).map (fun f => (f.type, f.offset)) = some (t, o)) : ∃ f, fs[i]? = some f ∧ f.type = t ∧ f.offset = o := by
  cases hf : fs[i]? with
  | none => rw [hf] at h; cases h
  | some f => rw [hf] at h; simp only [Option.map_some, Option.some.injEq, Prod.mk.injEq] at h; exact ⟨f, rfl, h.1, h.2⟩
theorem trod_act {fuel : Nat} {cs : List Value} {x : DataW H × List MemPlace} (hsp : ∀ b, sp b = true) (h : DataW.trod enc Try.prog w base sp held fuel 50 cs = some x) (hs : Sized Try.prog 50 x.1) :
    ∃ (o : AV), cs = actC o ∧ ActIn w o := by
  have hu : Try.prog.underlying 50 = some (.struct (Try.prog.fieldsOf 50)) := by kernel_rfl
  obtain ⟨xs, n, _, hx, hlen, hxl, hf⟩ := DataW.trod_struct hu h
  have hfs : (Try.prog.fieldsOf 50).size = 3 := by kernel_rfl
  have hct : Try.prog.cellsOf 50 = 3 := by kernel_rfl
  rw [hfs] at hxl
  rw [hct] at hlen
  have ci : Try.prog.cellsOf 3 = 1 := by kernel_rfl
  have cb : Try.prog.cellsOf 22 = 1 := by kernel_rfl
  have c8 : Try.prog.cellsOf 5 = 1 := by kernel_rfl
  have by8 : Try.prog.bytesOf 5 = 1 := by kernel_rfl
  have get : ∀ (i t o : Nat), i < 3 → ((Try.prog.fieldsOf 50)[i]?).map (fun f => (f.type, f.offset)) = some (t, o) → ∃ y, DataW.trod enc Try.prog w base sp held n t ((cs.drop o).take (Try.prog.cellsOf t)) = some y ∧ Sized Try.prog t y.1 := fun i t o hi h => by
    obtain ⟨f, h1, rfl, rfl⟩ := field_of h
    have hy : xs[i]? = some (xs[i]'(by omega)) := List.getElem?_eq_getElem (by omega)
    refine ⟨_, (hf i f h1).trans hy, ?_⟩
    rw [hx] at hs
    exact sized_part hu hs h1 (by simp [hy])
  obtain ⟨y0, t0, _⟩ := get 0 3 0 (by omega) (by kernel_rfl)
  obtain ⟨y1, t1, _⟩ := get 1 3 1 (by omega) (by kernel_rfl)
  obtain ⟨y2, t2, s2⟩ := get 2 22 2 (by omega) (by kernel_rfl)
  rw [ci] at t0 t1
  rw [cb] at t2
  obtain ⟨a0, e0, _, w0⟩ := DataW.trod_int Try.underlying3 t0
  obtain ⟨a1, e1, _, w1⟩ := DataW.trod_int Try.underlying3 t1
  obtain ⟨ao, m, c, l, e7, hr, hm, hsv⟩ := trod_row hsp Try.underlying22 Try.underlying5 c8 by8 t2
  refine ⟨⟨a0, a1, ao, m, c, l⟩, ?_, ⟨hr.1, hr.2.1, hr.2.2, hsv s2⟩⟩
  have q0 := chain_step 0 1 e0
  rw [List.drop_zero] at q0
  rw [q0, chain_step (0 + 1) 1 e1, chain_step (0 + 1 + 1) 1 e7, List.drop_of_length_le (by omega)]
  simp [actC]
set_option maxRecDepth 100000 in
theorem open_acts {r : Reach} {b0 : Nat} {v : Value} {d : DataW H} {p : List MemPlace} (hsp : ∀ b, sp b = true) (hv : Value.okWide Try.prog w r b0 41 v) (h : DataW.Trod enc Try.prog w base sp held 41 v d p)
    (hs : Sized Try.prog 41 d) :
    ∃ (ao : Option Addr) (n c : Nat) (os : List AV), v = .slice ao n c ∧ ListIn actC 3 w ao n os ∧ n ≤ 4611686018427387904 ∧ ∀ o ∈ os, ActIn w o := by
  have hct : Try.prog.cellsOf 50 = 3 := by kernel_rfl
  have hbt : 1 ≤ Try.prog.bytesOf 50 := of_decide_eq_true (by kernel_rfl)
  exact open_list (H := H) (enc := enc) (P := Try.prog) (w := w) (base := base) (sp := sp) (held := held) (r := r) (b0 := b0) (v := v) (d := d) (p := p) (t := 41) (e := 50) actC 3 (fun _ => rfl) (by decide) (ActIn w) Try.underlying41 hct hbt (fun _ _ _ h1 h2 => trod_act hsp h1 h2) hv h hs
end
theorem Mem.range {w0 w : World} {F : List Nat} {L : List Asn} (h : Mem w0 F w L) {b o : Nat} {ys : List Value} (hr : w0.rangeAt b o ys) (hF : b ∉ F) : w.rangeAt b o ys := fun j v hj => by
  have h1 := hr j v hj
  exact (World.cell?_of_block (w := w0) (w' := w) (a := ⟨b, o + j, none⟩) (h.old (block_lt_of_cell h1) hF)).trans h1
theorem Mem.off_row {w0 w : World} {L : List Asn} (h : Mem w0 [] w L) {ao : Option Addr} {n : Nat} {l : List UInt8} (hr : Row w0 ao n l) : ∀ b o, ao = some ⟨b, o, none⟩ → 0 < n → b ∉ foots L := by
  intro b o e hn
  obtain ⟨b', o', e', hc⟩ := hr.2 0 (by rw [hr.1]; exact hn)
  rw [e'] at e
  cases e
  exact h.old_off (block_lt_of_cell hc) (by simp)
theorem Mem.below {w w' : World} {L : List Asn} (h : Mem w [] w' L) : Below w.heap.size w w' := ⟨h.grew.os, h.grew.tape, h.grew.output, h.grew.size, fun k hk => h.grew.block k hk (by simp)⟩
end Go.Proofs.Ytehnnnohoaapdaa

/- The law FileBegins. -/
namespace Go.Proofs.Ytehnnnohoaapdaa
set_option linter.unusedSectionVars false
open Go Go.RowKit
set_option linter.unusedVariables false
set_option linter.unusedSimpArgs false
theorem fits_yes {k : Nat} {width : Int} (hn : 3 ≤ k ∧ k ≤ 64) (hw : 1 ≤ width ∧ width ≤ 32) : decide (Fits (k : Int) width) = true := decide_eq_true ⟨by omega, by omega, hw.1, hw.2⟩
end Go.Proofs.Ytehnnnohoaapdaa
