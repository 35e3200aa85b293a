/- Reading a node that came in. -/
import Derived.Test.YtocfiabbhcgegaaRows
import Derived.Test.YtocfiabbhcgegaaOpen
import Derived.Test.YtocfiabbhcgegaaForm
import Derived.Test.YtocfiabbhcgegaaFormOf
import Derived.SizedLaws
namespace Go.Proofs.Ytocfiabbhcgegaa
open Go Go.RowKit Go.ChangeShapes Go.WideShapes Go.ChangeAt Go.Deep
set_option linter.unusedVariables false

/-- All sizes in a datum are within reach. -/
def Sized {H : Type} (P : Program) (t : TypeId) (d : DataW H) : Prop := ∀ n ∈ d.weights P t, n ≤ reachBytes
section
variable {H : Type} {enc : TypeId × Value → H} {P : Program} {w : World} {base : Nat} {sp : Nat → Bool} {held : Bool} {t e : TypeId}
theorem sized_arg {ts : List TypeId} {ds : List (DataW H)} (h : (DataW.weightsEach P ts ds).all (· ≤ reachBytes) = true) {j : Nat} {d : DataW H} (ht : ts[j]? = some t) (hd : ds[j]? = some d) : Sized P t d := fun n hn => by
  have := List.all_eq_true.1 h _ (DataW.weights_mem_each ht hd n hn)
  simpa using this
theorem sized_part {fs : Array Field} {parts : List (DataW H)} (hu : P.underlying t = some (.struct fs)) (h : Sized P t (.agg parts)) {i : Nat} {f : Field} {d : DataW H} (hf : fs[i]? = some f) (hd : parts[i]? = some d) : Sized P f.type d := fun n hn => by
  refine h n ?_
  have : (DataW.agg parts).weights P t = DataW.weightsEach P (fs.toList.map (·.type)) parts := by simp [DataW.weights, hu]
  rw [this]
  exact DataW.weights_mem_each (j := i) (by simp [hf]) hd n hn
theorem weights_mem_all : ∀ {ds : List (DataW H)} {j : Nat} {d : DataW H}, ds[j]? = some d → ∀ n ∈ d.weights P e, n ∈ DataW.weightsAll P e ds
  | d0 :: ds, 0, d, hd, n, hn => by
    simp only [List.getElem?_cons_zero, Option.some.injEq] at hd
    subst hd
    simp only [DataW.weightsAll, List.mem_append]
    exact Or.inl hn
  | d0 :: ds, j + 1, d, hd, n, hn => by
    simp only [List.getElem?_cons_succ] at hd
    simp only [DataW.weightsAll, List.mem_append]
    exact Or.inr (weights_mem_all hd n hn)
  | [], _, _, hd, _, _ => by simp at hd
theorem sized_elem {es ss : List (DataW H)} (hu : P.underlying t = some (.slice e)) (h : Sized P t (.slice es ss)) {i : Nat} {d : DataW H} (hd : es[i]? = some d) : Sized P e d := fun n hn => by
  refine h n ?_
  simp only [DataW.weights, hu, List.mem_cons, List.mem_append]
  exact .inr (.inl (weights_mem_all hd n hn))
theorem sized_len {es ss : List (DataW H)} (hu : P.underlying t = some (.slice e)) (h : Sized P t (.slice es ss)) : (es.length + ss.length) * P.bytesOf e ≤ reachBytes :=
  h _ (by simp [DataW.weights, hu])

theorem chain_step {cs x : List Value} (o k : Nat) (h : (cs.drop o).take k = x) : cs.drop o = x ++ cs.drop (o + k) := by
  rw [← h, ← List.drop_drop, List.take_append_drop]

/-- A list of bytes that came in, by its cell. -/
theorem trod_row {fuel : Nat} {cs : List Value} {x : DataW H × List MemPlace} (hsp : ∀ b, sp b = true) (ht : P.underlying t = some (.slice e)) (he : P.underlying e = some (.int .u8)) (hc : P.cellsOf e = 1) (hby : P.bytesOf e = 1)
    (h : DataW.trod enc P w base sp held fuel t cs = some x) :
    ∃ (ao : Option Addr) (n c : Nat) (l : List UInt8), cs = [.slice ao n c] ∧ InRow w ao n c l ∧ c ≤ maxLen ∧ (Sized P t x.1 → c ≤ 140737488351232) := by
  rcases open_ints ht he hc h with ⟨hcs, hx⟩ | ⟨a, len, cap, zs, hcs, _, hl, hm, hz, hx, hcell, hw⟩
  · exact ⟨none, 0, 0, [], hcs, ⟨Row.nil, fun _ => ⟨rfl, rfl⟩, Nat.le_refl _⟩, Nat.zero_le _, fun _ => by omega⟩
  · rw [hsp, if_pos rfl] at hz
    obtain ⟨l, hr⟩ := row_of_ints (len := len) (by omega) hcell hw
    refine ⟨some a, len, cap, l, hcs, ⟨hr, (fun h => by cases h), hl⟩, hm, fun hs => ?_⟩
    rw [hx] at hs
    have := sized_len ht hs
    rw [hby] at this
    simp only [lits, List.length_map, List.length_take, List.length_drop, reachBytes] at this
    omega
end

section
variable {H : Type} {enc : TypeId × Value → H} {w : World} {base : Nat} {sp : Nat → Bool} {held : Bool}
theorem field_of {fs : Array Field} {i t o : Nat} (h : (fs[i]?).map (fun f => (f.type, f.offset)) = some (t, o)) : ∃ f, fs[i]? = some f ∧ f.type = t ∧ f.offset = o := by
  cases hf : fs[i]? with
  | none => rw [hf] at h; cases h
  | some f => rw [hf] at h; simp only [Option.map_some, Option.some.injEq, Prod.mk.injEq] at h; exact ⟨f, rfl, h.1, h.2⟩

/-- A node that came in, by its cells. -/
theorem trod_node {fuel : Nat} {cs : List Value} {x : DataW H × List MemPlace} (hsp : ∀ b, sp b = true) (h : DataW.trod enc Try.prog w base sp held fuel 46 cs = some x) :
    ∃ (y : NodeV) (l : List UInt8), cs = nodeC y ∧ inI64 y.kind ∧ inI64 y.left ∧ inI64 y.right ∧ inI64 y.lc ∧ inI64 y.rc ∧ InRow w y.ao y.n y.c l ∧ y.c ≤ maxLen ∧ (Sized Try.prog 46 x.1 → y.c ≤ 140737488351232) := by
  have hu : Try.prog.underlying 46 = some (.struct (Try.prog.fieldsOf 46)) := by kernel_rfl
  obtain ⟨xs, n, _, hx, hlen, hxl, hf⟩ := DataW.trod_struct hu h
  have hfs : (Try.prog.fieldsOf 46).size = 9 := by kernel_rfl
  have hct : Try.prog.cellsOf 46 = 102 := by kernel_rfl
  rw [hfs] at hxl
  rw [hct] at hlen
  have ci : Try.prog.cellsOf 3 = 1 := by kernel_rfl
  have cd : Try.prog.cellsOf 23 = 32 := by kernel_rfl
  have ck : Try.prog.cellsOf 44 = 32 := by kernel_rfl
  have cb : Try.prog.cellsOf 26 = 1 := by kernel_rfl
  have c8 : Try.prog.cellsOf 5 = 1 := by kernel_rfl
  have by8 : Try.prog.bytesOf 5 = 1 := by kernel_rfl
  have get : ∀ (i t o : Nat), i < 9 → ((Try.prog.fieldsOf 46)[i]?).map (fun f => (f.type, f.offset)) = some (t, o) → ∃ y, DataW.trod enc Try.prog w base sp held n t ((cs.drop o).take (Try.prog.cellsOf t)) = some y ∧ (Sized Try.prog 46 x.1 → Sized Try.prog t y.1) := fun i t o hi h => by
    obtain ⟨f, h1, rfl, rfl⟩ := field_of h
    have hy : xs[i]? = some (xs[i]'(by omega)) := List.getElem?_eq_getElem (by omega)
    refine ⟨_, (hf i f h1).trans hy, fun hs => ?_⟩
    rw [hx] at hs
    exact sized_part hu hs h1 (by simp [hy])
  obtain ⟨y0, t0, _⟩ := get 0 3 0 (by omega) (by kernel_rfl)
  obtain ⟨y1, t1, _⟩ := get 1 3 1 (by omega) (by kernel_rfl)
  obtain ⟨y2, t2, _⟩ := get 2 3 2 (by omega) (by kernel_rfl)
  obtain ⟨y3, t3, _⟩ := get 3 3 3 (by omega) (by kernel_rfl)
  obtain ⟨y4, t4, _⟩ := get 4 3 4 (by omega) (by kernel_rfl)
  obtain ⟨y5, t5, _⟩ := get 5 23 5 (by omega) (by kernel_rfl)
  obtain ⟨y6, t6, _⟩ := get 6 23 37 (by omega) (by kernel_rfl)
  obtain ⟨y7, t7, _⟩ := get 7 44 69 (by omega) (by kernel_rfl)
  obtain ⟨y8, t8, s8⟩ := get 8 26 101 (by omega) (by kernel_rfl)
  rw [ci] at t0 t1 t2 t3 t4
  rw [cd] at t5 t6
  rw [ck] at t7
  rw [cb] at t8
  obtain ⟨a0, e0, _, w0⟩ := DataW.trod_int Try.underlying3 t0
  obtain ⟨a1, e1, _, w1⟩ := DataW.trod_int Try.underlying3 t1
  obtain ⟨a2, e2, _, w2⟩ := DataW.trod_int Try.underlying3 t2
  obtain ⟨a3, e3, _, w3⟩ := DataW.trod_int Try.underlying3 t3
  obtain ⟨a4, e4, _, w4⟩ := DataW.trod_int Try.underlying3 t4
  obtain ⟨d5, e5⟩ := trod_d32 Try.underlying23 Try.underlying5 c8 cd t5
  obtain ⟨d6, e6⟩ := trod_d32 Try.underlying23 Try.underlying5 c8 cd t6
  obtain ⟨d7, e7⟩ := trod_d32 Try.underlying44 Try.underlying5 c8 ck t7
  obtain ⟨ao, m, c, l, e8, hr, hm, hs⟩ := trod_row hsp Try.underlying26 Try.underlying5 c8 by8 t8
  refine ⟨⟨a0, a1, a2, a3, a4, d5, d6, d7, ao, m, c⟩, l, ?_, bounds_i64 w0, bounds_i64 w1, bounds_i64 w2, bounds_i64 w3, bounds_i64 w4, hr, hm, fun h => hs (s8 h)⟩
  have q0 := chain_step 0 1 e0
  rw [List.drop_zero] at q0
  rw [q0, chain_step (0 + 1) 1 e1, chain_step (0 + 1 + 1) 1 e2, chain_step (0 + 1 + 1 + 1) 1 e3, chain_step (0 + 1 + 1 + 1 + 1) 1 e4, chain_step (0 + 1 + 1 + 1 + 1 + 1) 32 e5, chain_step (0 + 1 + 1 + 1 + 1 + 1 + 32) 32 e6, chain_step (0 + 1 + 1 + 1 + 1 + 1 + 32 + 32) 32 e7, chain_step (0 + 1 + 1 + 1 + 1 + 1 + 32 + 32 + 32) 1 e8,
    List.drop_of_length_le (by omega)]
  rfl

theorem open_node {r : Reach} {b0 : Nat} {v : Value} {d : DataW H} {p : List MemPlace} (hsp : ∀ b, sp b = true) (hv : Value.okWide Try.prog w r b0 46 v) (h : DataW.Trod enc Try.prog w base sp held 46 v d p) :
    ∃ (y : NodeV) (l : List UInt8), v = .agg (nodeC y).toArray ∧ inI64 y.kind ∧ inI64 y.left ∧ inI64 y.right ∧ inI64 y.lc ∧ inI64 y.rc ∧ InRow w y.ao y.n y.c l ∧ y.c ≤ maxLen ∧ (Sized Try.prog 46 d → y.c ≤ 140737488351232) := by
  have hu : Try.prog.underlying 46 = some (.struct (Try.prog.fieldsOf 46)) := by kernel_rfl
  obtain ⟨cs, rfl, _⟩ := okWide_struct hu hv
  obtain ⟨fuel, hf⟩ := h
  obtain ⟨y, l, h1, h2⟩ := trod_node hsp hf
  refine ⟨y, l, ?_, h2⟩
  have : cs.toList = nodeC y := h1
  rw [← this]
end
end Go.Proofs.Ytocfiabbhcgegaa
