/- Reading a record that came in. -/
import Derived.Test.YtocfiabbhcgegaaRows
import Derived.Test.YtocfiabbhcgegaaOpen
import Derived.Test.YtocfiabbhcgegaaOpenN
import Derived.Test.YtocfiabbhcgegaaIRec
namespace Go.Proofs.Ytocfiabbhcgegaa
open Go Go.RowKit Go.ChangeShapes Go.WideShapes Go.ChangeAt Go.Deep
set_option linter.unusedVariables false

section
variable {H : Type} {enc : TypeId × Value → H} {w : World} {base : Nat} {sp : Nat → Bool} {held : Bool}
/-- A record that came in, by its cells. -/
theorem trod_rec {fuel : Nat} {cs : List Value} {x : DataW H × List MemPlace} (h : DataW.trod enc Try.prog w base sp held fuel 25 cs = some x) :
    ∃ (y : RecV), cs = recC y ∧ inI64 y.f0 ∧ inI64 y.f1 ∧ inI64 y.f2 ∧ inI64 y.f3 ∧ inI64 y.f4 ∧ inI64 y.f5 := by
  have hu : Try.prog.underlying 25 = some (.struct (Try.prog.fieldsOf 25)) := by kernel_rfl
  obtain ⟨xs, n, _, hx, hlen, hxl, hf⟩ := DataW.trod_struct hu h
  have hfs : (Try.prog.fieldsOf 25).size = 7 := by kernel_rfl
  have hct : Try.prog.cellsOf 25 = 38 := by kernel_rfl
  rw [hfs] at hxl
  rw [hct] at hlen
  have ci : Try.prog.cellsOf 3 = 1 := by kernel_rfl
  have cd : Try.prog.cellsOf 23 = 32 := by kernel_rfl
  have c8 : Try.prog.cellsOf 5 = 1 := by kernel_rfl
  have get : ∀ (i t o : Nat), i < 7 → ((Try.prog.fieldsOf 25)[i]?).map (fun f => (f.type, f.offset)) = some (t, o) → ∃ y, DataW.trod enc Try.prog w base sp held n t ((cs.drop o).take (Try.prog.cellsOf t)) = some y := fun i t o hi h => by
    obtain ⟨f, h1, rfl, rfl⟩ := field_of h
    have hy : xs[i]? = some (xs[i]'(by omega)) := List.getElem?_eq_getElem (by omega)
    exact ⟨_, (hf i f h1).trans hy⟩
  obtain ⟨y0, t0⟩ := get 0 3 0 (by omega) (by kernel_rfl)
  obtain ⟨y1, t1⟩ := get 1 3 1 (by omega) (by kernel_rfl)
  obtain ⟨y2, t2⟩ := get 2 3 2 (by omega) (by kernel_rfl)
  obtain ⟨y3, t3⟩ := get 3 3 3 (by omega) (by kernel_rfl)
  obtain ⟨y4, t4⟩ := get 4 3 4 (by omega) (by kernel_rfl)
  obtain ⟨y5, t5⟩ := get 5 3 5 (by omega) (by kernel_rfl)
  obtain ⟨y6, t6⟩ := get 6 23 6 (by omega) (by kernel_rfl)
  rw [ci] at t0 t1 t2 t3 t4 t5
  rw [cd] at t6
  obtain ⟨a0, e0, _, w0⟩ := DataW.trod_int Try.underlying3 t0
  obtain ⟨a1, e1, _, w1⟩ := DataW.trod_int Try.underlying3 t1
  obtain ⟨a2, e2, _, w2⟩ := DataW.trod_int Try.underlying3 t2
  obtain ⟨a3, e3, _, w3⟩ := DataW.trod_int Try.underlying3 t3
  obtain ⟨a4, e4, _, w4⟩ := DataW.trod_int Try.underlying3 t4
  obtain ⟨a5, e5, _, w5⟩ := DataW.trod_int Try.underlying3 t5
  obtain ⟨d6, e6⟩ := trod_d32 Try.underlying23 Try.underlying5 c8 cd t6
  refine ⟨⟨a0, a1, a2, a3, a4, a5, d6⟩, ?_, bounds_i64 w0, bounds_i64 w1, bounds_i64 w2, bounds_i64 w3, bounds_i64 w4, bounds_i64 w5⟩
  have q0 := chain_step 0 1 e0
  rw [List.drop_zero] at q0
  rw [q0, chain_step (0 + 1) 1 e1, chain_step (0 + 1 + 1) 1 e2, chain_step (0 + 1 + 1 + 1) 1 e3, chain_step (0 + 1 + 1 + 1 + 1) 1 e4, chain_step (0 + 1 + 1 + 1 + 1 + 1) 1 e5, chain_step (0 + 1 + 1 + 1 + 1 + 1 + 1) 32 e6,
    List.drop_of_length_le (by omega), List.append_nil]
  rfl

theorem open_rec {r : Reach} {b0 : Nat} {v : Value} {d : DataW H} {p : List MemPlace} (hv : Value.okWide Try.prog w r b0 25 v) (h : DataW.Trod enc Try.prog w base sp held 25 v d p) :
    ∃ (y : RecV), v = .agg (recC y).toArray ∧ inI64 y.f0 ∧ inI64 y.f1 ∧ inI64 y.f2 ∧ inI64 y.f3 ∧ inI64 y.f4 ∧ inI64 y.f5 := by
  have hu : Try.prog.underlying 25 = some (.struct (Try.prog.fieldsOf 25)) := by kernel_rfl
  obtain ⟨cs, rfl, _⟩ := okWide_struct hu hv
  obtain ⟨fuel, hf⟩ := h
  obtain ⟨y, h1, h2⟩ := trod_rec hf
  refine ⟨y, ?_, h2⟩
  have : cs.toList = recC y := h1
  rw [← this]
end
end Go.Proofs.Ytocfiabbhcgegaa
