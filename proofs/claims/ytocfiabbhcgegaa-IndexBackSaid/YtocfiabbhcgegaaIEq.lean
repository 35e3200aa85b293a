/- Records by ==. -/
import Derived.Test.YtocfiabbhcgegaaIRec
import Derived.ChangeKeysEq
namespace Go.Proofs.Ytocfiabbhcgegaa
open Go Go.RowKit
set_option linter.unusedVariables false

section
variable {P : Program}
/-- The fields of a struct, one behind the other: blank or not, type, offset. -/
def eqF (d : Nat) (xs ys : Array Value) : List (Bool × TypeId × Nat) → Sem Bool
  | [] => pure true
  | (u, t, o) :: fs =>
    if u = true then eqF d xs ys fs
    else do
      let a ← part t xs o
      let b ← part t ys o
      let r ← Op.equalIn d t a b
      if (!r) = true then pure false else eqF d xs ys fs
def fieldTr (f : Field) : Bool × TypeId × Nat := (decide (f.name = "_"), f.type, f.offset)
theorem eqFields_tr (d : Nat) (xs ys : Array Value) : ∀ (fs : List Field), Op.eqFields d xs ys fs = eqF d xs ys (fs.map fieldTr)
  | [] => rfl
  | f :: fs => by
    have ih := eqFields_tr d xs ys fs
    unfold Op.eqFields
    simp only [List.map_cons, fieldTr, eqF]
    rw [ih]
    by_cases h : f.name = "_"
    · rw [if_neg (by simpa using h), if_pos (by simpa using h)]
    · rw [if_pos h, if_neg (by simpa using h)]
theorem run_eqF_cons (W : World) {d : Nat} {xs ys : Array Value} {t o : Nat} {fs : List (Bool × TypeId × Nat)} {a b : Value} {r : Bool} (h1 : (part t xs o).run P W = .ok a W) (h2 : (part t ys o).run P W = .ok b W) (h3 : (Op.equalIn d t a b).run P W = .ok r W)
    {q : Bool} (h4 : (eqF d xs ys fs).run P W = .ok q W) : (eqF d xs ys ((false, t, o) :: fs)).run P W = .ok (r && q) W := by
  simp only [eqF, Bool.false_eq_true, if_false, Sem.run_bind, h1, h2, h3, Result.andThen_ok]
  cases r
  · simp
  · simpa using h4
theorem run_part_arr (W : World) {e e' n : Nat} {i : TypeInfo} (hu : P.underlying e = some (.array n e')) (hi : P.info? e = some i) (xs : Array Value) (off : Nat) :
    (part e xs off).run P W = .ok (.agg (xs.extract off (off + P.cellsOf e))) W := by
  simp [part, isAgg, run_underlying hu, run_sizeOf W hi]
end

/-- Are two records the same? -/
def eqR (x y : RecV) : Bool := (x.f0 == y.f0) && ((x.f1 == y.f1) && ((x.f2 == y.f2) && ((x.f3 == y.f3) && ((x.f4 == y.f4) && ((x.f5 == y.f5) && (eqD x.sum y.sum && true))))))
theorem eqR_self (x : RecV) : eqR x x = true := by
  unfold eqR
  rw [eqD_true rfl]
  simp
theorem eqR_iff (x y : RecV) : eqR x y = true ↔ x = y := by
  constructor
  · intro h
    unfold eqR eqD at h
    simp only [Bool.and_eq_true, beq_iff_eq, decide_eq_true_eq, and_true] at h
    obtain ⟨h0, h1, h2, h3, h4, h5, h6⟩ := h
    cases x; cases y
    simp only at h0 h1 h2 h3 h4 h5 h6
    subst h0; subst h1; subst h2; subst h3; subst h4; subst h5; subst h6
    rfl
  · rintro rfl
    exact eqR_self x
theorem rec_extract (x : RecV) : (recC x).toArray.extract 6 (6 + 32) = dc x.sum := by
  unfold dc
  apply Array.ext'
  rw [Array.toList_extract]
  show ((recC x).drop 6).take 32 = (bvs x.sum.1)
  show (bvs x.sum.1).take 32 = _
  rw [List.take_of_length_le (by rw [length_bvs, x.sum.2]; omega)]
theorem rec_equal (x y : RecV) (W : World) : (Op.equalIn 10000 25 (.agg (recC x).toArray) (.agg (recC y).toArray)).run Try.prog W = .ok (eqR x y) W := by
  have hu : Try.prog.underlying 25 = some (.struct (Try.prog.fieldsOf 25)) := by kernel_rfl
  rw [run_equalIn_agg W 9999 _ _ _ hu (by kernel_rfl), eqFields_tr,
    show ((Try.prog.fieldsOf 25).toList.map fieldTr) = [(false, 3, 0), (false, 3, 1), (false, 3, 2), (false, 3, 3), (false, 3, 4), (false, 3, 5), (false, 23, 6)] by kernel_rfl]
  have pl : Try.prog.plainKey 3 = true := by kernel_rfl
  have hi5' : Try.prog.info? 5 = some (Try.prog.info? 5).get! := by kernel_rfl
  have hiD : Try.prog.info? 23 = some (Try.prog.info? 23).get! := by kernel_rfl
  have hcD : Try.prog.cellsOf 23 = 32 := by kernel_rfl
  have I : ∀ (a b : Int), (Op.equalIn 9999 3 (.int .i64 a) (.int .i64 b)).run Try.prog W = .ok (a == b) W := fun a b => run_equalIn_int W 9998 3 .i64 .i64 a b Try.underlying3
  have D : ∀ z : RecV, (part 23 (recC z).toArray 6).run Try.prog W = .ok (.agg (dc z.sum)) W := fun z => by
    rw [run_part_arr W Try.underlying23 hiD, hcD, rec_extract]
  refine run_eqF_cons W (run_part_plain W pl (v := .int .i64 x.f0) rfl) (run_part_plain W pl (v := .int .i64 y.f0) rfl) (I _ _) ?_
  refine run_eqF_cons W (run_part_plain W pl (v := .int .i64 x.f1) rfl) (run_part_plain W pl (v := .int .i64 y.f1) rfl) (I _ _) ?_
  refine run_eqF_cons W (run_part_plain W pl (v := .int .i64 x.f2) rfl) (run_part_plain W pl (v := .int .i64 y.f2) rfl) (I _ _) ?_
  refine run_eqF_cons W (run_part_plain W pl (v := .int .i64 x.f3) rfl) (run_part_plain W pl (v := .int .i64 y.f3) rfl) (I _ _) ?_
  refine run_eqF_cons W (run_part_plain W pl (v := .int .i64 x.f4) rfl) (run_part_plain W pl (v := .int .i64 y.f4) rfl) (I _ _) ?_
  refine run_eqF_cons W (run_part_plain W pl (v := .int .i64 x.f5) rfl) (run_part_plain W pl (v := .int .i64 y.f5) rfl) (I _ _) ?_
  refine run_eqF_cons W (D x) (D y) (equalIn_d32 (d := 9997) Try.underlying23 hi5' Try.underlying5 (by kernel_rfl) x.sum y.sum W) ?_
  rfl
theorem rec_same (x : RecV) (W : World) : (Op.equalIn 10000 25 (.agg (recC x).toArray) (.agg (recC x).toArray)).run Try.prog W = .ok true W := by
  rw [rec_equal, eqR_self]
end Go.Proofs.Ytocfiabbhcgegaa
