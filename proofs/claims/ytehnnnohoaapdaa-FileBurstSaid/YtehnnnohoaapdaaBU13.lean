/- Texts joined: FileR, LawA, Law1, Law2. -/
import Derived.Test.YtehnnnohoaapdaaBU12
import Derived.Test.YtehnnnohoaapdaaBU09
import Derived.Test.YtehnnnohoaapdaaBU04
/- A page file as values: Format, on a disk that holds none, and a loss of power on the way. No program in sight. -/
namespace Go.Proofs.Ytehnnnohoaapdaa
open Go Go.RowKit
set_option linter.unusedVariables false
structure Blank (D : DV) : Prop where
  ok : DOk D
  pow : D.dead = false
  que : D.q = []
  z1 : D.pg 1 = zeroPage
  z0 : D.pg 0 = zeroPage ∨ ∃ S, ValidS S ∧ S.gen = 0 ∧ D.pg 0 = superB S
theorem chooseE_blank {a : List UInt8} (h : a = zeroPage ∨ ∃ S, ValidS S ∧ S.gen = 0 ∧ a = superB S) : chooseE a zeroPage = 55 := by
  have hz : zeroPage = zerosB 256 := rfl
  have u : unpE zeroPage = 52 := by rw [hz]; exact unpE_zero
  have e : emptyB zeroPage = true := by rw [hz]; exact emptyB_zero
  have c1 : ¬ (unpE a = 0 ∧ unpE zeroPage = 0) := fun x => by rw [u] at x; exact absurd x.2 (by decide)
  have c2 : ¬ emptyB zeroPage = false := by rw [e]; decide
  have c3 : (unpE a = 0 ∧ (unpS a).gen = 0) ∨ emptyB a = true := by
    rcases h with rfl | ⟨S, h1, h2, rfl⟩
    · exact .inr e
    · exact .inl ⟨unpE_superB S h1, by rw [unpS_superB S h1]; exact h2⟩
  unfold chooseE
  rw [if_neg c1, if_neg c2, if_pos c3]
theorem Blank.slots {D : DV} (h : Blank D) : slotsE D = 55 := by
  unfold slotsE
  rw [if_neg (by rw [h.pow]; decide)]
  have e0 : D.cur 0 = D.pg 0 := cur_other fun x hx => by rw [h.que] at hx; cases hx
  have e1 : D.cur 1 = D.pg 1 := cur_other fun x hx => by rw [h.que] at hx; cases hx
  rw [e0, e1, h.z1]
  exact chooseE_blank h.z0
theorem Blank.open {D : DV} (h : Blank D) : openE D = 55 ∧ openD D = slotsD D := by
  have e : openE D = 55 := by
    unfold openE
    rw [if_pos (by rw [h.slots]; decide), h.slots]
  exact ⟨e, if_neg (by rw [e]; decide)⟩
theorem Blank.of_slots {D : DV} (h : Blank D) : Blank (slotsD D) := by
  obtain ⟨f1, f2, f3, f4, f5, _, _⟩ := slotsD_same D
  have hg : ∀ n, (slotsD D).pg n = D.pg n := fun n => by unfold DV.pg; rw [f1]
  exact ⟨(slotsD_facts D h.ok).2.2, by rw [f4]; exact h.pow, by rw [f2]; exact h.que, by rw [hg]; exact h.z1, by rw [hg]; exact h.z0⟩
theorem newD_blank {n : Nat} (h1 : 3 ≤ n) (h2 : n ≤ 4096) (a : Int) (ha : 0 ≤ a ∧ a ≤ 9223372036854775807) : Blank { newD n with armed := a } := by
  have hz : ∀ i, i < n → (newD n).pg i = zeroPage := fun i hi => by
    show (List.replicate n zeroPage).getD i [] = _
    rw [List.getD_eq_getElem?_getD, List.getElem?_replicate, if_pos hi]; rfl
  exact ⟨armed_ok (newD_ok h1 h2) ha, rfl, rfl, hz 1 (by omega), .inl (hz 0 (by omega))⟩
theorem actD_armed (D : DV) : (actD D).armed = if D.armed = 0 then 0 else D.armed - 1 := by
  unfold actD
  split
  · rename_i h; exact h
  · rfl
theorem set_pg_eq {D E : DV} {p : Nat} {d : List UInt8} (he : E.pages = D.pages.set p d) (hp : p < D.pages.length) : E.pg p = d := by
  unfold DV.pg
  rw [he, List.getD_eq_getElem?_getD, List.getElem?_set_self hp]; rfl
theorem set_pg_ne {D E : DV} {p n : Nat} {d : List UInt8} (he : E.pages = D.pages.set p d) (hp : p ≠ n) : E.pg n = D.pg n := by
  unfold DV.pg
  rw [he, List.getD_eq_getElem?_getD, List.getElem?_set_ne hp, ← List.getD_eq_getElem?_getD]
theorem pg_eq {D E : DV} (he : E.pages = D.pages) (n : Nat) : E.pg n = D.pg n := by unfold DV.pg; rw [he]
def firstS (w : Int) (n : Nat) : SupV := ⟨w, 0, 2, 0, n⟩
def secondS (w : Int) (n : Nat) : SupV := ⟨w, 1, 2, 0, n⟩
theorem crash_super {E : DV} {p : Nat} {S : SupV} (hq : E.q = [(p, superB S)]) (hp : p < E.pages.length) (ho : (E.pg p).length = 256) (hz : (E.pg p).drop 64 = zerosB 192) (fates : List UInt8) :
    ((crashD E fates).pages = E.pages) ∨ (crashD E fates).pages = E.pages.set p (superB S) := by
  rcases crash_one hq fates with hc | ⟨f, hc⟩
  · exact .inl hc
  · rcases mixS_two f (superB S) (E.pg p) (length_superB _) ho (by rw [superB_tail, hz]) with hx | hx
    · rw [hx] at hc; exact .inr hc
    · rw [hx, set_same rfl hp] at hc; exact .inl hc
theorem zero_tail : zeroPage.drop 64 = zerosB 192 := by unfold zeroPage zerosB; rw [List.drop_replicate]
theorem Blank.tail0 {D : DV} (h : Blank D) : (D.pg 0).length = 256 ∧ (D.pg 0).drop 64 = zerosB 192 := by
  rcases h.z0 with e | ⟨S, _, _, e⟩
  · rw [e]; exact ⟨zeroPage_len, zero_tail⟩
  · rw [e]; exact ⟨length_superB _, superB_tail _⟩
theorem Blank.format {D : DV} (h : Blank D) {w : Int} (hw : 1 ≤ w ∧ w ≤ 32) :
    ((D.armed = 0 ∨ 5 ≤ D.armed) ∧ (formatR D w).2 = 0 ∧ Plat (formatR D w).1 (secondS w D.pages.length) [] ∧ (formatR D w).1.q = [] ∧ (formatR D w).1.dead = false ∧ (formatR D w).1.epoch = D.epoch ∧ (D.armed = 0 → (formatR D w).1.armed = 0) ∧ (formatR D w).1.pages.length = D.pages.length) ∨
    ((1 ≤ D.armed ∧ D.armed ≤ 4) ∧ (formatR D w).2 = 2 ∧ (formatR D w).1.pages.length = D.pages.length ∧ DOk (formatR D w).1 ∧ (formatR D w).1.q.length ≤ 2 ∧ ∀ fates, Blank (crashD (formatR D w).1 fates) ∨ Plat (crashD (formatR D w).1 fates) (secondS w D.pages.length) []) := by
  have hB := h.of_slots
  obtain ⟨f1, f2, f3, f4, f5, _, _⟩ := slotsD_same D
  have hR : formatR D w = runS [wS (firstS w D.pages.length), yS, wS (secondS w D.pages.length), yS] (slotsD D) := by
    unfold formatR
    rw [if_neg (by rw [h.pow]; decide), if_neg (by omega), if_neg (by rw [h.slots]; decide)]
    rfl
  have hlen : (slotsD D).pages.length = D.pages.length := by rw [f1]
  rw [hR, ← hlen, ← f5, ← f3]
  generalize slotsD D = X at *
  clear hR f1 f2 f3 f4 f5 h hlen
  have hlo := hB.ok.lo
  have hhi := hB.ok.hi
  have hv0 : ValidS (firstS w X.pages.length) := valid_new hw ⟨hlo, hhi⟩ (by decide)
  have hv1 : ValidS (secondS w X.pages.length) := valid_new hw ⟨hlo, hhi⟩ (by decide)
  have hf : Follows (secondS w X.pages.length) (firstS w X.pages.length) := ⟨rfl, by show (2 : Int) ≤ 2; decide⟩
  have ha := hB.ok.arm
  obtain ⟨t1, t2⟩ := hB.tail0
  have hh0 : X.has ((firstS w X.pages.length).gen % 2) := ⟨by show (0 : Int) ≤ 0 % 2; decide, by show (0 : Int) % 2 < _; omega⟩
  obtain ⟨w1, w2⟩ := write_alive hB.pow hh0 (length_superB (firstS w X.pages.length))
  have h1 : wS (firstS w X.pages.length) X = (actD (openW X 0 (superB (firstS w X.pages.length))), actE X) := by
    unfold wS
    rw [w1, w2]; rfl
  have ho1 : DOk (openW X 0 (superB (firstS w X.pages.length))) := open_ok hB.ok hh0 (length_superB _)
  generalize hF1 : actD (openW X 0 (superB (firstS w X.pages.length))) = F1 at h1
  have p1 : F1.pages = X.pages := by rw [← hF1, actD_pages]; rfl
  have q1 : F1.q = [(0, superB (firstS w X.pages.length))] := by rw [← hF1, actD_q]; show X.q ++ _ = _; rw [hB.que]; rfl
  have k1 : DOk F1 := by rw [← hF1]; exact actD_ok ho1
  have ep1 : F1.epoch = X.epoch := by rw [← hF1, actD_epoch]; rfl
  have m1 : F1.armed = if X.armed = 0 then 0 else X.armed - 1 := by rw [← hF1, actD_armed]; rfl
  have c1 : ∀ E : DV, E.pages = X.pages → E.q = [(0, superB (firstS w X.pages.length))] → DOk E → ∀ fates, Blank (crashD E fates) := by
    intro E hp hq hE fates
    have hg0 : E.pg 0 = X.pg 0 := pg_eq hp 0
    rcases crash_super hq (by rw [hp]; omega) (by rw [hg0]; exact t1) (by rw [hg0]; exact t2) fates with hc | hc
    · have e : ∀ n, (crashD E fates).pg n = X.pg n := fun n => by rw [pg_eq hc, pg_eq hp]
      exact ⟨crash_ok hE fates, rfl, rfl, by rw [e]; exact hB.z1, by rw [e]; exact hB.z0⟩
    · refine ⟨crash_ok hE fates, rfl, rfl, ?_, .inr ⟨_, hv0, rfl, set_pg_eq hc (by rw [hp]; omega)⟩⟩
      rw [set_pg_ne hc (by decide), pg_eq hp]; exact hB.z1
  have r1 : ∀ fs, runS (wS (firstS w X.pages.length) :: fs) X = if actE X = 0 then runS fs F1 else (F1, actE X) := fun fs => by
    show (if (wS (firstS w X.pages.length) X).2 = 0 then _ else wS (firstS w X.pages.length) X) = _
    rw [h1]
  rw [r1]
  rcases (actE_two X).symm with e | e
  · right
    have e' : X.armed = 1 := by unfold actE at e; split at e; assumption; cases e
    rw [if_neg (by omega)]
    exact ⟨by omega, e, by rw [p1], k1, by show F1.q.length ≤ 2; rw [q1]; simp, fun fates => .inl (c1 F1 p1 q1 k1 fates)⟩
  have n1 : X.armed ≠ 1 := by intro h0; unfold actE at e; rw [if_pos h0] at e; cases e
  rw [if_pos e]
  have d1 : F1.dead = false := by rw [← hF1]; exact act_zero (D := openW X 0 (superB (firstS w X.pages.length))) e hB.pow
  have ysync : ∀ G : DV, G.dead = false → ∀ fs, runS (yS :: fs) G = if actE G = 0 then runS fs (flushD (actD G)) else (actD G, 2) := fun G hG fs => by
    obtain ⟨s1, s2⟩ := sync_alive hG
    have hy : yS G = if actE G = 0 then (flushD (actD G), 0) else (actD G, 2) := by
      unfold yS
      rw [s1, s2]
      rcases actE_two G with e | e
      · rw [e, if_pos rfl, if_pos rfl]
      · rw [e, if_neg (by decide), if_neg (by decide)]
    show (if (yS G).2 = 0 then _ else yS G) = _
    rw [hy]
    by_cases e : actE G = 0
    · rw [if_pos e, if_pos rfl, if_pos e]
    · rw [if_neg e, if_neg (show ¬ ((actD G, (2 : Int)).2 = 0) by show ¬ (2 : Int) = 0; decide), if_neg e]
  rw [ysync F1 d1]
  rcases (actE_two F1).symm with e2 | e2
  · right
    have e' : F1.armed = 1 := by unfold actE at e2; split at e2; assumption; cases e2
    rw [if_neg (by omega)]
    refine ⟨?_, rfl, by show (actD F1).pages.length = _; rw [actD_pages, p1], actD_ok k1, by show (actD F1).q.length ≤ 2; rw [actD_q, q1]; simp, fun fates => .inl (c1 (actD F1) (by rw [actD_pages, p1]) (by rw [actD_q, q1]) (actD_ok k1) fates)⟩
    split at m1 <;> omega
  have n2 : F1.armed ≠ 1 := by intro h0; unfold actE at e2; rw [if_pos h0] at e2; cases e2
  rw [if_pos e2]
  generalize hF2 : flushD (actD F1) = F2
  have p2 : F2.pages = X.pages.set 0 (superB (firstS w X.pages.length)) := by
    rw [← hF2]
    show applyQ (actD F1).pages (actD F1).q = _
    rw [actD_pages, actD_q, p1, q1]; rfl
  have q2 : F2.q = [] := by rw [← hF2]; rfl
  have k2 : DOk F2 := by rw [← hF2]; exact flush_okD (actD_ok k1)
  have d2 : F2.dead = false := by rw [← hF2]; exact act_zero e2 d1
  have ep2 : F2.epoch = X.epoch := by rw [← hF2]; show (actD F1).epoch = _; rw [actD_epoch, ep1]
  have m2 : F2.armed = if F1.armed = 0 then 0 else F1.armed - 1 := by rw [← hF2]; exact actD_armed F1
  have l2 : F2.pages.length = X.pages.length := by rw [p2, List.length_set]
  have g20 : F2.pg 0 = superB (firstS w X.pages.length) := set_pg_eq p2 (by omega)
  have g21 : F2.pg 1 = zeroPage := by rw [set_pg_ne p2 (by decide)]; exact hB.z1
  have b2 : ∀ E : DV, E.pages = F2.pages → DOk E → E.q = [] → E.dead = false → Blank E := fun E hp hE hq hd => ⟨hE, hd, hq, by rw [pg_eq hp]; exact g21, .inr ⟨_, hv0, rfl, by rw [pg_eq hp]; exact g20⟩⟩
  have s2 : ∀ E : DV, E.pages = F2.pages.set 1 (superB (secondS w X.pages.length)) → DOk E → E.q = [] → Plat E (secondS w X.pages.length) [] := fun E hp hE hq =>
    ⟨hE, hv1, by rw [hp, List.length_set, l2]; rfl, ⟨_, hv0, hf, set_pg_eq hp (by omega), by
        show E.pg 0 = _
        rw [set_pg_ne hp (by decide)]; exact g20⟩, by show (2 : Int) - 2 ≤ 0; decide, fun x hx => (by cases hx), fun n h1 h2 => (by have h2 : (n : Int) < 2 := h2; omega), fun x hx => by rw [hq] at hx; cases hx⟩
  have hh1 : F2.has ((secondS w X.pages.length).gen % 2) := ⟨by show (0 : Int) ≤ 1 % 2; decide, by show (1 : Int) % 2 < _; omega⟩
  obtain ⟨w3, w4⟩ := write_alive d2 hh1 (length_superB (secondS w X.pages.length))
  have h3 : wS (secondS w X.pages.length) F2 = (actD (openW F2 1 (superB (secondS w X.pages.length))), actE F2) := by
    unfold wS
    rw [w3, w4]; rfl
  have ho3 : DOk (openW F2 1 (superB (secondS w X.pages.length))) := open_ok k2 hh1 (length_superB _)
  generalize hF3 : actD (openW F2 1 (superB (secondS w X.pages.length))) = F3 at h3
  have p3 : F3.pages = F2.pages := by rw [← hF3, actD_pages]; rfl
  have q3 : F3.q = [(1, superB (secondS w X.pages.length))] := by rw [← hF3, actD_q]; show F2.q ++ _ = _; rw [q2]; rfl
  have k3 : DOk F3 := by rw [← hF3]; exact actD_ok ho3
  have ep3 : F3.epoch = X.epoch := by rw [← hF3, actD_epoch]; exact ep2
  have m3 : F3.armed = if F2.armed = 0 then 0 else F2.armed - 1 := by rw [← hF3, actD_armed]; rfl
  have c3 : ∀ E : DV, E.pages = F2.pages → E.q = [(1, superB (secondS w X.pages.length))] → DOk E → ∀ fates, Blank (crashD E fates) ∨ Plat (crashD E fates) (secondS w X.pages.length) [] := by
    intro E hp hq hE fates
    have hg1 : E.pg 1 = zeroPage := by rw [pg_eq hp]; exact g21
    rcases crash_super hq (by rw [hp]; omega) (by rw [hg1]; exact zeroPage_len) (by rw [hg1]; exact zero_tail) fates with hc | hc
    · exact .inl (b2 _ (by rw [hc, hp]) (crash_ok hE fates) rfl rfl)
    · exact .inr (s2 _ (by rw [hc, hp]) (crash_ok hE fates) rfl)
  have r3 : ∀ fs, runS (wS (secondS w X.pages.length) :: fs) F2 = if actE F2 = 0 then runS fs F3 else (F3, actE F2) := fun fs => by
    show (if (wS (secondS w X.pages.length) F2).2 = 0 then _ else wS (secondS w X.pages.length) F2) = _
    rw [h3]
  rw [r3]
  rcases (actE_two F2).symm with e3 | e3
  · right
    have e' : F2.armed = 1 := by unfold actE at e3; split at e3; assumption; cases e3
    rw [if_neg (by omega)]
    refine ⟨?_, e3, by show F3.pages.length = _; rw [p3, l2], k3, by show F3.q.length ≤ 2; rw [q3]; simp, c3 F3 p3 q3 k3⟩
    split at m1 <;> split at m2 <;> omega
  have n3 : F2.armed ≠ 1 := by intro h0; unfold actE at e3; rw [if_pos h0] at e3; cases e3
  rw [if_pos e3]
  have d3 : F3.dead = false := by rw [← hF3]; exact act_zero (D := openW F2 1 (superB (secondS w X.pages.length))) e3 d2
  rw [ysync F3 d3]
  rcases (actE_two F3).symm with e4 | e4
  · right
    have e' : F3.armed = 1 := by unfold actE at e4; split at e4; assumption; cases e4
    rw [if_neg (by omega)]
    refine ⟨?_, rfl, by show (actD F3).pages.length = _; rw [actD_pages, p3, l2], actD_ok k3, by show (actD F3).q.length ≤ 2; rw [actD_q, q3]; simp, c3 (actD F3) (by rw [actD_pages, p3]) (by rw [actD_q, q3]) (actD_ok k3)⟩
    split at m1 <;> split at m2 <;> split at m3 <;> omega
  have n4 : F3.armed ≠ 1 := by intro h0; unfold actE at e4; rw [if_pos h0] at e4; cases e4
  rw [if_pos e4]
  left
  have p4 : (flushD (actD F3)).pages = F2.pages.set 1 (superB (secondS w X.pages.length)) := by
    show applyQ (actD F3).pages (actD F3).q = _
    rw [actD_pages, actD_q, p3, q3]; rfl
  have hP := s2 _ p4 (flush_okD (actD_ok k3)) rfl
  refine ⟨?_, rfl, hP, rfl, act_zero e4 d3, ?_, fun h0 => ?_, ?_⟩
  · split at m1 <;> split at m2 <;> split at m3 <;> omega
  · show (actD F3).epoch = _
    rw [actD_epoch, ep3]
  · show (actD F3).armed = 0
    rw [actD_armed, m3, m2, m1, if_pos h0]; rfl
  · show (flushD (actD F3)).pages.length = _
    rw [p4, List.length_set, l2]
end Go.Proofs.Ytehnnnohoaapdaa

/- The statements' own book as an assertion: lists of lists, numbers; superblocks and counts compared. -/
namespace Go.Proofs.Ytehnnnohoaapdaa
open Go Go.RowKit
set_option linter.unusedVariables false
set_option linter.unusedSectionVars false
section
variable {P : Program} {ops : Array Oper} {S : World → Prop} {o : Oper} {a : Act} {k : IntKind} {m n : Int} {x y : Operand} {t t' : TypeId}
theorem y_slt {ao : Option Addr} {k' len cap h : Nat} {e : TypeId} (hw : Region.wanted o (yielded ops a.tmps) = true) (ho : o.op = .slice t x none (some y) none) (hx : a.eval x = .slice ao len cap) (hy : a.eval y = .int k (h : Int))
    (hu : P.underlying t = some (.slice e)) (hz : ∀ w, (sizeOf e).run P w = .ok k' w) (hh : h ≤ cap) : YieldsIf P ops S o (.slice ao h cap) a := by
  have hb : bounds? len cap none (some (.int k (h : Int))) 0 h := ⟨⟨_, _, rfl, rfl, hh⟩, rfl⟩
  have := y_sln (S := S) hw ho hx rfl (show (some y).map a.eval = _ by rw [Option.map_some, hy]) hu hz hb (n' := h) (c' := cap) (by omega) (by omega)
  have e : (if cap = 0 then ao else ao.map (·.add (0 * k'))) = ao := by
    split
    · rfl
    · cases ao with
      | none => rfl
      | some b => simp [Addr.add]
  rw [e] at this
  exact this
theorem y_eqs {c d : List Value} {r : Bool} (hw : Region.wanted o (yielded ops a.tmps) = true) (ho : o.op = .binOp .eql t x y t') (hx : a.eval x = .agg c.toArray) (hy : a.eval y = .agg d.toArray) (hm : P.eqGuardType P.depth t = false)
    (he : ∀ W, (Op.equalIn 10000 t (.agg c.toArray) (.agg d.toArray)).run P W = .ok r W) : YieldsIf P ops S o (.bool r) a :=
  y_run hw fun w _ => by
    unfold execOp
    simp only [ho, hx, hy, Sem.run_bind, run_eql_struct, run_eqGuard_agg (hm := hm), he, Result.andThen_ok]
    rfl
theorem y_nes {c d : List Value} {r : Bool} (hw : Region.wanted o (yielded ops a.tmps) = true) (ho : o.op = .binOp .neq t x y t') (hx : a.eval x = .agg c.toArray) (hy : a.eval y = .agg d.toArray) (hm : P.eqGuardType P.depth t = false)
    (he : ∀ W, (Op.equalIn 10000 t (.agg c.toArray) (.agg d.toArray)).run P W = .ok (!r) W) : YieldsIf P ops S o (.bool r) a :=
  y_run hw fun w _ => by
    unfold execOp
    simp only [ho, hx, hy, Sem.run_bind, run_neq_struct, run_eqGuard_agg (hm := hm), he, Result.andThen_ok, Bool.not_not]
    rfl
end
theorem sup_guard : Try.prog.eqGuardType Try.prog.depth 37 = false := by kernel_rfl
theorem eqS_true {x y : SupV} (h : x = y) : eqS x y = true := (eqS_iff x y).2 h
theorem sup_same (x : SupV) (W : World) : (Op.equalIn 10000 37 (.agg (supC x).toArray) (.agg (supC x).toArray)).run Try.prog W = .ok true W := by
  rw [sup_equal, eqS_true rfl]
theorem rowsT : ElemTy Try.prog 45 22 1 24 := elemTy_of (by kernel_rfl)
theorem intsT : ElemTy Try.prog 46 3 1 8 := elemTy_of (by kernel_rfl)
theorem lst_front {e : TypeId} {k n h c : Nat} {ao : Option Addr} {xs : List Value} {w : World} (hl : (lst e k (.slice ao n c) n xs).holds w) (hh : h ≤ n) : (lst e k (.slice ao h c) h (xs.take (h * k))).holds w := by
  have hlen := lst_len hl
  obtain ⟨h1, ⟨h2, h3⟩ | ⟨g, cap, cur, h2, h3, h4, h5, h6, h7, h8⟩⟩ := hl
  · cases h2
    obtain rfl : h = 0 := by omega
    exact ⟨by simp, .inl ⟨rfl, rfl⟩⟩
  · cases h2
    refine ⟨?_, .inr ⟨g, c, cur, rfl, h3, h4, by omega, h6, h7, ?_⟩⟩
    · rw [List.length_take, hlen]
      exact Nat.min_eq_left (Nat.mul_le_mul_right k hh)
    · rw [← h8, List.take_take, Nat.min_eq_left (Nat.mul_le_mul_right k hh)]
theorem lst_front_foot {e : TypeId} {k n h c : Nat} {ao : Option Addr} {xs ys : List Value} : (lst e k (.slice ao n c) n xs).foot = (lst e k (.slice ao h c) h ys).foot := by
  show obs _ = obs _
  unfold obs
  cases ao <;> rfl
theorem Mem.front {w0 w : World} {F : List Nat} {L : List Asn} (h : Mem w0 F w L) (i : Nat) {e : TypeId} {k n m c : Nat} {ao : Option Addr} {xs : List Value} (hi : L[i]? = some (lst e k (.slice ao n c) n xs)) (hm : m ≤ n) : Mem w0 F w (L.set i (lst e k (.slice ao m c) m (xs.take (m * k)))) :=
  h.upd i hi ⟨Grew.refl _ _, fun A hA => by
    obtain rfl : A = _ := by simpa using hA
    exact lst_front (h.get i hi) hm, by simp only [foots, List.flatMap_cons, List.flatMap_nil, List.append_nil]; exact obs_nodup _, fun b hb => .inl (by
      simp only [foots, List.flatMap_cons, List.flatMap_nil, List.append_nil] at hb
      rw [lst_front_foot (e := e) (k := k) (h := m) (ys := xs.take (m * k))]
      exact hb)⟩
theorem take1 {α : Type} {xs : List α} {i : Nat} (h : i < xs.length) : (xs.drop i).take 1 = [xs[i]] := by
  rw [List.drop_eq_getElem_cons h]; rfl
def bytesL (v : Value) (l : List UInt8) : Asn := lst 5 1 v l.length (bvs l)
def inner (vs : List Value) (ls : List (List UInt8)) : List Asn := List.zipWith bytesL vs ls
def innerA (vs : List Value) (ls : List (List UInt8)) : Asn := star True (inner vs ls)
def rowsL (lv : Value) (vs : List Value) (ls : List (List UInt8)) : List Asn := [lst 22 1 lv ls.length vs, innerA vs ls]
def rows (lv : Value) (vs : List Value) (ls : List (List UInt8)) : Asn := star (vs.length = ls.length) (rowsL lv vs ls)
theorem foots_sub {L L' : List Asn} (h : L'.Sublist L) : (foots L').Sublist (foots L) := by
  induction h with
  | slnil => exact List.Sublist.refl _
  | cons A _ ih => rw [foots_cons]; exact List.Sublist.trans ih (List.sublist_append_right _ _)
  | cons_cons A _ ih => rw [foots_cons, foots_cons]; exact List.Sublist.append (List.Sublist.refl _) ih
theorem Mem.sub {w0 w : World} {F : List Nat} {L L' : List Asn} (h : Mem w0 F w L) (hs : L'.Sublist L) : Mem w0 F w L' := by
  have hf := foots_sub hs
  exact ⟨h.grew, fun A hA => h.all A (hs.subset hA), h.nodup.sublist hf, fun b hb => h.new b (hf.subset hb)⟩
theorem inner_snoc {vs : List Value} {ls : List (List UInt8)} (h : vs.length = ls.length) (v : Value) (l : List UInt8) : inner (vs ++ [v]) (ls ++ [l]) = inner vs ls ++ [bytesL v l] := by
  unfold inner
  rw [List.zipWith_append h]; rfl
theorem inner_take (vs : List Value) (ls : List (List UInt8)) (m : Nat) : inner (vs.take m) (ls.take m) = (inner vs ls).take m := by
  unfold inner
  rw [List.take_zipWith]
theorem rows_pt {lv : Value} {vs : List Value} {ls : List (List UInt8)} {w : World} (h : (rows lv vs ls).holds w) {i : Nat} (hi : i < ls.length) :
    ∃ g c ao n, lv = .slice (some ⟨g, 0, none⟩) ls.length c ∧ vs[i]? = some (.slice ao (ls.getD i []).length n) ∧ (ls.getD i []).length ≤ maxLen ∧ ∀ b o, ao = some ⟨b, o, none⟩ → b ∈ (rows lv vs ls).foot := by
  obtain ⟨hv, ha⟩ := h
  have h0 : (lst 22 1 lv ls.length vs).holds w := ha _ (List.mem_cons_self ..)
  have h9 := (ha (innerA vs ls) (List.mem_cons_of_mem _ (List.mem_cons_self ..))).2
  rcases lst_at h0 with ⟨_, hz, _⟩ | ⟨g, c, rfl, h1, h2⟩
  · omega
  · have hiv : i < vs.length := by omega
    have hz : (inner vs ls)[i]? = some (bytesL vs[i] ls[i]) := by
      unfold inner
      rw [List.getElem?_zipWith, List.getElem?_eq_getElem hiv, List.getElem?_eq_getElem hi]
    have hm : bytesL vs[i] ls[i] ∈ inner vs ls := List.mem_of_getElem? hz
    have h3 : (bytesL vs[i] ls[i]).holds w := h9 _ hm
    have hg : ls.getD i [] = ls[i] := by rw [List.getD_eq_getElem?_getD, List.getElem?_eq_getElem hi]; rfl
    rcases lst_at h3 with ⟨e1, e2, e3⟩ | ⟨g2, c2, e1, e2, e3⟩
    · refine ⟨g, c, none, 0, rfl, ?_, ?_, fun b o hb => by cases hb⟩
      · rw [List.getElem?_eq_getElem hiv, e1, hg, e2]
      · rw [hg, e2]; exact Nat.zero_le _
    · refine ⟨g, c, some ⟨g2, 0, none⟩, c2, rfl, ?_, ?_, fun b o hb => ?_⟩
      · rw [List.getElem?_eq_getElem hiv, e1, hg]
      · rw [hg]; omega
      · cases hb
        show g2 ∈ foots (rowsL _ vs ls)
        refine mem_foots.2 ⟨innerA vs ls, List.mem_cons_of_mem _ (List.mem_cons_self ..), ?_⟩
        show g2 ∈ foots (inner vs ls)
        refine mem_foots.2 ⟨_, hm, ?_⟩
        show g2 ∈ obs _
        rw [mem_obs, e1]; rfl
theorem lst_cell_at {e : TypeId} {v u : Value} {n g c i : Nat} {xs : List Value} {w : World} (h : (lst e 1 v n xs).holds w) (hv : v = .slice (some ⟨g, 0, none⟩) n c) (hi : xs[i]? = some u) : w.cell? ⟨g, i, none⟩ = some u := by
  subst hv
  have hlt : i < xs.length := (List.getElem?_eq_some_iff.1 hi).1
  exact lst_range h i (ys := [u]) (by rw [List.length_singleton, take1 hlt, ← (List.getElem?_eq_some_iff.1 hi).2]) 0 u rfl
theorem rows_cell {lv v : Value} {vs : List Value} {ls : List (List UInt8)} {w : World} {g n c i : Nat} (h : (rows lv vs ls).holds w) (hl : lv = .slice (some ⟨g, 0, none⟩) n c) (hn : n = ls.length) (hv : vs[i]? = some v) : w.cell? ⟨g, i, none⟩ = some v := by
  subst hn
  exact lst_cell_at (h.2 _ (List.mem_cons_self ..)) hl hv
theorem rows_row {lv : Value} {vs : List Value} {ls : List (List UInt8)} {w : World} {ao : Option Addr} {m n i : Nat} (h : (rows lv vs ls).holds w) (hi : i < ls.length) (hv : vs[i]? = some (.slice ao m n)) : Row w ao (ls.getD i []).length (ls.getD i []) := by
  obtain ⟨hl, ha⟩ := h
  have hiv : i < vs.length := by omega
  have h9 := (ha (innerA vs ls) (List.mem_cons_of_mem _ (List.mem_cons_self ..))).2
  have hz : (inner vs ls)[i]? = some (bytesL vs[i] ls[i]) := by
    unfold inner
    rw [List.getElem?_zipWith, List.getElem?_eq_getElem hiv, List.getElem?_eq_getElem hi]
  have h3 : (bytesL vs[i] ls[i]).holds w := h9 _ (List.mem_of_getElem? hz)
  have hg : ls.getD i [] = ls[i] := by rw [List.getD_eq_getElem?_getD, List.getElem?_eq_getElem hi]; rfl
  have he : vs[i] = .slice ao m n := by rw [List.getElem?_eq_getElem hiv] at hv; exact Option.some.inj hv
  rw [hg]
  rw [he] at h3
  rcases lst_at h3 with ⟨e1, e2, e3⟩ | ⟨g2, c2, e1, e2, e3⟩
  · cases e1
    rw [List.eq_nil_of_length_eq_zero e2]; exact Row.nil
  · cases e1
    exact lst_row h3
theorem rows_val {lv : Value} {vs : List Value} {ls : List (List UInt8)} {w : World} (h : (rows lv vs ls).holds w) : ∃ ao c, lv = .slice ao ls.length c ∧ ls.length ≤ c := by
  rcases lst_at (h.2 _ (List.mem_cons_self ..)) with ⟨e1, e2, _⟩ | ⟨g, c, e1, e2, _⟩
  · exact ⟨_, _, by rw [e2]; exact e1, by rw [e2]; exact Nat.le_refl 0⟩
  · exact ⟨_, _, e1, e2⟩
section
variable {w0 w : World} {F : List Nat} {R : List Asn} {lv : Value} {vs : List Value} {ls : List (List UInt8)}
theorem rows_cut {ao : Option Addr} {n c : Nat} (h : Mem w0 F w (rows (.slice ao n c) vs ls :: R)) (hn : n = ls.length) {m : Nat} (hm : m ≤ n) : ((vs.take m).length = (ls.take m).length ∧ (ls.take m).length = m) ∧ Mem w0 F w (lst 22 1 (.slice ao m c) m (vs.take m) :: innerA (vs.take m) (ls.take m) :: R) := by
  subst hn
  obtain ⟨hv, h1⟩ := Mem.open (X := rowsL _ vs ls) h
  have h2 : Mem w0 F w (lst 22 1 (.slice ao m c) m (vs.take (m * 1)) :: innerA vs ls :: R) := Mem.front h1 0 (m := m) rfl hm
  rw [Nat.mul_one] at h2
  have h3 := h2.perm (List.Perm.swap (innerA vs ls) _ R)
  have h4 := (Mem.open (X := inner vs ls) h3).2
  have h5 : Mem w0 F w (inner (vs.take m) (ls.take m) ++ (lst 22 1 (.slice ao m c) m (vs.take m) :: R)) := by
    rw [inner_take]
    exact h4.sub (List.Sublist.append_right (List.take_sublist _ _) _)
  have h6 : Mem w0 F w (innerA (vs.take m) (ls.take m) :: (lst 22 1 (.slice ao m c) m (vs.take m) :: R)) := Mem.close trivial h5
  refine ⟨⟨by rw [List.length_take, List.length_take, hv], by rw [List.length_take]; omega⟩, h6.perm (List.Perm.swap _ _ R)⟩
theorem rows_snoc {v : Value} {l : List UInt8} {m : Nat} (hv : vs.length = ls.length ∧ ls.length = m) (h : Mem w0 F w (lst 22 1 lv (m + 1) (vs ++ [v]) :: bytesL v l :: innerA vs ls :: R)) : Mem w0 F w (rows lv (vs ++ [v]) (ls ++ [l]) :: R) := by
  obtain ⟨hv, rfl⟩ := hv
  have h1 : Mem w0 F w (innerA vs ls :: lst 22 1 lv (ls.length + 1) (vs ++ [v]) :: bytesL v l :: R) := h.perm ((List.Perm.cons _ (List.Perm.swap _ _ R)).trans (List.Perm.swap _ _ _))
  have h2 := (Mem.open (X := inner vs ls) h1).2
  have h3 : Mem w0 F w ((inner vs ls ++ [bytesL v l]) ++ (lst 22 1 lv (ls.length + 1) (vs ++ [v]) :: R)) := by
    refine h2.perm ?_
    rw [List.append_assoc]
    exact List.Perm.append_left _ (List.Perm.swap _ _ R)
  rw [← inner_snoc hv] at h3
  have h4 : Mem w0 F w (innerA (vs ++ [v]) (ls ++ [l]) :: (lst 22 1 lv (ls.length + 1) (vs ++ [v]) :: R)) := Mem.close trivial h3
  refine Mem.close (X := rowsL lv (vs ++ [v]) (ls ++ [l])) (by simp [hv]) ?_
  unfold rowsL
  rw [List.length_append, List.length_singleton]
  exact h4.perm (List.Perm.swap _ _ R)
end
structure BV where
  ps : Pgs
  mark : Int
  gen : Int
  head : Int
  inMark : Int
  inHead : Int
def BV.loads (B : BV) : List (List UInt8) := B.ps.map (·.2)
def BV.kinds (B : BV) : List Value := B.ps.map fun x => .int .i64 (x.1 : Int)
structure BX where
  lv : Value
  kv : Value
  vs : List Value
def bC (B : BV) (x : BX) : List Value := [x.lv, x.kv, .int .i64 B.mark, .int .i64 B.gen, .int .i64 B.head, .int .i64 B.inMark, .int .i64 B.inHead]
def bookL (B : BV) (b : Nat) (x : BX) : List Asn := [blk b 48 (bC B x), rows x.lv x.vs B.loads, lst 3 1 x.kv B.ps.length B.kinds]
def book (B : BV) (b : Nat) (x : BX) : Asn := star True (bookL B b x)
section
variable {w0 w : World} {F : List Nat} {R : List Asn} {B : BV} {b : Nat} {x : BX}
theorem book_open (h : Mem w0 F w (book B b x :: R)) : Mem w0 F w (blk b 48 (bC B x) :: rows x.lv x.vs B.loads :: lst 3 1 x.kv B.ps.length B.kinds :: R) := (Mem.open h).2
theorem book_close (h : Mem w0 F w (blk b 48 (bC B x) :: rows x.lv x.vs B.loads :: lst 3 1 x.kv B.ps.length B.kinds :: R)) : Mem w0 F w (book B b x :: R) := Mem.close (X := bookL B b x) trivial h
end
theorem lst_pt {e : TypeId} {v u : Value} {n i : Nat} {xs : List Value} {w : World} (h : (lst e 1 v n xs).holds w) (hi : xs[i]? = some u) : ∃ g c, v = .slice (some ⟨g, 0, none⟩) n c := by
  have hl := lst_len h
  have hlt : i < xs.length := (List.getElem?_eq_some_iff.1 hi).1
  rcases lst_at h with ⟨_, hz, _⟩ | ⟨g, c, rfl, h1, h2⟩
  · omega
  · exact ⟨g, c, rfl⟩
theorem BV.load_at (B : BV) (i : Nat) : B.loads.getD (i - 2) [] = (pgAt B.ps i).2 := by
  unfold BV.loads pgAt
  rw [List.getD_eq_getElem?_getD, List.getD_eq_getElem?_getD, List.getElem?_map]
  cases B.ps[i - 2]? <;> rfl
theorem BV.kind_at (B : BV) {i : Nat} (h : i - 2 < B.ps.length) : B.kinds[i - 2]? = some (.int .i64 ((pgAt B.ps i).1 : Int)) := by
  unfold BV.kinds pgAt
  rw [List.getElem?_map, List.getD_eq_getElem?_getD, List.getElem?_eq_getElem h]; rfl
theorem BV.loads_len (B : BV) : B.loads.length = B.ps.length := by unfold BV.loads; rw [List.length_map]
theorem put_loads (B : BV) (m k : Nat) (l : List UInt8) : ({ B with ps := putP B.ps (m + 2) (k, l) } : BV).loads = B.loads.take m ++ [l] := by
  unfold BV.loads putP
  simp [List.map_take]
theorem put_kinds (B : BV) (m k : Nat) (l : List UInt8) : ({ B with ps := putP B.ps (m + 2) (k, l) } : BV).kinds = B.kinds.take m ++ [.int .i64 (k : Int)] := by
  unfold BV.kinds putP
  simp [List.map_take]
theorem copy_any (ao : Option Addr) (n c : Nat) (l : List UInt8) (w : World) (h0 : Row w ao n l) (hb : n ≤ 140737488351400) :
    Calls Try.prog 32 #[.slice ao n c] w fun e w' => ∃ a' c', e = .returned (.slice a' l.length c') ∧ Mem w [] w' [bytesL (.slice a' l.length c') l] := by
  refine (copyBytes_any ao n c l w h0 hb).mono ?_
  rintro e w' ⟨⟨v, rfl, h1⟩, h2⟩
  have h3 : Mem w [] w' [bytesL v l] := (Mem.nil w).ownl h2 h1
  obtain ⟨a', c', rfl⟩ := qv_at (h3.get 0 rfl)
  exact ⟨a', c', rfl, h3⟩
theorem same_any (a0 a1 : Option Addr) (n0 c0 n1 c1 : Nat) (l0 l1 : List UInt8) (w : World) (h0 : Row w a0 n0 l0) (h1 : Row w a1 n1 l1) (m0 : n0 ≤ maxLen) (m1 : n1 ≤ maxLen) :
    Calls Try.prog 35 #[.slice a0 n0 c0, .slice a1 n1 c1] w fun e w' => e = .returned (.bool (eqB l0 l1)) ∧ Mem w [] w' [] := by
  refine (sameBytes_any a0 a1 n0 c0 n1 c1 l0 l1 w h0 h1 m0 m1).mono ?_
  rintro e w' ⟨rfl, q, rfl⟩
  exact ⟨rfl, (Mem.nil w).low (below_drewN2 (Below.refl _ _) q)⟩
theorem bytesL_row {ao : Option Addr} {n c : Nat} {l : List UInt8} {w : World} (h : (bytesL (.slice ao n c) l).holds w) : Row w ao l.length l := by
  rcases lst_at h with ⟨e1, e2, e3⟩ | ⟨g2, c2, e1, e2, e3⟩
  · cases e1
    rw [List.eq_nil_of_length_eq_zero e2]; exact Row.nil
  · cases e1
    exact lst_row h
theorem bytesL_cap {ao : Option Addr} {n c : Nat} {l : List UInt8} {w : World} (h : (bytesL (.slice ao n c) l).holds w) : l.length ≤ c := by
  rcases lst_at h with ⟨e1, e2, e3⟩ | ⟨g2, c2, e1, e2, e3⟩
  · rw [e2]; exact Nat.zero_le _
  · cases e1
    exact e2
def DV.rd (D : DV) (r : Int) : DV := { D with reads := r }
theorem Inv.rd {D : DV} {V : FV} {ps : Pgs} (h : Inv D V ps) (r : Int) : Inv (D.rd r) V ps := h.cnt r D.writes D.syncs
end Go.Proofs.Ytehnnnohoaapdaa

/- The statements' own fits and place. -/
namespace Go.Proofs.Ytehnnnohoaapdaa
open Go Go.RowKit
set_option linter.unusedVariables false
set_option linter.unusedSimpArgs false
def Fits (pages width : Int) : Prop := 3 ≤ pages ∧ pages ≤ 64 ∧ 1 ≤ width ∧ width ≤ 32
instance (p w : Int) : Decidable (Fits p w) := inferInstanceAs (Decidable (_ ∧ _))
theorem tmod_place (i n : Int) (hn : 0 < n) : (if i.tmod n < 0 then i.tmod n + n else i.tmod n) = i % n := by
  have h := Int.tmod_eq_emod (a := i) (b := n)
  have h1 := Int.emod_nonneg i (show n ≠ 0 by omega)
  have h2 := Int.emod_lt_of_pos i hn
  rw [h]
  split <;> split <;> simp_all <;> omega
theorem tmod_in (i n : Int) (hn : 0 < n) (hn2 : n ≤ 4096) : -4096 ≤ i.tmod n ∧ i.tmod n ≤ 4096 := by
  have h := Int.tmod_eq_emod (a := i) (b := n)
  have h1 := Int.emod_nonneg i (show n ≠ 0 by omega)
  have h2 := Int.emod_lt_of_pos i hn
  rw [h]
  split <;> omega
set_option maxRecDepth 100000 in
set_option maxHeartbeats 4000000 in
theorem fits_any (pages width : Int) (w : World) : Calls Try.prog 11 #[.int .i64 pages, .int .i64 width] w fun e w' => e = .returned (.bool (decide (Fits pages width))) ∧ Mem w [] w' [] := by
  have M := Mem.nil w
  go_enter Try.func11, Try.ntmps11
  refine wp_seq_k (fun K1 hK1 => ?_)
  refine wp_region_lit ?_
  refine pl M (y_assign (v := .bool false) rfl rfl rfl) ?_
  simp only [Act.put, z1, z2, z3]
  refine wpList_nil ?_
  refine hK1 _ _ ?_
  clear hK1
  refine wp_seq_k (fun K2 hK2 => ?_)
  refine wp_region_lit ?_
  refine pl M (y_move (v := .int .i64 pages) rfl rfl rfl) ?_
  simp only [Act.put, z1, z2, z3]
  rcases Decidable.em ((3 : Int) ≤ pages) with h3 | h3
  · refine pl M (y_geq (b := true) rfl rfl rfl rfl (decide_eq_true h3)) ?_
    simp only [Act.put, z1, z2, z3]
    refine pl M (y_move (v := .bool true) rfl rfl rfl) ?_
    simp only [Act.put, z1, z2, z3]
    refine pl M (y_move (v := .int .i64 pages) rfl rfl rfl) ?_
    simp only [Act.put, z1, z2, z3]
    rcases Decidable.em (pages ≤ 64) with h4 | h4
    · refine pl M (y_leq (b := true) rfl rfl rfl rfl (decide_eq_true h4)) ?_
      simp only [Act.put, z1, z2, z3]
      refine pl M (y_pickT (v := .bool true) rfl rfl rfl rfl) ?_
      simp only [Act.put, z1, z2, z3]
      refine pl M (y_move (v := .bool true) rfl rfl rfl) ?_
      simp only [Act.put, z1, z2, z3]
      refine pl M (y_move (v := .int .i64 width) rfl rfl rfl) ?_
      simp only [Act.put, z1, z2, z3]
      rcases Decidable.em ((1 : Int) ≤ width) with h5 | h5
      · refine pl M (y_geq (b := true) rfl rfl rfl rfl (decide_eq_true h5)) ?_
        simp only [Act.put, z1, z2, z3]
        refine pl M (y_pickT (v := .bool true) rfl rfl rfl rfl) ?_
        simp only [Act.put, z1, z2, z3]
        refine pl M (y_move (v := .bool true) rfl rfl rfl) ?_
        simp only [Act.put, z1, z2, z3]
        refine pl M (y_move (v := .int .i64 width) rfl rfl rfl) ?_
        simp only [Act.put, z1, z2, z3]
        refine pl M (y_leq rfl rfl rfl rfl rfl) ?_
        simp only [Act.put, z1, z2, z3]
        refine pl M (y_pickT (v := .bool (decide (width ≤ 32))) rfl rfl rfl rfl) ?_
        simp only [Act.put, z1, z2, z3]
        refine pl M (y_assign (v := .bool (decide (width ≤ 32))) rfl rfl rfl) ?_
        simp only [Act.put, z1, z2, z3]
        refine wpList_nil ?_
        refine hK2 _ _ ?_
        clear hK2
        refine wp_ret ?_
        try simp only [Exit.inBlock, Exit.then]
        refine bodyPost_ret (v := .bool (decide (width ≤ 32))) (res1 rfl rfl) rfl ?_
        have e : decide (width ≤ 32) = decide (Fits pages width) := decide_eq_decide.2 ⟨fun h => ⟨by omega, by omega, by omega, h⟩, fun h => h.2.2.2⟩
        rw [e]
        exact ⟨rfl, M⟩
      · refine pl M (y_geq (b := false) rfl rfl rfl rfl (decide_eq_false h5)) ?_
        simp only [Act.put, z1, z2, z3]
        refine pl M (y_pickT (v := .bool false) rfl rfl rfl rfl) ?_
        simp only [Act.put, z1, z2, z3]
        refine pl M (y_move (v := .bool false) rfl rfl rfl) ?_
        simp only [Act.put, z1, z2, z3]
        with_reducible refine pskip ?_ ?_
        · rfl
        simp only [Act.put, z1, z2, z3]
        with_reducible refine pskip ?_ ?_
        · rfl
        simp only [Act.put, z1, z2, z3]
        refine pl M (y_pickF (v := .bool false) rfl rfl rfl rfl) ?_
        simp only [Act.put, z1, z2, z3]
        refine pl M (y_assign (v := .bool false) rfl rfl rfl) ?_
        simp only [Act.put, z1, z2, z3]
        refine wpList_nil ?_
        refine hK2 _ _ ?_
        clear hK2
        refine wp_ret ?_
        try simp only [Exit.inBlock, Exit.then]
        refine bodyPost_ret (v := .bool false) (res1 rfl rfl) rfl ?_
        have e : decide (Fits pages width) = false := decide_eq_false fun h => by obtain ⟨h1, h2, h3, h4⟩ := h; omega
        rw [e]
        exact ⟨rfl, M⟩
    · refine pl M (y_leq (b := false) rfl rfl rfl rfl (decide_eq_false h4)) ?_
      simp only [Act.put, z1, z2, z3]
      refine pl M (y_pickT (v := .bool false) rfl rfl rfl rfl) ?_
      simp only [Act.put, z1, z2, z3]
      refine pl M (y_move (v := .bool false) rfl rfl rfl) ?_
      simp only [Act.put, z1, z2, z3]
      with_reducible refine pskip ?_ ?_
      · rfl
      simp only [Act.put, z1, z2, z3]
      with_reducible refine pskip ?_ ?_
      · rfl
      simp only [Act.put, z1, z2, z3]
      refine pl M (y_pickF (v := .bool false) rfl rfl rfl rfl) ?_
      simp only [Act.put, z1, z2, z3]
      refine pl M (y_move (v := .bool false) rfl rfl rfl) ?_
      simp only [Act.put, z1, z2, z3]
      with_reducible refine pskip ?_ ?_
      · rfl
      simp only [Act.put, z1, z2, z3]
      with_reducible refine pskip ?_ ?_
      · rfl
      simp only [Act.put, z1, z2, z3]
      refine pl M (y_pickF (v := .bool false) rfl rfl rfl rfl) ?_
      simp only [Act.put, z1, z2, z3]
      refine pl M (y_assign (v := .bool false) rfl rfl rfl) ?_
      simp only [Act.put, z1, z2, z3]
      refine wpList_nil ?_
      refine hK2 _ _ ?_
      clear hK2
      refine wp_ret ?_
      try simp only [Exit.inBlock, Exit.then]
      refine bodyPost_ret (v := .bool false) (res1 rfl rfl) rfl ?_
      have e : decide (Fits pages width) = false := decide_eq_false fun h => by obtain ⟨h1, h2, h3, h4⟩ := h; omega
      rw [e]
      exact ⟨rfl, M⟩
  · refine pl M (y_geq (b := false) rfl rfl rfl rfl (decide_eq_false h3)) ?_
    simp only [Act.put, z1, z2, z3]
    refine pl M (y_move (v := .bool false) rfl rfl rfl) ?_
    simp only [Act.put, z1, z2, z3]
    with_reducible refine pskip ?_ ?_
    · rfl
    simp only [Act.put, z1, z2, z3]
    with_reducible refine pskip ?_ ?_
    · rfl
    simp only [Act.put, z1, z2, z3]
    refine pl M (y_pickF (v := .bool false) rfl rfl rfl rfl) ?_
    simp only [Act.put, z1, z2, z3]
    refine pl M (y_move (v := .bool false) rfl rfl rfl) ?_
    simp only [Act.put, z1, z2, z3]
    with_reducible refine pskip ?_ ?_
    · rfl
    simp only [Act.put, z1, z2, z3]
    with_reducible refine pskip ?_ ?_
    · rfl
    simp only [Act.put, z1, z2, z3]
    refine pl M (y_pickF (v := .bool false) rfl rfl rfl rfl) ?_
    simp only [Act.put, z1, z2, z3]
    refine pl M (y_move (v := .bool false) rfl rfl rfl) ?_
    simp only [Act.put, z1, z2, z3]
    with_reducible refine pskip ?_ ?_
    · rfl
    simp only [Act.put, z1, z2, z3]
    with_reducible refine pskip ?_ ?_
    · rfl
    simp only [Act.put, z1, z2, z3]
    refine pl M (y_pickF (v := .bool false) rfl rfl rfl rfl) ?_
    simp only [Act.put, z1, z2, z3]
    refine pl M (y_assign (v := .bool false) rfl rfl rfl) ?_
    simp only [Act.put, z1, z2, z3]
    refine wpList_nil ?_
    refine hK2 _ _ ?_
    clear hK2
    refine wp_ret ?_
    try simp only [Exit.inBlock, Exit.then]
    refine bodyPost_ret (v := .bool false) (res1 rfl rfl) rfl ?_
    have e : decide (Fits pages width) = false := decide_eq_false fun h => by obtain ⟨h1, h2, h3, h4⟩ := h; omega
    rw [e]
    exact ⟨rfl, M⟩
set_option maxRecDepth 100000 in
set_option maxHeartbeats 4000000 in
theorem place3_any (i n : Int) (hn : 0 < n) (hn2 : n ≤ 4096) (w : World) : Calls Try.prog 13 #[.int .i64 i, .int .i64 n] w fun e w' => e = .returned (.int .i64 (i % n)) ∧ Mem w [] w' [] := by
  have M := Mem.nil w
  have hin := tmod_in i n hn hn2
  go_enter Try.func13, Try.ntmps13
  refine wp_seq_k (fun K1 hK1 => ?_)
  refine wp_region_lit ?_
  refine pl M (y_assign (v := .int .i64 0) rfl rfl rfl) ?_
  simp only [Act.put, z1, z2, z3]
  refine wpList_nil ?_
  refine hK1 _ _ ?_
  clear hK1
  refine wp_seq_k (fun K2 hK2 => ?_)
  refine wp_region_lit ?_
  refine pl M (y_move (v := .int .i64 i) rfl rfl rfl) ?_
  simp only [Act.put, z1, z2, z3]
  refine pl M (y_move (v := .int .i64 n) rfl rfl rfl) ?_
  simp only [Act.put, z1, z2, z3]
  refine pl M (y_rem (r := i.tmod n) rfl rfl rfl rfl (by omega) (rfl)) ?_
  simp only [Act.put, z1, z2, z3]
  refine pl M (y_assign (v := .int .i64 (i.tmod n)) rfl rfl rfl) ?_
  simp only [Act.put, z1, z2, z3]
  refine wpList_nil ?_
  refine hK2 _ _ ?_
  clear hK2
  refine wp_seq_k (fun K3 hK3 => ?_)
  refine wp_seq_k (fun K4 hK4 => ?_)
  refine wp_region_lit ?_
  refine pl M (y_move (v := .int .i64 (i.tmod n)) rfl rfl rfl) ?_
  simp only [Act.put, z1, z2, z3]
  rcases Decidable.em (i.tmod n < 0) with h5 | h5
  · refine pl M (y_lss (b := true) rfl rfl rfl rfl (decide_eq_true h5)) ?_
    simp only [Act.put, z1, z2, z3]
    refine wpList_nil ?_
    refine hK4 _ _ ?_
    clear hK4
    refine wp_cond_true rfl ?_
    refine wp_region_lit ?_
    refine pl M (y_move (v := .int .i64 (i.tmod n)) rfl rfl rfl) ?_
    simp only [Act.put, z1, z2, z3]
    refine pl M (y_move (v := .int .i64 n) rfl rfl rfl) ?_
    simp only [Act.put, z1, z2, z3]
    refine pl M (y_add (r := i.tmod n + n) rfl rfl rfl rfl (rfl) (by omega)) ?_
    simp only [Act.put, z1, z2, z3]
    refine pl M (y_assign (v := .int .i64 (i.tmod n + n)) rfl rfl rfl) ?_
    simp only [Act.put, z1, z2, z3]
    refine wpList_nil ?_
    refine hK3 _ _ ?_
    clear hK3
    refine wp_seq_k (fun K6 hK6 => ?_)
    refine wp_region_lit ?_
    refine pl M (y_move (v := .int .i64 (i.tmod n + n)) rfl rfl rfl) ?_
    simp only [Act.put, z1, z2, z3]
    refine pl M (y_assign (v := .int .i64 (i.tmod n + n)) rfl rfl rfl) ?_
    simp only [Act.put, z1, z2, z3]
    refine wpList_nil ?_
    refine hK6 _ _ ?_
    clear hK6
    refine wp_ret ?_
    try simp only [Exit.inBlock, Exit.then]
    refine bodyPost_ret (v := .int .i64 (i.tmod n + n)) (res1 rfl rfl) rfl ?_
    have e := tmod_place i n hn
    rw [if_pos h5] at e
    rw [e]
    exact ⟨rfl, M⟩
  · refine pl M (y_lss (b := false) rfl rfl rfl rfl (decide_eq_false h5)) ?_
    simp only [Act.put, z1, z2, z3]
    refine wpList_nil ?_
    refine hK4 _ _ ?_
    clear hK4
    refine wp_cond_false rfl ?_
    refine wp_skip ?_
    refine hK3 _ _ ?_
    clear hK3
    refine wp_seq_k (fun K7 hK7 => ?_)
    refine wp_region_lit ?_
    refine pl M (y_move (v := .int .i64 (i.tmod n)) rfl rfl rfl) ?_
    simp only [Act.put, z1, z2, z3]
    refine pl M (y_assign (v := .int .i64 (i.tmod n)) rfl rfl rfl) ?_
    simp only [Act.put, z1, z2, z3]
    refine wpList_nil ?_
    refine hK7 _ _ ?_
    clear hK7
    refine wp_ret ?_
    try simp only [Exit.inBlock, Exit.then]
    refine bodyPost_ret (v := .int .i64 (i.tmod n)) (res1 rfl rfl) rfl ?_
    have e := tmod_place i n hn
    rw [if_neg h5] at e
    rw [e]
    exact ⟨rfl, M⟩
end Go.Proofs.Ytehnnnohoaapdaa

/- The statements' own fresh. -/
namespace Go.Proofs.Ytehnnnohoaapdaa
open Go Go.RowKit
set_option linter.unusedVariables false
set_option linter.unusedSimpArgs false
theorem new_fit (k : Nat) (h : 3 ≤ k ∧ k ≤ 4096) (w : World) : Calls Try.prog 12 #[.int .i64 (k : Int)] w fun e w' => ∃ p pg mb, e = .returned (.tuple #[.pointer (some ⟨p, 0, none⟩), .int .i64 0]) ∧ Mem w [] w' [disk (newD k) p pg mb (.slice none 0 0)] := by
  refine (new_any (k : Int) w).mono ?_
  rintro e w' (⟨h1, _⟩ | ⟨_, _, p, pg, mb, rfl, h2⟩)
  · omega
  · exact ⟨p, pg, mb, rfl, h2⟩
theorem format_fit {D : DV} {p pg mb : Nat} {qv : Value} {w : World} (hM : Mem w (foots [disk D p pg mb qv]) w [disk D p pg mb qv]) (hB : Blank D) (ha : D.armed = 0) {width : Int} (hw : 1 ≤ width ∧ width ≤ 32) :
    Calls Try.prog 15 #[.pointer (some ⟨p, 0, none⟩), .int .i64 width] w fun e w' => ∃ E qv', e = .returned (.int .i64 0) ∧ Mem w (foots [disk D p pg mb qv]) w' [disk E p pg mb qv'] ∧ Plat E (secondS width D.pages.length) [] ∧ E.q = [] ∧ E.dead = false ∧ E.epoch = D.epoch ∧ E.armed = 0 ∧ E.pages.length = D.pages.length := by
  refine (format_any hM width (by rw [hB.que]; decide)).mono ?_
  rintro e w' ⟨qv', rfl, h2⟩
  rcases hB.format hw with ⟨_, h3, h4, h5, h6, h7, h8, h9⟩ | ⟨h3, _⟩
  · rw [h3]
    exact ⟨_, qv', rfl, h2, h4, h5, h6, h7, h8 ha, h9⟩
  · omega
theorem open_fit {D : DV} {p pg mb : Nat} {qv : Value} {S : SupV} {ps : Pgs} {w : World} (hM : Mem w (foots [disk D p pg mb qv]) w [disk D p pg mb qv]) (hP : Plat D S ps) (hd : D.dead = false) :
    Calls Try.prog 18 #[.pointer (some ⟨p, 0, none⟩)] w fun e w' => ∃ f E m, e = .returned (.tuple #[.pointer (some ⟨f, 0, none⟩), .int .i64 0]) ∧ Mem w (foots [disk D p pg mb qv]) w' [disk E p pg mb qv, blk f 96 (fC ⟨S, S.mark, m⟩ p)] ∧ Inv E ⟨S, S.mark, m⟩ ps ∧ E.q = D.q ∧ E.pages = D.pages ∧ E.armed = D.armed ∧ E.epoch = wrap64 (D.epoch + 1) := by
  obtain ⟨e1, e2, e3, e4, e5, e6, e7, e8⟩ := hP.open hd
  refine (open_any hM).mono ?_
  rintro e w' (⟨h1, _⟩ | ⟨_, f, rfl, h2⟩)
  · exact absurd e1 h1
  · have hV : openV D = ⟨S, S.mark, (openV D).mine⟩ := by
      have h0 : openV D = ⟨(openV D).s, (openV D).next, (openV D).mine⟩ := rfl
      rw [e2, e3] at h0
      exact h0
    rw [hV] at h2 e4
    exact ⟨f, openD D, (openV D).mine, rfl, h2, e4, e5, e6, e7, e8⟩
set_option maxRecDepth 100000 in
set_option maxHeartbeats 4000000 in
theorem fresh_any (n : Nat) (width : Int) (hn : 3 ≤ n ∧ n ≤ 64) (hw : 1 ≤ width ∧ width ≤ 32) (w : World) : Calls Try.prog 22 #[.int .i64 (n : Int), .int .i64 width] w fun e w' => ∃ p pg mb qv f E m, e = .returned (.tuple #[.pointer (some ⟨p, 0, none⟩), .pointer (some ⟨f, 0, none⟩)]) ∧ Mem w [] w' [disk E p pg mb qv, blk f 96 (fC ⟨secondS width n, 2, m⟩ p)] ∧ Inv E ⟨secondS width n, 2, m⟩ [] ∧ E.q = [] ∧ E.armed = 0 ∧ E.pages.length = n := by
  have M := Mem.nil w
  go_enter Try.func22, Try.ntmps22
  refine wp_seq_k (fun K1 hK1 => ?_)
  refine wp_region_lit ?_
  refine pl M (y_assign (v := .pointer none) rfl rfl rfl) ?_
  simp only [Act.put, z1, z2, z3]
  refine pl M (y_assign (v := .pointer none) rfl rfl rfl) ?_
  simp only [Act.put, z1, z2, z3]
  refine wpList_nil ?_
  refine hK1 _ _ ?_
  clear hK1
  refine wp_seq_k (fun K2 hK2 => ?_)
  refine wp_region_lit ?_
  refine pl M (y_move (v := .int .i64 (n : Int)) rfl rfl rfl) ?_
  simp only [Act.put, z1, z2, z3]
  refine pe rfl (fun K hK => ?_)
  refine e_call 12 [.int .i64 (n : Int)] rfl rfl Try.call12 (new_fit n ⟨by omega, by omega⟩ _) ?_
  rintro e w3 ⟨p, pg, mb, rfl, H3⟩
  have M3 : Mem w [] w3 [disk (newD n) p pg mb (.slice none 0 0)] := M.step H3
  refine ⟨_, rfl, ?_⟩
  refine hK.out _ _ ?_
  clear hK K
  simp only [Act.put, z1, z2, z3]
  refine pl M3 (y_move (v := .tuple #[.pointer (some ⟨p, 0, none⟩), .int .i64 0]) rfl rfl rfl) ?_
  simp only [Act.put, z1, z2, z3]
  refine pl M3 (y_ext (v := .pointer (some ⟨p, 0, none⟩)) rfl rfl rfl rfl) ?_
  simp only [Act.put, z1, z2, z3]
  refine pl M3 (y_ext (v := .int .i64 0) rfl rfl rfl rfl) ?_
  simp only [Act.put, z1, z2, z3]
  refine pl M3 (y_assign (v := .pointer (some ⟨p, 0, none⟩)) rfl rfl rfl) ?_
  simp only [Act.put, z1, z2, z3]
  refine pl M3 (y_assign (v := .int .i64 0) rfl rfl rfl) ?_
  simp only [Act.put, z1, z2, z3]
  refine wpList_nil ?_
  refine hK2 _ _ ?_
  clear hK2
  refine wp_seq_k (fun K4 hK4 => ?_)
  refine wp_seq_k (fun K5 hK5 => ?_)
  refine wp_region_lit ?_
  refine pl M3 (y_move (v := .int .i64 0) rfl rfl rfl) ?_
  simp only [Act.put, z1, z2, z3]
  refine pl M3 (y_neq (b := false) rfl rfl rfl rfl (by rw [decide_eq_true (by decide)]; rfl)) ?_
  simp only [Act.put, z1, z2, z3]
  refine pl M3 (y_move (v := .bool false) rfl rfl rfl) ?_
  simp only [Act.put, z1, z2, z3]
  refine pl M3 (y_move (v := .pointer (some ⟨p, 0, none⟩)) rfl rfl rfl) ?_
  simp only [Act.put, z1, z2, z3]
  refine pl M3 (y_eqnil (r := false) rfl rfl rfl rfl Try.underlying24 rfl) ?_
  simp only [Act.put, z1, z2, z3]
  refine pl M3 (y_pickF (v := .bool false) rfl rfl rfl rfl) ?_
  simp only [Act.put, z1, z2, z3]
  refine pl M3 (y_move (v := .bool false) rfl rfl rfl) ?_
  simp only [Act.put, z1, z2, z3]
  refine pl M3 (y_move (v := .pointer (some ⟨p, 0, none⟩)) rfl rfl rfl) ?_
  simp only [Act.put, z1, z2, z3]
  refine pl M3 (y_move (v := .int .i64 width) rfl rfl rfl) ?_
  simp only [Act.put, z1, z2, z3]
  have hX6 : Mem w [] w3 ([disk (newD n) p pg mb (.slice none 0 0)] ++ []) := M3.arr [0] (by decide)
  refine pe rfl (fun K hK => ?_)
  refine e_call 15 [.pointer (some ⟨p, 0, none⟩), .int .i64 width] rfl rfl Try.call15 (format_fit (Mem.here hX6) (newD_blank (by omega) (by omega) 0 (by decide)) rfl hw) ?_
  rintro e w6 ⟨E1, qv1, rfl, H6, hP1, hq1, hd1, he1, ha1, hl1⟩
  have M6 : Mem w [] w6 [disk E1 p pg mb qv1] := Mem.frame hX6 H6
  have hn1 : (newD n).pages.length = n := List.length_replicate
  rw [hn1] at hP1 hl1
  refine ⟨_, rfl, ?_⟩
  refine hK.out _ _ ?_
  clear hK K
  simp only [Act.put, z1, z2, z3]
  refine pl M6 (y_neq (b := false) rfl rfl rfl rfl (by rw [decide_eq_true (by decide)]; rfl)) ?_
  simp only [Act.put, z1, z2, z3]
  refine pl M6 (y_pickF (v := .bool false) rfl rfl rfl rfl) ?_
  simp only [Act.put, z1, z2, z3]
  refine wpList_nil ?_
  refine hK5 _ _ ?_
  clear hK5
  refine wp_cond_false rfl ?_
  refine wp_skip ?_
  refine hK4 _ _ ?_
  clear hK4
  refine wp_seq_k (fun K7 hK7 => ?_)
  refine wp_region_lit ?_
  refine pl M6 (y_move (v := .pointer (some ⟨p, 0, none⟩)) rfl rfl rfl) ?_
  simp only [Act.put, z1, z2, z3]
  have hX8 : Mem w [] w6 ([disk E1 p pg mb qv1] ++ []) := M6.arr [0] (by decide)
  refine pe rfl (fun K hK => ?_)
  refine e_call 18 [.pointer (some ⟨p, 0, none⟩)] rfl rfl Try.call18 (open_fit (Mem.here hX8) hP1 hd1) ?_
  rintro e w8 ⟨f, E, m, rfl, H8, hI, hq2, hp2, ha2, he2⟩
  have M8 : Mem w [] w8 [disk E p pg mb qv1, blk f 96 (fC (⟨secondS width n, 2, m⟩ : FV) p)] := Mem.frame hX8 H8
  refine ⟨_, rfl, ?_⟩
  refine hK.out _ _ ?_
  clear hK K
  simp only [Act.put, z1, z2, z3]
  refine pl M8 (y_move (v := .tuple #[.pointer (some ⟨f, 0, none⟩), .int .i64 0]) rfl rfl rfl) ?_
  simp only [Act.put, z1, z2, z3]
  refine pl M8 (y_ext (v := .pointer (some ⟨f, 0, none⟩)) rfl rfl rfl rfl) ?_
  simp only [Act.put, z1, z2, z3]
  refine pl M8 (y_ext (v := .int .i64 0) rfl rfl rfl rfl) ?_
  simp only [Act.put, z1, z2, z3]
  refine pl M8 (y_assign (v := .pointer (some ⟨f, 0, none⟩)) rfl rfl rfl) ?_
  simp only [Act.put, z1, z2, z3]
  refine pl M8 (y_assign (v := .int .i64 0) rfl rfl rfl) ?_
  simp only [Act.put, z1, z2, z3]
  refine wpList_nil ?_
  refine hK7 _ _ ?_
  clear hK7
  refine wp_seq_k (fun K9 hK9 => ?_)
  refine wp_seq_k (fun K10 hK10 => ?_)
  refine wp_region_lit ?_
  refine pl M8 (y_move (v := .int .i64 0) rfl rfl rfl) ?_
  simp only [Act.put, z1, z2, z3]
  refine pl M8 (y_neq (b := false) rfl rfl rfl rfl (by rw [decide_eq_true (by decide)]; rfl)) ?_
  simp only [Act.put, z1, z2, z3]
  refine pl M8 (y_move (v := .bool false) rfl rfl rfl) ?_
  simp only [Act.put, z1, z2, z3]
  refine pl M8 (y_move (v := .pointer (some ⟨f, 0, none⟩)) rfl rfl rfl) ?_
  simp only [Act.put, z1, z2, z3]
  refine pl M8 (y_eqnil (r := false) rfl rfl rfl rfl Try.underlying33 rfl) ?_
  simp only [Act.put, z1, z2, z3]
  refine pl M8 (y_pickF (v := .bool false) rfl rfl rfl rfl) ?_
  simp only [Act.put, z1, z2, z3]
  refine wpList_nil ?_
  refine hK10 _ _ ?_
  clear hK10
  refine wp_cond_false rfl ?_
  refine wp_skip ?_
  refine hK9 _ _ ?_
  clear hK9
  refine wp_seq_k (fun K11 hK11 => ?_)
  refine wp_region_lit ?_
  refine pl M8 (y_move (v := .int .i64 width) rfl rfl rfl) ?_
  simp only [Act.put, z1, z2, z3]
  refine pl M8 (y_move (v := .int .i64 (n : Int)) rfl rfl rfl) ?_
  simp only [Act.put, z1, z2, z3]
  refine pl M8 (y_build (ps := [(0, .tmp 39), (1, .const (.int .i64 1)), (2, .const (.int .i64 2)), (3, .const (.int .i64 0)), (4, .tmp 40)]) (pv := [(0, .int .i64 width), (1, .int .i64 1), (2, .int .i64 2), (3, .int .i64 0), (4, .int .i64 (n : Int))]) (cs := (supC (secondS width n))) rfl rfl rfl (rfl)) ?_
  simp only [Act.put, z1, z2, z3]
  refine pe rfl (fun K hK => ?_)
  refine e_alloc M8 (supC noSup) rfl zero_sup ?_
  intro g7 w12 (M12 : Mem w [] w12 [blk g7 37 (supC noSup), disk E p pg mb qv1, blk f 96 (fC (⟨secondS width n, 2, m⟩ : FV) p)])
  clear M8
  refine hK.out _ _ ?_
  clear hK K
  simp only [Act.put, z1, z2, z3]
  refine pe rfl (fun K hK => ?_)
  refine e_storew M12 0 (cs := (supC (secondS width n))) rfl rfl rfl rfl (size_sup _) (sup_all _) rfl (rfl) ?_
  intro w13 (M13 : Mem w [] w13 [blk g7 37 (supC (secondS width n)), disk E p pg mb qv1, blk f 96 (fC (⟨secondS width n, 2, m⟩ : FV) p)])
  clear M12
  refine hK.out _ _ ?_
  clear hK K
  simp only [Act.put, z1, z2, z3]
  refine wpList_nil ?_
  refine hK11 _ _ ?_
  clear hK11
  refine wp_seq_k (fun K14 hK14 => ?_)
  refine wp_seq_k (fun K15 hK15 => ?_)
  have M16 := M13.drew
  refine held_begin (fun W => Mem w [] W [blk g7 37 (supC (secondS width n)), blk f 96 (fC (⟨secondS width n, 2, m⟩ : FV) p)]) (by kernel_rfl) (M16.arr [0, 2] (by decide)) (fun hS => ?_)
  refine held_take 0 _ rfl (by kernel_rfl) (by kernel_rfl) (by kernel_rfl) (y_move (v := .pointer (some ⟨f, 0, none⟩)) rfl rfl rfl) hS ?_
  simp only [Act.put, z1, z2, z3]
  refine held_take 2 _ rfl (by kernel_rfl) (by kernel_rfl) (by kernel_rfl) (y_loadb (cs := (supC (secondS width n))) rfl rfl rfl Try.underlying37 rfl (size_sup _) (fun W hW => hW.get 0 rfl) (List.take_of_length_le (Nat.le_refl _))) hS ?_
  simp only [Act.put, z1, z2, z3]
  have hX17 : Mem w [] w13.drew ([disk E p pg mb qv1, blk f 96 (fC (⟨secondS width n, 2, m⟩ : FV) p)] ++ [blk g7 37 (supC (secondS width n))]) := M16.arr [1, 2, 0] (by decide)
  refine held_step 1 (by kernel_rfl) rfl (by rfl) (fun K hK => ?_)
  refine e_call 19 [.pointer (some ⟨f, 0, none⟩)] rfl rfl Try.call19 (super_any (Mem.here hX17)) ?_
  rintro e w17 ⟨rfl, H17⟩
  have M17 : Mem w [] w17 [disk E p pg mb qv1, blk f 96 (fC (⟨secondS width n, 2, m⟩ : FV) p), blk g7 37 (supC (secondS width n))] := Mem.frame hX17 H17
  refine ⟨_, rfl, ?_⟩
  refine hK.out _ _ (M17.arr [2, 1] (by decide)) (fun hS => ?_)
  clear hK K
  simp only [Act.put, z1, z2, z3]
  refine held_take 3 _ rfl (by kernel_rfl) (by kernel_rfl) (by kernel_rfl) (y_nes (r := false) rfl rfl rfl rfl sup_guard (fun W => sup_same _ W)) hS ?_
  simp only [Act.put, z1, z2, z3]
  refine held_take 4 _ rfl (by kernel_rfl) (by kernel_rfl) (by kernel_rfl) (y_move (v := .bool false) rfl rfl rfl) hS ?_
  simp only [Act.put, z1, z2, z3]
  refine held_take 5 _ rfl (by kernel_rfl) (by kernel_rfl) (by kernel_rfl) (y_move (v := .pointer (some ⟨f, 0, none⟩)) rfl rfl rfl) hS ?_
  simp only [Act.put, z1, z2, z3]
  have hX18 : Mem w [] w17 ([disk E p pg mb qv1, blk f 96 (fC (⟨secondS width n, 2, m⟩ : FV) p)] ++ [blk g7 37 (supC (secondS width n))]) := M17.arr [0, 1, 2] (by decide)
  refine held_step 6 (by kernel_rfl) rfl (by rfl) (fun K hK => ?_)
  refine e_call 20 [.pointer (some ⟨f, 0, none⟩)] rfl rfl Try.call20 (next_any (Mem.here hX18)) ?_
  rintro e w18 ⟨rfl, H18⟩
  have M18 : Mem w [] w18 [disk E p pg mb qv1, blk f 96 (fC (⟨secondS width n, 2, m⟩ : FV) p), blk g7 37 (supC (secondS width n))] := Mem.frame hX18 H18
  refine ⟨_, rfl, ?_⟩
  refine hK.out _ _ (M18.arr [2, 1] (by decide)) (fun hS => ?_)
  clear hK K
  simp only [Act.put, z1, z2, z3]
  refine held_take 7 _ rfl (by kernel_rfl) (by kernel_rfl) (by kernel_rfl) (y_neq (b := false) rfl rfl rfl rfl (by rw [decide_eq_true (show (2 : Int) = 2 from rfl)]; rfl)) hS ?_
  simp only [Act.put, z1, z2, z3]
  refine held_take 8 _ rfl (by kernel_rfl) (by kernel_rfl) (by kernel_rfl) (y_pickF (v := .bool false) rfl rfl rfl rfl) hS ?_
  simp only [Act.put, z1, z2, z3]
  refine held_take 9 _ rfl (by kernel_rfl) (by kernel_rfl) (by kernel_rfl) (y_move (v := .bool false) rfl rfl rfl) hS ?_
  simp only [Act.put, z1, z2, z3]
  refine held_take 10 _ rfl (by kernel_rfl) (by kernel_rfl) (by kernel_rfl) (y_move (v := .pointer (some ⟨f, 0, none⟩)) rfl rfl rfl) hS ?_
  simp only [Act.put, z1, z2, z3]
  refine held_take 11 _ rfl (by kernel_rfl) (by kernel_rfl) (by kernel_rfl) (y_nil rfl rfl rfl) hS ?_
  simp only [Act.put, z1, z2, z3]
  refine held_take 12 _ rfl (by kernel_rfl) (by kernel_rfl) (by kernel_rfl) (y_fa (r := 0) rfl rfl rfl Try.underlying96 rfl Try.sizeOf24 rfl) hS ?_
  simp only [Act.put, z1, z2, z3]
  refine held_take 13 _ rfl (by kernel_rfl) (by kernel_rfl) (by kernel_rfl) (y_load (v := .pointer (some ⟨p, 0, none⟩)) rfl rfl rfl Try.isAgg24 (fun W hW => hW.get 1 rfl) (rfl)) hS ?_
  simp only [Act.put, z1, z2, z3]
  refine held_take 15 _ rfl (by kernel_rfl) (by kernel_rfl) (by kernel_rfl) (y_move (v := .int .i64 (n : Int)) rfl rfl rfl) hS ?_
  simp only [Act.put, z1, z2, z3]
  have hX19 : Mem w [] w18 ([disk E p pg mb qv1] ++ [blk f 96 (fC (⟨secondS width n, 2, m⟩ : FV) p), blk g7 37 (supC (secondS width n))]) := M18.arr [0, 1, 2] (by decide)
  refine held_step 14 (by kernel_rfl) rfl (by rfl) (fun K hK => ?_)
  refine e_call 24 [.pointer (some ⟨p, 0, none⟩)] rfl rfl Try.call24 (pages_any (Mem.here hX19)) ?_
  rintro e w19 ⟨rfl, H19⟩
  have M19 : Mem w [] w19 [disk E p pg mb qv1, blk f 96 (fC (⟨secondS width n, 2, m⟩ : FV) p), blk g7 37 (supC (secondS width n))] := Mem.frame hX19 H19
  refine ⟨_, rfl, ?_⟩
  refine hK.out _ _ (M19.arr [2, 1] (by decide)) (fun hS => ?_)
  clear hK K
  simp only [Act.put, z1, z2, z3]
  refine held_take 16 _ rfl (by kernel_rfl) (by kernel_rfl) (by kernel_rfl) (y_neq (b := false) rfl rfl rfl rfl (by rw [decide_eq_true (show (E.pages.length : Int) = (n : Int) by rw [hp2, hl1])]; rfl)) hS ?_
  simp only [Act.put, z1, z2, z3]
  refine held_take 17 _ rfl (by kernel_rfl) (by kernel_rfl) (by kernel_rfl) (y_pickF (v := .bool false) rfl rfl rfl rfl) hS ?_
  simp only [Act.put, z1, z2, z3]
  refine held_done (by kernel_rfl) ?_ _
  refine hK15 _ _ ?_
  clear hK15
  refine wp_cond_false rfl ?_
  refine wp_skip ?_
  refine hK14 _ _ ?_
  clear hK14
  refine wp_seq_k (fun K20 hK20 => ?_)
  refine wp_region_lit ?_
  refine pl M19 (y_move (v := .pointer (some ⟨p, 0, none⟩)) rfl rfl rfl) ?_
  simp only [Act.put, z1, z2, z3]
  refine pl M19 (y_move (v := .pointer (some ⟨f, 0, none⟩)) rfl rfl rfl) ?_
  simp only [Act.put, z1, z2, z3]
  refine pl M19 (y_assign (v := .pointer (some ⟨p, 0, none⟩)) rfl rfl rfl) ?_
  simp only [Act.put, z1, z2, z3]
  refine pl M19 (y_assign (v := .pointer (some ⟨f, 0, none⟩)) rfl rfl rfl) ?_
  simp only [Act.put, z1, z2, z3]
  refine wpList_nil ?_
  refine hK20 _ _ ?_
  clear hK20
  refine wp_ret ?_
  try simp only [Exit.inBlock, Exit.then]
  refine bodyPost_ret (v := .tuple #[.pointer (some ⟨p, 0, none⟩), .pointer (some ⟨f, 0, none⟩)]) (res2 rfl rfl rfl) rfl ?_
  exact ⟨p, pg, mb, qv1, f, E, m, rfl, M19.arr [0, 1] (by decide), hI, by rw [hq2, hq1], by rw [ha2, ha1], by rw [hp2, hl1]⟩
end Go.Proofs.Ytehnnnohoaapdaa
