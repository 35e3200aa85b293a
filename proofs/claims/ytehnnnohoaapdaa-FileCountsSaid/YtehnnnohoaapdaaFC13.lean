/- Texts joined: FileR, Sep2, RowsL, LawA. -/
import Derived.Test.YtehnnnohoaapdaaFC12
import Derived.Test.YtehnnnohoaapdaaFC03
import Derived.Test.YtehnnnohoaapdaaFC01
import Derived.Test.YtehnnnohoaapdaaFC09
import Derived.Test.YtehnnnohoaapdaaFC04
/- A page file as values: Format, on a disk that holds none, and a loss of power on the way. No program in sight. -/
namespace Go.Proofs.Ytehnnnohoaapdaa
set_option linter.unusedSectionVars false
set_option linter.unusedSimpArgs false
open Go Go.RowKit
set_option linter.unusedVariables false
structure Blank (D : DV) : Prop where
  ok : DOk D
  pow : D.dead = false
  que : D.q = []
  z1 : D.pg 1 = zeroPage
  z0 : D.pg 0 = zeroPage ∨ ∃ S, ValidS S ∧ S.gen = 0 ∧ D.pg 0 = superB S
theorem chooseE_blank {a : List UInt8} (h : a = zeroPage ∨ ∃ S, ValidS S ∧ S.gen = 0 ∧ a = superB S) : chooseE a zeroPage = 55 := by
  have hz : zeroPage = zerosB 256 := rfl
  have u : unpE zeroPage = 52 := by rw [hz]; exact unpE_zero
  have e : emptyB zeroPage = true := by rw [hz]; exact emptyB_zero
  have c1 : ¬ (unpE a = 0 ∧ unpE zeroPage = 0) := fun x => by rw [u] at x; exact absurd x.2 (by decide)
  have c2 : ¬ emptyB zeroPage = false := by rw [e]; decide
  have c3 : (unpE a = 0 ∧ (unpS a).gen = 0) ∨ emptyB a = true := by
    rcases h with rfl | ⟨S, h1, h2, rfl⟩
    · exact .inr e
    · exact .inl ⟨unpE_superB S h1, by rw [unpS_superB S h1]; exact h2⟩
  unfold chooseE
  rw [if_neg c1, if_neg c2, if_pos c3]
theorem Blank.slots {D : DV} (h : Blank D) : slotsE D = 55 := by
  unfold slotsE
  rw [if_neg (by rw [h.pow]; decide)]
  have e0 : D.cur 0 = D.pg 0 := cur_other fun x hx => by rw [h.que] at hx; cases hx
  have e1 : D.cur 1 = D.pg 1 := cur_other fun x hx => by rw [h.que] at hx; cases hx
  rw [e0, e1, h.z1]
  exact chooseE_blank h.z0
theorem Blank.open {D : DV} (h : Blank D) : openE D = 55 ∧ openD D = slotsD D := by
  have e : openE D = 55 := by
    unfold openE
    rw [if_pos (by rw [h.slots]; decide), h.slots]
  exact ⟨e, if_neg (by rw [e]; decide)⟩
theorem Blank.of_slots {D : DV} (h : Blank D) : Blank (slotsD D) := by
  obtain ⟨f1, f2, f3, f4, f5, _, _⟩ := slotsD_same D
  have hg : ∀ n, (slotsD D).pg n = D.pg n := fun n => by unfold DV.pg; rw [f1]
  exact ⟨(slotsD_facts D h.ok).2.2, by rw [f4]; exact h.pow, by rw [f2]; exact h.que, by rw [hg]; exact h.z1, by rw [hg]; exact h.z0⟩
theorem newD_blank {n : Nat} (h1 : 3 ≤ n) (h2 : n ≤ 4096) (a : Int) (ha : 0 ≤ a ∧ a ≤ 9223372036854775807) : Blank { newD n with armed := a } := by
  have hz : ∀ i, i < n → (newD n).pg i = zeroPage := fun i hi => by
    show (List.replicate n zeroPage).getD i [] = _
    rw [List.getD_eq_getElem?_getD, List.getElem?_replicate, if_pos hi]; rfl
  exact ⟨armed_ok (newD_ok h1 h2) ha, rfl, rfl, hz 1 (by omega), .inl (hz 0 (by omega))⟩
theorem actD_armed (D : DV) : (actD D).armed = if D.armed = 0 then 0 else D.armed - 1 := by
  unfold actD
  split
  · rename_i h; exact h
  · rfl
theorem set_pg_eq {D E : DV} {p : Nat} {d : List UInt8} (he : E.pages = D.pages.set p d) (hp : p < D.pages.length) : E.pg p = d := by
  unfold DV.pg
  rw [he, List.getD_eq_getElem?_getD, List.getElem?_set_self hp]; rfl
theorem set_pg_ne {D E : DV} {p n : Nat} {d : List UInt8} (he : E.pages = D.pages.set p d) (hp : p ≠ n) : E.pg n = D.pg n := by
  unfold DV.pg
  rw [he, List.getD_eq_getElem?_getD, List.getElem?_set_ne hp, ← List.getD_eq_getElem?_getD]
theorem pg_eq {D E : DV} (he : E.pages = D.pages) (n : Nat) : E.pg n = D.pg n := by unfold DV.pg; rw [he]
def firstS (w : Int) (n : Nat) : SupV := ⟨w, 0, 2, 0, n⟩
def secondS (w : Int) (n : Nat) : SupV := ⟨w, 1, 2, 0, n⟩
theorem crash_super {E : DV} {p : Nat} {S : SupV} (hq : E.q = [(p, superB S)]) (hp : p < E.pages.length) (ho : (E.pg p).length = 256) (hz : (E.pg p).drop 64 = zerosB 192) (fates : List UInt8) :
    ((crashD E fates).pages = E.pages) ∨ (crashD E fates).pages = E.pages.set p (superB S) := by
  rcases crash_one hq fates with hc | ⟨f, hc⟩
  · exact .inl hc
  · rcases mixS_two f (superB S) (E.pg p) (length_superB _) ho (by rw [superB_tail, hz]) with hx | hx
    · rw [hx] at hc; exact .inr hc
    · rw [hx, set_same rfl hp] at hc; exact .inl hc
theorem zero_tail : zeroPage.drop 64 = zerosB 192 := by unfold zeroPage zerosB; rw [List.drop_replicate]
theorem Blank.tail0 {D : DV} (h : Blank D) : (D.pg 0).length = 256 ∧ (D.pg 0).drop 64 = zerosB 192 := by
  rcases h.z0 with e | ⟨S, _, _, e⟩
  · rw [e]; exact ⟨zeroPage_len, zero_tail⟩
  · rw [e]; exact ⟨length_superB _, superB_tail _⟩
theorem Blank.format {D : DV} (h : Blank D) {w : Int} (hw : 1 ≤ w ∧ w ≤ 32) :
    ((D.armed = 0 ∨ 5 ≤ D.armed) ∧ (formatR D w).2 = 0 ∧ Plat (formatR D w).1 (secondS w D.pages.length) [] ∧ (formatR D w).1.q = [] ∧ (formatR D w).1.dead = false ∧ (formatR D w).1.epoch = D.epoch ∧ (D.armed = 0 → (formatR D w).1.armed = 0) ∧ (formatR D w).1.pages.length = D.pages.length) ∨
    ((1 ≤ D.armed ∧ D.armed ≤ 4) ∧ (formatR D w).2 = 2 ∧ (formatR D w).1.pages.length = D.pages.length ∧ DOk (formatR D w).1 ∧ (formatR D w).1.q.length ≤ 2 ∧ ∀ fates, Blank (crashD (formatR D w).1 fates) ∨ Plat (crashD (formatR D w).1 fates) (secondS w D.pages.length) []) := by
  have hB := h.of_slots
  obtain ⟨f1, f2, f3, f4, f5, _, _⟩ := slotsD_same D
  have hR : formatR D w = runS [wS (firstS w D.pages.length), yS, wS (secondS w D.pages.length), yS] (slotsD D) := by
    unfold formatR
    rw [if_neg (by rw [h.pow]; decide), if_neg (by omega), if_neg (by rw [h.slots]; decide)]
    rfl
  have hlen : (slotsD D).pages.length = D.pages.length := by rw [f1]
  rw [hR, ← hlen, ← f5, ← f3]
  generalize slotsD D = X at *
  clear hR f1 f2 f3 f4 f5 h hlen
  have hlo := hB.ok.lo
  have hhi := hB.ok.hi
  have hv0 : ValidS (firstS w X.pages.length) := valid_new hw ⟨hlo, hhi⟩ (by decide)
  have hv1 : ValidS (secondS w X.pages.length) := valid_new hw ⟨hlo, hhi⟩ (by decide)
  have hf : Follows (secondS w X.pages.length) (firstS w X.pages.length) := ⟨rfl, by show (2 : Int) ≤ 2; decide⟩
  have ha := hB.ok.arm
  obtain ⟨t1, t2⟩ := hB.tail0
  have hh0 : X.has ((firstS w X.pages.length).gen % 2) := ⟨by show (0 : Int) ≤ 0 % 2; decide, by show (0 : Int) % 2 < _; omega⟩
  obtain ⟨w1, w2⟩ := write_alive hB.pow hh0 (length_superB (firstS w X.pages.length))
  have h1 : wS (firstS w X.pages.length) X = (actD (openW X 0 (superB (firstS w X.pages.length))), actE X) := by
    unfold wS
    rw [w1, w2]; rfl
  have ho1 : DOk (openW X 0 (superB (firstS w X.pages.length))) := open_ok hB.ok hh0 (length_superB _)
  generalize hF1 : actD (openW X 0 (superB (firstS w X.pages.length))) = F1 at h1
  have p1 : F1.pages = X.pages := by rw [← hF1, actD_pages]; rfl
  have q1 : F1.q = [(0, superB (firstS w X.pages.length))] := by rw [← hF1, actD_q]; show X.q ++ _ = _; rw [hB.que]; rfl
  have k1 : DOk F1 := by rw [← hF1]; exact actD_ok ho1
  have ep1 : F1.epoch = X.epoch := by rw [← hF1, actD_epoch]; rfl
  have m1 : F1.armed = if X.armed = 0 then 0 else X.armed - 1 := by rw [← hF1, actD_armed]; rfl
  have c1 : ∀ E : DV, E.pages = X.pages → E.q = [(0, superB (firstS w X.pages.length))] → DOk E → ∀ fates, Blank (crashD E fates) := by
    intro E hp hq hE fates
    have hg0 : E.pg 0 = X.pg 0 := pg_eq hp 0
    rcases crash_super hq (by rw [hp]; omega) (by rw [hg0]; exact t1) (by rw [hg0]; exact t2) fates with hc | hc
    · have e : ∀ n, (crashD E fates).pg n = X.pg n := fun n => by rw [pg_eq hc, pg_eq hp]
      exact ⟨crash_ok hE fates, rfl, rfl, by rw [e]; exact hB.z1, by rw [e]; exact hB.z0⟩
    · refine ⟨crash_ok hE fates, rfl, rfl, ?_, .inr ⟨_, hv0, rfl, set_pg_eq hc (by rw [hp]; omega)⟩⟩
      rw [set_pg_ne hc (by decide), pg_eq hp]; exact hB.z1
  have r1 : ∀ fs, runS (wS (firstS w X.pages.length) :: fs) X = if actE X = 0 then runS fs F1 else (F1, actE X) := fun fs => by
    show (if (wS (firstS w X.pages.length) X).2 = 0 then _ else wS (firstS w X.pages.length) X) = _
    rw [h1]
  rw [r1]
  rcases (actE_two X).symm with e | e
  · right
    have e' : X.armed = 1 := by unfold actE at e; split at e; assumption; cases e
    rw [if_neg (by omega)]
    exact ⟨by omega, e, by rw [p1], k1, by show F1.q.length ≤ 2; rw [q1]; simp, fun fates => .inl (c1 F1 p1 q1 k1 fates)⟩
  have n1 : X.armed ≠ 1 := by intro h0; unfold actE at e; rw [if_pos h0] at e; cases e
  rw [if_pos e]
  have d1 : F1.dead = false := by rw [← hF1]; exact act_zero (D := openW X 0 (superB (firstS w X.pages.length))) e hB.pow
  have ysync : ∀ G : DV, G.dead = false → ∀ fs, runS (yS :: fs) G = if actE G = 0 then runS fs (flushD (actD G)) else (actD G, 2) := fun G hG fs => by
    obtain ⟨s1, s2⟩ := sync_alive hG
    have hy : yS G = if actE G = 0 then (flushD (actD G), 0) else (actD G, 2) := by
      unfold yS
      rw [s1, s2]
      rcases actE_two G with e | e
      · rw [e, if_pos rfl, if_pos rfl]
      · rw [e, if_neg (by decide), if_neg (by decide)]
    show (if (yS G).2 = 0 then _ else yS G) = _
    rw [hy]
    by_cases e : actE G = 0
    · rw [if_pos e, if_pos rfl, if_pos e]
    · rw [if_neg e, if_neg (show ¬ ((actD G, (2 : Int)).2 = 0) by show ¬ (2 : Int) = 0; decide), if_neg e]
  rw [ysync F1 d1]
  rcases (actE_two F1).symm with e2 | e2
  · right
    have e' : F1.armed = 1 := by unfold actE at e2; split at e2; assumption; cases e2
    rw [if_neg (by omega)]
    refine ⟨?_, rfl, by show (actD F1).pages.length = _; rw [actD_pages, p1], actD_ok k1, by show (actD F1).q.length ≤ 2; rw [actD_q, q1]; simp, fun fates => .inl (c1 (actD F1) (by rw [actD_pages, p1]) (by rw [actD_q, q1]) (actD_ok k1) fates)⟩
    split at m1 <;> omega
  have n2 : F1.armed ≠ 1 := by intro h0; unfold actE at e2; rw [if_pos h0] at e2; cases e2
  rw [if_pos e2]
  generalize hF2 : flushD (actD F1) = F2
  have p2 : F2.pages = X.pages.set 0 (superB (firstS w X.pages.length)) := by
    rw [← hF2]
    show applyQ (actD F1).pages (actD F1).q = _
    rw [actD_pages, actD_q, p1, q1]; rfl
  have q2 : F2.q = [] := by rw [← hF2]; rfl
  have k2 : DOk F2 := by rw [← hF2]; exact flush_okD (actD_ok k1)
  have d2 : F2.dead = false := by rw [← hF2]; exact act_zero e2 d1
  have ep2 : F2.epoch = X.epoch := by rw [← hF2]; show (actD F1).epoch = _; rw [actD_epoch, ep1]
  have m2 : F2.armed = if F1.armed = 0 then 0 else F1.armed - 1 := by rw [← hF2]; exact actD_armed F1
  have l2 : F2.pages.length = X.pages.length := by rw [p2, List.length_set]
  have g20 : F2.pg 0 = superB (firstS w X.pages.length) := set_pg_eq p2 (by omega)
  have g21 : F2.pg 1 = zeroPage := by rw [set_pg_ne p2 (by decide)]; exact hB.z1
  have b2 : ∀ E : DV, E.pages = F2.pages → DOk E → E.q = [] → E.dead = false → Blank E := fun E hp hE hq hd => ⟨hE, hd, hq, by rw [pg_eq hp]; exact g21, .inr ⟨_, hv0, rfl, by rw [pg_eq hp]; exact g20⟩⟩
  have s2 : ∀ E : DV, E.pages = F2.pages.set 1 (superB (secondS w X.pages.length)) → DOk E → E.q = [] → Plat E (secondS w X.pages.length) [] := fun E hp hE hq =>
    ⟨hE, hv1, by rw [hp, List.length_set, l2]; rfl, ⟨_, hv0, hf, set_pg_eq hp (by omega), by
        show E.pg 0 = _
        rw [set_pg_ne hp (by decide)]; exact g20⟩, by show (2 : Int) - 2 ≤ 0; decide, fun x hx => (by cases hx), fun n h1 h2 => (by have h2 : (n : Int) < 2 := h2; omega), fun x hx => by rw [hq] at hx; cases hx⟩
  have hh1 : F2.has ((secondS w X.pages.length).gen % 2) := ⟨by show (0 : Int) ≤ 1 % 2; decide, by show (1 : Int) % 2 < _; omega⟩
  obtain ⟨w3, w4⟩ := write_alive d2 hh1 (length_superB (secondS w X.pages.length))
  have h3 : wS (secondS w X.pages.length) F2 = (actD (openW F2 1 (superB (secondS w X.pages.length))), actE F2) := by
    unfold wS
    rw [w3, w4]; rfl
  have ho3 : DOk (openW F2 1 (superB (secondS w X.pages.length))) := open_ok k2 hh1 (length_superB _)
  generalize hF3 : actD (openW F2 1 (superB (secondS w X.pages.length))) = F3 at h3
  have p3 : F3.pages = F2.pages := by rw [← hF3, actD_pages]; rfl
  have q3 : F3.q = [(1, superB (secondS w X.pages.length))] := by rw [← hF3, actD_q]; show F2.q ++ _ = _; rw [q2]; rfl
  have k3 : DOk F3 := by rw [← hF3]; exact actD_ok ho3
  have ep3 : F3.epoch = X.epoch := by rw [← hF3, actD_epoch]; exact ep2
  have m3 : F3.armed = if F2.armed = 0 then 0 else F2.armed - 1 := by rw [← hF3, actD_armed]; rfl
  have c3 : ∀ E : DV, E.pages = F2.pages → E.q = [(1, superB (secondS w X.pages.length))] → DOk E → ∀ fates, Blank (crashD E fates) ∨ Plat (crashD E fates) (secondS w X.pages.length) [] := by
    intro E hp hq hE fates
    have hg1 : E.pg 1 = zeroPage := by rw [pg_eq hp]; exact g21
    rcases crash_super hq (by rw [hp]; omega) (by rw [hg1]; exact zeroPage_len) (by rw [hg1]; exact zero_tail) fates with hc | hc
    · exact .inl (b2 _ (by rw [hc, hp]) (crash_ok hE fates) rfl rfl)
    · exact .inr (s2 _ (by rw [hc, hp]) (crash_ok hE fates) rfl)
  have r3 : ∀ fs, runS (wS (secondS w X.pages.length) :: fs) F2 = if actE F2 = 0 then runS fs F3 else (F3, actE F2) := fun fs => by
    show (if (wS (secondS w X.pages.length) F2).2 = 0 then _ else wS (secondS w X.pages.length) F2) = _
    rw [h3]
  rw [r3]
  rcases (actE_two F2).symm with e3 | e3
  · right
    have e' : F2.armed = 1 := by unfold actE at e3; split at e3; assumption; cases e3
    rw [if_neg (by omega)]
    refine ⟨?_, e3, by show F3.pages.length = _; rw [p3, l2], k3, by show F3.q.length ≤ 2; rw [q3]; simp, c3 F3 p3 q3 k3⟩
    split at m1 <;> split at m2 <;> omega
  have n3 : F2.armed ≠ 1 := by intro h0; unfold actE at e3; rw [if_pos h0] at e3; cases e3
  rw [if_pos e3]
  have d3 : F3.dead = false := by rw [← hF3]; exact act_zero (D := openW F2 1 (superB (secondS w X.pages.length))) e3 d2
  rw [ysync F3 d3]
  rcases (actE_two F3).symm with e4 | e4
  · right
    have e' : F3.armed = 1 := by unfold actE at e4; split at e4; assumption; cases e4
    rw [if_neg (by omega)]
    refine ⟨?_, rfl, by show (actD F3).pages.length = _; rw [actD_pages, p3, l2], actD_ok k3, by show (actD F3).q.length ≤ 2; rw [actD_q, q3]; simp, c3 (actD F3) (by rw [actD_pages, p3]) (by rw [actD_q, q3]) (actD_ok k3)⟩
    split at m1 <;> split at m2 <;> split at m3 <;> omega
  have n4 : F3.armed ≠ 1 := by intro h0; unfold actE at e4; rw [if_pos h0] at e4; cases e4
  rw [if_pos e4]
  left
  have p4 : (flushD (actD F3)).pages = F2.pages.set 1 (superB (secondS w X.pages.length)) := by
    show applyQ (actD F3).pages (actD F3).q = _
    rw [actD_pages, actD_q, p3, q3]; rfl
  have hP := s2 _ p4 (flush_okD (actD_ok k3)) rfl
  refine ⟨?_, rfl, hP, rfl, act_zero e4 d3, ?_, fun h0 => ?_, ?_⟩
  · split at m1 <;> split at m2 <;> split at m3 <;> omega
  · show (actD F3).epoch = _
    rw [actD_epoch, ep3]
  · show (actD F3).armed = 0
    rw [actD_armed, m3, m2, m1, if_pos h0]; rfl
  · show (flushD (actD F3)).pages.length = _
    rw [p4, List.length_set, l2]
end Go.Proofs.Ytehnnnohoaapdaa

/- More moves over memory: a list's block as cells, two assertions at once; bytes of rows. No program in sight. -/
namespace Go.Proofs.Ytehnnnohoaapdaa
set_option linter.unusedSectionVars false
open Go Go.RowKit
set_option linter.unusedVariables false
set_option linter.unusedSimpArgs false
section
variable {w0 w w' : World} {F : List Nat} {L R : List Asn}
end
end Go.Proofs.Ytehnnnohoaapdaa

/- Lists of lists of bytes as assertions. No program in sight. -/
namespace Go.Proofs.Ytehnnnohoaapdaa
set_option linter.unusedSimpArgs false
open Go Go.RowKit
set_option linter.unusedVariables false
set_option linter.unusedSectionVars false
def bytesL (v : Value) (l : List UInt8) : Asn := lst 5 1 v l.length (bvs l)
def inner (vs : List Value) (ls : List (List UInt8)) : List Asn := List.zipWith bytesL vs ls
def innerA (vs : List Value) (ls : List (List UInt8)) : Asn := star True (inner vs ls)
def rowsL (lv : Value) (vs : List Value) (ls : List (List UInt8)) : List Asn := [lst 22 1 lv ls.length vs, innerA vs ls]
def rows (lv : Value) (vs : List Value) (ls : List (List UInt8)) : Asn := star (vs.length = ls.length) (rowsL lv vs ls)
theorem foots_sub {L L' : List Asn} (h : L'.Sublist L) : (foots L').Sublist (foots L) := by
  induction h with
  | slnil => exact List.Sublist.refl _
  | cons A _ ih => rw [foots_cons]; exact List.Sublist.trans ih (List.sublist_append_right _ _)
  | cons_cons A _ ih => rw [foots_cons, foots_cons]; exact List.Sublist.append (List.Sublist.refl _) ih
theorem Mem.sub {w0 w : World} {F : List Nat} {L L' : List Asn} (h : Mem w0 F w L) (hs : L'.Sublist L) : Mem w0 F w L' := by
  have hf := foots_sub hs
  exact ⟨h.grew, fun A hA => h.all A (hs.subset hA), h.nodup.sublist hf, fun b hb => h.new b (hf.subset hb)⟩
section
variable {w0 w : World} {F : List Nat} {R : List Asn} {lv : Value} {vs : List Value} {ls : List (List UInt8)}
end
end Go.Proofs.Ytehnnnohoaapdaa

/- The statements' own book as an assertion: lists of lists, numbers; superblocks and counts compared. -/
namespace Go.Proofs.Ytehnnnohoaapdaa
set_option linter.unusedSimpArgs false
open Go Go.RowKit
set_option linter.unusedVariables false
set_option linter.unusedSectionVars false
section
variable {P : Program} {ops : Array Oper} {S : World → Prop} {o : Oper} {a : Act} {k : IntKind} {m n : Int} {x y : Operand} {t t' : TypeId}
theorem y_eqs {c d : List Value} {r : Bool} (hw : Region.wanted o (yielded ops a.tmps) = true) (ho : o.op = .binOp .eql t x y t') (hx : a.eval x = .agg c.toArray) (hy : a.eval y = .agg d.toArray) (hm : P.eqGuardType P.depth t = false)
    (he : ∀ W, (Op.equalIn 10000 t (.agg c.toArray) (.agg d.toArray)).run P W = .ok r W) : YieldsIf P ops S o (.bool r) a :=
  y_run hw fun w _ => by
    unfold execOp
    simp only [ho, hx, hy, Sem.run_bind, run_eql_struct, run_eqGuard_agg (hm := hm), he, Result.andThen_ok]
    rfl
theorem y_nes {c d : List Value} {r : Bool} (hw : Region.wanted o (yielded ops a.tmps) = true) (ho : o.op = .binOp .neq t x y t') (hx : a.eval x = .agg c.toArray) (hy : a.eval y = .agg d.toArray) (hm : P.eqGuardType P.depth t = false)
    (he : ∀ W, (Op.equalIn 10000 t (.agg c.toArray) (.agg d.toArray)).run P W = .ok (!r) W) : YieldsIf P ops S o (.bool r) a :=
  y_run hw fun w _ => by
    unfold execOp
    simp only [ho, hx, hy, Sem.run_bind, run_neq_struct, run_eqGuard_agg (hm := hm), he, Result.andThen_ok, Bool.not_not]
    rfl
end
theorem sup_guard : Try.prog.eqGuardType Try.prog.depth 37 = false := by kernel_rfl
theorem eqS_true {x y : SupV} (h : x = y) : eqS x y = true := (eqS_iff x y).2 h
theorem sup_same (x : SupV) (W : World) : (Op.equalIn 10000 37 (.agg (supC x).toArray) (.agg (supC x).toArray)).run Try.prog W = .ok true W := by
  rw [sup_equal, eqS_true rfl]
structure BV where
  ps : Pgs
  mark : Int
  gen : Int
  head : Int
  inMark : Int
  inHead : Int
def BV.loads (B : BV) : List (List UInt8) := B.ps.map (·.2)
def BV.kinds (B : BV) : List Value := B.ps.map fun x => .int .i64 (x.1 : Int)
structure BX where
  lv : Value
  kv : Value
  vs : List Value
def bC (B : BV) (x : BX) : List Value := [x.lv, x.kv, .int .i64 B.mark, .int .i64 B.gen, .int .i64 B.head, .int .i64 B.inMark, .int .i64 B.inHead]
def bookL (B : BV) (b : Nat) (x : BX) : List Asn := [blk b 48 (bC B x), rows x.lv x.vs B.loads, lst 3 1 x.kv B.ps.length B.kinds]
def book (B : BV) (b : Nat) (x : BX) : Asn := star True (bookL B b x)
section
variable {w0 w : World} {F : List Nat} {R : List Asn} {B : BV} {b : Nat} {x : BX}
theorem book_open (h : Mem w0 F w (book B b x :: R)) : Mem w0 F w (blk b 48 (bC B x) :: rows x.lv x.vs B.loads :: lst 3 1 x.kv B.ps.length B.kinds :: R) := (Mem.open h).2
theorem book_close (h : Mem w0 F w (blk b 48 (bC B x) :: rows x.lv x.vs B.loads :: lst 3 1 x.kv B.ps.length B.kinds :: R)) : Mem w0 F w (book B b x :: R) := Mem.close (X := bookL B b x) trivial h
end
def DV.rd (D : DV) (r : Int) : DV := { D with reads := r }
theorem Inv.rd {D : DV} {V : FV} {ps : Pgs} (h : Inv D V ps) (r : Int) : Inv (D.rd r) V ps := h.cnt r D.writes D.syncs
end Go.Proofs.Ytehnnnohoaapdaa
