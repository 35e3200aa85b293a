/- Texts joined: FileR, SL1, Fam, Book8. -/
import Derived.Test.YtfbamkgmnbobeaaSB18
import Derived.Test.YtfbamkgmnbobeaaSB04
import Derived.Test.YtfbamkgmnbobeaaSB07
import Derived.ArgAppend
/- A page file as values: Format, on a disk that holds none, and a loss of power on the way. No program in sight. -/
namespace Go.Proofs.Ytfbamkgmnbobeaa
set_option linter.unusedSectionVars false
set_option linter.unusedSimpArgs false
open Go Go.RowKit
set_option linter.unusedVariables false
structure Blank (D : DV) : Prop where
  ok : DOk D
  pow : D.dead = false
  que : D.q = []
  z1 : D.pg 1 = zeroPage
  z0 : D.pg 0 = zeroPage ∨ ∃ S, ValidS S ∧ S.gen = 0 ∧ D.pg 0 = superB S
theorem chooseE_blank {a : List UInt8} (h : a = zeroPage ∨ ∃ S, ValidS S ∧ S.gen = 0 ∧ a = superB S) : chooseE a zeroPage = 55 := by
  have hz : zeroPage = zerosB 256 := rfl
  have u : unpE zeroPage = 52 := by rw [hz]; exact unpE_zero
  have e : emptyB zeroPage = true := by rw [hz]; exact emptyB_zero
  have c1 : ¬ (unpE a = 0 ∧ unpE zeroPage = 0) := fun x => by rw [u] at x; exact absurd x.2 (by decide)
  have c2 : ¬ emptyB zeroPage = false := by rw [e]; decide
  have c3 : (unpE a = 0 ∧ (unpS a).gen = 0) ∨ emptyB a = true := by
    rcases h with rfl | ⟨S, h1, h2, rfl⟩
    · exact .inr e
    · exact .inl ⟨unpE_superB S h1, by rw [unpS_superB S h1]; exact h2⟩
  unfold chooseE
  rw [if_neg c1, if_neg c2, if_pos c3]
theorem Blank.slots {D : DV} (h : Blank D) : slotsE D = 55 := by
  unfold slotsE
  rw [if_neg (by rw [h.pow]; decide)]
  have e0 : D.cur 0 = D.pg 0 := cur_other fun x hx => by rw [h.que] at hx; cases hx
  have e1 : D.cur 1 = D.pg 1 := cur_other fun x hx => by rw [h.que] at hx; cases hx
  rw [e0, e1, h.z1]
  exact chooseE_blank h.z0
theorem Blank.open {D : DV} (h : Blank D) : openE D = 55 ∧ openD D = slotsD D := by
  have e : openE D = 55 := by
    unfold openE
    rw [if_pos (by rw [h.slots]; decide), h.slots]
  exact ⟨e, if_neg (by rw [e]; decide)⟩
theorem Blank.of_slots {D : DV} (h : Blank D) : Blank (slotsD D) := by
  obtain ⟨f1, f2, f3, f4, f5, _, _⟩ := slotsD_same D
  have hg : ∀ n, (slotsD D).pg n = D.pg n := fun n => by unfold DV.pg; rw [f1]
  exact ⟨(slotsD_facts D h.ok).2.2, by rw [f4]; exact h.pow, by rw [f2]; exact h.que, by rw [hg]; exact h.z1, by rw [hg]; exact h.z0⟩
theorem newD_blank {n : Nat} (h1 : 3 ≤ n) (h2 : n ≤ 4096) (a : Int) (ha : 0 ≤ a ∧ a ≤ 9223372036854775807) : Blank { newD n with armed := a } := by
  have hz : ∀ i, i < n → (newD n).pg i = zeroPage := fun i hi => by
    show (List.replicate n zeroPage).getD i [] = _
    rw [List.getD_eq_getElem?_getD, List.getElem?_replicate, if_pos hi]; rfl
  exact ⟨armed_ok (newD_ok h1 h2) ha, rfl, rfl, hz 1 (by omega), .inl (hz 0 (by omega))⟩
theorem actD_armed (D : DV) : (actD D).armed = if D.armed = 0 then 0 else D.armed - 1 := by
  unfold actD
  split
  · rename_i h; exact h
  · rfl
theorem set_pg_eq {D E : DV} {p : Nat} {d : List UInt8} (he : E.pages = D.pages.set p d) (hp : p < D.pages.length) : E.pg p = d := by
  unfold DV.pg
  rw [he, List.getD_eq_getElem?_getD, List.getElem?_set_self hp]; rfl
theorem set_pg_ne {D E : DV} {p n : Nat} {d : List UInt8} (he : E.pages = D.pages.set p d) (hp : p ≠ n) : E.pg n = D.pg n := by
  unfold DV.pg
  rw [he, List.getD_eq_getElem?_getD, List.getElem?_set_ne hp, ← List.getD_eq_getElem?_getD]
theorem pg_eq {D E : DV} (he : E.pages = D.pages) (n : Nat) : E.pg n = D.pg n := by unfold DV.pg; rw [he]
def firstS (w : Int) (n : Nat) : SupV := ⟨w, 0, 2, 0, n⟩
def secondS (w : Int) (n : Nat) : SupV := ⟨w, 1, 2, 0, n⟩
theorem crash_super {E : DV} {p : Nat} {S : SupV} (hq : E.q = [(p, superB S)]) (hp : p < E.pages.length) (ho : (E.pg p).length = 256) (hz : (E.pg p).drop 64 = zerosB 192) (fates : List UInt8) :
    ((crashD E fates).pages = E.pages) ∨ (crashD E fates).pages = E.pages.set p (superB S) := by
  rcases crash_one hq fates with hc | ⟨f, hc⟩
  · exact .inl hc
  · rcases mixS_two f (superB S) (E.pg p) (length_superB _) ho (by rw [superB_tail, hz]) with hx | hx
    · rw [hx] at hc; exact .inr hc
    · rw [hx, set_same rfl hp] at hc; exact .inl hc
theorem zero_tail : zeroPage.drop 64 = zerosB 192 := by unfold zeroPage zerosB; rw [List.drop_replicate]
theorem Blank.tail0 {D : DV} (h : Blank D) : (D.pg 0).length = 256 ∧ (D.pg 0).drop 64 = zerosB 192 := by
  rcases h.z0 with e | ⟨S, _, _, e⟩
  · rw [e]; exact ⟨zeroPage_len, zero_tail⟩
  · rw [e]; exact ⟨length_superB _, superB_tail _⟩
theorem Blank.format {D : DV} (h : Blank D) {w : Int} (hw : 1 ≤ w ∧ w ≤ 32) :
    ((D.armed = 0 ∨ 5 ≤ D.armed) ∧ (formatR D w).2 = 0 ∧ Plat (formatR D w).1 (secondS w D.pages.length) [] ∧ (formatR D w).1.q = [] ∧ (formatR D w).1.dead = false ∧ (formatR D w).1.epoch = D.epoch ∧ (D.armed = 0 → (formatR D w).1.armed = 0) ∧ (formatR D w).1.pages.length = D.pages.length) ∨
    ((1 ≤ D.armed ∧ D.armed ≤ 4) ∧ (formatR D w).2 = 2 ∧ (formatR D w).1.pages.length = D.pages.length ∧ DOk (formatR D w).1 ∧ (formatR D w).1.q.length ≤ 2 ∧ ∀ fates, Blank (crashD (formatR D w).1 fates) ∨ Plat (crashD (formatR D w).1 fates) (secondS w D.pages.length) []) := by
  have hB := h.of_slots
  obtain ⟨f1, f2, f3, f4, f5, _, _⟩ := slotsD_same D
  have hR : formatR D w = runS [wS (firstS w D.pages.length), yS, wS (secondS w D.pages.length), yS] (slotsD D) := by
    unfold formatR
    rw [if_neg (by rw [h.pow]; decide), if_neg (by omega), if_neg (by rw [h.slots]; decide)]
    rfl
  have hlen : (slotsD D).pages.length = D.pages.length := by rw [f1]
  rw [hR, ← hlen, ← f5, ← f3]
  generalize slotsD D = X at *
  clear hR f1 f2 f3 f4 f5 h hlen
  have hlo := hB.ok.lo
  have hhi := hB.ok.hi
  have hv0 : ValidS (firstS w X.pages.length) := valid_new hw ⟨hlo, hhi⟩ (by decide)
  have hv1 : ValidS (secondS w X.pages.length) := valid_new hw ⟨hlo, hhi⟩ (by decide)
  have hf : Follows (secondS w X.pages.length) (firstS w X.pages.length) := ⟨rfl, by show (2 : Int) ≤ 2; decide⟩
  have ha := hB.ok.arm
  obtain ⟨t1, t2⟩ := hB.tail0
  have hh0 : X.has ((firstS w X.pages.length).gen % 2) := ⟨by show (0 : Int) ≤ 0 % 2; decide, by show (0 : Int) % 2 < _; omega⟩
  obtain ⟨w1, w2⟩ := write_alive hB.pow hh0 (length_superB (firstS w X.pages.length))
  have h1 : wS (firstS w X.pages.length) X = (actD (openW X 0 (superB (firstS w X.pages.length))), actE X) := by
    unfold wS
    rw [w1, w2]; rfl
  have ho1 : DOk (openW X 0 (superB (firstS w X.pages.length))) := open_ok hB.ok hh0 (length_superB _)
  generalize hF1 : actD (openW X 0 (superB (firstS w X.pages.length))) = F1 at h1
  have p1 : F1.pages = X.pages := by rw [← hF1, actD_pages]; rfl
  have q1 : F1.q = [(0, superB (firstS w X.pages.length))] := by rw [← hF1, actD_q]; show X.q ++ _ = _; rw [hB.que]; rfl
  have k1 : DOk F1 := by rw [← hF1]; exact actD_ok ho1
  have ep1 : F1.epoch = X.epoch := by rw [← hF1, actD_epoch]; rfl
  have m1 : F1.armed = if X.armed = 0 then 0 else X.armed - 1 := by rw [← hF1, actD_armed]; rfl
  have c1 : ∀ E : DV, E.pages = X.pages → E.q = [(0, superB (firstS w X.pages.length))] → DOk E → ∀ fates, Blank (crashD E fates) := by
    intro E hp hq hE fates
    have hg0 : E.pg 0 = X.pg 0 := pg_eq hp 0
    rcases crash_super hq (by rw [hp]; omega) (by rw [hg0]; exact t1) (by rw [hg0]; exact t2) fates with hc | hc
    · have e : ∀ n, (crashD E fates).pg n = X.pg n := fun n => by rw [pg_eq hc, pg_eq hp]
      exact ⟨crash_ok hE fates, rfl, rfl, by rw [e]; exact hB.z1, by rw [e]; exact hB.z0⟩
    · refine ⟨crash_ok hE fates, rfl, rfl, ?_, .inr ⟨_, hv0, rfl, set_pg_eq hc (by rw [hp]; omega)⟩⟩
      rw [set_pg_ne hc (by decide), pg_eq hp]; exact hB.z1
  have r1 : ∀ fs, runS (wS (firstS w X.pages.length) :: fs) X = if actE X = 0 then runS fs F1 else (F1, actE X) := fun fs => by
    show (if (wS (firstS w X.pages.length) X).2 = 0 then _ else wS (firstS w X.pages.length) X) = _
    rw [h1]
  rw [r1]
  rcases (actE_two X).symm with e | e
  · right
    have e' : X.armed = 1 := by unfold actE at e; split at e; assumption; cases e
    rw [if_neg (by omega)]
    exact ⟨by omega, e, by rw [p1], k1, by show F1.q.length ≤ 2; rw [q1]; simp, fun fates => .inl (c1 F1 p1 q1 k1 fates)⟩
  have n1 : X.armed ≠ 1 := by intro h0; unfold actE at e; rw [if_pos h0] at e; cases e
  rw [if_pos e]
  have d1 : F1.dead = false := by rw [← hF1]; exact act_zero (D := openW X 0 (superB (firstS w X.pages.length))) e hB.pow
  have ysync : ∀ G : DV, G.dead = false → ∀ fs, runS (yS :: fs) G = if actE G = 0 then runS fs (flushD (actD G)) else (actD G, 2) := fun G hG fs => by
    obtain ⟨s1, s2⟩ := sync_alive hG
    have hy : yS G = if actE G = 0 then (flushD (actD G), 0) else (actD G, 2) := by
      unfold yS
      rw [s1, s2]
      rcases actE_two G with e | e
      · rw [e, if_pos rfl, if_pos rfl]
      · rw [e, if_neg (by decide), if_neg (by decide)]
    show (if (yS G).2 = 0 then _ else yS G) = _
    rw [hy]
    by_cases e : actE G = 0
    · rw [if_pos e, if_pos rfl, if_pos e]
    · rw [if_neg e, if_neg (show ¬ ((actD G, (2 : Int)).2 = 0) by show ¬ (2 : Int) = 0; decide), if_neg e]
  rw [ysync F1 d1]
  rcases (actE_two F1).symm with e2 | e2
  · right
    have e' : F1.armed = 1 := by unfold actE at e2; split at e2; assumption; cases e2
    rw [if_neg (by omega)]
    refine ⟨?_, rfl, by show (actD F1).pages.length = _; rw [actD_pages, p1], actD_ok k1, by show (actD F1).q.length ≤ 2; rw [actD_q, q1]; simp, fun fates => .inl (c1 (actD F1) (by rw [actD_pages, p1]) (by rw [actD_q, q1]) (actD_ok k1) fates)⟩
    split at m1 <;> omega
  have n2 : F1.armed ≠ 1 := by intro h0; unfold actE at e2; rw [if_pos h0] at e2; cases e2
  rw [if_pos e2]
  generalize hF2 : flushD (actD F1) = F2
  have p2 : F2.pages = X.pages.set 0 (superB (firstS w X.pages.length)) := by
    rw [← hF2]
    show applyQ (actD F1).pages (actD F1).q = _
    rw [actD_pages, actD_q, p1, q1]; rfl
  have q2 : F2.q = [] := by rw [← hF2]; rfl
  have k2 : DOk F2 := by rw [← hF2]; exact flush_okD (actD_ok k1)
  have d2 : F2.dead = false := by rw [← hF2]; exact act_zero e2 d1
  have ep2 : F2.epoch = X.epoch := by rw [← hF2]; show (actD F1).epoch = _; rw [actD_epoch, ep1]
  have m2 : F2.armed = if F1.armed = 0 then 0 else F1.armed - 1 := by rw [← hF2]; exact actD_armed F1
  have l2 : F2.pages.length = X.pages.length := by rw [p2, List.length_set]
  have g20 : F2.pg 0 = superB (firstS w X.pages.length) := set_pg_eq p2 (by omega)
  have g21 : F2.pg 1 = zeroPage := by rw [set_pg_ne p2 (by decide)]; exact hB.z1
  have b2 : ∀ E : DV, E.pages = F2.pages → DOk E → E.q = [] → E.dead = false → Blank E := fun E hp hE hq hd => ⟨hE, hd, hq, by rw [pg_eq hp]; exact g21, .inr ⟨_, hv0, rfl, by rw [pg_eq hp]; exact g20⟩⟩
  have s2 : ∀ E : DV, E.pages = F2.pages.set 1 (superB (secondS w X.pages.length)) → DOk E → E.q = [] → Plat E (secondS w X.pages.length) [] := fun E hp hE hq =>
    ⟨hE, hv1, by rw [hp, List.length_set, l2]; rfl, ⟨_, hv0, hf, set_pg_eq hp (by omega), by
        show E.pg 0 = _
        rw [set_pg_ne hp (by decide)]; exact g20⟩, by show (2 : Int) - 2 ≤ 0; decide, fun x hx => (by cases hx), fun n h1 h2 => (by have h2 : (n : Int) < 2 := h2; omega), fun x hx => by rw [hq] at hx; cases hx⟩
  have hh1 : F2.has ((secondS w X.pages.length).gen % 2) := ⟨by show (0 : Int) ≤ 1 % 2; decide, by show (1 : Int) % 2 < _; omega⟩
  obtain ⟨w3, w4⟩ := write_alive d2 hh1 (length_superB (secondS w X.pages.length))
  have h3 : wS (secondS w X.pages.length) F2 = (actD (openW F2 1 (superB (secondS w X.pages.length))), actE F2) := by
    unfold wS
    rw [w3, w4]; rfl
  have ho3 : DOk (openW F2 1 (superB (secondS w X.pages.length))) := open_ok k2 hh1 (length_superB _)
  generalize hF3 : actD (openW F2 1 (superB (secondS w X.pages.length))) = F3 at h3
  have p3 : F3.pages = F2.pages := by rw [← hF3, actD_pages]; rfl
  have q3 : F3.q = [(1, superB (secondS w X.pages.length))] := by rw [← hF3, actD_q]; show F2.q ++ _ = _; rw [q2]; rfl
  have k3 : DOk F3 := by rw [← hF3]; exact actD_ok ho3
  have ep3 : F3.epoch = X.epoch := by rw [← hF3, actD_epoch]; exact ep2
  have m3 : F3.armed = if F2.armed = 0 then 0 else F2.armed - 1 := by rw [← hF3, actD_armed]; rfl
  have c3 : ∀ E : DV, E.pages = F2.pages → E.q = [(1, superB (secondS w X.pages.length))] → DOk E → ∀ fates, Blank (crashD E fates) ∨ Plat (crashD E fates) (secondS w X.pages.length) [] := by
    intro E hp hq hE fates
    have hg1 : E.pg 1 = zeroPage := by rw [pg_eq hp]; exact g21
    rcases crash_super hq (by rw [hp]; omega) (by rw [hg1]; exact zeroPage_len) (by rw [hg1]; exact zero_tail) fates with hc | hc
    · exact .inl (b2 _ (by rw [hc, hp]) (crash_ok hE fates) rfl rfl)
    · exact .inr (s2 _ (by rw [hc, hp]) (crash_ok hE fates) rfl)
  have r3 : ∀ fs, runS (wS (secondS w X.pages.length) :: fs) F2 = if actE F2 = 0 then runS fs F3 else (F3, actE F2) := fun fs => by
    show (if (wS (secondS w X.pages.length) F2).2 = 0 then _ else wS (secondS w X.pages.length) F2) = _
    rw [h3]
  rw [r3]
  rcases (actE_two F2).symm with e3 | e3
  · right
    have e' : F2.armed = 1 := by unfold actE at e3; split at e3; assumption; cases e3
    rw [if_neg (by omega)]
    refine ⟨?_, e3, by show F3.pages.length = _; rw [p3, l2], k3, by show F3.q.length ≤ 2; rw [q3]; simp, c3 F3 p3 q3 k3⟩
    split at m1 <;> split at m2 <;> omega
  have n3 : F2.armed ≠ 1 := by intro h0; unfold actE at e3; rw [if_pos h0] at e3; cases e3
  rw [if_pos e3]
  have d3 : F3.dead = false := by rw [← hF3]; exact act_zero (D := openW F2 1 (superB (secondS w X.pages.length))) e3 d2
  rw [ysync F3 d3]
  rcases (actE_two F3).symm with e4 | e4
  · right
    have e' : F3.armed = 1 := by unfold actE at e4; split at e4; assumption; cases e4
    rw [if_neg (by omega)]
    refine ⟨?_, rfl, by show (actD F3).pages.length = _; rw [actD_pages, p3, l2], actD_ok k3, by show (actD F3).q.length ≤ 2; rw [actD_q, q3]; simp, c3 (actD F3) (by rw [actD_pages, p3]) (by rw [actD_q, q3]) (actD_ok k3)⟩
    split at m1 <;> split at m2 <;> split at m3 <;> omega
  have n4 : F3.armed ≠ 1 := by intro h0; unfold actE at e4; rw [if_pos h0] at e4; cases e4
  rw [if_pos e4]
  left
  have p4 : (flushD (actD F3)).pages = F2.pages.set 1 (superB (secondS w X.pages.length)) := by
    show applyQ (actD F3).pages (actD F3).q = _
    rw [actD_pages, actD_q, p3, q3]; rfl
  have hP := s2 _ p4 (flush_okD (actD_ok k3)) rfl
  refine ⟨?_, rfl, hP, rfl, act_zero e4 d3, ?_, fun h0 => ?_, ?_⟩
  · split at m1 <;> split at m2 <;> split at m3 <;> omega
  · show (actD F3).epoch = _
    rw [actD_epoch, ep3]
  · show (actD F3).armed = 0
    rw [actD_armed, m3, m2, m1, if_pos h0]; rfl
  · show (flushD (actD F3)).pages.length = _
    rw [p4, List.length_set, l2]
end Go.Proofs.Ytfbamkgmnbobeaa

/- The statements' own whole, cut, short, begun. -/
namespace Go.Proofs.Ytfbamkgmnbobeaa
set_option linter.unusedSectionVars false
open Go Go.RowKit
set_option maxRecDepth 100000
set_option maxHeartbeats 40000000
set_option linter.unusedVariables false
set_option linter.unusedSimpArgs false
theorem tmod_place (i n : Int) (hn : 0 < n) : (if i.tmod n < 0 then i.tmod n + n else i.tmod n) = i % n := by
  have h := Int.tmod_eq_emod (a := i) (b := n)
  have h1 := Int.emod_nonneg i (show n ≠ 0 by omega)
  have h2 := Int.emod_lt_of_pos i hn
  rw [h]
  split <;> split <;> simp_all <;> omega
theorem tmod_in9 (i n : Int) (hn : 0 < n) : -n ≤ i.tmod n ∧ i.tmod n ≤ n := by
  have h := Int.tmod_eq_emod (a := i) (b := n)
  have h1 := Int.emod_nonneg i (show n ≠ 0 by omega)
  have h2 := Int.emod_lt_of_pos i hn
  rw [h]
  split <;> omega
def wholeN (n lo hi : Int) : Int := lo + n % (hi - lo + 1)
theorem whole_in (n lo hi : Int) (h : lo ≤ hi) : lo ≤ wholeN n lo hi ∧ wholeN n lo hi ≤ hi := by
  unfold wholeN
  have h1 := Int.emod_nonneg n (show hi - lo + 1 ≠ 0 by omega)
  have h2 := Int.emod_lt_of_pos n (show 0 < hi - lo + 1 by omega)
  omega
theorem nwhole_any (n lo hi : Int) (h0 : 0 ≤ lo) (h1 : lo ≤ hi) (h2 : hi ≤ 1000000) {w : World} : zC 8 [zI n, zI lo, zI hi] w fun e w' => e = .returned (zI (wholeN n lo hi)) ∧ Mem w [] w' [] := by
 have M := Mem.nil w;have hin := tmod_in9 n (hi - lo + 1) (by omega);go_enter Try.func8, Try.ntmps8;refine zin ?_;refine zk fun K1 hK1 => zr ?_;refine zp 1 rfl ?_;refine zw (hK1 _ _ (zk fun K2 hK2 => zr ?_));refine zp 3 rfl (zo M (y_sub (r := hi - lo) (zwn rfl) rfl (zev rfl) (zev rfl) (rfl) (by omega)) (zo M (y_add (r := hi - lo + 1) (zwn rfl) rfl (zev rfl) (zev rfl) (rfl) (by omega)) (zo M (y_rem (r := n.tmod (hi - lo + 1)) (zwn rfl) rfl (zev rfl) (zev rfl) (by omega) (rfl)) (zp 1 rfl ?_))));refine zw (hK2 _ _ (zk fun K3 hK3 => zk fun K4 hK4 => zr ?_));refine zp 1 rfl ?_;rcases zem (n.tmod (hi - lo + 1) < 0) with h5 | h5
 ·refine zo M (zlss rfl (zT h5)) ?_;refine zw (hK4 _ _ (zct rfl (zr ?_)));refine zp 2 rfl (zo M (y_add (r := n.tmod (hi - lo + 1) + hi) (zwn rfl) rfl (zev rfl) (zev rfl) (rfl) (by omega)) (zp 1 rfl (zo M (y_sub (r := n.tmod (hi - lo + 1) + hi - lo) (zwn rfl) rfl (zev rfl) (zev rfl) (rfl) (by omega)) (zo M (y_add (r := n.tmod (hi - lo + 1) + hi - lo + 1) (zwn rfl) rfl (zev rfl) (zev rfl) (rfl) (by omega)) (zp 1 rfl ?_)))));refine zw (hK3 _ _ (zk fun K6 hK6 => zr ?_));refine zp 2 rfl (zo M (y_add (r := lo + (n.tmod (hi - lo + 1) + hi - lo + 1)) (zwn rfl) rfl (zev rfl) (zev rfl) (rfl) (by omega)) (zp 1 rfl ?_));refine zw (hK6 _ _ (zrt ?_));(try simp only[zi,zj]);refine zR (v := zI (lo + (n.tmod (hi - lo + 1) + hi - lo + 1))) (res1 rfl (zgd rfl)) (zdf _) ?_;have e := tmod_place n (hi - lo + 1) (by omega);rw [if_pos h5] at e;rw [show lo + (n.tmod (hi - lo + 1) + hi - lo + 1) = wholeN n lo hi by unfold wholeN; rw [← e] <;> omega];exact ⟨rfl, M⟩
 ·refine zo M (zlss rfl (zF h5)) ?_;refine zw (hK4 _ _ (zcf rfl (zsk (hK3 _ _ (zk fun K7 hK7 => ?_)))));refine zr ?_;refine zp 2 rfl (zo M (y_add (r := lo + (n.tmod (hi - lo + 1))) (zwn rfl) rfl (zev rfl) (zev rfl) (rfl) (by omega)) (zp 1 rfl ?_));refine zw (hK7 _ _ (zrt ?_));(try simp only[zi,zj]);refine zR (v := zI (lo + (n.tmod (hi - lo + 1)))) (res1 rfl (zgd rfl)) (zdf _) ?_;have e := tmod_place n (hi - lo + 1) (by omega);rw [if_neg h5] at e;rw [show lo + (n.tmod (hi - lo + 1)) = wholeN n lo hi by unfold wholeN; rw [← e] <;> omega];exact ⟨rfl, M⟩
theorem row_pt {w : World} {ao : Option Addr} {n : Nat} {l : List UInt8} (h : Row w ao n l) (hn : 0 < n) : ∃ gb go, ao = some ⟨gb, go, none⟩ := by
  obtain ⟨b, o, e, _⟩ := h.2 0 (by have := h.1; omega)
  exact ⟨b, o, e⟩
theorem row_cell_at {w : World} {ao : Option Addr} {n b o i : Nat} {l : List UInt8} (h : Row w ao n l) (e : ao = some ⟨b, o, none⟩) (hi : i < n) : w.cell? ⟨b, o + i, none⟩ = some (.int .u8 ((l.getD i 0).toNat : Int)) := by
  subst e
  exact h.cellD hi
theorem bvs_takeS {l : List UInt8} {i : Nat} (hi : i < l.length) : bvs (l.take i) ++ [.int .u8 ((l.getD i 0).toNat : Int)] = bvs (l.take (i + 1)) := by
  rw [List.take_succ_eq_append_getElem hi, bvs_append, List.getD_eq_getElem?_getD, List.getElem?_eq_getElem hi]; rfl
theorem short_any (ao : Option Addr) (n c k : Nat) (l : List UInt8) {w : World} (hr : Row w ao n l) (hn : k ≤ 1000000) (hnn : n ≤ 9223372036854775807) : zC 18 [.slice ao n c, zI (k : Int)] w fun e w' => ∃ a' c', e = .returned (.slice a' (l.take k).length c') ∧ Mem w [] w' [bytesL (.slice a' (l.take k).length c') (l.take k)] := by
 have M := Mem.nil w;go_enter Try.func18, Try.ntmps18;refine zin ?_;refine zk fun K1 hK1 => zr ?_;refine zp 1 rfl ?_;refine zw (hK1 _ _ (zk fun K2 hK2 => zr ?_));refine zp 1 rfl ?_;refine zw (hK2 _ _ (zk fun K3 hK3 => zk fun K4 hK4 => zr ?_));refine zp 1 rfl ?_;refine zw (hK4 _ _ (zbl ?_));refine zlp (fun n' a' w' => ∃ (i m : Nat) (a : Option Addr) (c2 : Nat) (us5 : List Value), n' = (n - i) ∧ a' = (⟨#[.slice ao n c, zI (k : Int), undef, undef, zN, .slice a m c2, zI (i : Int), (zU us5 0), (zU us5 1), (zU us5 2), (zU us5 3), (zU us5 4), (zU us5 5), (zU us5 6), (zU us5 7), (zU us5 8), (zU us5 9), (zU us5 10), (zU us5 11), (zU us5 12), (zU us5 13), (zU us5 14), (zU us5 15), (zU us5 16), (zU us5 17), undef], []⟩ : Act) ∧ (i ≤ n ∧ i ≤ k) ∧ (m = i) ∧ Mem w [] w' [lst 5 1 (.slice a m c2) m (bvs (l.take i))]) (n - 0) ⟨0, 0, none, 0, [undef, undef, undef, undef, undef, undef, undef, undef, undef, undef, undef, undef, undef, undef, undef, undef, undef, undef], rfl, (zmk (by kernel_rfl)), ⟨Nat.zero_le _, Nat.zero_le _⟩, rfl, (M.nilst 5 1)⟩ ?_;clear M;rintro n' a' w6 ⟨i, m, a, c2, us5, rfl, rfl, hi, hm, M6⟩;refine zin ?_;refine zk fun K7 hK7 => zk fun K8 hK8 => zr ?_;refine zp 2 rfl (zo M6 (y_len (zwn rfl) rfl (zev rfl) zu24) ?_);rcases zem ((i : Int) < (n : Int)) with h9 | h9
 ·refine zo M6 (zlss rfl (zT h9)) (zp 3 rfl ?_);rcases zem ((i : Int) < (k : Int)) with h10 | h10
  ·refine zo M6 (zlss rfl (zT h10)) (zp 1 rfl ?_);refine zw (hK8 _ _ (zct rfl (zsk (hK7 _ _ (zk fun K11 hK11 => ?_)))));refine zbl (zr ?_);refine zp 3 rfl ?_;obtain ⟨gb, go, hgo⟩ : ∃ gb go, ao = some ⟨gb, go, none⟩ := row_pt hr (by omega);refine zo M6 (y_ias (r := go + i) (zwn rfl) rfl ((zev rfl).trans (congrArg (fun z => Value.slice z n c) hgo)) (zev rfl) zu24 zz5 (by first | omega | (dsimp only; omega)) (by first | omega | (dsimp only; omega))) (zo M6 (y_loadc (v := .int .u8 ((l.getD i 0).toNat : Int)) (zwn rfl) rfl (zev rfl) zg5 (fun W hW => row_cell_at (hW.row hr (by simp)) hgo (by omega))) ?_);refine pe (zwn rfl) fun K hK => e_bslice M6 ([.int .u8 ((l.getD i 0).toNat : Int)]) (pv := [(0, .int .u8 ((l.getD i 0).toNat : Int))]) rfl (zep rfl) zu24 zz5 z05 (by decide) (by kernel_rfl) ?_;intro g12 w13 (M13 : Mem w [] w13 [blk g12 5 ([.int .u8 ((l.getD i 0).toNat : Int)]), lst 5 1 (.slice a m c2) m (bvs (l.take i))]);refine hK.out _ _ (zpu ?_);refine pe (zwn rfl) fun K hK => e_append M13 1 bytesT (by decide) (news := [.int .u8 ((l.getD i 0).toNat : Int)]) rfl rfl (zev rfl) (zev rfl) (rfl) (by intro h; cases h) (fun ad e j u hj => by cases e; match j with | 0 => cases hj; exact cell_of_blk (M13.get 0 rfl) rfl | j + 1 => cases hj) (by intro u hu; cases hu with | head => rfl | tail _ h => cases h) (⟨by unfold maxLen; omega, by omega⟩) ?_;intro v14 w14 M14;replace M14 : Mem w [] w14 [blk g12 5 ([.int .u8 ((l.getD i 0).toNat : Int)]), lst 5 1 v14 (m + 1) (bvs (l.take (i + 1)))] := (by have N := M14; rw [bvs_takeS (by have := hr.1; omega)] at N; exact N);obtain ⟨a14, c14, rfl⟩ := qv_at (M14.get 1 rfl);refine hK.out _ _ (zpu ?_);refine zp 1 rfl ?_;refine zw (hK11 _ _ (zr ?_));refine zp 1 rfl (zo M14 (y_add (r := (i : Int) + 1) (zwn rfl) rfl (zev rfl) (zev rfl) (rfl) (by omega)) (zp 1 rfl ?_));refine zw ?_;refine ⟨_, ?_, i + 1, m + 1, a14, c14, [zI (i : Int), .slice ao n c, zI (n : Int), .bool true, .bool true, zI (i : Int), zI (k : Int), .bool true, .bool true, zI (i : Int), zI ((i : Int) + 1), .slice a m c2, .slice ao n c, zI (i : Int), zP gb (go + i), .int .u8 ((l.getD i 0).toNat : Int), zS g12 1 1, .slice a14 (m + 1) c14], rfl, (zmk (by kernel_rfl)), ⟨by omega, by omega⟩, by omega, (M14.arr [1] (by decide))⟩;omega
  ·refine zo M6 (zlss rfl (zF h10)) (zp 1 rfl ?_);refine zw (hK8 _ _ (zcf rfl (zx (hK3 _ _ (zk fun K15 hK15 => ?_)))));refine zr ?_;refine zp 2 rfl ?_;refine zw (hK15 _ _ (zrt ?_));(try simp only[zi,zj]);refine zR (v := .slice a m c2) (res1 rfl (zgd rfl)) (zdf _) ?_;have hmm : m = (l.take k).length := by rw [List.length_take]; have := hr.1; omega
   have htk : l.take i = l.take k := by rw [List.take_eq_take_iff]; have := hr.1; omega
   rw [htk] at M6;subst hmm;exact ⟨a, c2, rfl, (M6.arr [0] (by decide))⟩
 ·refine zo M6 (zlss rfl (zF h9)) (zp 5 rfl ?_);refine zw (hK8 _ _ (zcf rfl (zx (hK3 _ _ (zk fun K16 hK16 => ?_)))));refine zr ?_;refine zp 2 rfl ?_;refine zw (hK16 _ _ (zrt ?_));(try simp only[zi,zj]);refine zR (v := .slice a m c2) (res1 rfl (zgd rfl)) (zdf _) ?_;have hmm : m = (l.take k).length := by rw [List.length_take]; have := hr.1; omega
  have htk : l.take i = l.take k := by rw [List.take_eq_take_iff]; have := hr.1; omega
  rw [htk] at M6;subst hmm;exact ⟨a, c2, rfl, (M6.arr [0] (by decide))⟩
theorem new_fit (k : Nat) (h : 3 ≤ k ∧ k ≤ 4096) (w : World) : Calls Try.prog 29 #[.int .i64 (k : Int)] w fun e w' => ∃ p pg mb, e = .returned (.tuple #[.pointer (some ⟨p, 0, none⟩), .int .i64 0]) ∧ Mem w [] w' [disk (newD k) p pg mb (.slice none 0 0)] := by
  refine (new_any (k : Int) w).mono ?_
  rintro e w' (⟨h1, _⟩ | ⟨_, _, p, pg, mb, rfl, h2⟩)
  · omega
  · exact ⟨p, pg, mb, rfl, h2⟩
theorem format_fit {D : DV} {p pg mb : Nat} {qv : Value} {w : World} (hM : Mem w (foots [disk D p pg mb qv]) w [disk D p pg mb qv]) (hB : Blank D) (ha : D.armed = 0) {width : Int} (hw : 1 ≤ width ∧ width ≤ 32) :
    Calls Try.prog 30 #[.pointer (some ⟨p, 0, none⟩), .int .i64 width] w fun e w' => ∃ E qv', e = .returned (.int .i64 0) ∧ Mem w (foots [disk D p pg mb qv]) w' [disk E p pg mb qv'] ∧ Plat E (secondS width D.pages.length) [] ∧ E.q = [] ∧ E.dead = false ∧ E.epoch = D.epoch ∧ E.armed = 0 ∧ E.pages.length = D.pages.length := by
  refine (format_any hM width (by rw [hB.que]; decide)).mono ?_
  rintro e w' ⟨qv', rfl, h2⟩
  rcases hB.format hw with ⟨_, h3, h4, h5, h6, h7, h8, h9⟩ | ⟨h3, _⟩
  · rw [h3]
    exact ⟨_, qv', rfl, h2, h4, h5, h6, h7, h8 ha, h9⟩
  · omega
theorem open_fit {D : DV} {p pg mb : Nat} {qv : Value} {S : SupV} {ps : Pgs} {w : World} (hM : Mem w (foots [disk D p pg mb qv]) w [disk D p pg mb qv]) (hP : Plat D S ps) (hd : D.dead = false) :
    Calls Try.prog 31 #[.pointer (some ⟨p, 0, none⟩)] w fun e w' => ∃ f E m, e = .returned (.tuple #[.pointer (some ⟨f, 0, none⟩), .int .i64 0]) ∧ Mem w (foots [disk D p pg mb qv]) w' [disk E p pg mb qv, blk f 117 (fC ⟨S, S.mark, m⟩ p)] ∧ Inv E ⟨S, S.mark, m⟩ ps ∧ E.q = D.q ∧ E.pages = D.pages ∧ E.armed = D.armed ∧ E.epoch = wrap64 (D.epoch + 1) := by
  obtain ⟨e1, e2, e3, e4, e5, e6, e7, e8⟩ := hP.open hd
  refine (open_any hM).mono ?_
  rintro e w' (⟨h1, _⟩ | ⟨_, f, rfl, h2⟩)
  · exact absurd e1 h1
  · have hV : openV D = ⟨S, S.mark, (openV D).mine⟩ := by
      have h0 : openV D = ⟨(openV D).s, (openV D).next, (openV D).mine⟩ := rfl
      rw [e2, e3] at h0
      exact h0
    rw [hV] at h2 e4
    exact ⟨f, openD D, (openV D).mine, rfl, h2, e4, e5, e6, e7, e8⟩
theorem begun_any (n : Nat) (width : Int) (hn : 3 ≤ n ∧ n ≤ 4096) (hw : 1 ≤ width ∧ width ≤ 32) {w : World} : zC 7 [zI (n : Int), zI width] w fun e w' => ∃ p pg mb qv E, e = .returned (zP p 0) ∧ Mem w [] w' [disk E p pg mb qv] ∧ Plat E (secondS width n) [] ∧ E.q = [] ∧ E.dead = false ∧ E.armed = 0 ∧ E.pages.length = n := by
 have M := Mem.nil w;go_enter Try.func7, Try.ntmps7;refine zin ?_;refine zk fun K1 hK1 => zr ?_;refine zp 1 rfl ?_;refine zw (hK1 _ _ (zk fun K2 hK2 => zr ?_));refine zp 1 rfl ?_;refine zca 29 [zI (n : Int)] rfl Try.call29 (new_fit n ⟨by omega, by omega⟩ _) ?_;rintro e w3 ⟨p, pg, mb, rfl, H3⟩;have M3 := M.step H3;simp only[Y1,Y2]at M3;refine ⟨_, rfl, ?_⟩;refine zp 5 rfl ?_;refine zw (hK2 _ _ (zk fun K4 hK4 => zk fun K5 hK5 => zr ?_));refine zp 1 rfl (zo M3 (zneq (b := false) rfl (by rw [decide_eq_true (by decide)]; rfl)) (zp 2 rfl (zo M3 (y_eqnil (r := false) (zwn rfl) rfl (zev rfl) (zev rfl) zu27 rfl) (zp 1 rfl ?_))));refine zw (hK5 _ _ (zcf rfl (zsk (hK4 _ _ (zk fun K6 hK6 => ?_)))));refine zr ?_;refine zp 2 rfl ?_;have hX7 := M3.pk [0];simp only[Y3,Y4,Y1,Y2]at hX7;replace hX7 := hX7.s1;refine zca 30 [zP p 0, zI width] rfl Try.call30 (format_fit (Mem.h1 hX7) (newD_blank (by omega) (by omega) 0 (by decide)) rfl hw) ?_;rintro e w7 ⟨E1, qv1, rfl, H7, hP1, hq1, hd1, he1, ha1, hl1⟩;have M7 : Mem w [] w7 [disk E1 p pg mb qv1] := Mem.f1 hX7 H7;have hn1 : (newD n).pages.length = n := List.length_replicate;rw [hn1] at hP1 hl1;refine ⟨_, rfl, ?_⟩;refine zp 1 rfl ?_;refine zw (hK6 _ _ (zk fun K8 hK8 => zk fun K9 hK9 => zr ?_));refine zp 1 rfl (zo M7 (zneq (b := false) rfl (by rw [decide_eq_true (by decide)]; rfl)) ?_);refine zw (hK9 _ _ (zcf rfl (zsk (hK8 _ _ (zk fun K10 hK10 => ?_)))));refine zr ?_;refine zp 2 rfl ?_;refine zw (hK10 _ _ (zrt ?_));(try simp only[zi,zj]);refine zR (res1 rfl (zgd rfl)) (zdf _) ?_;exact ⟨p, pg, mb, qv1, E1, rfl, (M7.arr [0] (by decide)), hP1, hq1, hd1, ha1, hl1⟩
end Go.Proofs.Ytfbamkgmnbobeaa

/- A list of bytes and all that was grown out of it, as one assertion: in whatever blocks they lie, all their bytes are one. -/
namespace Go.Proofs.Ytfbamkgmnbobeaa
open Go Go.RowKit
set_option linter.unusedVariables false
set_option linter.unusedSectionVars false
set_option linter.unusedSimpArgs false
def Fam1 (w : World) (F : List Nat) (m : UInt8) (v : Value) (n : Nat) : Prop :=
  (v = .slice none 0 0 ∧ n = 0) ∨ ∃ g c cur, v = .slice (some ⟨g, 0, none⟩) n c ∧ g ∈ F ∧ n ≤ c ∧ c ≤ maxLen ∧ w.heap[g]? = some (.cells cur 5 (0, 0)) ∧ cur.size = c ∧ cur.toList.take n = bvs (List.replicate n m)
def fam (m : UInt8) (F : List Nat) (P : List (Value × Nat)) : Asn where
  foot := F
  holds w := (∀ b ∈ F, b < w.heap.size) ∧ ∀ x ∈ P, Fam1 w F m x.1 x.2
  lt w h b hb := h.1 b hb
  keep w w' h hk := by
    refine ⟨fun b hb => ?_, fun x hx => ?_⟩
    · have h1 := h.1 b hb
      have h2 : w.heap[b]? = some w.heap[b] := by simp [h1]
      rw [← hk b hb] at h2
      exact heap_lt h2
    · rcases h.2 x hx with h1 | ⟨g, c, cur, h1, h2, h3, h4, h5, h6⟩
      · exact .inl h1
      · exact .inr ⟨g, c, cur, h1, h2, h3, h4, (hk g h2).trans h5, h6⟩
section
variable {w w' w0 : World} {F : List Nat} {L R : List Asn} {m : UInt8} {Fs : List Nat} {Q P' : List (Value × Nat)}
theorem fam_sub (h : Mem w0 F w (fam m Fs P' :: R)) (hs : ∀ x ∈ Q, x ∈ P') : Mem w0 F w (fam m Fs Q :: R) := by
  have h0 : (fam m Fs P').holds w := h.all _ (List.mem_cons_self ..)
  refine ⟨h.grew, fun A hA => ?_, h.nodup, h.new⟩
  rcases List.mem_cons.1 hA with rfl | hA
  · exact ⟨h0.1, fun x hx => h0.2 x (hs x hx)⟩
  · exact h.all A (List.mem_cons_of_mem _ hA)
theorem fam_of {ao : Option Addr} {n c : Nat} (h : Mem w0 F w (lst 5 1 (.slice ao n c) n (bvs (List.replicate n m)) :: R)) : Mem w0 F w (fam m (obs (.slice ao n c)) [(.slice ao n c, n)] :: R) := by
  have h0 : (lst 5 1 (.slice ao n c) n (bvs (List.replicate n m))).holds w := h.all _ (List.mem_cons_self ..)
  refine ⟨h.grew, fun A hA => ?_, h.nodup, h.new⟩
  rcases List.mem_cons.1 hA with rfl | hA
  · refine ⟨fun b hb => (lst _ _ _ _ _).lt w h0 b hb, fun x hx => ?_⟩
    obtain rfl := List.mem_singleton.1 hx
    obtain ⟨hl, ⟨h1, h2⟩ | ⟨g, cap, cur, hv, hb, hg, hc, hm, hs, ht⟩⟩ := h0
    · exact .inl ⟨h1, h2⟩
    · cases hv
      exact .inr ⟨g, c, cur, rfl, by simp [obs, Value.ownBlock], hc, hm, hg, by simpa using hs, by simpa using ht⟩
  · exact h.all A (List.mem_cons_of_mem _ hA)
theorem fam_row {v : Value} {n : Nat} (h : (fam m Fs Q).holds w) (hv : (v, n) ∈ Q) : ∃ ao c, v = .slice ao n c ∧ Row w ao n (List.replicate n m) ∧ n ≤ c ∧ n ≤ maxLen := by
  rcases h.2 _ hv with ⟨h1, h2⟩ | ⟨g, c, cur, h1, h2, h3, h4, h5, h6, h7⟩
  · have h1 : v = .slice none 0 0 := h1
    have h2 : n = 0 := h2
    subst h2
    exact ⟨none, 0, h1, Row.nil, Nat.le_refl _, Nat.zero_le _⟩
  · have h7 : cur.toList.take n = bvs (List.replicate n m) := h7
    refine ⟨_, c, h1, ⟨List.length_replicate, fun i hi => ⟨g, 0, rfl, ?_⟩⟩, h3, Nat.le_trans h3 h4⟩
    have hi' : i < n := by simpa using hi
    have h8 : (cur.toList.take n)[i]? = some (bv m) := by rw [h7, bvs_getElem?, List.getElem?_replicate, if_pos hi']; rfl
    rw [List.getElem?_take, if_pos hi'] at h8
    have h9 : cur[i]? = some (bv m) := by simpa using h8
    simp [World.cell?, h5, h9, bv]
theorem rep_at (n j : Nat) (m : UInt8) : (bvs (List.replicate n m))[j]? = if j < n then some (bv m) else none := by
  rw [bvs_getElem?, List.getElem?_replicate]
  split <;> rfl
theorem take_laid {cur : List Value} {n k n2 : Nat} {m : UInt8} (hfit : n + k ≤ cur.length) (h0 : cur.take n = bvs (List.replicate n m)) (hn2 : n2 ≤ cur.length) (h : cur.take n2 = bvs (List.replicate n2 m) ∨ n2 = n + k) :
    (cur.take n ++ bvs (List.replicate k m) ++ cur.drop (n + k)).take n2 = bvs (List.replicate n2 m) := by
  have hlen : (cur.take n ++ bvs (List.replicate k m)).length = n + k := by rw [List.length_append, List.length_take, length_bvs, List.length_replicate]; omega
  have hlen0 : (cur.take n).length = n := by rw [List.length_take]; omega
  apply List.ext_getElem?
  intro j
  rw [rep_at, List.getElem?_take]
  by_cases hj : j < n2
  · rw [if_pos hj, if_pos hj]
    by_cases h1 : j < n
    · rw [List.getElem?_append_left (by omega), List.getElem?_append_left (by omega), h0, rep_at, if_pos h1]
    · by_cases h2 : j < n + k
      · rw [List.getElem?_append_left (by omega), List.getElem?_append_right (by omega), hlen0, rep_at, if_pos (by omega)]
      · rw [List.getElem?_append_right (by omega), hlen, List.getElem?_drop, show n + k + (j - (n + k)) = j by omega]
        rcases h with h | h
        · have := congrArg (·[j]?) h
          simp only [List.getElem?_take, if_pos hj, rep_at] at this
          exact this
        · omega
  · rw [if_neg hj, if_neg hj]
end
section
variable {P : Program} {ops : Array Oper} {Q : Exit → Act → World → Prop} {rest : List Oper} {o : Oper} {a : Act} {w w0 : World} {F : List Nat} {L : List Asn} {K : Act → World → Prop} {x y : Operand} {t : TypeId}
theorem e_append_fam (M : Mem w0 F w L) (i : Nat) (hT : ElemTy P t 5 1 1) {m : UInt8} {Fs : List Nat} {X : List (Value × Nat)} {v : Value} {n : Nat} (hi : L[i]? = some (fam m Fs X)) (hv : (v, n) ∈ X)
    (ho : o.op = .call { callee := .builtin .append, args := #[x, y], argTypes := #[t, t] }) (hs : a.eval x = v) {ad : Addr} {k c : Nat} (hx : a.eval y = .slice (some ad) k c) (hk : 0 < k)
    (hnews : ∀ j u, (bvs (List.replicate k m))[j]? = some u → w.cell? (ad.add j) = some u) (hb : n + k ≤ 140737488355328)
    (h : ∀ ao' c' Fs' w', Mem w0 F w' (L.set i (fam m Fs' ((.slice ao' (n + k) c', n + k) :: X))) → K (a.put o.dst (.slice ao' (n + k) c')) w') : Oper.wp P o a w K Q := by
  obtain ⟨ti, z, ht, hti, hz, hsz, hby, hzs⟩ := hT
  have hA := M.get i hi
  have hl : (bvs (List.replicate k m)).length = k * ti.size := by rw [length_bvs, List.length_replicate, hsz, Nat.mul_one]
  have hone : ∀ u ∈ bvs (List.replicate k m), u.oneCell' = true := bvs_oneCell _
  have hml : n + k ≤ maxLen := by unfold maxLen; omega
  have hfn : (fam m Fs X).foot.Nodup := by
    have hN := M.nodup
    unfold foots List.Nodup at hN
    rw [List.pairwise_flatMap] at hN
    exact hN.1 _ (List.mem_of_getElem? hi)
  have fresh : ∀ v' w', w'.ownsRow w.heap.size 5 1 v' (n + k) (bvs (List.replicate n m) ++ bvs (List.replicate k m)) → w.grownBy w' none →
      (Builtin.append_ #[t, t] o.type #[v, .slice (some ad) k c]).run P w = .ok v' w' → Oper.wp P o a w K Q := by
    intro v' w' hown hgr hrun
    obtain ⟨hl2, ⟨h1, h2⟩ | ⟨g, cap, cur, hv', hbg, hg, hc, hm, hs2, ht2⟩⟩ := hown
    · omega
    subst hv'
    have hold : ∀ b ∈ Fs, w'.heap[b]? = w.heap[b]? := fun b hb => hgr.block b (hA.1 b hb) (by simp)
    unfold Oper.wp
    simp [execOp, ho, resolve, invoke, builtin, hs, hx, hrun, Result.andThen]
    refine h (some ⟨g, 0, none⟩) cap (g :: Fs) w' (M.upd i hi (Mem.one hgr (fun x hx => by cases hx) ?_ ?_ ?_))
    · refine ⟨fun b hb => ?_, fun x hx => ?_⟩
      · rcases List.mem_cons.1 hb with rfl | hb
        · exact heap_lt hg
        · exact Nat.lt_of_lt_of_le (hA.1 b hb) hgr.size
      · rcases List.mem_cons.1 hx with rfl | hx
        · refine .inr ⟨g, cap, cur, rfl, List.mem_cons_self .., hc, hm, hg, by simpa using hs2, ?_⟩
          have e : cur.toList.take (n + k) = bvs (List.replicate n m) ++ bvs (List.replicate k m) := by simpa using ht2
          rw [show ((Value.slice (some ⟨g, 0, none⟩) (n + k) cap, n + k) : Value × Nat).2 = n + k from rfl, e, ← bvs_append, List.replicate_append_replicate]
        · rcases hA.2 x hx with h1 | ⟨g1, c1, cur1, h1, h2, h3, h4, h5, h6⟩
          · exact .inl h1
          · exact .inr ⟨g1, c1, cur1, h1, List.mem_cons_of_mem _ h2, h3, h4, (hold g1 h2).trans h5, h6⟩
    · exact List.nodup_cons.2 ⟨fun hx => by have := hA.1 g hx; omega, hfn⟩
    · intro b hb
      rcases List.mem_cons.1 hb with rfl | hb
      · exact .inr hbg
      · exact .inl hb
  rcases hA.2 _ hv with ⟨h1, h2⟩ | ⟨g, cap, cur, h1, h2, h3, h4, h5, h6, h7⟩
  · have h1 : v = .slice none 0 0 := h1
    have h2 : n = 0 := h2
    subst h1; subst h2
    obtain ⟨v', w', hrun, r1, r2, _, _⟩ := run_append_own_at (P := P) w w.heap.size t o.type 5 ti z 1 1 ht hti hz hsz hby hzs (by decide) (.slice none 0 0) 0 [] (World.ownsRow_nil _ _ _ _) ad k c _ (by rw [hl, hsz]) hnews hone hml (by omega) (Nat.le_refl _)
    exact fresh v' w' r1 r2 hrun
  · have h1 : v = .slice (some ⟨g, 0, none⟩) n cap := h1
    have h3 : n ≤ cap := h3
    have h7 : cur.toList.take n = bvs (List.replicate n m) := h7
    subst h1
    by_cases hroom : n + k ≤ cap
    · have hrun := run_append_room (P := P) w t o.type 5 ti ht hti g n cap cur h5 ad k c _ hl hnews hone hroom (by rw [hl, hsz, h6]; omega)
      have hgr : w.grownBy (w.setRow g (cur.toList.take (n * ti.size) ++ bvs (List.replicate k m) ++ cur.toList.drop (n * ti.size + (bvs (List.replicate k m)).length)).toArray) (some g) :=
        ⟨rfl, rfl, rfl, by simp, fun q _ hq => setRow_other w g q _ (fun e => hq (by rw [e]))⟩
      have hg := setRow_heap w g cur (cur.toList.take (n * ti.size) ++ bvs (List.replicate k m) ++ cur.toList.drop (n * ti.size + (bvs (List.replicate k m)).length)).toArray 5 (0, 0) h5
      have el : (cur.toList.take (n * ti.size) ++ bvs (List.replicate k m) ++ cur.toList.drop (n * ti.size + (bvs (List.replicate k m)).length)) = cur.toList.take n ++ bvs (List.replicate k m) ++ cur.toList.drop (n + k) := by
        rw [hsz, Nat.mul_one, length_bvs, List.length_replicate]
      rw [el] at hrun hgr hg
      have hcl : cur.toList.length = cap := by simpa using h6
      unfold Oper.wp
      simp [execOp, ho, resolve, invoke, builtin, hs, hx, hrun, Result.andThen]
      refine h (some ⟨g, 0, none⟩) cap Fs _ (M.upd i hi (Mem.one (by simpa using hgr) (fun x hx => by cases hx; exact h2) ⟨fun b hb => Nat.lt_of_lt_of_le (hA.1 b hb) (by simp), fun x hx => ?_⟩ hfn (fun b hb => .inl hb)))
      have new : ∀ n2, n2 ≤ cap → (cur.toList.take n2 = bvs (List.replicate n2 m) ∨ n2 = n + k) → Fam1 _ Fs m (.slice (some ⟨g, 0, none⟩) n2 cap) n2 := fun n2 hn2 hh =>
        .inr ⟨g, cap, _, rfl, h2, hn2, h4, by simpa using hg, by simp [hcl]; omega, take_laid (by omega) h7 (by omega) hh⟩
      rcases List.mem_cons.1 hx with rfl | hx
      · exact new _ hroom (.inr rfl)
      · rcases hA.2 x hx with h1 | ⟨g1, c1, cur1, q1, q2, q3, q4, q5, q6, q7⟩
        · exact .inl h1
        · by_cases hgg : g1 = g
          · subst hgg
            rw [h5] at q5
            obtain rfl : cur = cur1 := by simpa using q5
            obtain rfl : c1 = cap := by omega
            rw [q1]
            exact new _ q3 (.inl q7)
          · exact .inr ⟨g1, c1, cur1, q1, q2, q3, q4, by simpa using (hgr.block g1 (hA.1 g1 q2) (fun e => hgg (Option.some.inj e))).trans q5, q6, q7⟩
    · obtain ⟨ao2, c2, e2, hr2, _, _⟩ := fam_row (v := .slice (some ⟨g, 0, none⟩) n cap) hA hv
      cases e2
      have holds : ∀ j u, (bvs (List.replicate n m))[j]? = some u → w.cell? ((⟨g, 0, none⟩ : Addr).add j) = some u := hr2.news _ rfl
      obtain ⟨v', w', hrun, r1, r2⟩ := run_append_arg_grows (P := P) w t o.type 5 ti z 1 1 ht hti hz hsz hby hzs (by decide) ⟨g, 0, none⟩ n cap _ (by rw [length_bvs, List.length_replicate, Nat.mul_one]) holds ad k c _ (by rw [hl, hsz]) hnews (by omega) hml (by omega)
      exact fresh v' w' r1 r2 hrun
end
end Go.Proofs.Ytfbamkgmnbobeaa

/- The statements' book as an assertion: what was handed out, and what was grown out of it. -/
namespace Go.Proofs.Ytfbamkgmnbobeaa
set_option linter.unusedSimpArgs false
open Go Go.RowKit
set_option linter.unusedVariables false
set_option linter.unusedSectionVars false
theorem rowsT8 : ElemTy Try.prog 48 24 1 24 := elemTy_of (by kernel_rfl)
def markB8 (i : Nat) : UInt8 := UInt8.ofNat (i % 250 + 1)
structure Ent8 where
  l : Value
  g : Value
  h : Value
  k : Value
  n : Nat
  F : List Nat
def Ent8.P (e : Ent8) : List (Value × Nat) := [(e.k, e.n + 300), (e.h, e.n + 2), (e.g, e.n + 1), (e.l, e.n)]
structure BK where
  a1 : Option Addr
  c1 : Nat
  a2 : Option Addr
  c2 : Nat
  a3 : Option Addr
  c3 : Nat
  a4 : Option Addr
  c4 : Nat
  es : List Ent8
def bkC (K : BK) : List Value := [.slice K.a1 K.es.length K.c1, .slice K.a2 K.es.length K.c2, .slice K.a3 K.es.length K.c3, .slice K.a4 K.es.length K.c4]
def famsL (es : List Ent8) : List Asn := es.mapIdx fun i e => fam (markB8 i) e.F e.P
def famsA (es : List Ent8) : Asn := star True (famsL es)
def bkL (b : Nat) (K : BK) : List Asn := [blk b 50 (bkC K), lst 24 1 (.slice K.a1 K.es.length K.c1) K.es.length (K.es.map (·.l)), lst 24 1 (.slice K.a2 K.es.length K.c2) K.es.length (K.es.map (·.g)), lst 24 1 (.slice K.a3 K.es.length K.c3) K.es.length (K.es.map (·.h)), lst 24 1 (.slice K.a4 K.es.length K.c4) K.es.length (K.es.map (·.k)), famsA K.es]
def book8 (b : Nat) (K : BK) : Asn := star True (bkL b K)
section
variable {w0 w : World} {F : List Nat} {R : List Asn} {b : Nat} {K : BK}
theorem bk_open (h : Mem w0 F w (book8 b K :: R)) : Mem w0 F w (blk b 50 [.slice K.a1 K.es.length K.c1, .slice K.a2 K.es.length K.c2, .slice K.a3 K.es.length K.c3, .slice K.a4 K.es.length K.c4] :: lst 24 1 (.slice K.a1 K.es.length K.c1) K.es.length (K.es.map (·.l)) :: lst 24 1 (.slice K.a2 K.es.length K.c2) K.es.length (K.es.map (·.g)) :: lst 24 1 (.slice K.a3 K.es.length K.c3) K.es.length (K.es.map (·.h)) :: lst 24 1 (.slice K.a4 K.es.length K.c4) K.es.length (K.es.map (·.k)) :: famsA K.es :: R) := (Mem.open h).2
theorem bk_close (h : Mem w0 F w (blk b 50 [.slice K.a1 K.es.length K.c1, .slice K.a2 K.es.length K.c2, .slice K.a3 K.es.length K.c3, .slice K.a4 K.es.length K.c4] :: lst 24 1 (.slice K.a1 K.es.length K.c1) K.es.length (K.es.map (·.l)) :: lst 24 1 (.slice K.a2 K.es.length K.c2) K.es.length (K.es.map (·.g)) :: lst 24 1 (.slice K.a3 K.es.length K.c3) K.es.length (K.es.map (·.h)) :: lst 24 1 (.slice K.a4 K.es.length K.c4) K.es.length (K.es.map (·.k)) :: famsA K.es :: R)) : Mem w0 F w (book8 b K :: R) := Mem.close (X := bkL b K) trivial h
theorem famsL_snoc (es : List Ent8) (E : Ent8) : famsL (es ++ [E]) = famsL es ++ [fam (markB8 es.length) E.F E.P] := by
  unfold famsL
  rw [List.mapIdx_append]
  simp
theorem fams_snoc {es : List Ent8} {E : Ent8} (h : Mem w0 F w (famsA es :: fam (markB8 es.length) E.F E.P :: R)) : Mem w0 F w (famsA (es ++ [E]) :: R) := by
  have h1 := (Mem.open (X := famsL es) h).2
  refine Mem.close (X := famsL (es ++ [E])) trivial ?_
  rw [famsL_snoc, List.append_assoc]
  exact h1
theorem fill_next {l : List UInt8} {m : UInt8} {i : Nat} {rest : List Value} (hi : i < l.length) :
    (bvs (List.replicate i m ++ l.drop i) ++ rest).set i (.int .u8 (m.toNat : Int)) = bvs (List.replicate (i + 1) m ++ l.drop (i + 1)) ++ rest := by
  rw [bvs_setD m (by rw [List.length_append, List.length_replicate, List.length_drop]; omega)]
  congr 2
  rw [List.set_append_right _ _ (by rw [List.length_replicate]; exact Nat.le_refl _), List.length_replicate, Nat.sub_self, List.drop_eq_getElem_cons hi, List.set_cons_zero, List.replicate_succ', List.append_assoc]
  rfl
theorem fill_len {l : List UInt8} {m : UInt8} {i : Nat} (hi : i ≤ l.length) : (List.replicate i m ++ l.drop i).length = l.length := by
  rw [List.length_append, List.length_replicate, List.length_drop]; omega
theorem fill_end {l : List UInt8} {m : UInt8} {i : Nat} (h : i = l.length) : List.replicate i m ++ l.drop i = List.replicate l.length m := by
  subst h; rw [List.drop_length, List.append_nil]
end
end Go.Proofs.Ytfbamkgmnbobeaa
