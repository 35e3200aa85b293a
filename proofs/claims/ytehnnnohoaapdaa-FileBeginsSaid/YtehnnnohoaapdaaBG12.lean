/- Texts joined: File6, File7, FileP, FileQ. -/
import Derived.Test.YtehnnnohoaapdaaBG11
/- The file: Append. -/
namespace Go.Proofs.Ytehnnnohoaapdaa
open Go Go.RowKit
set_option linter.unusedVariables false
set_option linter.unusedSimpArgs false
end Go.Proofs.Ytehnnnohoaapdaa

/- The file: Publish. -/
namespace Go.Proofs.Ytehnnnohoaapdaa
open Go Go.RowKit
set_option linter.unusedVariables false
set_option linter.unusedSimpArgs false
end Go.Proofs.Ytehnnnohoaapdaa

/- A page file over a disk, as values: what an open file and its disk are at any time, and what each act does with them. No program in sight. -/
namespace Go.Proofs.Ytehnnnohoaapdaa
open Go Go.RowKit
set_option linter.unusedVariables false
abbrev Pgs := List (Nat × List UInt8)
def pgAt (ps : Pgs) (n : Nat) : Nat × List UInt8 := ps.getD (n - 2) (0, [])
def pgB (ps : Pgs) (n : Nat) : List UInt8 := pageB (pgAt ps n).1 n (pgAt ps n).2
def PageOk (x : Nat × List UInt8) : Prop := (1 ≤ x.1 ∧ x.1 ≤ 3) ∧ x.2.length ≤ 246
def Follows (S P : SupV) : Prop := S = { P with gen := P.gen + 1, mark := S.mark, head := S.head } ∧ P.mark ≤ S.mark
theorem Follows.gen {S P : SupV} (h : Follows S P) : S.gen = P.gen + 1 := by rw [h.1]
theorem Follows.width {S P : SupV} (h : Follows S P) : S.width = P.width := by rw [h.1]
theorem Follows.pages {S P : SupV} (h : Follows S P) : S.pages = P.pages := by rw [h.1]
structure Plat (D : DV) (S : SupV) (ps : Pgs) : Prop where
  ok : DOk D
  val : ValidS S
  pages : S.pages = (D.pages.length : Int)
  prev : ∃ P, ValidS P ∧ Follows S P ∧ D.pg (S.gen % 2).toNat = superB S ∧ D.pg ((S.gen + 1) % 2).toNat = superB P
  len : S.mark - 2 ≤ (ps.length : Int)
  good : ∀ x ∈ ps, PageOk x
  dur : ∀ n : Nat, 2 ≤ n → (n : Int) < S.mark → D.pg n = pgB ps n
  que : ∀ x ∈ D.q, S.mark ≤ (x.1 : Int)
structure Inv (D : DV) (V : FV) (ps : Pgs) : Prop where
  plat : Plat D V.s ps
  live : D.epoch = V.mine
  pow : D.dead = false
  lo : V.s.mark ≤ V.next
  hi : V.next ≤ V.s.pages
  lenN : V.next - 2 ≤ (ps.length : Int)
  cur : ∀ n : Nat, 2 ≤ n → (n : Int) < V.next → D.cur n = pgB ps n
theorem curP_other (b : List UInt8) (p : Nat) : ∀ q : List Wr, (∀ x ∈ q, x.1 ≠ p) → curP b q p = b := by
  refine snocInd (fun _ => rfl) fun q x ih h => ?_
  rw [curP_snoc, if_neg (h x (by simp))]
  exact ih fun y hy => h y (List.mem_append_left _ hy)
theorem cur_other {D : DV} {p : Nat} (h : ∀ x ∈ D.q, x.1 ≠ p) : D.cur p = D.pg p := curP_other _ _ _ h
theorem Plat.mark2 {D : DV} {S : SupV} {ps : Pgs} (h : Plat D S ps) : 2 ≤ S.mark := h.val.2.2.2.2.2.2.1
theorem Plat.slots {D : DV} {S : SupV} {ps : Pgs} (h : Plat D S ps) : D.cur 0 = D.pg 0 ∧ D.cur 1 = D.pg 1 := by
  have := h.mark2
  exact ⟨cur_other fun x hx e => by have := h.que x hx; omega, cur_other fun x hx e => by have := h.que x hx; omega⟩
theorem Plat.low {D : DV} {S : SupV} {ps : Pgs} (h : Plat D S ps) {n : Nat} (h1 : 2 ≤ n) (h2 : (n : Int) < S.mark) : D.cur n = pgB ps n := by
  rw [cur_other fun x hx e => by have := h.que x hx; omega]
  exact h.dur n h1 h2
theorem Inv.ok {D : DV} {V : FV} {ps : Pgs} (h : Inv D V ps) : DOk D := h.plat.ok
theorem Inv.fok {D : DV} {V : FV} {ps : Pgs} (h : Inv D V ps) : FOk D V := ⟨h.plat.val, h.plat.pages, by have := h.plat.mark2; have := h.lo; omega, h.hi, h.lo⟩
theorem Inv.isLive {D : DV} {V : FV} {ps : Pgs} (h : Inv D V ps) : liveE D V = 0 := by
  unfold liveE
  rw [if_neg (fun x => x h.live), h.pow]; rfl
theorem choose_supers {A B S P : SupV} (hA : ValidS A) (hB : ValidS B) (h0 : A.gen % 2 = 0) (h1 : B.gen % 2 = 1) (hf : Follows S P) (h : (A = S ∧ B = P) ∨ (A = P ∧ B = S)) :
    chooseE (superB A) (superB B) = 0 ∧ chooseS (superB A) (superB B) = S := by
  have hg := hf.gen
  have hn : NewerOk A B ∧ overS A B = S := by
    rcases h with ⟨rfl, rfl⟩ | ⟨rfl, rfl⟩
    · have e1 : overS A B = A := if_neg (by omega)
      have e2 : underS A B = B := if_neg (by omega)
      refine ⟨⟨h0, h1, ?_, ?_⟩, e1⟩
      · rw [e1, e2]; exact hf.1
      · rw [e1, e2]; exact hf.2
    · have e1 : overS A B = B := if_pos (by omega)
      have e2 : underS A B = A := if_pos (by omega)
      refine ⟨⟨h0, h1, ?_, ?_⟩, e1⟩
      · rw [e1, e2]; exact hf.1
      · rw [e1, e2]; exact hf.2
  have hu := unpE_superB A hA
  have hv := unpE_superB B hB
  have c1 : chooseE (superB A) (superB B) = newerE (unpS (superB A)) (unpS (superB B)) := if_pos ⟨hu, hv⟩
  have c2 : chooseS (superB A) (superB B) = newerS (unpS (superB A)) (unpS (superB B)) := if_pos ⟨hu, hv⟩
  have c3 : newerE A B = 0 := if_pos hn.1
  have c4 : newerS A B = overS A B := if_pos hn.1
  rw [c1, c2, unpS_superB A hA, unpS_superB B hB, c3, c4]
  exact ⟨rfl, hn.2⟩
theorem Plat.choose {D : DV} {S : SupV} {ps : Pgs} (h : Plat D S ps) : chooseE (D.pg 0) (D.pg 1) = 0 ∧ chooseS (D.pg 0) (D.pg 1) = S := by
  obtain ⟨P, hP, hf, e1, e2⟩ := h.prev
  have hg := hf.gen
  have hS := h.val
  rcases Int.emod_two_eq S.gen with h2 | h2
  · rw [h2] at e1
    rw [show (S.gen + 1) % 2 = 1 by omega] at e2
    rw [show D.pg 0 = superB S from e1, show D.pg 1 = superB P from e2]
    exact choose_supers hS hP h2 (by omega) hf (.inl ⟨rfl, rfl⟩)
  · rw [h2] at e1
    rw [show (S.gen + 1) % 2 = 0 by omega] at e2
    rw [show D.pg 1 = superB S from e1, show D.pg 0 = superB P from e2]
    exact choose_supers hP hS (by omega) h2 hf (.inr ⟨rfl, rfl⟩)
def DV.cnt (D : DV) (r w s : Int) : DV := { D with reads := r, writes := w, syncs := s }
theorem Plat.of_eq {D E : DV} {S : SupV} {ps : Pgs} (h : Plat D S ps) (hE : DOk E) (hp : E.pages = D.pages) (hq : ∀ x ∈ E.q, S.mark ≤ (x.1 : Int)) : Plat E S ps := by
  have hg : ∀ n, E.pg n = D.pg n := fun n => by unfold DV.pg; rw [hp]
  refine ⟨hE, h.val, by rw [hp]; exact h.pages, ?_, h.len, h.good, fun n h1 h2 => by rw [hg]; exact h.dur n h1 h2, hq⟩
  obtain ⟨P, a, b, c, d⟩ := h.prev
  exact ⟨P, a, b, by rw [hg]; exact c, by rw [hg]; exact d⟩
theorem cur_of_eq {D E : DV} (hp : E.pages = D.pages) (hq : E.q = D.q) (n : Nat) : E.cur n = D.cur n := by unfold DV.cur DV.pg; rw [hp, hq]
theorem slotsD_same (D : DV) : (slotsD D).pages = D.pages ∧ (slotsD D).q = D.q ∧ (slotsD D).epoch = D.epoch ∧ (slotsD D).dead = D.dead ∧ (slotsD D).armed = D.armed ∧ (slotsD D).writes = D.writes ∧ (slotsD D).syncs = D.syncs := by
  unfold slotsD
  split
  · exact ⟨rfl, rfl, rfl, rfl, rfl, rfl, rfl⟩
  · refine ⟨?_, ?_, ?_, ?_, ?_, ?_, ?_⟩ <;> unfold readD <;> (repeat' split) <;> first | rfl | assumption
theorem Plat.open {D : DV} {S : SupV} {ps : Pgs} (h : Plat D S ps) (hd : D.dead = false) :
    openE D = 0 ∧ (openV D).s = S ∧ (openV D).next = S.mark ∧ Inv (openD D) (openV D) ps ∧ (openD D).q = D.q ∧ (openD D).pages = D.pages ∧ (openD D).armed = D.armed ∧ (openD D).epoch = wrap64 (D.epoch + 1) := by
  have hd' : ¬ D.dead = true := by rw [hd]; decide
  obtain ⟨c1, c2⟩ := h.choose
  obtain ⟨s1, s2⟩ := h.slots
  obtain ⟨f1, f2, f3, f4, f5, _, _⟩ := slotsD_same D
  have fok := (slotsD_facts D h.ok).2.2
  have e0 : slotsE D = 0 := by unfold slotsE; rw [if_neg hd', s1, s2, c1]
  have e1 : slotsS D = S := by unfold slotsS; rw [if_neg hd', s1, s2, c2]
  have e2 : openE D = 0 := by
    unfold openE
    rw [if_neg (fun x => x e0), e1, if_neg (fun x => x h.pages)]
  have e3 : openD D = claimD (slotsD D) := if_pos e2
  have hV : (openV D).s = S := e1
  have hN : (openV D).next = S.mark := by show (slotsS D).mark = _; rw [e1]
  have hp : (openD D).pages = D.pages := by rw [e3]; exact f1
  have hq : (openD D).q = D.q := by rw [e3]; exact f2
  have hP : Plat (openD D) S ps := h.of_eq (by rw [e3]; exact claim_ok fok) hp (by rw [hq]; exact h.que)
  refine ⟨e2, hV, hN, ⟨by rw [hV]; exact hP, by rw [e3]; rfl, ?_, ?_, ?_, ?_, ?_⟩, hq, hp, ?_, ?_⟩
  · rw [e3]; show (slotsD D).dead = false; rw [f4]; exact hd
  · rw [hV, hN]; exact Int.le_refl _
  · rw [hV, hN]; exact h.val.2.2.2.2.2.2.2.1
  · rw [hN]; exact h.len
  · intro n h1 h2
    rw [hN] at h2
    exact hP.low h1 h2
  · rw [e3]; exact f5
  · rw [e3]; show wrap64 ((slotsD D).epoch + 1) = _; rw [f3]
theorem crashP_other (n : Nat) : ∀ (z : List (Wr × UInt8)) (ps : List (List UInt8)), (∀ x ∈ z, x.1.1 ≠ n) → (crashP ps z).getD n [] = ps.getD n []
  | [], ps, _ => rfl
  | x :: z, ps, h => by
    have ih := crashP_other n z (ps.set x.1.1 (mixS x.2 x.1.2 (ps.getD x.1.1 []) 4)) fun y hy => h y (List.mem_cons_of_mem _ hy)
    have e : crashP ps (x :: z) = crashP (ps.set x.1.1 (mixS x.2 x.1.2 (ps.getD x.1.1 []) 4)) z := rfl
    rw [e, ih, List.getD_eq_getElem?_getD, List.getElem?_set_ne (h x (List.mem_cons_self ..)), ← List.getD_eq_getElem?_getD]
theorem crash_pg {D : DV} {n : Nat} (h : ∀ x ∈ D.q, x.1 ≠ n) (fates : List UInt8) : (crashD D fates).pg n = D.pg n :=
  crashP_other n _ _ fun x hx => h x.1 (List.of_mem_zip (a := x.1) (b := x.2) hx).1
theorem crash_len (D : DV) (fates : List UInt8) : (crashD D fates).pages.length = D.pages.length := crashP_len _ _
theorem Plat.crash {D : DV} {S : SupV} {ps : Pgs} (h : Plat D S ps) (fates : List UInt8) : Plat (crashD D fates) S ps := by
  have hm := h.mark2
  have hx : ∀ n : Nat, (n : Int) < S.mark → (crashD D fates).pg n = D.pg n := fun n hn => crash_pg (fun x hx e => by have := h.que x hx; omega) fates
  refine ⟨crash_ok h.ok fates, h.val, by rw [crash_len]; exact h.pages, ?_, h.len, h.good, fun n h1 h2 => by rw [hx n h2]; exact h.dur n h1 h2, fun x hx => by cases hx⟩
  obtain ⟨P, a, b, c, d⟩ := h.prev
  exact ⟨P, a, b, by rw [hx _ (by omega)]; exact c, by rw [hx _ (by omega)]; exact d⟩
theorem splice_id {α : Type} (l m : List α) (o : Nat) (h : m = (l.drop o).take m.length) : splice l o m = l := by
  unfold splice
  rw [h, List.length_take, List.length_drop]
  have e := List.take_append_drop o l
  have e2 := List.take_append_drop (min m.length (l.length - o)) (l.drop o)
  have e3 : (l.drop o).take m.length = (l.drop o).take (min m.length (l.length - o)) := by
    rw [List.take_eq_take_iff, List.length_drop]; omega
  rw [e3, ← List.drop_drop]
  rw [e2, e]
theorem mix1_same (fate : UInt8) (new old X : List UInt8) (j : Nat) (hX : X.drop 64 = new.drop 64) (hj : 1 ≤ j) : mix1 fate new X j = X := by
  unfold mix1
  split
  · have e : new.drop (64 * j) = X.drop (64 * j) := by
      rw [show 64 * j = 64 + (64 * j - 64) by omega, ← List.drop_drop, ← hX, List.drop_drop]
    refine splice_id _ _ _ ?_
    rw [e, List.length_take, List.take_eq_take_iff]; omega
  · rfl
theorem mixS_two (fate : UInt8) (new old : List UInt8) (hn : new.length = 256) (ho : old.length = 256) (h : old.drop 64 = new.drop 64) : mixS fate new old 4 = new ∨ mixS fate new old 4 = old := by
  have h0 : mix1 fate new old 0 = new ∨ mix1 fate new old 0 = old := by
    unfold mix1
    split
    · left
      unfold splice
      rw [List.length_take, List.length_drop, hn, List.take_zero, List.nil_append, show 64 * 0 = 0 from rfl, List.drop_zero, show 0 + min 64 (256 - 0) = 64 from rfl, h]
      exact List.take_append_drop 64 new
    · exact .inr rfl
  have e : mixS fate new old 4 = mix1 fate new (mix1 fate new (mix1 fate new (mix1 fate new old 0) 1) 2) 3 := rfl
  rw [e]
  rcases h0 with h0 | h0
  · rw [h0, mix1_same fate new old new 1 rfl (by decide), mix1_same fate new old new 2 rfl (by decide), mix1_same fate new old new 3 rfl (by decide)]
    exact .inl rfl
  · rw [h0, mix1_same fate new old old 1 h (by decide), mix1_same fate new old old 2 h (by decide), mix1_same fate new old old 3 h (by decide)]
    exact .inr rfl
theorem superB_tail (s : SupV) : (superB s).drop 64 = zerosB 192 := by
  unfold superB
  rw [List.drop_left' (by rw [length_sealB, length_headB])]
def Dead (D : DV) (S : SupV) (late : Option SupV) (ps : Pgs) : Prop := ∀ fates, ∃ S2, (S2 = S ∨ late = some S2) ∧ Plat (crashD D fates) S2 ps
theorem Plat.dead {D : DV} {S : SupV} {ps : Pgs} (h : Plat D S ps) (late : Option SupV) : Dead D S late ps := fun fates => ⟨S, .inl rfl, h.crash fates⟩
end Go.Proofs.Ytehnnnohoaapdaa

/- A page file as values: Append, Publish, Forget, Arm, a loss of power on the way. No program in sight. -/
namespace Go.Proofs.Ytehnnnohoaapdaa
open Go Go.RowKit
set_option linter.unusedVariables false
theorem actD_pages (D : DV) : (actD D).pages = D.pages := by unfold actD; split <;> rfl
theorem actD_epoch (D : DV) : (actD D).epoch = D.epoch := by unfold actD; split <;> rfl
theorem actD_ok {D : DV} (h : DOk D) : DOk (actD D) := by
  unfold actD
  split
  · exact h
  · have := h.arm
    exact ⟨h.lo, h.hi, h.len, h.qs, ⟨by show 0 ≤ D.armed - 1; omega, by show D.armed - 1 ≤ _; omega⟩, h.ep⟩
theorem actE_two (D : DV) : actE D = 0 ∨ actE D = 2 := by unfold actE; split <;> simp
theorem act_zero {D : DV} (h : actE D = 0) (hd : D.dead = false) : (actD D).dead = false := by
  unfold actE at h
  unfold actD
  split
  · exact hd
  · show decide (D.armed = 1) = false
    rw [decide_eq_false_iff_not]
    intro h1; rw [if_pos h1] at h; cases h
theorem write_alive {D : DV} (hd : D.dead = false) {p : Int} (hp : D.has p) {d : List UInt8} (hl : d.length = 256) : writeE D p d = actE D ∧ writeD D p d = actD (openW D p d) := by
  have hd' : ¬ D.dead = true := by rw [hd]; decide
  unfold writeE writeD
  rw [if_neg hd', if_pos hp, if_pos hl, if_neg hd', if_pos hp, if_pos hl]
  exact ⟨rfl, rfl⟩
theorem sync_alive {D : DV} (hd : D.dead = false) : syncE D = actE D ∧ syncD D = if actE D = 0 then flushD (actD D) else actD D := by
  have hd' : ¬ D.dead = true := by rw [hd]; decide
  unfold syncE syncD actE
  rw [if_neg hd', if_neg hd']
  refine ⟨rfl, ?_⟩
  by_cases h : D.armed = 1
  · rw [if_pos h, if_pos h]; rfl
  · rw [if_neg h, if_neg h]; rfl
theorem open_ok {D : DV} (h : DOk D) {p : Int} (hp : D.has p) {d : List UInt8} (hl : d.length = 256) : DOk (openW D p d) :=
  ⟨h.lo, h.hi, h.len, fun x hx => by
    rcases List.mem_append.1 hx with hx | hx
    · exact h.qs x hx
    · obtain rfl : x = (p.toNat, d) := by simpa using hx
      exact ⟨by have := hp.1; have := hp.2; show p.toNat < D.pages.length; omega, hl⟩, h.arm, h.ep⟩
theorem Inv.cnt {D : DV} {V : FV} {ps : Pgs} (h : Inv D V ps) (r w s : Int) : Inv (D.cnt r w s) V ps :=
  ⟨h.plat.of_eq ⟨h.ok.lo, h.ok.hi, h.ok.len, h.ok.qs, h.ok.arm, h.ok.ep⟩ rfl h.plat.que, h.live, h.pow, h.lo, h.hi, h.lenN, h.cur⟩
theorem Inv.arm {D : DV} {V : FV} {ps : Pgs} (h : Inv D V ps) {n : Int} (hn : n ≤ 9223372036854775807) : Inv (armD D n) V ps := by
  have e : armD D n = { D with armed := max n 0 } := if_neg (by rw [h.pow]; decide)
  rw [e]
  exact ⟨h.plat.of_eq (armD_ok h.ok hn) rfl h.plat.que, h.live, h.pow, h.lo, h.hi, h.lenN, h.cur⟩
theorem flush_okD {D : DV} (h : DOk D) : DOk (flushD D) := flush_ok h _
theorem Plat.next {D E : DV} {S S' : SupV} {ps : Pgs} (h : Plat D S ps) (hf : Follows S' S) (hv : ValidS S') (hE : DOk E) (he : E.pages = D.pages.set (S'.gen % 2).toNat (superB S')) (hq : E.q = []) (hl : S'.mark - 2 ≤ (ps.length : Int)) (hd : ∀ n : Nat, 2 ≤ n → (n : Int) < S'.mark → D.pg n = pgB ps n) : Plat E S' ps := by
  have hlo := h.ok.lo
  have hg := hf.gen
  have h1 : ∀ n, n ≠ (S'.gen % 2).toNat → E.pg n = D.pg n := fun n hn => by
    unfold DV.pg
    rw [he, List.getD_eq_getElem?_getD, List.getElem?_set_ne (fun e => hn e.symm), ← List.getD_eq_getElem?_getD]
  have h2 : E.pg (S'.gen % 2).toNat = superB S' := by
    unfold DV.pg
    rw [he, List.getD_eq_getElem?_getD, List.getElem?_set_self (by omega)]; rfl
  obtain ⟨P, a, b, c, d⟩ := h.prev
  refine ⟨hE, hv, by rw [hf.pages, h.pages, he, List.length_set], ⟨S, h.val, hf, h2, ?_⟩, hl, h.good, fun n a1 a2 => by rw [h1 n (by omega)]; exact hd n a1 a2, fun x hx => by rw [hq] at hx; cases hx⟩
  rw [h1 _ (by omega), ← c]
  congr 1
  omega
theorem crash_one {D : DV} {p : Nat} {d : List UInt8} (hq : D.q = [(p, d)]) (fates : List UInt8) : (crashD D fates).pages = D.pages ∨ ∃ f, (crashD D fates).pages = D.pages.set p (mixS f d (D.pg p) 4) := by
  show crashP D.pages (D.q.zip fates) = _ ∨ ∃ f, crashP D.pages (D.q.zip fates) = _
  rw [hq]
  cases fates with
  | nil => exact .inl rfl
  | cons f fs => exact .inr ⟨f, rfl⟩
theorem set_same {D : DV} {p : Nat} {d : List UInt8} (h : D.pg p = d) (hp : p < D.pages.length) : D.pages.set p d = D.pages := by
  rw [← h]
  unfold DV.pg
  rw [List.getD_eq_getElem?_getD, List.getElem?_eq_getElem hp]
  exact List.set_getElem_self hp
end Go.Proofs.Ytehnnnohoaapdaa
