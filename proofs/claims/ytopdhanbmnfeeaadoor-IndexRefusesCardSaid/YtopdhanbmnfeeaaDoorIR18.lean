/- Texts joined: FileP, FileQ, FileR, StoP. -/
import Derived.Test.YtopdhanbmnfeeaaDoorIR15
import Derived.Test.YtopdhanbmnfeeaaDoorIR17
/- A page file over a disk, as values: what an open file and its disk are at any time, and what each act does with them. No program in sight. -/
namespace Go.Proofs.YtopdhanbmnfeeaaDoor
set_option linter.unusedSectionVars false
set_option linter.unusedSimpArgs false
open Go Go.RowKit
set_option linter.unusedVariables false
abbrev Pgs := List (Nat × List UInt8)
def pgAt (ps : Pgs) (n : Nat) : Nat × List UInt8 := ps.getD (n - 2) (0, [])
def pgB (ps : Pgs) (n : Nat) : List UInt8 := pageB (pgAt ps n).1 n (pgAt ps n).2
def PageOk (x : Nat × List UInt8) : Prop := (1 ≤ x.1 ∧ x.1 ≤ 3) ∧ x.2.length ≤ 246
def putP (ps : Pgs) (n : Nat) (x : Nat × List UInt8) : Pgs := ps.take (n - 2) ++ [x]
theorem putP_at (ps : Pgs) (n : Nat) (x : Nat × List UInt8) (h : n - 2 ≤ ps.length) : pgAt (putP ps n x) n = x := by
  unfold pgAt putP
  rw [List.getD_eq_getElem?_getD, List.getElem?_append_right (by rw [List.length_take]; omega), List.length_take]
  rw [show n - 2 - min (n - 2) ps.length = 0 by omega]; rfl
theorem putP_low (ps : Pgs) (n m : Nat) (x : Nat × List UInt8) (h : n - 2 ≤ ps.length) (hm : m < n) (h2 : 2 ≤ m) : pgAt (putP ps n x) m = pgAt ps m := by
  unfold pgAt putP
  rw [List.getD_eq_getElem?_getD, List.getElem?_append_left (by rw [List.length_take]; omega), List.getElem?_take_of_lt (by omega), ← List.getD_eq_getElem?_getD]
theorem putP_len (ps : Pgs) (n : Nat) (x : Nat × List UInt8) (h : n - 2 ≤ ps.length) : (putP ps n x).length = n - 2 + 1 := by
  unfold putP
  rw [List.length_append, List.length_take]
  simp; omega
theorem pgAt_ok {ps : Pgs} {n : Nat} (hg : ∀ y ∈ ps, PageOk y) (h : n - 2 < ps.length) : PageOk (pgAt ps n) := by
  unfold pgAt
  rw [List.getD_eq_getElem?_getD, List.getElem?_eq_getElem h]
  exact hg _ (List.getElem_mem h)
def Follows (S P : SupV) : Prop := S = { P with gen := P.gen + 1, mark := S.mark, head := S.head } ∧ P.mark ≤ S.mark
theorem Follows.gen {S P : SupV} (h : Follows S P) : S.gen = P.gen + 1 := by rw [h.1]
theorem Follows.width {S P : SupV} (h : Follows S P) : S.width = P.width := by rw [h.1]
theorem Follows.pages {S P : SupV} (h : Follows S P) : S.pages = P.pages := by rw [h.1]
structure Plat (D : DV) (S : SupV) (ps : Pgs) : Prop where
  ok : DOk D
  val : ValidS S
  pages : S.pages = (D.pages.length : Int)
  prev : ∃ P, ValidS P ∧ Follows S P ∧ D.pg (S.gen % 2).toNat = superB S ∧ D.pg ((S.gen + 1) % 2).toNat = superB P
  len : S.mark - 2 ≤ (ps.length : Int)
  good : ∀ x ∈ ps, PageOk x
  dur : ∀ n : Nat, 2 ≤ n → (n : Int) < S.mark → D.pg n = pgB ps n
  que : ∀ x ∈ D.q, S.mark ≤ (x.1 : Int)
structure Inv (D : DV) (V : FV) (ps : Pgs) : Prop where
  plat : Plat D V.s ps
  live : D.epoch = V.mine
  pow : D.dead = false
  lo : V.s.mark ≤ V.next
  hi : V.next ≤ V.s.pages
  lenN : V.next - 2 ≤ (ps.length : Int)
  cur : ∀ n : Nat, 2 ≤ n → (n : Int) < V.next → D.cur n = pgB ps n
theorem curP_other (b : List UInt8) (p : Nat) : ∀ q : List Wr, (∀ x ∈ q, x.1 ≠ p) → curP b q p = b := by
  refine snocInd (fun _ => rfl) fun q x ih h => ?_
  rw [curP_snoc, if_neg (h x (by simp))]
  exact ih fun y hy => h y (List.mem_append_left _ hy)
theorem cur_other {D : DV} {p : Nat} (h : ∀ x ∈ D.q, x.1 ≠ p) : D.cur p = D.pg p := curP_other _ _ _ h
theorem Plat.mark2 {D : DV} {S : SupV} {ps : Pgs} (h : Plat D S ps) : 2 ≤ S.mark := h.val.2.2.2.2.2.2.1
theorem Plat.markp {D : DV} {S : SupV} {ps : Pgs} (h : Plat D S ps) : S.mark ≤ (D.pages.length : Int) := by have := h.val.2.2.2.2.2.2.2.1; have := h.pages; omega
theorem Plat.slots {D : DV} {S : SupV} {ps : Pgs} (h : Plat D S ps) : D.cur 0 = D.pg 0 ∧ D.cur 1 = D.pg 1 := by
  have := h.mark2
  exact ⟨cur_other fun x hx e => by have := h.que x hx; omega, cur_other fun x hx e => by have := h.que x hx; omega⟩
theorem Plat.low {D : DV} {S : SupV} {ps : Pgs} (h : Plat D S ps) {n : Nat} (h1 : 2 ≤ n) (h2 : (n : Int) < S.mark) : D.cur n = pgB ps n := by
  rw [cur_other fun x hx e => by have := h.que x hx; omega]
  exact h.dur n h1 h2
theorem Inv.ok {D : DV} {V : FV} {ps : Pgs} (h : Inv D V ps) : DOk D := h.plat.ok
theorem Inv.fok {D : DV} {V : FV} {ps : Pgs} (h : Inv D V ps) : FOk D V := ⟨h.plat.val, h.plat.pages, by have := h.plat.mark2; have := h.lo; omega, h.hi, h.lo⟩
theorem Inv.isLive {D : DV} {V : FV} {ps : Pgs} (h : Inv D V ps) : liveE D V = 0 := by
  unfold liveE
  rw [if_neg (fun x => x h.live), h.pow]; rfl
theorem Inv.nextp {D : DV} {V : FV} {ps : Pgs} (h : Inv D V ps) : V.next ≤ (D.pages.length : Int) := by have := h.hi; have := h.plat.pages; omega
theorem choose_supers {A B S P : SupV} (hA : ValidS A) (hB : ValidS B) (h0 : A.gen % 2 = 0) (h1 : B.gen % 2 = 1) (hf : Follows S P) (h : (A = S ∧ B = P) ∨ (A = P ∧ B = S)) :
    chooseE (superB A) (superB B) = 0 ∧ chooseS (superB A) (superB B) = S := by
  have hg := hf.gen
  have hn : NewerOk A B ∧ overS A B = S := by
    rcases h with ⟨rfl, rfl⟩ | ⟨rfl, rfl⟩
    · have e1 : overS A B = A := if_neg (by omega)
      have e2 : underS A B = B := if_neg (by omega)
      refine ⟨⟨h0, h1, ?_, ?_⟩, e1⟩
      · rw [e1, e2]; exact hf.1
      · rw [e1, e2]; exact hf.2
    · have e1 : overS A B = B := if_pos (by omega)
      have e2 : underS A B = A := if_pos (by omega)
      refine ⟨⟨h0, h1, ?_, ?_⟩, e1⟩
      · rw [e1, e2]; exact hf.1
      · rw [e1, e2]; exact hf.2
  have hu := unpE_superB A hA
  have hv := unpE_superB B hB
  have c1 : chooseE (superB A) (superB B) = newerE (unpS (superB A)) (unpS (superB B)) := if_pos ⟨hu, hv⟩
  have c2 : chooseS (superB A) (superB B) = newerS (unpS (superB A)) (unpS (superB B)) := if_pos ⟨hu, hv⟩
  have c3 : newerE A B = 0 := if_pos hn.1
  have c4 : newerS A B = overS A B := if_pos hn.1
  rw [c1, c2, unpS_superB A hA, unpS_superB B hB, c3, c4]
  exact ⟨rfl, hn.2⟩
theorem Plat.choose {D : DV} {S : SupV} {ps : Pgs} (h : Plat D S ps) : chooseE (D.pg 0) (D.pg 1) = 0 ∧ chooseS (D.pg 0) (D.pg 1) = S := by
  obtain ⟨P, hP, hf, e1, e2⟩ := h.prev
  have hg := hf.gen
  have hS := h.val
  rcases Int.emod_two_eq S.gen with h2 | h2
  · rw [h2] at e1
    rw [show (S.gen + 1) % 2 = 1 by omega] at e2
    rw [show D.pg 0 = superB S from e1, show D.pg 1 = superB P from e2]
    exact choose_supers hS hP h2 (by omega) hf (.inl ⟨rfl, rfl⟩)
  · rw [h2] at e1
    rw [show (S.gen + 1) % 2 = 0 by omega] at e2
    rw [show D.pg 1 = superB S from e1, show D.pg 0 = superB P from e2]
    exact choose_supers hP hS (by omega) h2 hf (.inr ⟨rfl, rfl⟩)
def DV.cnt (D : DV) (r w s : Int) : DV := { D with reads := r, writes := w, syncs := s }
theorem Plat.of_eq {D E : DV} {S : SupV} {ps : Pgs} (h : Plat D S ps) (hE : DOk E) (hp : E.pages = D.pages) (hq : ∀ x ∈ E.q, S.mark ≤ (x.1 : Int)) : Plat E S ps := by
  have hg : ∀ n, E.pg n = D.pg n := fun n => by unfold DV.pg; rw [hp]
  refine ⟨hE, h.val, by rw [hp]; exact h.pages, ?_, h.len, h.good, fun n h1 h2 => by rw [hg]; exact h.dur n h1 h2, hq⟩
  obtain ⟨P, a, b, c, d⟩ := h.prev
  exact ⟨P, a, b, by rw [hg]; exact c, by rw [hg]; exact d⟩
theorem slotsD_same (D : DV) : (slotsD D).pages = D.pages ∧ (slotsD D).q = D.q ∧ (slotsD D).epoch = D.epoch ∧ (slotsD D).dead = D.dead ∧ (slotsD D).armed = D.armed ∧ (slotsD D).writes = D.writes ∧ (slotsD D).syncs = D.syncs := by
  unfold slotsD
  split
  · exact ⟨rfl, rfl, rfl, rfl, rfl, rfl, rfl⟩
  · refine ⟨?_, ?_, ?_, ?_, ?_, ?_, ?_⟩ <;> unfold readD <;> (repeat' split) <;> first | rfl | assumption
theorem Plat.open {D : DV} {S : SupV} {ps : Pgs} (h : Plat D S ps) (hd : D.dead = false) :
    openE D = 0 ∧ (openV D).s = S ∧ (openV D).next = S.mark ∧ Inv (openD D) (openV D) ps ∧ (openD D).q = D.q ∧ (openD D).pages = D.pages ∧ (openD D).armed = D.armed ∧ (openD D).epoch = wrap64 (D.epoch + 1) := by
  have hd' : ¬ D.dead = true := by rw [hd]; decide
  obtain ⟨c1, c2⟩ := h.choose
  obtain ⟨s1, s2⟩ := h.slots
  obtain ⟨f1, f2, f3, f4, f5, _, _⟩ := slotsD_same D
  have fok := (slotsD_facts D h.ok).2.2
  have e0 : slotsE D = 0 := by unfold slotsE; rw [if_neg hd', s1, s2, c1]
  have e1 : slotsS D = S := by unfold slotsS; rw [if_neg hd', s1, s2, c2]
  have e2 : openE D = 0 := by
    unfold openE
    rw [if_neg (fun x => x e0), e1, if_neg (fun x => x h.pages)]
  have e3 : openD D = claimD (slotsD D) := if_pos e2
  have hV : (openV D).s = S := e1
  have hN : (openV D).next = S.mark := by show (slotsS D).mark = _; rw [e1]
  have hp : (openD D).pages = D.pages := by rw [e3]; exact f1
  have hq : (openD D).q = D.q := by rw [e3]; exact f2
  have hP : Plat (openD D) S ps := h.of_eq (by rw [e3]; exact claim_ok fok) hp (by rw [hq]; exact h.que)
  refine ⟨e2, hV, hN, ⟨by rw [hV]; exact hP, by rw [e3]; rfl, ?_, ?_, ?_, ?_, ?_⟩, hq, hp, ?_, ?_⟩
  · rw [e3]; show (slotsD D).dead = false; rw [f4]; exact hd
  · rw [hV, hN]; exact Int.le_refl _
  · rw [hV, hN]; exact h.val.2.2.2.2.2.2.2.1
  · rw [hN]; exact h.len
  · intro n h1 h2
    rw [hN] at h2
    exact hP.low h1 h2
  · rw [e3]; exact f5
  · rw [e3]; show wrap64 ((slotsD D).epoch + 1) = _; rw [f3]
theorem crashP_other (n : Nat) : ∀ (z : List (Wr × UInt8)) (ps : List (List UInt8)), (∀ x ∈ z, x.1.1 ≠ n) → (crashP ps z).getD n [] = ps.getD n []
  | [], ps, _ => rfl
  | x :: z, ps, h => by
    have ih := crashP_other n z (ps.set x.1.1 (mixS x.2 x.1.2 (ps.getD x.1.1 []) 4)) fun y hy => h y (List.mem_cons_of_mem _ hy)
    have e : crashP ps (x :: z) = crashP (ps.set x.1.1 (mixS x.2 x.1.2 (ps.getD x.1.1 []) 4)) z := rfl
    rw [e, ih, List.getD_eq_getElem?_getD, List.getElem?_set_ne (h x (List.mem_cons_self ..)), ← List.getD_eq_getElem?_getD]
theorem crash_pg {D : DV} {n : Nat} (h : ∀ x ∈ D.q, x.1 ≠ n) (fates : List UInt8) : (crashD D fates).pg n = D.pg n :=
  crashP_other n _ _ fun x hx => h x.1 (List.of_mem_zip (a := x.1) (b := x.2) hx).1
theorem crash_len (D : DV) (fates : List UInt8) : (crashD D fates).pages.length = D.pages.length := crashP_len _ _
theorem Plat.crash {D : DV} {S : SupV} {ps : Pgs} (h : Plat D S ps) (fates : List UInt8) : Plat (crashD D fates) S ps := by
  have hm := h.mark2
  have hx : ∀ n : Nat, (n : Int) < S.mark → (crashD D fates).pg n = D.pg n := fun n hn => crash_pg (fun x hx e => by have := h.que x hx; omega) fates
  refine ⟨crash_ok h.ok fates, h.val, by rw [crash_len]; exact h.pages, ?_, h.len, h.good, fun n h1 h2 => by rw [hx n h2]; exact h.dur n h1 h2, fun x hx => by cases hx⟩
  obtain ⟨P, a, b, c, d⟩ := h.prev
  exact ⟨P, a, b, by rw [hx _ (by omega)]; exact c, by rw [hx _ (by omega)]; exact d⟩
theorem splice_id {α : Type} (l m : List α) (o : Nat) (h : m = (l.drop o).take m.length) : splice l o m = l := by
  unfold splice
  rw [h, List.length_take, List.length_drop]
  have e := List.take_append_drop o l
  have e2 := List.take_append_drop (min m.length (l.length - o)) (l.drop o)
  have e3 : (l.drop o).take m.length = (l.drop o).take (min m.length (l.length - o)) := by
    rw [List.take_eq_take_iff, List.length_drop]; omega
  rw [e3, ← List.drop_drop]
  rw [e2, e]
theorem mix1_same (fate : UInt8) (new old X : List UInt8) (j : Nat) (hX : X.drop 64 = new.drop 64) (hj : 1 ≤ j) : mix1 fate new X j = X := by
  unfold mix1
  split
  · have e : new.drop (64 * j) = X.drop (64 * j) := by
      rw [show 64 * j = 64 + (64 * j - 64) by omega, ← List.drop_drop, ← hX, List.drop_drop]
    refine splice_id _ _ _ ?_
    rw [e, List.length_take, List.take_eq_take_iff]; omega
  · rfl
theorem mixS_two (fate : UInt8) (new old : List UInt8) (hn : new.length = 256) (ho : old.length = 256) (h : old.drop 64 = new.drop 64) : mixS fate new old 4 = new ∨ mixS fate new old 4 = old := by
  have h0 : mix1 fate new old 0 = new ∨ mix1 fate new old 0 = old := by
    unfold mix1
    split
    · left
      unfold splice
      rw [List.length_take, List.length_drop, hn, List.take_zero, List.nil_append, show 64 * 0 = 0 from rfl, List.drop_zero, show 0 + min 64 (256 - 0) = 64 from rfl, h]
      exact List.take_append_drop 64 new
    · exact .inr rfl
  have e : mixS fate new old 4 = mix1 fate new (mix1 fate new (mix1 fate new (mix1 fate new old 0) 1) 2) 3 := rfl
  rw [e]
  rcases h0 with h0 | h0
  · rw [h0, mix1_same fate new old new 1 rfl (by decide), mix1_same fate new old new 2 rfl (by decide), mix1_same fate new old new 3 rfl (by decide)]
    exact .inl rfl
  · rw [h0, mix1_same fate new old old 1 h (by decide), mix1_same fate new old old 2 h (by decide), mix1_same fate new old old 3 h (by decide)]
    exact .inr rfl
theorem superB_tail (s : SupV) : (superB s).drop 64 = zerosB 192 := by
  unfold superB
  rw [List.drop_left' (by rw [length_sealB, length_headB])]
def Dead (D : DV) (S : SupV) (late : Option SupV) (ps : Pgs) : Prop := ∀ fates, ∃ S2, (S2 = S ∨ late = some S2) ∧ Plat (crashD D fates) S2 ps
theorem Plat.dead {D : DV} {S : SupV} {ps : Pgs} (h : Plat D S ps) (late : Option SupV) : Dead D S late ps := fun fates => ⟨S, .inl rfl, h.crash fates⟩
end Go.Proofs.YtopdhanbmnfeeaaDoor

/- A page file as values: Append, Publish, Forget, Arm, a loss of power on the way. No program in sight. -/
namespace Go.Proofs.YtopdhanbmnfeeaaDoor
set_option linter.unusedSectionVars false
set_option linter.unusedSimpArgs false
open Go Go.RowKit
set_option linter.unusedVariables false
theorem actD_pages (D : DV) : (actD D).pages = D.pages := by unfold actD; split <;> rfl
theorem actD_epoch (D : DV) : (actD D).epoch = D.epoch := by unfold actD; split <;> rfl
theorem actD_ok {D : DV} (h : DOk D) : DOk (actD D) := by
  unfold actD
  split
  · exact h
  · have := h.arm
    exact ⟨h.lo, h.hi, h.len, h.qs, ⟨by show 0 ≤ D.armed - 1; omega, by show D.armed - 1 ≤ _; omega⟩, h.ep⟩
theorem actE_two (D : DV) : actE D = 0 ∨ actE D = 2 := by unfold actE; split <;> simp
theorem act_zero {D : DV} (h : actE D = 0) (hd : D.dead = false) : (actD D).dead = false := by
  unfold actE at h
  unfold actD
  split
  · exact hd
  · show decide (D.armed = 1) = false
    rw [decide_eq_false_iff_not]
    intro h1; rw [if_pos h1] at h; cases h
theorem write_alive {D : DV} (hd : D.dead = false) {p : Int} (hp : D.has p) {d : List UInt8} (hl : d.length = 256) : writeE D p d = actE D ∧ writeD D p d = actD (openW D p d) := by
  have hd' : ¬ D.dead = true := by rw [hd]; decide
  unfold writeE writeD
  rw [if_neg hd', if_pos hp, if_pos hl, if_neg hd', if_pos hp, if_pos hl]
  exact ⟨rfl, rfl⟩
theorem sync_alive {D : DV} (hd : D.dead = false) : syncE D = actE D ∧ syncD D = if actE D = 0 then flushD (actD D) else actD D := by
  have hd' : ¬ D.dead = true := by rw [hd]; decide
  unfold syncE syncD actE
  rw [if_neg hd', if_neg hd']
  refine ⟨rfl, ?_⟩
  by_cases h : D.armed = 1
  · rw [if_pos h, if_pos h]; rfl
  · rw [if_neg h, if_neg h]; rfl
theorem open_ok {D : DV} (h : DOk D) {p : Int} (hp : D.has p) {d : List UInt8} (hl : d.length = 256) : DOk (openW D p d) :=
  ⟨h.lo, h.hi, h.len, fun x hx => by
    rcases List.mem_append.1 hx with hx | hx
    · exact h.qs x hx
    · obtain rfl : x = (p.toNat, d) := by simpa using hx
      exact ⟨by have := hp.1; have := hp.2; show p.toNat < D.pages.length; omega, hl⟩, h.arm, h.ep⟩
theorem Inv.read {D : DV} {V : FV} {ps : Pgs} (h : Inv D V ps) {n : Nat} (h1 : 2 ≤ n) (h2 : (n : Int) < V.next) :
    fReadE D V n = 0 ∧ fReadK D V n = ((pgAt ps n).1 : Int) ∧ fReadL D V n = (pgAt ps n).2 ∧ PageOk (pgAt ps n) ∧ fReadD D V n = { D with reads := wrap64 (D.reads + 1) } := by
  have hL : ¬ liveE D V ≠ 0 := fun x => x h.isLive
  have hlen := h.lenN
  have hhi := h.ok.hi
  have hnp := h.nextp
  have hok : PageOk (pgAt ps n) := pgAt_ok h.plat.good (by omega)
  obtain ⟨u1, u2, u3⟩ := unpg_pageB (kind := (pgAt ps n).1) (page := n) (load := (pgAt ps n).2) hok.1 ⟨h1, by omega⟩ hok.2
  have hc : D.cur n = pageB (pgAt ps n).1 n (pgAt ps n).2 := h.cur n h1 h2
  have e1 : fReadE D V n = 0 := by
    unfold fReadE
    rw [if_neg hL, if_neg (by omega), Int.toNat_natCast, hc, if_neg (fun x => x u1)]
  obtain ⟨e2, e3⟩ := fRead_yes e1
  rw [Int.toNat_natCast, hc] at e2 e3
  refine ⟨e1, by rw [e2, u2], by rw [e3, u3], hok, ?_⟩
  unfold fReadD
  rw [if_neg (by omega)]
  unfold readD
  rw [if_neg (by rw [h.pow]; decide), if_pos ⟨by omega, by omega⟩]
theorem Inv.cnt {D : DV} {V : FV} {ps : Pgs} (h : Inv D V ps) (r w s : Int) : Inv (D.cnt r w s) V ps :=
  ⟨h.plat.of_eq ⟨h.ok.lo, h.ok.hi, h.ok.len, h.ok.qs, h.ok.arm, h.ok.ep⟩ rfl h.plat.que, h.live, h.pow, h.lo, h.hi, h.lenN, h.cur⟩
theorem Inv.arm {D : DV} {V : FV} {ps : Pgs} (h : Inv D V ps) {n : Int} (hn : n ≤ 9223372036854775807) : Inv (armD D n) V ps := by
  have e : armD D n = { D with armed := max n 0 } := if_neg (by rw [h.pow]; decide)
  rw [e]
  exact ⟨h.plat.of_eq (armD_ok h.ok hn) rfl h.plat.que, h.live, h.pow, h.lo, h.hi, h.lenN, h.cur⟩
theorem flush_okD {D : DV} (h : DOk D) : DOk (flushD D) := flush_ok h _
theorem Plat.next {D E : DV} {S S' : SupV} {ps : Pgs} (h : Plat D S ps) (hf : Follows S' S) (hv : ValidS S') (hE : DOk E) (he : E.pages = D.pages.set (S'.gen % 2).toNat (superB S')) (hq : E.q = []) (hl : S'.mark - 2 ≤ (ps.length : Int)) (hd : ∀ n : Nat, 2 ≤ n → (n : Int) < S'.mark → D.pg n = pgB ps n) : Plat E S' ps := by
  have hlo := h.ok.lo
  have hg := hf.gen
  have h1 : ∀ n, n ≠ (S'.gen % 2).toNat → E.pg n = D.pg n := fun n hn => by
    unfold DV.pg
    rw [he, List.getD_eq_getElem?_getD, List.getElem?_set_ne (fun e => hn e.symm), ← List.getD_eq_getElem?_getD]
  have h2 : E.pg (S'.gen % 2).toNat = superB S' := by
    unfold DV.pg
    rw [he, List.getD_eq_getElem?_getD, List.getElem?_set_self (by omega)]; rfl
  obtain ⟨P, a, b, c, d⟩ := h.prev
  refine ⟨hE, hv, by rw [hf.pages, h.pages, he, List.length_set], ⟨S, h.val, hf, h2, ?_⟩, hl, h.good, fun n a1 a2 => by rw [h1 n (by omega)]; exact hd n a1 a2, fun x hx => by rw [hq] at hx; cases hx⟩
  rw [h1 _ (by omega), ← c]
  congr 1
  omega
theorem crash_one {D : DV} {p : Nat} {d : List UInt8} (hq : D.q = [(p, d)]) (fates : List UInt8) : (crashD D fates).pages = D.pages ∨ ∃ f, (crashD D fates).pages = D.pages.set p (mixS f d (D.pg p) 4) := by
  show crashP D.pages (D.q.zip fates) = _ ∨ ∃ f, crashP D.pages (D.q.zip fates) = _
  rw [hq]
  cases fates with
  | nil => exact .inl rfl
  | cons f fs => exact .inr ⟨f, rfl⟩
theorem set_same {D : DV} {p : Nat} {d : List UInt8} (h : D.pg p = d) (hp : p < D.pages.length) : D.pages.set p d = D.pages := by
  rw [← h]
  unfold DV.pg
  rw [List.getD_eq_getElem?_getD, List.getElem?_eq_getElem hp]
  exact List.set_getElem_self hp
end Go.Proofs.YtopdhanbmnfeeaaDoor

/- A page file as values: Format, on a disk that holds none, and a loss of power on the way. No program in sight. -/
namespace Go.Proofs.YtopdhanbmnfeeaaDoor
set_option linter.unusedSectionVars false
set_option linter.unusedSimpArgs false
open Go Go.RowKit
set_option linter.unusedVariables false
structure Blank (D : DV) : Prop where
  ok : DOk D
  pow : D.dead = false
  que : D.q = []
  z1 : D.pg 1 = zeroPage
  z0 : D.pg 0 = zeroPage ∨ ∃ S, ValidS S ∧ S.gen = 0 ∧ D.pg 0 = superB S
theorem chooseE_blank {a : List UInt8} (h : a = zeroPage ∨ ∃ S, ValidS S ∧ S.gen = 0 ∧ a = superB S) : chooseE a zeroPage = 55 := by
  have hz : zeroPage = zerosB 256 := rfl
  have u : unpE zeroPage = 52 := by rw [hz]; exact unpE_zero
  have e : emptyB zeroPage = true := by rw [hz]; exact emptyB_zero
  have c1 : ¬ (unpE a = 0 ∧ unpE zeroPage = 0) := fun x => by rw [u] at x; exact absurd x.2 (by decide)
  have c2 : ¬ emptyB zeroPage = false := by rw [e]; decide
  have c3 : (unpE a = 0 ∧ (unpS a).gen = 0) ∨ emptyB a = true := by
    rcases h with rfl | ⟨S, h1, h2, rfl⟩
    · exact .inr e
    · exact .inl ⟨unpE_superB S h1, by rw [unpS_superB S h1]; exact h2⟩
  unfold chooseE
  rw [if_neg c1, if_neg c2, if_pos c3]
theorem Blank.slots {D : DV} (h : Blank D) : slotsE D = 55 := by
  unfold slotsE
  rw [if_neg (by rw [h.pow]; decide)]
  have e0 : D.cur 0 = D.pg 0 := cur_other fun x hx => by rw [h.que] at hx; cases hx
  have e1 : D.cur 1 = D.pg 1 := cur_other fun x hx => by rw [h.que] at hx; cases hx
  rw [e0, e1, h.z1]
  exact chooseE_blank h.z0
theorem Blank.open {D : DV} (h : Blank D) : openE D = 55 ∧ openD D = slotsD D := by
  have e : openE D = 55 := by
    unfold openE
    rw [if_pos (by rw [h.slots]; decide), h.slots]
  exact ⟨e, if_neg (by rw [e]; decide)⟩
theorem Blank.of_slots {D : DV} (h : Blank D) : Blank (slotsD D) := by
  obtain ⟨f1, f2, f3, f4, f5, _, _⟩ := slotsD_same D
  have hg : ∀ n, (slotsD D).pg n = D.pg n := fun n => by unfold DV.pg; rw [f1]
  exact ⟨(slotsD_facts D h.ok).2.2, by rw [f4]; exact h.pow, by rw [f2]; exact h.que, by rw [hg]; exact h.z1, by rw [hg]; exact h.z0⟩
theorem newD_blank {n : Nat} (h1 : 3 ≤ n) (h2 : n ≤ 4096) (a : Int) (ha : 0 ≤ a ∧ a ≤ 9223372036854775807) : Blank { newD n with armed := a } := by
  have hz : ∀ i, i < n → (newD n).pg i = zeroPage := fun i hi => by
    show (List.replicate n zeroPage).getD i [] = _
    rw [List.getD_eq_getElem?_getD, List.getElem?_replicate, if_pos hi]; rfl
  exact ⟨armed_ok (newD_ok h1 h2) ha, rfl, rfl, hz 1 (by omega), .inl (hz 0 (by omega))⟩
theorem actD_armed (D : DV) : (actD D).armed = if D.armed = 0 then 0 else D.armed - 1 := by
  unfold actD
  split
  · rename_i h; exact h
  · rfl
theorem set_pg_eq {D E : DV} {p : Nat} {d : List UInt8} (he : E.pages = D.pages.set p d) (hp : p < D.pages.length) : E.pg p = d := by
  unfold DV.pg
  rw [he, List.getD_eq_getElem?_getD, List.getElem?_set_self hp]; rfl
theorem set_pg_ne {D E : DV} {p n : Nat} {d : List UInt8} (he : E.pages = D.pages.set p d) (hp : p ≠ n) : E.pg n = D.pg n := by
  unfold DV.pg
  rw [he, List.getD_eq_getElem?_getD, List.getElem?_set_ne hp, ← List.getD_eq_getElem?_getD]
theorem pg_eq {D E : DV} (he : E.pages = D.pages) (n : Nat) : E.pg n = D.pg n := by unfold DV.pg; rw [he]
def firstS (w : Int) (n : Nat) : SupV := ⟨w, 0, 2, 0, n⟩
def secondS (w : Int) (n : Nat) : SupV := ⟨w, 1, 2, 0, n⟩
theorem crash_super {E : DV} {p : Nat} {S : SupV} (hq : E.q = [(p, superB S)]) (hp : p < E.pages.length) (ho : (E.pg p).length = 256) (hz : (E.pg p).drop 64 = zerosB 192) (fates : List UInt8) :
    ((crashD E fates).pages = E.pages) ∨ (crashD E fates).pages = E.pages.set p (superB S) := by
  rcases crash_one hq fates with hc | ⟨f, hc⟩
  · exact .inl hc
  · rcases mixS_two f (superB S) (E.pg p) (length_superB _) ho (by rw [superB_tail, hz]) with hx | hx
    · rw [hx] at hc; exact .inr hc
    · rw [hx, set_same rfl hp] at hc; exact .inl hc
theorem zero_tail : zeroPage.drop 64 = zerosB 192 := by unfold zeroPage zerosB; rw [List.drop_replicate]
theorem Blank.tail0 {D : DV} (h : Blank D) : (D.pg 0).length = 256 ∧ (D.pg 0).drop 64 = zerosB 192 := by
  rcases h.z0 with e | ⟨S, _, _, e⟩
  · rw [e]; exact ⟨zeroPage_len, zero_tail⟩
  · rw [e]; exact ⟨length_superB _, superB_tail _⟩
theorem Blank.format {D : DV} (h : Blank D) {w : Int} (hw : 1 ≤ w ∧ w ≤ 32) :
    ((D.armed = 0 ∨ 5 ≤ D.armed) ∧ (formatR D w).2 = 0 ∧ Plat (formatR D w).1 (secondS w D.pages.length) [] ∧ (formatR D w).1.q = [] ∧ (formatR D w).1.dead = false ∧ (formatR D w).1.epoch = D.epoch ∧ (D.armed = 0 → (formatR D w).1.armed = 0) ∧ (formatR D w).1.pages.length = D.pages.length) ∨
    ((1 ≤ D.armed ∧ D.armed ≤ 4) ∧ (formatR D w).2 = 2 ∧ (formatR D w).1.pages.length = D.pages.length ∧ DOk (formatR D w).1 ∧ (formatR D w).1.q.length ≤ 2 ∧ ∀ fates, Blank (crashD (formatR D w).1 fates) ∨ Plat (crashD (formatR D w).1 fates) (secondS w D.pages.length) []) := by
  have hB := h.of_slots
  obtain ⟨f1, f2, f3, f4, f5, _, _⟩ := slotsD_same D
  have hR : formatR D w = runS [wS (firstS w D.pages.length), yS, wS (secondS w D.pages.length), yS] (slotsD D) := by
    unfold formatR
    rw [if_neg (by rw [h.pow]; decide), if_neg (by omega), if_neg (by rw [h.slots]; decide)]
    rfl
  have hlen : (slotsD D).pages.length = D.pages.length := by rw [f1]
  rw [hR, ← hlen, ← f5, ← f3]
  generalize slotsD D = X at *
  clear hR f1 f2 f3 f4 f5 h hlen
  have hlo := hB.ok.lo
  have hhi := hB.ok.hi
  have hv0 : ValidS (firstS w X.pages.length) := valid_new hw ⟨hlo, hhi⟩ (by decide)
  have hv1 : ValidS (secondS w X.pages.length) := valid_new hw ⟨hlo, hhi⟩ (by decide)
  have hf : Follows (secondS w X.pages.length) (firstS w X.pages.length) := ⟨rfl, by show (2 : Int) ≤ 2; decide⟩
  have ha := hB.ok.arm
  obtain ⟨t1, t2⟩ := hB.tail0
  have hh0 : X.has ((firstS w X.pages.length).gen % 2) := ⟨by show (0 : Int) ≤ 0 % 2; decide, by show (0 : Int) % 2 < _; omega⟩
  obtain ⟨w1, w2⟩ := write_alive hB.pow hh0 (length_superB (firstS w X.pages.length))
  have h1 : wS (firstS w X.pages.length) X = (actD (openW X 0 (superB (firstS w X.pages.length))), actE X) := by
    unfold wS
    rw [w1, w2]; rfl
  have ho1 : DOk (openW X 0 (superB (firstS w X.pages.length))) := open_ok hB.ok hh0 (length_superB _)
  generalize hF1 : actD (openW X 0 (superB (firstS w X.pages.length))) = F1 at h1
  have p1 : F1.pages = X.pages := by rw [← hF1, actD_pages]; rfl
  have q1 : F1.q = [(0, superB (firstS w X.pages.length))] := by rw [← hF1, actD_q]; show X.q ++ _ = _; rw [hB.que]; rfl
  have k1 : DOk F1 := by rw [← hF1]; exact actD_ok ho1
  have ep1 : F1.epoch = X.epoch := by rw [← hF1, actD_epoch]; rfl
  have m1 : F1.armed = if X.armed = 0 then 0 else X.armed - 1 := by rw [← hF1, actD_armed]; rfl
  have c1 : ∀ E : DV, E.pages = X.pages → E.q = [(0, superB (firstS w X.pages.length))] → DOk E → ∀ fates, Blank (crashD E fates) := by
    intro E hp hq hE fates
    have hg0 : E.pg 0 = X.pg 0 := pg_eq hp 0
    rcases crash_super hq (by rw [hp]; omega) (by rw [hg0]; exact t1) (by rw [hg0]; exact t2) fates with hc | hc
    · have e : ∀ n, (crashD E fates).pg n = X.pg n := fun n => by rw [pg_eq hc, pg_eq hp]
      exact ⟨crash_ok hE fates, rfl, rfl, by rw [e]; exact hB.z1, by rw [e]; exact hB.z0⟩
    · refine ⟨crash_ok hE fates, rfl, rfl, ?_, .inr ⟨_, hv0, rfl, set_pg_eq hc (by rw [hp]; omega)⟩⟩
      rw [set_pg_ne hc (by decide), pg_eq hp]; exact hB.z1
  have r1 : ∀ fs, runS (wS (firstS w X.pages.length) :: fs) X = if actE X = 0 then runS fs F1 else (F1, actE X) := fun fs => by
    show (if (wS (firstS w X.pages.length) X).2 = 0 then _ else wS (firstS w X.pages.length) X) = _
    rw [h1]
  rw [r1]
  rcases (actE_two X).symm with e | e
  · right
    have e' : X.armed = 1 := by unfold actE at e; split at e; assumption; cases e
    rw [if_neg (by omega)]
    exact ⟨by omega, e, by rw [p1], k1, by show F1.q.length ≤ 2; rw [q1]; simp, fun fates => .inl (c1 F1 p1 q1 k1 fates)⟩
  have n1 : X.armed ≠ 1 := by intro h0; unfold actE at e; rw [if_pos h0] at e; cases e
  rw [if_pos e]
  have d1 : F1.dead = false := by rw [← hF1]; exact act_zero (D := openW X 0 (superB (firstS w X.pages.length))) e hB.pow
  have ysync : ∀ G : DV, G.dead = false → ∀ fs, runS (yS :: fs) G = if actE G = 0 then runS fs (flushD (actD G)) else (actD G, 2) := fun G hG fs => by
    obtain ⟨s1, s2⟩ := sync_alive hG
    have hy : yS G = if actE G = 0 then (flushD (actD G), 0) else (actD G, 2) := by
      unfold yS
      rw [s1, s2]
      rcases actE_two G with e | e
      · rw [e, if_pos rfl, if_pos rfl]
      · rw [e, if_neg (by decide), if_neg (by decide)]
    show (if (yS G).2 = 0 then _ else yS G) = _
    rw [hy]
    by_cases e : actE G = 0
    · rw [if_pos e, if_pos rfl, if_pos e]
    · rw [if_neg e, if_neg (show ¬ ((actD G, (2 : Int)).2 = 0) by show ¬ (2 : Int) = 0; decide), if_neg e]
  rw [ysync F1 d1]
  rcases (actE_two F1).symm with e2 | e2
  · right
    have e' : F1.armed = 1 := by unfold actE at e2; split at e2; assumption; cases e2
    rw [if_neg (by omega)]
    refine ⟨?_, rfl, by show (actD F1).pages.length = _; rw [actD_pages, p1], actD_ok k1, by show (actD F1).q.length ≤ 2; rw [actD_q, q1]; simp, fun fates => .inl (c1 (actD F1) (by rw [actD_pages, p1]) (by rw [actD_q, q1]) (actD_ok k1) fates)⟩
    split at m1 <;> omega
  have n2 : F1.armed ≠ 1 := by intro h0; unfold actE at e2; rw [if_pos h0] at e2; cases e2
  rw [if_pos e2]
  generalize hF2 : flushD (actD F1) = F2
  have p2 : F2.pages = X.pages.set 0 (superB (firstS w X.pages.length)) := by
    rw [← hF2]
    show applyQ (actD F1).pages (actD F1).q = _
    rw [actD_pages, actD_q, p1, q1]; rfl
  have q2 : F2.q = [] := by rw [← hF2]; rfl
  have k2 : DOk F2 := by rw [← hF2]; exact flush_okD (actD_ok k1)
  have d2 : F2.dead = false := by rw [← hF2]; exact act_zero e2 d1
  have ep2 : F2.epoch = X.epoch := by rw [← hF2]; show (actD F1).epoch = _; rw [actD_epoch, ep1]
  have m2 : F2.armed = if F1.armed = 0 then 0 else F1.armed - 1 := by rw [← hF2]; exact actD_armed F1
  have l2 : F2.pages.length = X.pages.length := by rw [p2, List.length_set]
  have g20 : F2.pg 0 = superB (firstS w X.pages.length) := set_pg_eq p2 (by omega)
  have g21 : F2.pg 1 = zeroPage := by rw [set_pg_ne p2 (by decide)]; exact hB.z1
  have b2 : ∀ E : DV, E.pages = F2.pages → DOk E → E.q = [] → E.dead = false → Blank E := fun E hp hE hq hd => ⟨hE, hd, hq, by rw [pg_eq hp]; exact g21, .inr ⟨_, hv0, rfl, by rw [pg_eq hp]; exact g20⟩⟩
  have s2 : ∀ E : DV, E.pages = F2.pages.set 1 (superB (secondS w X.pages.length)) → DOk E → E.q = [] → Plat E (secondS w X.pages.length) [] := fun E hp hE hq =>
    ⟨hE, hv1, by rw [hp, List.length_set, l2]; rfl, ⟨_, hv0, hf, set_pg_eq hp (by omega), by
        show E.pg 0 = _
        rw [set_pg_ne hp (by decide)]; exact g20⟩, by show (2 : Int) - 2 ≤ 0; decide, fun x hx => (by cases hx), fun n h1 h2 => (by have h2 : (n : Int) < 2 := h2; omega), fun x hx => by rw [hq] at hx; cases hx⟩
  have hh1 : F2.has ((secondS w X.pages.length).gen % 2) := ⟨by show (0 : Int) ≤ 1 % 2; decide, by show (1 : Int) % 2 < _; omega⟩
  obtain ⟨w3, w4⟩ := write_alive d2 hh1 (length_superB (secondS w X.pages.length))
  have h3 : wS (secondS w X.pages.length) F2 = (actD (openW F2 1 (superB (secondS w X.pages.length))), actE F2) := by
    unfold wS
    rw [w3, w4]; rfl
  have ho3 : DOk (openW F2 1 (superB (secondS w X.pages.length))) := open_ok k2 hh1 (length_superB _)
  generalize hF3 : actD (openW F2 1 (superB (secondS w X.pages.length))) = F3 at h3
  have p3 : F3.pages = F2.pages := by rw [← hF3, actD_pages]; rfl
  have q3 : F3.q = [(1, superB (secondS w X.pages.length))] := by rw [← hF3, actD_q]; show F2.q ++ _ = _; rw [q2]; rfl
  have k3 : DOk F3 := by rw [← hF3]; exact actD_ok ho3
  have ep3 : F3.epoch = X.epoch := by rw [← hF3, actD_epoch]; exact ep2
  have m3 : F3.armed = if F2.armed = 0 then 0 else F2.armed - 1 := by rw [← hF3, actD_armed]; rfl
  have c3 : ∀ E : DV, E.pages = F2.pages → E.q = [(1, superB (secondS w X.pages.length))] → DOk E → ∀ fates, Blank (crashD E fates) ∨ Plat (crashD E fates) (secondS w X.pages.length) [] := by
    intro E hp hq hE fates
    have hg1 : E.pg 1 = zeroPage := by rw [pg_eq hp]; exact g21
    rcases crash_super hq (by rw [hp]; omega) (by rw [hg1]; exact zeroPage_len) (by rw [hg1]; exact zero_tail) fates with hc | hc
    · exact .inl (b2 _ (by rw [hc, hp]) (crash_ok hE fates) rfl rfl)
    · exact .inr (s2 _ (by rw [hc, hp]) (crash_ok hE fates) rfl)
  have r3 : ∀ fs, runS (wS (secondS w X.pages.length) :: fs) F2 = if actE F2 = 0 then runS fs F3 else (F3, actE F2) := fun fs => by
    show (if (wS (secondS w X.pages.length) F2).2 = 0 then _ else wS (secondS w X.pages.length) F2) = _
    rw [h3]
  rw [r3]
  rcases (actE_two F2).symm with e3 | e3
  · right
    have e' : F2.armed = 1 := by unfold actE at e3; split at e3; assumption; cases e3
    rw [if_neg (by omega)]
    refine ⟨?_, e3, by show F3.pages.length = _; rw [p3, l2], k3, by show F3.q.length ≤ 2; rw [q3]; simp, c3 F3 p3 q3 k3⟩
    split at m1 <;> split at m2 <;> omega
  have n3 : F2.armed ≠ 1 := by intro h0; unfold actE at e3; rw [if_pos h0] at e3; cases e3
  rw [if_pos e3]
  have d3 : F3.dead = false := by rw [← hF3]; exact act_zero (D := openW F2 1 (superB (secondS w X.pages.length))) e3 d2
  rw [ysync F3 d3]
  rcases (actE_two F3).symm with e4 | e4
  · right
    have e' : F3.armed = 1 := by unfold actE at e4; split at e4; assumption; cases e4
    rw [if_neg (by omega)]
    refine ⟨?_, rfl, by show (actD F3).pages.length = _; rw [actD_pages, p3, l2], actD_ok k3, by show (actD F3).q.length ≤ 2; rw [actD_q, q3]; simp, c3 (actD F3) (by rw [actD_pages, p3]) (by rw [actD_q, q3]) (actD_ok k3)⟩
    split at m1 <;> split at m2 <;> split at m3 <;> omega
  have n4 : F3.armed ≠ 1 := by intro h0; unfold actE at e4; rw [if_pos h0] at e4; cases e4
  rw [if_pos e4]
  left
  have p4 : (flushD (actD F3)).pages = F2.pages.set 1 (superB (secondS w X.pages.length)) := by
    show applyQ (actD F3).pages (actD F3).q = _
    rw [actD_pages, actD_q, p3, q3]; rfl
  have hP := s2 _ p4 (flush_okD (actD_ok k3)) rfl
  refine ⟨?_, rfl, hP, rfl, act_zero e4 d3, ?_, fun h0 => ?_, ?_⟩
  · split at m1 <;> split at m2 <;> split at m3 <;> omega
  · show (actD F3).epoch = _
    rw [actD_epoch, ep3]
  · show (actD F3).armed = 0
    rw [actD_armed, m3, m2, m1, if_pos h0]; rfl
  · show (flushD (actD F3)).pages.length = _
    rw [p4, List.length_set, l2]
end Go.Proofs.YtopdhanbmnfeeaaDoor

/- A store over a page file, as values: what it holds at any time, and what each call does with it. -/
namespace Go.Proofs.YtopdhanbmnfeeaaDoor
set_option linter.unusedSectionVars false
open Go Go.RowKit
set_option linter.unusedVariables false
set_option linter.unusedSimpArgs false
theorem sto_flag {C : CS} {mk : Int} {s f : Nat} {X : SX} {w : World} (h : (sto C mk s f X).holds w) : CFlag C := by
  have h1 : (cache C X.c X.mb X.x).holds w := h.2 _ (List.mem_cons_of_mem _ (List.mem_cons_self ..))
  exact h1.1.2
structure SInv (D : DV) (V : FV) (C : CS) (pz : Pgs) : Prop where
  inv : Inv D V pz
  nx : V.next = V.s.mark
  cl : ∀ e ∈ C.cl, e.kd = ((pgAt pz e.k.toNat).1 : Int) ∧ e.l = (pgAt pz e.k.toNat).2
  kp : ∀ e ∈ C.kp, PageOk (e.kd.toNat, e.l) ∧ 0 ≤ e.kd
  fit : V.s.mark + (C.kp.length : Int) ≤ (D.pages.length : Int)
theorem SInv.kd {D : DV} {V : FV} {C : CS} {pz : Pgs} (h : SInv D V C pz) {e : En} (he : e ∈ C.kp) : (1 ≤ e.kd ∧ e.kd ≤ 3) ∧ e.l.length ≤ 246 := by
  obtain ⟨⟨⟨h1, h2⟩, h3⟩, h4⟩ := h.kp e he
  have h1' : 1 ≤ e.kd.toNat := h1
  have h2' : e.kd.toNat ≤ 3 := h2
  exact ⟨⟨by omega, by omega⟩, h3⟩
section
variable {D : DV} {V : FV} {C : CS} {pz : Pgs} {X : SX}
theorem SInv.stage (h : SInv D V C pz) {k : Nat} {l : List UInt8} (hx : PageOk (k, l)) (hr : V.s.mark + (C.kp.length : Int) < (D.pages.length : Int)) :
    stageE D V C (k : Int) l = 0 ∧ ∀ ge ld, SInv D V (stageC D V C (k : Int) l ge ld) pz := by
  obtain ⟨⟨k1, k2⟩, k3⟩ := hx
  have k1 : 1 ≤ k := k1
  have k2 : k ≤ 3 := k2
  have k3 : l.length ≤ 246 := k3
  have e0 : stageE D V C (k : Int) l = 0 := by
    unfold stageE
    rw [if_neg (fun x => x h.inv.isLive), if_neg (by omega), if_neg (by omega), if_neg (by omega)]
  refine ⟨e0, fun ge ld => ?_⟩
  rw [(stage_yes e0).2]
  refine ⟨h.inv, h.nx, h.cl, fun e he => ?_, ?_⟩
  · have he' : e ∈ C.kp ++ [⟨ge, V.s.mark + (C.kp.length : Int), (k : Int), ld, true, l⟩] := he
    rcases List.mem_append.1 he' with h1 | h1
    · exact h.kp e h1
    · obtain rfl : e = ⟨ge, V.s.mark + (C.kp.length : Int), (k : Int), ld, true, l⟩ := by simpa using h1
      exact ⟨⟨⟨by show 1 ≤ ((k : Int)).toNat; omega, by show ((k : Int)).toNat ≤ 3; omega⟩, k3⟩, by show 0 ≤ (k : Int); omega⟩
  · show V.s.mark + (((C.kp ++ [_]).length : Nat) : Int) ≤ _
    rw [List.length_append]; simp; omega
theorem got_mem (hF : CFlag C) (k : Int) : (∀ e ∈ (C.got k).cl, e ∈ C.cl) ∧ (C.got k).kp = C.kp := by
  obtain ⟨h1, h2, _, _⟩ := got_parts (C := C) (k := k) fun e he hh => flag_look hF he hh
  exact ⟨h1, h2⟩
theorem SInv.rd (h : SInv D V C pz) (r : Int) : SInv { D with reads := r } V C pz := ⟨h.inv.cnt r D.writes D.syncs, h.nx, h.cl, h.kp, h.fit⟩
theorem SInv.load_new (h : SInv D V C pz) (hF : CFlag C) (hS : SOk C V.s.mark X) {i : Nat} {e : En} (he : C.kp[i]? = some e) :
    loadR D V C (V.s.mark + (i : Int)) = (0, e.kd, e.l, D) ∧ ∀ ge ld, SInv D V (loadC D V C (V.s.mark + (i : Int)) ge ld) pz ∧ (loadC D V C (V.s.mark + (i : Int)) ge ld).kp = C.kp := by
  have hm := hS.mk2
  have hi : i < C.kp.length := (List.getElem?_eq_some_iff.1 he).1
  have hk := hS.kp i e he
  have hl : C.look (V.s.mark + (i : Int)) = some e := by
    unfold CS.look
    rw [List.find?_append, List.find?_eq_none.2 (fun u hu hx => by
      have h1 := (hS.cl u hu).2
      have h2 : u.k = V.s.mark + (i : Int) := by simpa using hx
      omega), Option.none_or]
    rw [List.find?_eq_some_iff_getElem]
    refine ⟨by simpa using hk, i, hi, (List.getElem?_eq_some_iff.1 he).2, fun j hj => ?_⟩
    have h3 := hS.kp j _ (List.getElem?_eq_getElem (by omega))
    simp; omega
  have e1 : loadR D V C (V.s.mark + (i : Int)) = (0, e.kd, e.l, D) := by
    unfold loadR
    rw [if_neg (fun x => x h.inv.isLive), if_neg (by omega), hl]
  refine ⟨e1, fun ge ld => ?_⟩
  have e2 : loadC D V C (V.s.mark + (i : Int)) ge ld = C.got (V.s.mark + (i : Int)) := by
    unfold loadC
    rw [if_neg (fun x => x h.inv.isLive), if_neg (by omega), hl]
  rw [e2]
  obtain ⟨g1, g2⟩ := got_mem hF (V.s.mark + (i : Int))
  exact ⟨⟨h.inv, h.nx, fun e he => h.cl e (g1 e he), by rw [g2]; exact h.kp, by rw [g2]; exact h.fit⟩, g2⟩
theorem SInv.load_old (h : SInv D V C pz) (hF : CFlag C) (hS : SOk C V.s.mark X) {n : Nat} (h2 : 2 ≤ n) (hn : (n : Int) < V.s.mark) :
    ∃ r, loadR D V C (n : Int) = (0, ((pgAt pz n).1 : Int), (pgAt pz n).2, { D with reads := r }) ∧ PageOk (pgAt pz n) ∧ ∀ ge ld, SInv { D with reads := r } V (loadC D V C (n : Int) ge ld) pz ∧ (loadC D V C (n : Int) ge ld).kp = C.kp := by
  have hnx := h.nx
  obtain ⟨f1, f2, f3, f4, f5⟩ := h.inv.read h2 (by omega)
  obtain ⟨g1, g2⟩ := got_mem hF (n : Int)
  have hnL : ¬ liveE D V ≠ 0 := fun x => x h.inv.isLive
  rcases hl : C.look (n : Int) with _ | e
  · refine ⟨wrap64 (D.reads + 1), ?_, f4, fun ge ld => ?_⟩
    · unfold loadR
      rw [if_neg hnL, if_neg (by omega), hl]
      show (fReadE D V n, fReadK D V n, fReadL D V n, fReadD D V n) = _
      rw [f1, f2, f3, f5]
    · have e2 : loadC D V C (n : Int) ge ld = trimS { C.got (n : Int) with cl := (C.got (n : Int)).cl ++ [⟨ge, (n : Int), fReadK D V n, ld, false, fReadL D V n⟩] } := by
        unfold loadC
        rw [if_neg hnL, if_neg (by omega), hl]
        exact if_neg (fun x => x f1)
      rw [e2]
      refine ⟨⟨(h.rd _).inv, h.nx, fun u hu => ?_, by show ∀ e ∈ (C.got (n : Int)).kp, _; rw [g2]; exact h.kp, by show _ + (((C.got (n : Int)).kp.length : Nat) : Int) ≤ _; rw [g2]; exact h.fit⟩, g2⟩
      have hu' := (List.drop_sublist _ _).subset hu
      rcases List.mem_append.1 hu' with hx | hx
      · exact h.cl u (g1 u hx)
      · obtain rfl : u = ⟨ge, (n : Int), fReadK D V n, ld, false, fReadL D V n⟩ := by simpa using hx
        exact ⟨by show fReadK D V n = _; rw [f2, Int.toNat_natCast], by show fReadL D V n = _; rw [f3, Int.toNat_natCast]⟩
  · have he : e ∈ C.cl := by
      obtain ⟨h8, h9⟩ := look_some hl
      rcases List.mem_append.1 h8 with hx | hx
      · exact hx
      · obtain ⟨i, hi, hg⟩ := List.mem_iff_getElem.1 hx
        have := hS.kp i e (by rw [List.getElem?_eq_getElem hi, hg])
        omega
    have hk := (look_some hl).2
    obtain ⟨c1, c2⟩ := h.cl e he
    rw [hk, Int.toNat_natCast] at c1 c2
    refine ⟨D.reads, ?_, f4, fun ge ld => ?_⟩
    · unfold loadR
      rw [if_neg hnL, if_neg (by omega), hl]
      show (0, e.kd, e.l, D) = _
      rw [c1, c2]
    · have e2 : loadC D V C (n : Int) ge ld = C.got (n : Int) := by
        unfold loadC
        rw [if_neg hnL, if_neg (by omega), hl]
      rw [e2]
      exact ⟨⟨(h.rd _).inv, h.nx, fun e he => h.cl e (g1 e he), by rw [g2]; exact h.kp, by rw [g2]; exact h.fit⟩, g2⟩
def enP (e : En) : Nat × List UInt8 := (e.kd.toNat, e.l)
def putAll (pz : Pgs) (n : Nat) : List En → Pgs
  | [] => pz
  | e :: es => putAll (putP pz n (enP e)) (n + 1) es
theorem putAll_low : ∀ (es : List En) (pz : Pgs) (n m : Nat), n - 2 ≤ pz.length → m < n → 2 ≤ m → pgAt (putAll pz n es) m = pgAt pz m
  | [], _, _, _, _, _, _ => rfl
  | e :: es, pz, n, m, h1, h2, h3 => by
    show pgAt (putAll (putP pz n (enP e)) (n + 1) es) m = _
    rw [putAll_low es _ (n + 1) m (by rw [putP_len _ _ _ h1]; omega) (by omega) h3, putP_low _ _ _ _ h1 h2 h3]
theorem putAll_at : ∀ (es : List En) (pz : Pgs) (n i : Nat) (e : En), 2 ≤ n → n - 2 ≤ pz.length → es[i]? = some e → pgAt (putAll pz n es) (n + i) = enP e
  | [], _, _, _, _, _, _, h => by simp at h
  | u :: es, pz, n, 0, e, h2, h1, h => by
    obtain rfl : u = e := by simpa using h
    show pgAt (putAll (putP pz n (enP u)) (n + 1) es) n = _
    rw [putAll_low es _ (n + 1) n (by rw [putP_len _ _ _ h1]; omega) (by omega) h2, putP_at _ _ _ h1]
  | u :: es, pz, n, i + 1, e, h2, h1, h => by
    show pgAt (putAll (putP pz n (enP u)) (n + 1) es) (n + (i + 1)) = _
    rw [show n + (i + 1) = n + 1 + i by omega]
    exact putAll_at es _ (n + 1) i e (by omega) (by rw [putP_len _ _ _ h1]; omega) (by simpa using h)
end
end Go.Proofs.YtopdhanbmnfeeaaDoor
