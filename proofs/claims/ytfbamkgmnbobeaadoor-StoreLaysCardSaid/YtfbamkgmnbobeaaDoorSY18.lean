/- Texts joined: Same8, FileP, FileQ, FileR. -/
import Derived.Test.YtfbamkgmnbobeaaDoorSY00
import Derived.Test.YtfbamkgmnbobeaaDoorSY05
import Derived.Test.YtfbamkgmnbobeaaDoorSY08
import Derived.Test.YtfbamkgmnbobeaaDoorSY15
namespace Go.Proofs.YtfbamkgmnbobeaaDoor
set_option linter.unusedSectionVars false
set_option linter.unusedSimpArgs false
set_option linter.unusedVariables false
open Go Go.RowKit
set_option maxHeartbeats 400000 in
theorem sameBytes_any (a0 a1 : Option Addr) (n0 c0 n1 c1 : Nat) (l0 l1 : List UInt8) (w : World) (h0 : Row w a0 n0 l0) (h1 : Row w a1 n1 l1) (m0 : n0 ≤ maxLen) (m1 : n1 ≤ maxLen) :
    Calls Tryd.prog 17 #[.slice a0 n0 c0, .slice a1 n1 c1] w fun e w' => e = .returned (.bool (eqB l0 l1)) ∧ ∃ q, w' = w.drewN q := by
  unfold maxLen at m0 m1
  have hl0 := h0.1
  have hl1 := h1.1
  by_cases hn : n0 = n1
  · subst hn
    by_cases hz : n0 = 0
    · subst hz
      obtain rfl : l0 = [] := List.length_eq_zero_iff.1 hl0
      obtain rfl : l1 = [] := List.length_eq_zero_iff.1 hl1
      clear h0 h1 hl0 hl1
      go_enter Tryd.func17, Tryd.ntmps17
      go_wp2
      refine wp_loop_rounds 1 ?_; rw [rounds_succ]
      go_wp2
      go_ret
      exact ⟨congrArg Ending.returned (dec_true rfl), 0, rfl⟩
    · obtain ⟨b0, o0, rfl⟩ := h0.at0 (by omega)
      obtain ⟨b1, o1, rfl⟩ := h1.at0 (by omega)
      have H0 := Lib.hid hl0
      have H1 := Lib.hid hl1
      clear hl0 hl1
      go_enter Tryd.func17, Tryd.ntmps17
      go_wp2
      go_loopw [5] (fun i wr => ∃ k q : Nat, k ≤ n0 ∧ i = .int .i64 k ∧ wr = w.drewN q ∧ l0.take k = l1.take k) (fun i _ => n0 - (intOf i).toNat)
      case atStart => exact ⟨0, 0, Nat.zero_le _, rfl, rfl, rfl⟩
      case round =>
        obtain ⟨k, q, hk, rfl, rfl, ht⟩ := hrel
        have HT := Lib.hid ht
        clear ht
        by_cases hlt : k < n0
        · have e0 : w.cell? ⟨b0, o0 + k, none⟩ = some (.int .u8 (l0[k]'(by have := H0.out; omega)).toNat) := h0.cell k (by have := H0.out; omega)
          have e1 : w.cell? ⟨b1, o1 + k, none⟩ = some (.int .u8 (l1[k]'(by have := H1.out; omega)).toNat) := h1.cell k (by have := H1.out; omega)
          go_wp2
          go_quiet (fail)
          go_wp2
          · have hne := byte_ne.1 (by assumption)
            go_ret
            exact ⟨congrArg Ending.returned (dec_false (take_ne _ _ hne)), q + nq, by simp⟩
          · have heq := byte_eq.1 (by assumption)
            go_roundw
            case rel => exact ⟨k + 1, _, by omega, by go_num, rfl, take_eq_snoc _ _ heq HT.out⟩
            case measure => simp [intOf]; omega
        · go_wp2
          go_ret
          refine ⟨congrArg Ending.returned (dec_true ?_), _, rfl⟩
          have := HT.out
          rwa [List.take_of_length_le (by have := H0.out; omega), List.take_of_length_le (by have := H1.out; omega)] at this
  · have hf : ((n0 : Int) != (n1 : Int)) = true := by rw [bne_iff_ne]; omega
    go_enter Tryd.func17, Tryd.ntmps17
    go_wp2
    go_ret
    refine ⟨congrArg Ending.returned (dec_false ?_), 0, rfl⟩
    intro h; subst h; omega
end Go.Proofs.YtfbamkgmnbobeaaDoor

/- A page file over a disk, as values: what an open file and its disk are at any time, and what each act does with them. No program in sight. -/
namespace Go.Proofs.YtfbamkgmnbobeaaDoor
set_option linter.unusedSectionVars false
set_option linter.unusedSimpArgs false
open Go Go.RowKit
set_option linter.unusedVariables false
abbrev Pgs := List (Nat × List UInt8)
def pgAt (ps : Pgs) (n : Nat) : Nat × List UInt8 := ps.getD (n - 2) (0, [])
def pgB (ps : Pgs) (n : Nat) : List UInt8 := pageB (pgAt ps n).1 n (pgAt ps n).2
def PageOk (x : Nat × List UInt8) : Prop := (1 ≤ x.1 ∧ x.1 ≤ 3) ∧ x.2.length ≤ 246
def putP (ps : Pgs) (n : Nat) (x : Nat × List UInt8) : Pgs := ps.take (n - 2) ++ [x]
theorem putP_at (ps : Pgs) (n : Nat) (x : Nat × List UInt8) (h : n - 2 ≤ ps.length) : pgAt (putP ps n x) n = x := by
  unfold pgAt putP
  rw [List.getD_eq_getElem?_getD, List.getElem?_append_right (by rw [List.length_take]; omega), List.length_take]
  rw [show n - 2 - min (n - 2) ps.length = 0 by omega]; rfl
theorem putP_low (ps : Pgs) (n m : Nat) (x : Nat × List UInt8) (h : n - 2 ≤ ps.length) (hm : m < n) (h2 : 2 ≤ m) : pgAt (putP ps n x) m = pgAt ps m := by
  unfold pgAt putP
  rw [List.getD_eq_getElem?_getD, List.getElem?_append_left (by rw [List.length_take]; omega), List.getElem?_take_of_lt (by omega), ← List.getD_eq_getElem?_getD]
theorem putP_len (ps : Pgs) (n : Nat) (x : Nat × List UInt8) (h : n - 2 ≤ ps.length) : (putP ps n x).length = n - 2 + 1 := by
  unfold putP
  rw [List.length_append, List.length_take]
  simp; omega
theorem putP_good (ps : Pgs) (n : Nat) (x : Nat × List UInt8) (hg : ∀ y ∈ ps, PageOk y) (hx : PageOk x) : ∀ y ∈ putP ps n x, PageOk y := by
  intro y hy
  rcases List.mem_append.1 hy with h | h
  · exact hg y (List.mem_of_mem_take h)
  · obtain rfl : y = x := by simpa using h
    exact hx
def Follows (S P : SupV) : Prop := S = { P with gen := P.gen + 1, mark := S.mark, head := S.head } ∧ P.mark ≤ S.mark
theorem Follows.gen {S P : SupV} (h : Follows S P) : S.gen = P.gen + 1 := by rw [h.1]
theorem Follows.width {S P : SupV} (h : Follows S P) : S.width = P.width := by rw [h.1]
theorem Follows.pages {S P : SupV} (h : Follows S P) : S.pages = P.pages := by rw [h.1]
structure Plat (D : DV) (S : SupV) (ps : Pgs) : Prop where
  ok : DOk D
  val : ValidS S
  pages : S.pages = (D.pages.length : Int)
  prev : ∃ P, ValidS P ∧ Follows S P ∧ D.pg (S.gen % 2).toNat = superB S ∧ D.pg ((S.gen + 1) % 2).toNat = superB P
  len : S.mark - 2 ≤ (ps.length : Int)
  good : ∀ x ∈ ps, PageOk x
  dur : ∀ n : Nat, 2 ≤ n → (n : Int) < S.mark → D.pg n = pgB ps n
  que : ∀ x ∈ D.q, S.mark ≤ (x.1 : Int)
structure Inv (D : DV) (V : FV) (ps : Pgs) : Prop where
  plat : Plat D V.s ps
  live : D.epoch = V.mine
  pow : D.dead = false
  lo : V.s.mark ≤ V.next
  hi : V.next ≤ V.s.pages
  lenN : V.next - 2 ≤ (ps.length : Int)
  cur : ∀ n : Nat, 2 ≤ n → (n : Int) < V.next → D.cur n = pgB ps n
theorem curP_other (b : List UInt8) (p : Nat) : ∀ q : List Wr, (∀ x ∈ q, x.1 ≠ p) → curP b q p = b := by
  refine snocInd (fun _ => rfl) fun q x ih h => ?_
  rw [curP_snoc, if_neg (h x (by simp))]
  exact ih fun y hy => h y (List.mem_append_left _ hy)
theorem cur_other {D : DV} {p : Nat} (h : ∀ x ∈ D.q, x.1 ≠ p) : D.cur p = D.pg p := curP_other _ _ _ h
theorem Plat.mark2 {D : DV} {S : SupV} {ps : Pgs} (h : Plat D S ps) : 2 ≤ S.mark := h.val.2.2.2.2.2.2.1
theorem Plat.markp {D : DV} {S : SupV} {ps : Pgs} (h : Plat D S ps) : S.mark ≤ (D.pages.length : Int) := by have := h.val.2.2.2.2.2.2.2.1; have := h.pages; omega
theorem Plat.slots {D : DV} {S : SupV} {ps : Pgs} (h : Plat D S ps) : D.cur 0 = D.pg 0 ∧ D.cur 1 = D.pg 1 := by
  have := h.mark2
  exact ⟨cur_other fun x hx e => by have := h.que x hx; omega, cur_other fun x hx e => by have := h.que x hx; omega⟩
theorem Plat.low {D : DV} {S : SupV} {ps : Pgs} (h : Plat D S ps) {n : Nat} (h1 : 2 ≤ n) (h2 : (n : Int) < S.mark) : D.cur n = pgB ps n := by
  rw [cur_other fun x hx e => by have := h.que x hx; omega]
  exact h.dur n h1 h2
theorem Inv.ok {D : DV} {V : FV} {ps : Pgs} (h : Inv D V ps) : DOk D := h.plat.ok
theorem Inv.fok {D : DV} {V : FV} {ps : Pgs} (h : Inv D V ps) : FOk D V := ⟨h.plat.val, h.plat.pages, by have := h.plat.mark2; have := h.lo; omega, h.hi, h.lo⟩
theorem Inv.isLive {D : DV} {V : FV} {ps : Pgs} (h : Inv D V ps) : liveE D V = 0 := by
  unfold liveE
  rw [if_neg (fun x => x h.live), h.pow]; rfl
theorem Inv.next2 {D : DV} {V : FV} {ps : Pgs} (h : Inv D V ps) : 2 ≤ V.next := by have := h.plat.mark2; have := h.lo; omega
theorem Inv.nextp {D : DV} {V : FV} {ps : Pgs} (h : Inv D V ps) : V.next ≤ (D.pages.length : Int) := by have := h.hi; have := h.plat.pages; omega
theorem choose_supers {A B S P : SupV} (hA : ValidS A) (hB : ValidS B) (h0 : A.gen % 2 = 0) (h1 : B.gen % 2 = 1) (hf : Follows S P) (h : (A = S ∧ B = P) ∨ (A = P ∧ B = S)) :
    chooseE (superB A) (superB B) = 0 ∧ chooseS (superB A) (superB B) = S := by
  have hg := hf.gen
  have hn : NewerOk A B ∧ overS A B = S := by
    rcases h with ⟨rfl, rfl⟩ | ⟨rfl, rfl⟩
    · have e1 : overS A B = A := if_neg (by omega)
      have e2 : underS A B = B := if_neg (by omega)
      refine ⟨⟨h0, h1, ?_, ?_⟩, e1⟩
      · rw [e1, e2]; exact hf.1
      · rw [e1, e2]; exact hf.2
    · have e1 : overS A B = B := if_pos (by omega)
      have e2 : underS A B = A := if_pos (by omega)
      refine ⟨⟨h0, h1, ?_, ?_⟩, e1⟩
      · rw [e1, e2]; exact hf.1
      · rw [e1, e2]; exact hf.2
  have hu := unpE_superB A hA
  have hv := unpE_superB B hB
  have c1 : chooseE (superB A) (superB B) = newerE (unpS (superB A)) (unpS (superB B)) := if_pos ⟨hu, hv⟩
  have c2 : chooseS (superB A) (superB B) = newerS (unpS (superB A)) (unpS (superB B)) := if_pos ⟨hu, hv⟩
  have c3 : newerE A B = 0 := if_pos hn.1
  have c4 : newerS A B = overS A B := if_pos hn.1
  rw [c1, c2, unpS_superB A hA, unpS_superB B hB, c3, c4]
  exact ⟨rfl, hn.2⟩
theorem Plat.choose {D : DV} {S : SupV} {ps : Pgs} (h : Plat D S ps) : chooseE (D.pg 0) (D.pg 1) = 0 ∧ chooseS (D.pg 0) (D.pg 1) = S := by
  obtain ⟨P, hP, hf, e1, e2⟩ := h.prev
  have hg := hf.gen
  have hS := h.val
  rcases Int.emod_two_eq S.gen with h2 | h2
  · rw [h2] at e1
    rw [show (S.gen + 1) % 2 = 1 by omega] at e2
    rw [show D.pg 0 = superB S from e1, show D.pg 1 = superB P from e2]
    exact choose_supers hS hP h2 (by omega) hf (.inl ⟨rfl, rfl⟩)
  · rw [h2] at e1
    rw [show (S.gen + 1) % 2 = 0 by omega] at e2
    rw [show D.pg 1 = superB S from e1, show D.pg 0 = superB P from e2]
    exact choose_supers hP hS (by omega) h2 hf (.inr ⟨rfl, rfl⟩)
def DV.cnt (D : DV) (r w s : Int) : DV := { D with reads := r, writes := w, syncs := s }
theorem Plat.of_eq {D E : DV} {S : SupV} {ps : Pgs} (h : Plat D S ps) (hE : DOk E) (hp : E.pages = D.pages) (hq : ∀ x ∈ E.q, S.mark ≤ (x.1 : Int)) : Plat E S ps := by
  have hg : ∀ n, E.pg n = D.pg n := fun n => by unfold DV.pg; rw [hp]
  refine ⟨hE, h.val, by rw [hp]; exact h.pages, ?_, h.len, h.good, fun n h1 h2 => by rw [hg]; exact h.dur n h1 h2, hq⟩
  obtain ⟨P, a, b, c, d⟩ := h.prev
  exact ⟨P, a, b, by rw [hg]; exact c, by rw [hg]; exact d⟩
theorem cur_of_eq {D E : DV} (hp : E.pages = D.pages) (hq : E.q = D.q) (n : Nat) : E.cur n = D.cur n := by unfold DV.cur DV.pg; rw [hp, hq]
theorem slotsD_same (D : DV) : (slotsD D).pages = D.pages ∧ (slotsD D).q = D.q ∧ (slotsD D).epoch = D.epoch ∧ (slotsD D).dead = D.dead ∧ (slotsD D).armed = D.armed ∧ (slotsD D).writes = D.writes ∧ (slotsD D).syncs = D.syncs := by
  unfold slotsD
  split
  · exact ⟨rfl, rfl, rfl, rfl, rfl, rfl, rfl⟩
  · refine ⟨?_, ?_, ?_, ?_, ?_, ?_, ?_⟩ <;> unfold readD <;> (repeat' split) <;> first | rfl | assumption
theorem Plat.open {D : DV} {S : SupV} {ps : Pgs} (h : Plat D S ps) (hd : D.dead = false) :
    openE D = 0 ∧ (openV D).s = S ∧ (openV D).next = S.mark ∧ Inv (openD D) (openV D) ps ∧ (openD D).q = D.q ∧ (openD D).pages = D.pages ∧ (openD D).armed = D.armed ∧ (openD D).epoch = wrap64 (D.epoch + 1) := by
  have hd' : ¬ D.dead = true := by rw [hd]; decide
  obtain ⟨c1, c2⟩ := h.choose
  obtain ⟨s1, s2⟩ := h.slots
  obtain ⟨f1, f2, f3, f4, f5, _, _⟩ := slotsD_same D
  have fok := (slotsD_facts D h.ok).2.2
  have e0 : slotsE D = 0 := by unfold slotsE; rw [if_neg hd', s1, s2, c1]
  have e1 : slotsS D = S := by unfold slotsS; rw [if_neg hd', s1, s2, c2]
  have e2 : openE D = 0 := by
    unfold openE
    rw [if_neg (fun x => x e0), e1, if_neg (fun x => x h.pages)]
  have e3 : openD D = claimD (slotsD D) := if_pos e2
  have hV : (openV D).s = S := e1
  have hN : (openV D).next = S.mark := by show (slotsS D).mark = _; rw [e1]
  have hp : (openD D).pages = D.pages := by rw [e3]; exact f1
  have hq : (openD D).q = D.q := by rw [e3]; exact f2
  have hP : Plat (openD D) S ps := h.of_eq (by rw [e3]; exact claim_ok fok) hp (by rw [hq]; exact h.que)
  refine ⟨e2, hV, hN, ⟨by rw [hV]; exact hP, by rw [e3]; rfl, ?_, ?_, ?_, ?_, ?_⟩, hq, hp, ?_, ?_⟩
  · rw [e3]; show (slotsD D).dead = false; rw [f4]; exact hd
  · rw [hV, hN]; exact Int.le_refl _
  · rw [hV, hN]; exact h.val.2.2.2.2.2.2.2.1
  · rw [hN]; exact h.len
  · intro n h1 h2
    rw [hN] at h2
    exact hP.low h1 h2
  · rw [e3]; exact f5
  · rw [e3]; show wrap64 ((slotsD D).epoch + 1) = _; rw [f3]
theorem crashP_other (n : Nat) : ∀ (z : List (Wr × UInt8)) (ps : List (List UInt8)), (∀ x ∈ z, x.1.1 ≠ n) → (crashP ps z).getD n [] = ps.getD n []
  | [], ps, _ => rfl
  | x :: z, ps, h => by
    have ih := crashP_other n z (ps.set x.1.1 (mixS x.2 x.1.2 (ps.getD x.1.1 []) 4)) fun y hy => h y (List.mem_cons_of_mem _ hy)
    have e : crashP ps (x :: z) = crashP (ps.set x.1.1 (mixS x.2 x.1.2 (ps.getD x.1.1 []) 4)) z := rfl
    rw [e, ih, List.getD_eq_getElem?_getD, List.getElem?_set_ne (h x (List.mem_cons_self ..)), ← List.getD_eq_getElem?_getD]
theorem crash_pg {D : DV} {n : Nat} (h : ∀ x ∈ D.q, x.1 ≠ n) (fates : List UInt8) : (crashD D fates).pg n = D.pg n :=
  crashP_other n _ _ fun x hx => h x.1 (List.of_mem_zip (a := x.1) (b := x.2) hx).1
theorem crash_len (D : DV) (fates : List UInt8) : (crashD D fates).pages.length = D.pages.length := crashP_len _ _
theorem Plat.crash {D : DV} {S : SupV} {ps : Pgs} (h : Plat D S ps) (fates : List UInt8) : Plat (crashD D fates) S ps := by
  have hm := h.mark2
  have hx : ∀ n : Nat, (n : Int) < S.mark → (crashD D fates).pg n = D.pg n := fun n hn => crash_pg (fun x hx e => by have := h.que x hx; omega) fates
  refine ⟨crash_ok h.ok fates, h.val, by rw [crash_len]; exact h.pages, ?_, h.len, h.good, fun n h1 h2 => by rw [hx n h2]; exact h.dur n h1 h2, fun x hx => by cases hx⟩
  obtain ⟨P, a, b, c, d⟩ := h.prev
  exact ⟨P, a, b, by rw [hx _ (by omega)]; exact c, by rw [hx _ (by omega)]; exact d⟩
theorem splice_id {α : Type} (l m : List α) (o : Nat) (h : m = (l.drop o).take m.length) : splice l o m = l := by
  unfold splice
  rw [h, List.length_take, List.length_drop]
  have e := List.take_append_drop o l
  have e2 := List.take_append_drop (min m.length (l.length - o)) (l.drop o)
  have e3 : (l.drop o).take m.length = (l.drop o).take (min m.length (l.length - o)) := by
    rw [List.take_eq_take_iff, List.length_drop]; omega
  rw [e3, ← List.drop_drop]
  rw [e2, e]
theorem mix1_same (fate : UInt8) (new old X : List UInt8) (j : Nat) (hX : X.drop 64 = new.drop 64) (hj : 1 ≤ j) : mix1 fate new X j = X := by
  unfold mix1
  split
  · have e : new.drop (64 * j) = X.drop (64 * j) := by
      rw [show 64 * j = 64 + (64 * j - 64) by omega, ← List.drop_drop, ← hX, List.drop_drop]
    refine splice_id _ _ _ ?_
    rw [e, List.length_take, List.take_eq_take_iff]; omega
  · rfl
theorem mixS_two (fate : UInt8) (new old : List UInt8) (hn : new.length = 256) (ho : old.length = 256) (h : old.drop 64 = new.drop 64) : mixS fate new old 4 = new ∨ mixS fate new old 4 = old := by
  have h0 : mix1 fate new old 0 = new ∨ mix1 fate new old 0 = old := by
    unfold mix1
    split
    · left
      unfold splice
      rw [List.length_take, List.length_drop, hn, List.take_zero, List.nil_append, show 64 * 0 = 0 from rfl, List.drop_zero, show 0 + min 64 (256 - 0) = 64 from rfl, h]
      exact List.take_append_drop 64 new
    · exact .inr rfl
  have e : mixS fate new old 4 = mix1 fate new (mix1 fate new (mix1 fate new (mix1 fate new old 0) 1) 2) 3 := rfl
  rw [e]
  rcases h0 with h0 | h0
  · rw [h0, mix1_same fate new old new 1 rfl (by decide), mix1_same fate new old new 2 rfl (by decide), mix1_same fate new old new 3 rfl (by decide)]
    exact .inl rfl
  · rw [h0, mix1_same fate new old old 1 h (by decide), mix1_same fate new old old 2 h (by decide), mix1_same fate new old old 3 h (by decide)]
    exact .inr rfl
theorem superB_tail (s : SupV) : (superB s).drop 64 = zerosB 192 := by
  unfold superB
  rw [List.drop_left' (by rw [length_sealB, length_headB])]
def Dead (D : DV) (S : SupV) (late : Option SupV) (ps : Pgs) : Prop := ∀ fates, ∃ S2, (S2 = S ∨ late = some S2) ∧ Plat (crashD D fates) S2 ps
theorem Plat.dead {D : DV} {S : SupV} {ps : Pgs} (h : Plat D S ps) (late : Option SupV) : Dead D S late ps := fun fates => ⟨S, .inl rfl, h.crash fates⟩
end Go.Proofs.YtfbamkgmnbobeaaDoor

/- A page file as values: Append, Publish, Forget, Arm, a loss of power on the way. No program in sight. -/
namespace Go.Proofs.YtfbamkgmnbobeaaDoor
set_option linter.unusedSectionVars false
set_option linter.unusedSimpArgs false
open Go Go.RowKit
set_option linter.unusedVariables false
theorem actD_pages (D : DV) : (actD D).pages = D.pages := by unfold actD; split <;> rfl
theorem actD_epoch (D : DV) : (actD D).epoch = D.epoch := by unfold actD; split <;> rfl
theorem actD_ok {D : DV} (h : DOk D) : DOk (actD D) := by
  unfold actD
  split
  · exact h
  · have := h.arm
    exact ⟨h.lo, h.hi, h.len, h.qs, ⟨by show 0 ≤ D.armed - 1; omega, by show D.armed - 1 ≤ _; omega⟩, h.ep⟩
theorem actE_two (D : DV) : actE D = 0 ∨ actE D = 2 := by unfold actE; split <;> simp
theorem act_zero {D : DV} (h : actE D = 0) (hd : D.dead = false) : (actD D).dead = false := by
  unfold actE at h
  unfold actD
  split
  · exact hd
  · show decide (D.armed = 1) = false
    rw [decide_eq_false_iff_not]
    intro h1; rw [if_pos h1] at h; cases h
theorem act_dead {D : DV} (h : actE D = 2) : (actD D).dead = true := by
  unfold actE at h
  split at h
  · rename_i h1
    unfold actD
    rw [if_neg (by omega)]
    exact decide_eq_true h1
  · cases h
theorem act_arm0 {D : DV} (h : D.armed = 0) : actE D = 0 ∧ actD D = D := ⟨if_neg (by omega), if_pos h⟩
theorem write_alive {D : DV} (hd : D.dead = false) {p : Int} (hp : D.has p) {d : List UInt8} (hl : d.length = 256) : writeE D p d = actE D ∧ writeD D p d = actD (openW D p d) := by
  have hd' : ¬ D.dead = true := by rw [hd]; decide
  unfold writeE writeD
  rw [if_neg hd', if_pos hp, if_pos hl, if_neg hd', if_pos hp, if_pos hl]
  exact ⟨rfl, rfl⟩
theorem sync_alive {D : DV} (hd : D.dead = false) : syncE D = actE D ∧ syncD D = if actE D = 0 then flushD (actD D) else actD D := by
  have hd' : ¬ D.dead = true := by rw [hd]; decide
  unfold syncE syncD actE
  rw [if_neg hd', if_neg hd']
  refine ⟨rfl, ?_⟩
  by_cases h : D.armed = 1
  · rw [if_pos h, if_pos h]; rfl
  · rw [if_neg h, if_neg h]; rfl
theorem cur_open_ne {D : DV} {p : Int} {d : List UInt8} {n : Nat} (h : p.toNat ≠ n) : (openW D p d).cur n = D.cur n := by
  show curP _ (D.q ++ [(p.toNat, d)]) n = _
  rw [curP_snoc, if_neg h]; rfl
theorem cur_open_eq {D : DV} {p : Int} {d : List UInt8} {n : Nat} (h : p.toNat = n) : (openW D p d).cur n = d := by
  show curP _ (D.q ++ [(p.toNat, d)]) n = _
  rw [curP_snoc, if_pos h]
theorem open_ok {D : DV} (h : DOk D) {p : Int} (hp : D.has p) {d : List UInt8} (hl : d.length = 256) : DOk (openW D p d) :=
  ⟨h.lo, h.hi, h.len, fun x hx => by
    rcases List.mem_append.1 hx with hx | hx
    · exact h.qs x hx
    · obtain rfl : x = (p.toNat, d) := by simpa using hx
      exact ⟨by have := hp.1; have := hp.2; show p.toNat < D.pages.length; omega, hl⟩, h.arm, h.ep⟩
theorem applyQ_cur (n : Nat) : ∀ (q : List Wr) (ps : List (List UInt8)), n < ps.length → (applyQ ps q).getD n [] = curP (ps.getD n []) q n
  | [], ps, _ => rfl
  | x :: q, ps, h => by
    have e : applyQ ps (x :: q) = applyQ (ps.set x.1 x.2) q := rfl
    rw [e, applyQ_cur n q _ (by rw [List.length_set]; exact h)]
    have e2 : curP (ps.getD n []) (x :: q) n = curP (if x.1 = n then x.2 else ps.getD n []) q n := rfl
    rw [e2]
    congr 1
    by_cases hx : x.1 = n
    · subst hx
      rw [if_pos rfl, List.getD_eq_getElem?_getD, List.getElem?_set_self h]; rfl
    · rw [if_neg hx, List.getD_eq_getElem?_getD, List.getElem?_set_ne hx, ← List.getD_eq_getElem?_getD]
theorem flush_pg {D : DV} {n : Nat} (h : n < D.pages.length) : (flushD D).pg n = D.cur n := applyQ_cur n _ _ h
theorem Plat.book {D : DV} {S : SupV} {ps ps' : Pgs} (h : Plat D S ps) (he : ∀ n : Nat, 2 ≤ n → (n : Int) < S.mark → pgAt ps' n = pgAt ps n) (hl : S.mark - 2 ≤ (ps'.length : Int)) (hg : ∀ x ∈ ps', PageOk x) : Plat D S ps' :=
  ⟨h.ok, h.val, h.pages, h.prev, hl, hg, fun n h1 h2 => by rw [h.dur n h1 h2]; unfold pgB; rw [he n h1 h2], h.que⟩
theorem Inv.app {D : DV} {V : FV} {ps : Pgs} (h : Inv D V ps) {k : Nat} {l : List UInt8} (hx : PageOk (k, l)) (hn : V.next < (D.pages.length : Int)) :
    appE D V k l = actE D ∧ appD D V k l = actD (openW D V.next (pageB k V.next.toNat l)) ∧
    (actE D = 0 → Inv (appD D V k l) { V with next := V.next + 1 } (putP ps V.next.toNat (k, l))) ∧
    (actE D = 2 → (appD D V k l).dead = true ∧ (appD D V k l).epoch = V.mine ∧ Plat (appD D V k l) V.s ps) := by
  have hl := h.isLive
  have h2 := h.next2
  have hL : ¬ liveE D V ≠ 0 := fun x => x hl
  obtain ⟨⟨hk1, hk2⟩, hk3⟩ := hx
  have hk1 : 1 ≤ k := hk1
  have hk2 : k ≤ 3 := hk2
  have hk3 : l.length ≤ 246 := hk3
  have hB : (pageB k V.next.toNat l).length = 256 := length_pageB _ _ hk3
  have hh : D.has V.next := ⟨by omega, hn⟩
  obtain ⟨w1, w2⟩ := write_alive h.pow hh hB
  have e1 : appE D V k l = actE D := by
    unfold appE
    rw [if_neg hL, if_neg (by omega), if_neg (by omega), if_neg (by omega)]
    exact w1
  have e2 : appD D V k l = actD (openW D V.next (pageB k V.next.toNat l)) := by
    unfold appD
    rw [if_neg (by omega)]
    exact w2
  have hok : DOk (appD D V k l) := by rw [e2]; exact actD_ok (open_ok h.ok hh hB)
  have hp : (appD D V k l).pages = D.pages := by rw [e2, actD_pages]; rfl
  have hq : (appD D V k l).q = D.q ++ [(V.next.toNat, pageB k V.next.toNat l)] := by rw [e2, actD_q]; rfl
  have hlo := h.lo
  have hP : Plat (appD D V k l) V.s ps := h.plat.of_eq hok hp fun x hx => by
    rw [hq] at hx
    rcases List.mem_append.1 hx with hx | hx
    · exact h.plat.que x hx
    · obtain rfl : x = _ := by simpa using hx
      show V.s.mark ≤ (V.next.toNat : Int)
      omega
  have hlen := h.lenN
  have hm := h.plat.mark2
  refine ⟨e1, e2, fun h0 => ⟨?_, ?_, ?_, ?_, ?_, ?_, ?_⟩, fun h0 => ⟨?_, ?_, hP⟩⟩
  · refine hP.book (fun n h1 h2 => ?_) ?_ ?_
    · exact putP_low ps _ n _ (by omega) (by have : (n : Int) < V.s.mark := h2; omega) h1
    · rw [putP_len _ _ _ (by omega)]; show V.s.mark - 2 ≤ _; omega
    · exact putP_good _ _ _ h.plat.good ⟨⟨hk1, hk2⟩, hk3⟩
  · rw [e2, actD_epoch]; exact h.live
  · rw [e2]; exact act_zero (D := openW D V.next (pageB k V.next.toNat l)) h0 h.pow
  · show V.s.mark ≤ V.next + 1; omega
  · have := h.plat.pages; show V.next + 1 ≤ V.s.pages; omega
  · rw [putP_len _ _ _ (by omega)]; show V.next + 1 - 2 ≤ _; omega
  · intro n h1 h3
    have h3 : (n : Int) < V.next + 1 := h3
    have e3 : (appD D V k l).cur n = (openW D V.next (pageB k V.next.toNat l)).cur n := by rw [e2]; exact cur_of_eq (actD_pages _) (actD_q _) n
    rw [e3]
    by_cases hx : V.next.toNat = n
    · rw [cur_open_eq hx]
      unfold pgB
      rw [← hx, putP_at _ _ _ (by omega)]
    · rw [cur_open_ne hx, h.cur n h1 (by omega)]
      unfold pgB
      rw [putP_low _ _ _ _ (by omega) (by omega) h1]
  · rw [e2]; exact act_dead (D := openW D V.next (pageB k V.next.toNat l)) h0
  · rw [e2, actD_epoch]; exact h.live
theorem Inv.cnt {D : DV} {V : FV} {ps : Pgs} (h : Inv D V ps) (r w s : Int) : Inv (D.cnt r w s) V ps :=
  ⟨h.plat.of_eq ⟨h.ok.lo, h.ok.hi, h.ok.len, h.ok.qs, h.ok.arm, h.ok.ep⟩ rfl h.plat.que, h.live, h.pow, h.lo, h.hi, h.lenN, h.cur⟩
theorem Inv.arm {D : DV} {V : FV} {ps : Pgs} (h : Inv D V ps) {n : Int} (hn : n ≤ 9223372036854775807) : Inv (armD D n) V ps := by
  have e : armD D n = { D with armed := max n 0 } := if_neg (by rw [h.pow]; decide)
  rw [e]
  exact ⟨h.plat.of_eq (armD_ok h.ok hn) rfl h.plat.que, h.live, h.pow, h.lo, h.hi, h.lenN, h.cur⟩
def pubD1 (D : DV) : DV := flushD (actD D)
def pubD2 (D : DV) (S : SupV) : DV := actD (openW (pubD1 D) (S.gen % 2) (superB S))
def pubD3 (D : DV) (S : SupV) : DV := flushD (actD (pubD2 D S))
theorem flush_okD {D : DV} (h : DOk D) : DOk (flushD D) := flush_ok h _
theorem Inv.pub1 {D : DV} {V : FV} {ps : Pgs} (h : Inv D V ps) : Plat (pubD1 D) V.s ps ∧ (pubD1 D).q = [] ∧ (pubD1 D).pages.length = D.pages.length ∧ (pubD1 D).epoch = V.mine ∧ ∀ n : Nat, 2 ≤ n → (n : Int) < V.next → (pubD1 D).pg n = pgB ps n := by
  have hok : DOk (pubD1 D) := flush_okD (actD_ok h.ok)
  have hlen : (pubD1 D).pages.length = D.pages.length := by
    show (applyQ (actD D).pages (actD D).q).length = _
    rw [applyQ_len, actD_pages]
  have hpg : ∀ n, n < D.pages.length → (pubD1 D).pg n = D.cur n := fun n hn => by
    unfold pubD1
    rw [flush_pg (by rw [actD_pages]; exact hn)]
    exact cur_of_eq (actD_pages D) (actD_q D) n
  have hm := h.plat.mark2
  have hmp := h.plat.markp
  have hnp := h.nextp
  have hlo := h.ok.lo
  obtain ⟨s0, s1⟩ := h.plat.slots
  have hsl : ∀ n, n < 2 → (pubD1 D).pg n = D.pg n := fun n hn => by
    rw [hpg n (by omega)]
    exact cur_other fun x hx e => by have := h.plat.que x hx; omega
  refine ⟨⟨hok, h.plat.val, by rw [hlen]; exact h.plat.pages, ?_, h.plat.len, h.plat.good, fun n h1 h2 => ?_, fun x hx => by cases hx⟩, rfl, hlen, ?_, fun n h1 h2 => by rw [hpg n (by omega)]; exact h.cur n h1 h2⟩
  · obtain ⟨P, a, b, c, d⟩ := h.plat.prev
    exact ⟨P, a, b, by rw [hsl _ (by omega)]; exact c, by rw [hsl _ (by omega)]; exact d⟩
  · rw [hpg n (by omega)]
    exact h.plat.low h1 h2
  · show (actD D).epoch = _
    rw [actD_epoch]; exact h.live
theorem Plat.next {D E : DV} {S S' : SupV} {ps : Pgs} (h : Plat D S ps) (hf : Follows S' S) (hv : ValidS S') (hE : DOk E) (he : E.pages = D.pages.set (S'.gen % 2).toNat (superB S')) (hq : E.q = []) (hl : S'.mark - 2 ≤ (ps.length : Int)) (hd : ∀ n : Nat, 2 ≤ n → (n : Int) < S'.mark → D.pg n = pgB ps n) : Plat E S' ps := by
  have hlo := h.ok.lo
  have hg := hf.gen
  have h1 : ∀ n, n ≠ (S'.gen % 2).toNat → E.pg n = D.pg n := fun n hn => by
    unfold DV.pg
    rw [he, List.getD_eq_getElem?_getD, List.getElem?_set_ne (fun e => hn e.symm), ← List.getD_eq_getElem?_getD]
  have h2 : E.pg (S'.gen % 2).toNat = superB S' := by
    unfold DV.pg
    rw [he, List.getD_eq_getElem?_getD, List.getElem?_set_self (by omega)]; rfl
  obtain ⟨P, a, b, c, d⟩ := h.prev
  refine ⟨hE, hv, by rw [hf.pages, h.pages, he, List.length_set], ⟨S, h.val, hf, h2, ?_⟩, hl, h.good, fun n a1 a2 => by rw [h1 n (by omega)]; exact hd n a1 a2, fun x hx => by rw [hq] at hx; cases hx⟩
  rw [h1 _ (by omega), ← c]
  congr 1
  omega
theorem crash_one {D : DV} {p : Nat} {d : List UInt8} (hq : D.q = [(p, d)]) (fates : List UInt8) : (crashD D fates).pages = D.pages ∨ ∃ f, (crashD D fates).pages = D.pages.set p (mixS f d (D.pg p) 4) := by
  show crashP D.pages (D.q.zip fates) = _ ∨ ∃ f, crashP D.pages (D.q.zip fates) = _
  rw [hq]
  cases fates with
  | nil => exact .inl rfl
  | cons f fs => exact .inr ⟨f, rfl⟩
theorem set_same {D : DV} {p : Nat} {d : List UInt8} (h : D.pg p = d) (hp : p < D.pages.length) : D.pages.set p d = D.pages := by
  rw [← h]
  unfold DV.pg
  rw [List.getD_eq_getElem?_getD, List.getElem?_eq_getElem hp]
  exact List.set_getElem_self hp
theorem Inv.pub2 {D E : DV} {V : FV} {ps : Pgs} (h : Inv D V ps) {S : SupV} (hf : Follows S V.s) (hv : ValidS S) (hm : S.mark = V.next) (hE : DOk E) (hp : E.pages = (pubD1 D).pages) (hq : E.q = [((S.gen % 2).toNat, superB S)]) : Dead E V.s (some S) ps := by
  intro fates
  obtain ⟨a1, a2, a3, a4, a5⟩ := h.pub1
  have hlo := a1.ok.lo
  obtain ⟨P, b1, b2, b3, b4⟩ := a1.prev
  have hg := hf.gen
  have hgp : E.pg (S.gen % 2).toNat = superB P := by
    unfold DV.pg
    rw [hp, hg]; exact b4
  have hold : ∀ X : DV, DOk X → X.pages = E.pages → X.q = [] → Plat X V.s ps := fun X hX h1 h2 => a1.of_eq hX (by rw [h1, hp]) fun x hx => by rw [h2] at hx; cases hx
  rcases crash_one hq fates with hc | ⟨f, hc⟩
  · exact ⟨V.s, .inl rfl, hold _ (crash_ok hE fates) hc rfl⟩
  · rw [hgp] at hc
    rcases mixS_two f (superB S) (superB P) (length_superB _) (length_superB _) (by rw [superB_tail, superB_tail]) with hx | hx
    · rw [hx, hp] at hc
      refine ⟨S, .inr rfl, a1.next hf hv (crash_ok hE fates) hc rfl (by rw [hm]; exact h.lenN) fun n h1 h2 => a5 n h1 (by rw [← hm]; exact h2)⟩
    · rw [hx, set_same hgp (by rw [hp]; omega)] at hc
      exact ⟨V.s, .inl rfl, hold _ (crash_ok hE fates) hc rfl⟩
theorem pubD2_facts {D : DV} (h : DOk (pubD1 D)) (S : SupV) : (pubD2 D S).pages = (pubD1 D).pages ∧ (pubD2 D S).q = [((S.gen % 2).toNat, superB S)] ∧ (pubD2 D S).epoch = D.epoch ∧ DOk (pubD2 D S) := by
  have hlo := h.lo
  refine ⟨by unfold pubD2; rw [actD_pages]; rfl, by unfold pubD2; rw [actD_q]; rfl, by unfold pubD2; rw [actD_epoch]; show (actD D).epoch = _; rw [actD_epoch], ?_⟩
  unfold pubD2
  exact actD_ok (open_ok h ⟨by omega, by omega⟩ (length_superB _))
theorem Inv.pub {D : DV} {V : FV} {ps : Pgs} (h : Inv D V ps) {head : Int} (hh : head = 0 ∨ (2 ≤ head ∧ head < V.next)) (hg : V.s.gen < 1099511627776) :
    ((pubR D V head).2 = 0 ∧ pubR D V head = (pubD3 D (pubS V head), 0) ∧ Inv (pubR D V head).1 { V with s := pubS V head } ps ∧ (pubR D V head).1.q = []) ∨
    ((pubR D V head).2 = 2 ∧ D.armed ≠ 0 ∧ (pubR D V head).1.dead = true ∧ (pubR D V head).1.epoch = V.mine ∧ (pubR D V head).1.q.length ≤ D.q.length + 1 ∧ (pubR D V head).1.pages.length = D.pages.length ∧ DOk (pubR D V head).1 ∧ Dead (pubR D V head).1 V.s (some (pubS V head)) ps) := by
  have hL : ¬ liveE D V ≠ 0 := fun x => x h.isLive
  have hf : Follows (pubS V head) V.s := ⟨rfl, h.lo⟩
  have hv : ValidS (pubS V head) := pub_validS h.fok hg hh
  obtain ⟨a1, a2, a3, a4, a5⟩ := h.pub1
  have hR : pubR D V head = runS [yS, wS (pubS V head), yS] D := by
    unfold pubR
    rw [if_neg hL, if_neg (by omega), if_neg (by omega)]
  have y1 : yS D = if actE D = 0 then (pubD1 D, 0) else (actD D, 2) := by
    unfold yS
    obtain ⟨s1, s2⟩ := sync_alive h.pow
    rw [s1, s2]
    rcases actE_two D with e | e
    · rw [e, if_pos rfl, if_pos rfl]; rfl
    · rw [e, if_neg (by decide), if_neg (by decide)]
  have r0 : runS [yS, wS (pubS V head), yS] D = if actE D = 0 then (if (wS (pubS V head) (pubD1 D)).2 = 0 then runS [yS] (wS (pubS V head) (pubD1 D)).1 else wS (pubS V head) (pubD1 D)) else (actD D, 2) := by
    show (if (yS D).2 = 0 then _ else yS D) = _
    rw [y1]
    rcases actE_two D with e | e
    · rw [if_pos e, if_pos rfl, if_pos e]; rfl
    · have ne : ¬ actE D = 0 := by omega
      rw [if_neg ne, if_neg (show ¬ ((actD D, (2 : Int)).2 = 0) by show ¬ (2 : Int) = 0; decide), if_neg ne]
  rcases actE_two D with e1 | e1
  · have hd1 : (pubD1 D).dead = false := act_zero e1 h.pow
    have hh1 : (pubD1 D).has ((pubS V head).gen % 2) := by have := a1.ok.lo; exact ⟨by omega, by omega⟩
    obtain ⟨w1, w2⟩ := write_alive hd1 hh1 (length_superB (pubS V head))
    have hw : wS (pubS V head) (pubD1 D) = (pubD2 D (pubS V head), actE (pubD1 D)) := by
      unfold wS
      rw [w1, w2]; rfl
    rw [hw, if_pos e1] at r0
    obtain ⟨c1, c2, c3, c4⟩ := pubD2_facts a1.ok (pubS V head)
    rcases actE_two (pubD1 D) with e2 | e2
    · have hd2 : (pubD2 D (pubS V head)).dead = false := act_zero (D := openW (pubD1 D) ((pubS V head).gen % 2) (superB (pubS V head))) e2 hd1
      have y2 : yS (pubD2 D (pubS V head)) = if actE (pubD2 D (pubS V head)) = 0 then (pubD3 D (pubS V head), 0) else (actD (pubD2 D (pubS V head)), 2) := by
        unfold yS
        obtain ⟨s1, s2⟩ := sync_alive hd2
        rw [s1, s2]
        rcases actE_two (pubD2 D (pubS V head)) with e | e
        · rw [e, if_pos rfl, if_pos rfl]; rfl
        · rw [e, if_neg (by decide), if_neg (by decide)]
      have r1 : runS [yS] (pubD2 D (pubS V head)) = yS (pubD2 D (pubS V head)) := by
        show (if (yS (pubD2 D (pubS V head))).2 = 0 then ((yS (pubD2 D (pubS V head))).1, (0 : Int)) else yS (pubD2 D (pubS V head))) = _
        split
        · rename_i hz
          exact Prod.ext rfl hz.symm
        · rfl
      rw [if_pos e2] at r0
      have r2 : pubR D V head = yS (pubD2 D (pubS V head)) := by rw [hR, r0]; exact r1
      rcases actE_two (pubD2 D (pubS V head)) with e3 | e3
      · left
        rw [y2, if_pos e3] at r2
        have hok3 : DOk (pubD3 D (pubS V head)) := flush_okD (actD_ok c4)
        have hp3 : (pubD3 D (pubS V head)).pages = (pubD1 D).pages.set ((pubS V head).gen % 2).toNat (superB (pubS V head)) := by
          show applyQ (actD (pubD2 D (pubS V head))).pages (actD (pubD2 D (pubS V head))).q = _
          rw [actD_pages, actD_q, c1, c2]; rfl
        have hP3 : Plat (pubD3 D (pubS V head)) (pubS V head) ps := a1.next hf hv hok3 hp3 rfl h.lenN a5
        rw [r2]
        refine ⟨rfl, rfl, ⟨hP3, ?_, ?_, ?_, h.hi, h.lenN, ?_⟩, rfl⟩
        · show (actD (pubD2 D (pubS V head))).epoch = V.mine
          rw [actD_epoch, c3]; exact h.live
        · exact act_zero e3 hd2
        · exact Int.le_refl _
        · intro n h1 h2
          exact hP3.low h1 h2
      · right
        rw [y2, if_neg (by omega)] at r2
        rw [r2]
        refine ⟨rfl, ?_, act_dead e3, ?_, ?_, ?_, actD_ok c4, h.pub2 hf hv rfl (actD_ok c4) (by rw [actD_pages]; exact c1) (by rw [actD_q]; exact c2)⟩
        · intro h0
          have : (pubD2 D (pubS V head)).armed = 0 := by
            have q1 : (pubD1 D).armed = 0 := by show (actD D).armed = 0; rw [(act_arm0 h0).2]; exact h0
            show (actD _).armed = 0
            rw [(act_arm0 (D := openW (pubD1 D) ((pubS V head).gen % 2) (superB (pubS V head))) q1).2]; exact q1
          rw [(act_arm0 this).1] at e3; cases e3
        · show (actD (pubD2 D (pubS V head))).epoch = _
          rw [actD_epoch, c3]; exact h.live
        · show (actD (pubD2 D (pubS V head))).q.length ≤ _
          rw [actD_q, c2]; simp
        · show (actD (pubD2 D (pubS V head))).pages.length = _
          rw [actD_pages, c1, a3]
    · right
      rw [if_neg (by omega)] at r0
      rw [hR, r0]
      refine ⟨e2, ?_, act_dead (D := openW (pubD1 D) ((pubS V head).gen % 2) (superB (pubS V head))) e2, ?_, ?_, ?_, c4, h.pub2 hf hv rfl c4 c1 c2⟩
      · intro h0
        have : (pubD1 D).armed = 0 := by show (actD D).armed = 0; rw [(act_arm0 h0).2]; exact h0
        rw [(act_arm0 this).1] at e2; cases e2
      · rw [c3]; exact h.live
      · show (pubD2 D (pubS V head)).q.length ≤ _
        rw [c2]; simp
      · show (pubD2 D (pubS V head)).pages.length = _
        rw [c1, a3]
  · right
    rw [if_neg (by omega)] at r0
    rw [hR, r0]
    refine ⟨rfl, ?_, act_dead e1, ?_, ?_, ?_, actD_ok h.ok, (h.plat.of_eq (actD_ok h.ok) (actD_pages D) (by rw [actD_q]; exact h.plat.que)).dead _⟩
    · intro h0; rw [(act_arm0 h0).1] at e1; cases e1
    · show (actD D).epoch = _
      rw [actD_epoch]; exact h.live
    · show (actD D).q.length ≤ _
      rw [actD_q]; omega
    · show (actD D).pages.length = _
      rw [actD_pages]
end Go.Proofs.YtfbamkgmnbobeaaDoor

/- A page file as values: Format, on a disk that holds none, and a loss of power on the way. No program in sight. -/
namespace Go.Proofs.YtfbamkgmnbobeaaDoor
set_option linter.unusedSectionVars false
set_option linter.unusedSimpArgs false
open Go Go.RowKit
set_option linter.unusedVariables false
structure Blank (D : DV) : Prop where
  ok : DOk D
  pow : D.dead = false
  que : D.q = []
  z1 : D.pg 1 = zeroPage
  z0 : D.pg 0 = zeroPage ∨ ∃ S, ValidS S ∧ S.gen = 0 ∧ D.pg 0 = superB S
theorem chooseE_blank {a : List UInt8} (h : a = zeroPage ∨ ∃ S, ValidS S ∧ S.gen = 0 ∧ a = superB S) : chooseE a zeroPage = 55 := by
  have hz : zeroPage = zerosB 256 := rfl
  have u : unpE zeroPage = 52 := by rw [hz]; exact unpE_zero
  have e : emptyB zeroPage = true := by rw [hz]; exact emptyB_zero
  have c1 : ¬ (unpE a = 0 ∧ unpE zeroPage = 0) := fun x => by rw [u] at x; exact absurd x.2 (by decide)
  have c2 : ¬ emptyB zeroPage = false := by rw [e]; decide
  have c3 : (unpE a = 0 ∧ (unpS a).gen = 0) ∨ emptyB a = true := by
    rcases h with rfl | ⟨S, h1, h2, rfl⟩
    · exact .inr e
    · exact .inl ⟨unpE_superB S h1, by rw [unpS_superB S h1]; exact h2⟩
  unfold chooseE
  rw [if_neg c1, if_neg c2, if_pos c3]
theorem Blank.slots {D : DV} (h : Blank D) : slotsE D = 55 := by
  unfold slotsE
  rw [if_neg (by rw [h.pow]; decide)]
  have e0 : D.cur 0 = D.pg 0 := cur_other fun x hx => by rw [h.que] at hx; cases hx
  have e1 : D.cur 1 = D.pg 1 := cur_other fun x hx => by rw [h.que] at hx; cases hx
  rw [e0, e1, h.z1]
  exact chooseE_blank h.z0
theorem Blank.open {D : DV} (h : Blank D) : openE D = 55 ∧ openD D = slotsD D := by
  have e : openE D = 55 := by
    unfold openE
    rw [if_pos (by rw [h.slots]; decide), h.slots]
  exact ⟨e, if_neg (by rw [e]; decide)⟩
theorem Blank.of_slots {D : DV} (h : Blank D) : Blank (slotsD D) := by
  obtain ⟨f1, f2, f3, f4, f5, _, _⟩ := slotsD_same D
  have hg : ∀ n, (slotsD D).pg n = D.pg n := fun n => by unfold DV.pg; rw [f1]
  exact ⟨(slotsD_facts D h.ok).2.2, by rw [f4]; exact h.pow, by rw [f2]; exact h.que, by rw [hg]; exact h.z1, by rw [hg]; exact h.z0⟩
theorem newD_blank {n : Nat} (h1 : 3 ≤ n) (h2 : n ≤ 4096) (a : Int) (ha : 0 ≤ a ∧ a ≤ 9223372036854775807) : Blank { newD n with armed := a } := by
  have hz : ∀ i, i < n → (newD n).pg i = zeroPage := fun i hi => by
    show (List.replicate n zeroPage).getD i [] = _
    rw [List.getD_eq_getElem?_getD, List.getElem?_replicate, if_pos hi]; rfl
  exact ⟨armed_ok (newD_ok h1 h2) ha, rfl, rfl, hz 1 (by omega), .inl (hz 0 (by omega))⟩
theorem actD_armed (D : DV) : (actD D).armed = if D.armed = 0 then 0 else D.armed - 1 := by
  unfold actD
  split
  · rename_i h; exact h
  · rfl
theorem set_pg_eq {D E : DV} {p : Nat} {d : List UInt8} (he : E.pages = D.pages.set p d) (hp : p < D.pages.length) : E.pg p = d := by
  unfold DV.pg
  rw [he, List.getD_eq_getElem?_getD, List.getElem?_set_self hp]; rfl
theorem set_pg_ne {D E : DV} {p n : Nat} {d : List UInt8} (he : E.pages = D.pages.set p d) (hp : p ≠ n) : E.pg n = D.pg n := by
  unfold DV.pg
  rw [he, List.getD_eq_getElem?_getD, List.getElem?_set_ne hp, ← List.getD_eq_getElem?_getD]
theorem pg_eq {D E : DV} (he : E.pages = D.pages) (n : Nat) : E.pg n = D.pg n := by unfold DV.pg; rw [he]
def firstS (w : Int) (n : Nat) : SupV := ⟨w, 0, 2, 0, n⟩
def secondS (w : Int) (n : Nat) : SupV := ⟨w, 1, 2, 0, n⟩
theorem crash_super {E : DV} {p : Nat} {S : SupV} (hq : E.q = [(p, superB S)]) (hp : p < E.pages.length) (ho : (E.pg p).length = 256) (hz : (E.pg p).drop 64 = zerosB 192) (fates : List UInt8) :
    ((crashD E fates).pages = E.pages) ∨ (crashD E fates).pages = E.pages.set p (superB S) := by
  rcases crash_one hq fates with hc | ⟨f, hc⟩
  · exact .inl hc
  · rcases mixS_two f (superB S) (E.pg p) (length_superB _) ho (by rw [superB_tail, hz]) with hx | hx
    · rw [hx] at hc; exact .inr hc
    · rw [hx, set_same rfl hp] at hc; exact .inl hc
theorem zero_tail : zeroPage.drop 64 = zerosB 192 := by unfold zeroPage zerosB; rw [List.drop_replicate]
theorem Blank.tail0 {D : DV} (h : Blank D) : (D.pg 0).length = 256 ∧ (D.pg 0).drop 64 = zerosB 192 := by
  rcases h.z0 with e | ⟨S, _, _, e⟩
  · rw [e]; exact ⟨zeroPage_len, zero_tail⟩
  · rw [e]; exact ⟨length_superB _, superB_tail _⟩
theorem Blank.format {D : DV} (h : Blank D) {w : Int} (hw : 1 ≤ w ∧ w ≤ 32) :
    ((D.armed = 0 ∨ 5 ≤ D.armed) ∧ (formatR D w).2 = 0 ∧ Plat (formatR D w).1 (secondS w D.pages.length) [] ∧ (formatR D w).1.q = [] ∧ (formatR D w).1.dead = false ∧ (formatR D w).1.epoch = D.epoch ∧ (D.armed = 0 → (formatR D w).1.armed = 0) ∧ (formatR D w).1.pages.length = D.pages.length) ∨
    ((1 ≤ D.armed ∧ D.armed ≤ 4) ∧ (formatR D w).2 = 2 ∧ (formatR D w).1.pages.length = D.pages.length ∧ DOk (formatR D w).1 ∧ (formatR D w).1.q.length ≤ 2 ∧ ∀ fates, Blank (crashD (formatR D w).1 fates) ∨ Plat (crashD (formatR D w).1 fates) (secondS w D.pages.length) []) := by
  have hB := h.of_slots
  obtain ⟨f1, f2, f3, f4, f5, _, _⟩ := slotsD_same D
  have hR : formatR D w = runS [wS (firstS w D.pages.length), yS, wS (secondS w D.pages.length), yS] (slotsD D) := by
    unfold formatR
    rw [if_neg (by rw [h.pow]; decide), if_neg (by omega), if_neg (by rw [h.slots]; decide)]
    rfl
  have hlen : (slotsD D).pages.length = D.pages.length := by rw [f1]
  rw [hR, ← hlen, ← f5, ← f3]
  generalize slotsD D = X at *
  clear hR f1 f2 f3 f4 f5 h hlen
  have hlo := hB.ok.lo
  have hhi := hB.ok.hi
  have hv0 : ValidS (firstS w X.pages.length) := valid_new hw ⟨hlo, hhi⟩ (by decide)
  have hv1 : ValidS (secondS w X.pages.length) := valid_new hw ⟨hlo, hhi⟩ (by decide)
  have hf : Follows (secondS w X.pages.length) (firstS w X.pages.length) := ⟨rfl, by show (2 : Int) ≤ 2; decide⟩
  have ha := hB.ok.arm
  obtain ⟨t1, t2⟩ := hB.tail0
  have hh0 : X.has ((firstS w X.pages.length).gen % 2) := ⟨by show (0 : Int) ≤ 0 % 2; decide, by show (0 : Int) % 2 < _; omega⟩
  obtain ⟨w1, w2⟩ := write_alive hB.pow hh0 (length_superB (firstS w X.pages.length))
  have h1 : wS (firstS w X.pages.length) X = (actD (openW X 0 (superB (firstS w X.pages.length))), actE X) := by
    unfold wS
    rw [w1, w2]; rfl
  have ho1 : DOk (openW X 0 (superB (firstS w X.pages.length))) := open_ok hB.ok hh0 (length_superB _)
  generalize hF1 : actD (openW X 0 (superB (firstS w X.pages.length))) = F1 at h1
  have p1 : F1.pages = X.pages := by rw [← hF1, actD_pages]; rfl
  have q1 : F1.q = [(0, superB (firstS w X.pages.length))] := by rw [← hF1, actD_q]; show X.q ++ _ = _; rw [hB.que]; rfl
  have k1 : DOk F1 := by rw [← hF1]; exact actD_ok ho1
  have ep1 : F1.epoch = X.epoch := by rw [← hF1, actD_epoch]; rfl
  have m1 : F1.armed = if X.armed = 0 then 0 else X.armed - 1 := by rw [← hF1, actD_armed]; rfl
  have c1 : ∀ E : DV, E.pages = X.pages → E.q = [(0, superB (firstS w X.pages.length))] → DOk E → ∀ fates, Blank (crashD E fates) := by
    intro E hp hq hE fates
    have hg0 : E.pg 0 = X.pg 0 := pg_eq hp 0
    rcases crash_super hq (by rw [hp]; omega) (by rw [hg0]; exact t1) (by rw [hg0]; exact t2) fates with hc | hc
    · have e : ∀ n, (crashD E fates).pg n = X.pg n := fun n => by rw [pg_eq hc, pg_eq hp]
      exact ⟨crash_ok hE fates, rfl, rfl, by rw [e]; exact hB.z1, by rw [e]; exact hB.z0⟩
    · refine ⟨crash_ok hE fates, rfl, rfl, ?_, .inr ⟨_, hv0, rfl, set_pg_eq hc (by rw [hp]; omega)⟩⟩
      rw [set_pg_ne hc (by decide), pg_eq hp]; exact hB.z1
  have r1 : ∀ fs, runS (wS (firstS w X.pages.length) :: fs) X = if actE X = 0 then runS fs F1 else (F1, actE X) := fun fs => by
    show (if (wS (firstS w X.pages.length) X).2 = 0 then _ else wS (firstS w X.pages.length) X) = _
    rw [h1]
  rw [r1]
  rcases (actE_two X).symm with e | e
  · right
    have e' : X.armed = 1 := by unfold actE at e; split at e; assumption; cases e
    rw [if_neg (by omega)]
    exact ⟨by omega, e, by rw [p1], k1, by show F1.q.length ≤ 2; rw [q1]; simp, fun fates => .inl (c1 F1 p1 q1 k1 fates)⟩
  have n1 : X.armed ≠ 1 := by intro h0; unfold actE at e; rw [if_pos h0] at e; cases e
  rw [if_pos e]
  have d1 : F1.dead = false := by rw [← hF1]; exact act_zero (D := openW X 0 (superB (firstS w X.pages.length))) e hB.pow
  have ysync : ∀ G : DV, G.dead = false → ∀ fs, runS (yS :: fs) G = if actE G = 0 then runS fs (flushD (actD G)) else (actD G, 2) := fun G hG fs => by
    obtain ⟨s1, s2⟩ := sync_alive hG
    have hy : yS G = if actE G = 0 then (flushD (actD G), 0) else (actD G, 2) := by
      unfold yS
      rw [s1, s2]
      rcases actE_two G with e | e
      · rw [e, if_pos rfl, if_pos rfl]
      · rw [e, if_neg (by decide), if_neg (by decide)]
    show (if (yS G).2 = 0 then _ else yS G) = _
    rw [hy]
    by_cases e : actE G = 0
    · rw [if_pos e, if_pos rfl, if_pos e]
    · rw [if_neg e, if_neg (show ¬ ((actD G, (2 : Int)).2 = 0) by show ¬ (2 : Int) = 0; decide), if_neg e]
  rw [ysync F1 d1]
  rcases (actE_two F1).symm with e2 | e2
  · right
    have e' : F1.armed = 1 := by unfold actE at e2; split at e2; assumption; cases e2
    rw [if_neg (by omega)]
    refine ⟨?_, rfl, by show (actD F1).pages.length = _; rw [actD_pages, p1], actD_ok k1, by show (actD F1).q.length ≤ 2; rw [actD_q, q1]; simp, fun fates => .inl (c1 (actD F1) (by rw [actD_pages, p1]) (by rw [actD_q, q1]) (actD_ok k1) fates)⟩
    split at m1 <;> omega
  have n2 : F1.armed ≠ 1 := by intro h0; unfold actE at e2; rw [if_pos h0] at e2; cases e2
  rw [if_pos e2]
  generalize hF2 : flushD (actD F1) = F2
  have p2 : F2.pages = X.pages.set 0 (superB (firstS w X.pages.length)) := by
    rw [← hF2]
    show applyQ (actD F1).pages (actD F1).q = _
    rw [actD_pages, actD_q, p1, q1]; rfl
  have q2 : F2.q = [] := by rw [← hF2]; rfl
  have k2 : DOk F2 := by rw [← hF2]; exact flush_okD (actD_ok k1)
  have d2 : F2.dead = false := by rw [← hF2]; exact act_zero e2 d1
  have ep2 : F2.epoch = X.epoch := by rw [← hF2]; show (actD F1).epoch = _; rw [actD_epoch, ep1]
  have m2 : F2.armed = if F1.armed = 0 then 0 else F1.armed - 1 := by rw [← hF2]; exact actD_armed F1
  have l2 : F2.pages.length = X.pages.length := by rw [p2, List.length_set]
  have g20 : F2.pg 0 = superB (firstS w X.pages.length) := set_pg_eq p2 (by omega)
  have g21 : F2.pg 1 = zeroPage := by rw [set_pg_ne p2 (by decide)]; exact hB.z1
  have b2 : ∀ E : DV, E.pages = F2.pages → DOk E → E.q = [] → E.dead = false → Blank E := fun E hp hE hq hd => ⟨hE, hd, hq, by rw [pg_eq hp]; exact g21, .inr ⟨_, hv0, rfl, by rw [pg_eq hp]; exact g20⟩⟩
  have s2 : ∀ E : DV, E.pages = F2.pages.set 1 (superB (secondS w X.pages.length)) → DOk E → E.q = [] → Plat E (secondS w X.pages.length) [] := fun E hp hE hq =>
    ⟨hE, hv1, by rw [hp, List.length_set, l2]; rfl, ⟨_, hv0, hf, set_pg_eq hp (by omega), by
        show E.pg 0 = _
        rw [set_pg_ne hp (by decide)]; exact g20⟩, by show (2 : Int) - 2 ≤ 0; decide, fun x hx => (by cases hx), fun n h1 h2 => (by have h2 : (n : Int) < 2 := h2; omega), fun x hx => by rw [hq] at hx; cases hx⟩
  have hh1 : F2.has ((secondS w X.pages.length).gen % 2) := ⟨by show (0 : Int) ≤ 1 % 2; decide, by show (1 : Int) % 2 < _; omega⟩
  obtain ⟨w3, w4⟩ := write_alive d2 hh1 (length_superB (secondS w X.pages.length))
  have h3 : wS (secondS w X.pages.length) F2 = (actD (openW F2 1 (superB (secondS w X.pages.length))), actE F2) := by
    unfold wS
    rw [w3, w4]; rfl
  have ho3 : DOk (openW F2 1 (superB (secondS w X.pages.length))) := open_ok k2 hh1 (length_superB _)
  generalize hF3 : actD (openW F2 1 (superB (secondS w X.pages.length))) = F3 at h3
  have p3 : F3.pages = F2.pages := by rw [← hF3, actD_pages]; rfl
  have q3 : F3.q = [(1, superB (secondS w X.pages.length))] := by rw [← hF3, actD_q]; show F2.q ++ _ = _; rw [q2]; rfl
  have k3 : DOk F3 := by rw [← hF3]; exact actD_ok ho3
  have ep3 : F3.epoch = X.epoch := by rw [← hF3, actD_epoch]; exact ep2
  have m3 : F3.armed = if F2.armed = 0 then 0 else F2.armed - 1 := by rw [← hF3, actD_armed]; rfl
  have c3 : ∀ E : DV, E.pages = F2.pages → E.q = [(1, superB (secondS w X.pages.length))] → DOk E → ∀ fates, Blank (crashD E fates) ∨ Plat (crashD E fates) (secondS w X.pages.length) [] := by
    intro E hp hq hE fates
    have hg1 : E.pg 1 = zeroPage := by rw [pg_eq hp]; exact g21
    rcases crash_super hq (by rw [hp]; omega) (by rw [hg1]; exact zeroPage_len) (by rw [hg1]; exact zero_tail) fates with hc | hc
    · exact .inl (b2 _ (by rw [hc, hp]) (crash_ok hE fates) rfl rfl)
    · exact .inr (s2 _ (by rw [hc, hp]) (crash_ok hE fates) rfl)
  have r3 : ∀ fs, runS (wS (secondS w X.pages.length) :: fs) F2 = if actE F2 = 0 then runS fs F3 else (F3, actE F2) := fun fs => by
    show (if (wS (secondS w X.pages.length) F2).2 = 0 then _ else wS (secondS w X.pages.length) F2) = _
    rw [h3]
  rw [r3]
  rcases (actE_two F2).symm with e3 | e3
  · right
    have e' : F2.armed = 1 := by unfold actE at e3; split at e3; assumption; cases e3
    rw [if_neg (by omega)]
    refine ⟨?_, e3, by show F3.pages.length = _; rw [p3, l2], k3, by show F3.q.length ≤ 2; rw [q3]; simp, c3 F3 p3 q3 k3⟩
    split at m1 <;> split at m2 <;> omega
  have n3 : F2.armed ≠ 1 := by intro h0; unfold actE at e3; rw [if_pos h0] at e3; cases e3
  rw [if_pos e3]
  have d3 : F3.dead = false := by rw [← hF3]; exact act_zero (D := openW F2 1 (superB (secondS w X.pages.length))) e3 d2
  rw [ysync F3 d3]
  rcases (actE_two F3).symm with e4 | e4
  · right
    have e' : F3.armed = 1 := by unfold actE at e4; split at e4; assumption; cases e4
    rw [if_neg (by omega)]
    refine ⟨?_, rfl, by show (actD F3).pages.length = _; rw [actD_pages, p3, l2], actD_ok k3, by show (actD F3).q.length ≤ 2; rw [actD_q, q3]; simp, c3 (actD F3) (by rw [actD_pages, p3]) (by rw [actD_q, q3]) (actD_ok k3)⟩
    split at m1 <;> split at m2 <;> split at m3 <;> omega
  have n4 : F3.armed ≠ 1 := by intro h0; unfold actE at e4; rw [if_pos h0] at e4; cases e4
  rw [if_pos e4]
  left
  have p4 : (flushD (actD F3)).pages = F2.pages.set 1 (superB (secondS w X.pages.length)) := by
    show applyQ (actD F3).pages (actD F3).q = _
    rw [actD_pages, actD_q, p3, q3]; rfl
  have hP := s2 _ p4 (flush_okD (actD_ok k3)) rfl
  refine ⟨?_, rfl, hP, rfl, act_zero e4 d3, ?_, fun h0 => ?_, ?_⟩
  · split at m1 <;> split at m2 <;> split at m3 <;> omega
  · show (actD F3).epoch = _
    rw [actD_epoch, ep3]
  · show (actD F3).armed = 0
    rw [actD_armed, m3, m2, m1, if_pos h0]; rfl
  · show (flushD (actD F3)).pages.length = _
    rw [p4, List.length_set, l2]
end Go.Proofs.YtfbamkgmnbobeaaDoor
