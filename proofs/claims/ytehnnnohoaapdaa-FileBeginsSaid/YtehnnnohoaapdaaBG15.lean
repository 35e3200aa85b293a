/- Texts joined: Law7, LawB, OpenF, Law8. -/
import Derived.Test.YtehnnnohoaapdaaBG14
import Derived.Test.YtehnnnohoaapdaaRows
import Derived.Test.YtehnnnohoaapdaaBG00
import Derived.SizedLaws
/- Behind a loss of power. -/
namespace Go.Proofs.Ytehnnnohoaapdaa
open Go Go.RowKit
set_option linter.unusedVariables false
set_option linter.unusedSimpArgs false
end Go.Proofs.Ytehnnnohoaapdaa

/- One act on the book, whatever it is; and what stands behind a loss of power. -/
namespace Go.Proofs.Ytehnnnohoaapdaa
open Go Go.RowKit
set_option linter.unusedVariables false
structure BInv (D : DV) (V : FV) (B : BV) : Prop where
  inv : Inv D V B.ps
  mark : V.s.mark = B.mark
  gen : V.s.gen = B.gen
  head : V.s.head = B.head
  inm : B.inMark = 0
  len : B.ps.length ≤ D.pages.length
structure Kept (D E : DV) (V V' : FV) (B B' : BV) : Prop where
  pages : E.pages.length = D.pages.length
  que : E.q.length ≤ D.q.length + 1
  width : V'.s.width = V.s.width
  gen : V'.s.gen ≤ V.s.gen + 1
  mark : B.mark ≤ B'.mark
  old : ∀ n : Nat, 2 ≤ n → (n : Int) < B.mark → pgAt B'.ps n = pgAt B.ps n
theorem Kept.refl (D : DV) (V : FV) (B : BV) : Kept D D V V B B := ⟨rfl, Nat.le_succ _, rfl, by omega, Int.le_refl _, fun _ _ _ => rfl⟩
section
variable {D : DV} {V : FV} {B : BV} {p pg mb f b : Nat} {qv : Value} {bx : BX} {w : World}
end
end Go.Proofs.Ytehnnnohoaapdaa

/- Reading acts and lists of lists that came in. -/
namespace Go.Proofs.Ytehnnnohoaapdaa
open Go Go.RowKit Go.ChangeShapes Go.WideShapes Go.ChangeAt Go.Deep
set_option linter.unusedVariables false
section
variable {H : Type} {enc : TypeId × Value → H} {P : Program} {w : World} {base : Nat} {sp : Nat → Bool} {held : Bool} {t e : TypeId}
end
section
variable {H : Type} {enc : TypeId × Value → H} {P : Program} {w : World} {base : Nat} {sp : Nat → Bool} {held : Bool} {t e : TypeId}
end
structure AV where
  k : Int
  n : Int
  ao : Option Addr
  m : Nat
  c : Nat
  l : List UInt8
deriving Inhabited
structure RV where
  ao : Option Addr
  m : Nat
  c : Nat
  l : List UInt8
deriving Inhabited
section
variable {H : Type} {enc : TypeId × Value → H} {w : World} {base : Nat} {sp : Nat → Bool} {held : Bool}
end
theorem Mem.range {w0 w : World} {F : List Nat} {L : List Asn} (h : Mem w0 F w L) {b o : Nat} {ys : List Value} (hr : w0.rangeAt b o ys) (hF : b ∉ F) : w.rangeAt b o ys := fun j v hj => by
  have h1 := hr j v hj
  exact (World.cell?_of_block (w := w0) (w' := w) (a := ⟨b, o + j, none⟩) (h.old (block_lt_of_cell h1) hF)).trans h1
theorem Mem.off_row {w0 w : World} {L : List Asn} (h : Mem w0 [] w L) {ao : Option Addr} {n : Nat} {l : List UInt8} (hr : Row w0 ao n l) : ∀ b o, ao = some ⟨b, o, none⟩ → 0 < n → b ∉ foots L := by
  intro b o e hn
  obtain ⟨b', o', e', hc⟩ := hr.2 0 (by rw [hr.1]; exact hn)
  rw [e'] at e
  cases e
  exact h.old_off (block_lt_of_cell hc) (by simp)
theorem Mem.below {w w' : World} {L : List Asn} (h : Mem w [] w' L) : Below w.heap.size w w' := ⟨h.grew.os, h.grew.tape, h.grew.output, h.grew.size, fun k hk => h.grew.block k hk (by simp)⟩
end Go.Proofs.Ytehnnnohoaapdaa

/- The law FileBegins. -/
namespace Go.Proofs.Ytehnnnohoaapdaa
open Go Go.RowKit
set_option linter.unusedVariables false
set_option linter.unusedSimpArgs false
theorem format_eq {D : DV} {p pg mb : Nat} {qv : Value} {w : World} (hM : Mem w (foots [disk D p pg mb qv]) w [disk D p pg mb qv]) {width er : Int} {E : DV} (hF : formatR D width = (E, er)) (hq : D.q.length ≤ 400000000000) :
    Calls Try.prog 15 #[.pointer (some ⟨p, 0, none⟩), .int .i64 width] w fun e w' => ∃ qv', e = .returned (.int .i64 er) ∧ Mem w (foots [disk D p pg mb qv]) w' [disk E p pg mb qv'] := by
  have := format_any hM width hq
  rw [hF] at this
  exact this
theorem open_blank {D : DV} {p pg mb : Nat} {qv : Value} {w : World} (hM : Mem w (foots [disk D p pg mb qv]) w [disk D p pg mb qv]) (hB : Blank D) :
    Calls Try.prog 18 #[.pointer (some ⟨p, 0, none⟩)] w fun e w' => ∃ E, e = .returned (.tuple #[.pointer none, .int .i64 55]) ∧ Mem w (foots [disk D p pg mb qv]) w' [disk E p pg mb qv] ∧ Blank E ∧ E.epoch = D.epoch ∧ E.armed = D.armed ∧ E.pages.length = D.pages.length := by
  obtain ⟨e1, e2⟩ := hB.open
  obtain ⟨f1, f2, f3, f4, f5, _, _⟩ := slotsD_same D
  refine (open_any hM).mono ?_
  rintro e w' (⟨h1, rfl, h2⟩ | ⟨h1, _⟩)
  · rw [e1]
    rw [e2] at h2
    exact ⟨_, rfl, h2, hB.of_slots, f3, f5, by rw [f1]⟩
  · omega
theorem format_taken2 {D : DV} {p pg mb : Nat} {qv : Value} {w : World} (hM : Mem w (foots [disk D p pg mb qv]) w [disk D p pg mb qv]) {V : FV} {ps : Pgs} (hI : Inv D V ps) {width : Int} (hw : 1 ≤ width ∧ width ≤ 32) (hq : D.q.length ≤ 400000000000) :
    Calls Try.prog 15 #[.pointer (some ⟨p, 0, none⟩), .int .i64 width] w fun e w' => ∃ E qv', e = .returned (.int .i64 60) ∧ Mem w (foots [disk D p pg mb qv]) w' [disk E p pg mb qv'] ∧ Inv E V ps := by
  obtain ⟨c1, c2⟩ := hI.plat.choose
  obtain ⟨s1, s2⟩ := hI.plat.slots
  obtain ⟨f1, f2, f3, f4, f5, f6, f7⟩ := slotsD_same D
  have e0 : slotsE D = 0 := by unfold slotsE; rw [if_neg (by rw [hI.pow]; decide), s1, s2, c1]
  have e1 : formatR D width = (slotsD D, 60) := by
    unfold formatR
    rw [if_neg (by rw [hI.pow]; decide), if_neg (by omega), if_pos (by rw [e0]; decide)]
  have := format_any hM width hq
  rw [e1] at this
  refine this.mono ?_
  rintro e w' ⟨qv', rfl, h2⟩
  refine ⟨_, qv', rfl, h2, ?_⟩
  exact ⟨hI.plat.of_eq (slotsD_facts D hI.ok).2.2 f1 (by rw [f2]; exact hI.plat.que), by rw [f3]; exact hI.live, by rw [f4]; exact hI.pow, hI.lo, hI.hi, hI.lenN, fun n h1 h2 => by rw [cur_of_eq f1 f2]; exact hI.cur n h1 h2⟩
theorem live_ok {V : FV} {f : Nat} {ps : Pgs} {D : DV} {p pg mb : Nat} {qv : Value} {w : World} (hM : Mem w (foots [disk D p pg mb qv, blk f 96 (fC V p)]) w [disk D p pg mb qv, blk f 96 (fC V p)]) (hI : Inv D V ps) :
    Calls Try.prog 21 #[.pointer (some ⟨f, 0, none⟩)] w fun e w' => e = .returned (.int .i64 0) ∧ Mem w (foots [disk D p pg mb qv, blk f 96 (fC V p)]) w' [disk D p pg mb qv, blk f 96 (fC V p)] := by
  have := live_any hM
  rw [hI.isLive] at this
  exact this
theorem armD_new (k : Nat) {n : Int} (hn : 0 ≤ n) : armD (newD k) n = { newD k with armed := n } := by
  have e : armD (newD k) n = { newD k with armed := max n 0 } := if_neg (by show ¬ false = true; decide)
  rw [e, Int.max_eq_left hn]
theorem fits_yes {k : Nat} {width : Int} (hn : 3 ≤ k ∧ k ≤ 64) (hw : 1 ≤ width ∧ width ≤ 32) : decide (Fits (k : Int) width) = true := decide_eq_true ⟨by omega, by omega, hw.1, hw.2⟩
set_option maxRecDepth 100000 in
set_option maxHeartbeats 800000 in
theorem begins_nofit (pages : Int) (width other at_ : Int) (ao : Option Addr) (nn c : Nat) (hf : ¬ Fits pages width) (w : World) : Calls Try.prog 3 #[.int .i64 pages, .int .i64 width, .int .i64 other, .int .i64 at_, .slice ao nn c] w fun e w' => e = .returned (.bool true) ∧ Mem w [] w' [] := by
  have M := Mem.nil w
  go_enter Try.func3, Try.ntmps3
  refine wp_seq_k (fun K1 hK1 => ?_)
  refine wp_region_lit ?_
  refine pl M (y_assign (v := .bool false) rfl rfl rfl) ?_
  simp only [Act.put, z1, z2, z3]
  refine wpList_nil ?_
  refine hK1 _ _ ?_
  clear hK1
  refine wp_seq_k (fun K2 hK2 => ?_)
  refine wp_seq_k (fun K3 hK3 => ?_)
  refine wp_region_lit ?_
  refine pl M (y_move (v := .int .i64 pages) rfl rfl rfl) ?_
  simp only [Act.put, z1, z2, z3]
  refine pl M (y_move (v := .int .i64 width) rfl rfl rfl) ?_
  simp only [Act.put, z1, z2, z3]
  refine pe rfl (fun K hK => ?_)
  refine e_call 11 [.int .i64 pages, .int .i64 width] rfl rfl Try.call11 (fits_any pages width _) ?_
  rintro e w4 ⟨rfl, H4⟩
  have M4 : Mem w [] w4 [] := M.step H4
  rw [(decide_eq_false hf)]
  refine ⟨_, rfl, ?_⟩
  refine hK.out _ _ ?_
  clear hK K
  simp only [Act.put, z1, z2, z3]
  refine pl M4 (y_not rfl rfl rfl rfl) ?_
  simp only [Act.put, z1, z2, z3]
  refine pl M4 (y_move (v := .bool true) rfl rfl rfl) ?_
  simp only [Act.put, z1, z2, z3]
  with_reducible refine pskip ?_ ?_
  · rfl
  simp only [Act.put, z1, z2, z3]
  with_reducible refine pskip ?_ ?_
  · rfl
  simp only [Act.put, z1, z2, z3]
  refine pl M4 (y_pickT (v := .bool true) rfl rfl rfl rfl) ?_
  simp only [Act.put, z1, z2, z3]
  refine pl M4 (y_move (v := .bool true) rfl rfl rfl) ?_
  simp only [Act.put, z1, z2, z3]
  with_reducible refine pskip ?_ ?_
  · rfl
  simp only [Act.put, z1, z2, z3]
  with_reducible refine pskip ?_ ?_
  · rfl
  simp only [Act.put, z1, z2, z3]
  refine pl M4 (y_pickT (v := .bool true) rfl rfl rfl rfl) ?_
  simp only [Act.put, z1, z2, z3]
  refine wpList_nil ?_
  refine hK3 _ _ ?_
  clear hK3
  refine wp_cond_true rfl ?_
  refine wp_seq_k (fun K5 hK5 => ?_)
  refine wp_region_lit ?_
  refine pl M4 (y_assign (v := .bool true) rfl rfl rfl) ?_
  simp only [Act.put, z1, z2, z3]
  refine wpList_nil ?_
  refine hK5 _ _ ?_
  clear hK5
  refine wp_ret ?_
  try simp only [Exit.inBlock, Exit.then]
  refine bodyPost_ret (v := .bool true) (res1 rfl rfl) rfl ?_
  exact ⟨rfl, M4.arr [] (by decide)⟩
set_option maxRecDepth 100000 in
set_option maxHeartbeats 800000 in
theorem begins_low (k : Nat) (width other at_ : Int) (ao : Option Addr) (nn c : Nat) (hn : 3 ≤ k ∧ k ≤ 64) (hw : 1 ≤ width ∧ width ≤ 32) (h : other < 1) (w : World) : Calls Try.prog 3 #[.int .i64 (k : Int), .int .i64 width, .int .i64 other, .int .i64 at_, .slice ao nn c] w fun e w' => e = .returned (.bool true) ∧ Mem w [] w' [] := by
  have M := Mem.nil w
  go_enter Try.func3, Try.ntmps3
  refine wp_seq_k (fun K1 hK1 => ?_)
  refine wp_region_lit ?_
  refine pl M (y_assign (v := .bool false) rfl rfl rfl) ?_
  simp only [Act.put, z1, z2, z3]
  refine wpList_nil ?_
  refine hK1 _ _ ?_
  clear hK1
  refine wp_seq_k (fun K2 hK2 => ?_)
  refine wp_seq_k (fun K3 hK3 => ?_)
  refine wp_region_lit ?_
  refine pl M (y_move (v := .int .i64 (k : Int)) rfl rfl rfl) ?_
  simp only [Act.put, z1, z2, z3]
  refine pl M (y_move (v := .int .i64 width) rfl rfl rfl) ?_
  simp only [Act.put, z1, z2, z3]
  refine pe rfl (fun K hK => ?_)
  refine e_call 11 [.int .i64 (k : Int), .int .i64 width] rfl rfl Try.call11 (fits_any (k : Int) width _) ?_
  rintro e w4 ⟨rfl, H4⟩
  have M4 : Mem w [] w4 [] := M.step H4
  rw [(fits_yes hn hw)]
  refine ⟨_, rfl, ?_⟩
  refine hK.out _ _ ?_
  clear hK K
  simp only [Act.put, z1, z2, z3]
  refine pl M4 (y_not rfl rfl rfl rfl) ?_
  simp only [Act.put, z1, z2, z3]
  refine pl M4 (y_move (v := .bool false) rfl rfl rfl) ?_
  simp only [Act.put, z1, z2, z3]
  refine pl M4 (y_move (v := .int .i64 other) rfl rfl rfl) ?_
  simp only [Act.put, z1, z2, z3]
  refine pl M4 (y_lss (b := true) rfl rfl rfl rfl (decide_eq_true h)) ?_
  simp only [Act.put, z1, z2, z3]
  refine pl M4 (y_pickF (v := .bool true) rfl rfl rfl rfl) ?_
  simp only [Act.put, z1, z2, z3]
  refine pl M4 (y_move (v := .bool true) rfl rfl rfl) ?_
  simp only [Act.put, z1, z2, z3]
  with_reducible refine pskip ?_ ?_
  · rfl
  simp only [Act.put, z1, z2, z3]
  with_reducible refine pskip ?_ ?_
  · rfl
  simp only [Act.put, z1, z2, z3]
  refine pl M4 (y_pickT (v := .bool true) rfl rfl rfl rfl) ?_
  simp only [Act.put, z1, z2, z3]
  refine wpList_nil ?_
  refine hK3 _ _ ?_
  clear hK3
  refine wp_cond_true rfl ?_
  refine wp_seq_k (fun K5 hK5 => ?_)
  refine wp_region_lit ?_
  refine pl M4 (y_assign (v := .bool true) rfl rfl rfl) ?_
  simp only [Act.put, z1, z2, z3]
  refine wpList_nil ?_
  refine hK5 _ _ ?_
  clear hK5
  refine wp_ret ?_
  try simp only [Exit.inBlock, Exit.then]
  refine bodyPost_ret (v := .bool true) (res1 rfl rfl) rfl ?_
  exact ⟨rfl, M4.arr [] (by decide)⟩
set_option maxRecDepth 100000 in
set_option maxHeartbeats 800000 in
theorem begins_high (k : Nat) (width other at_ : Int) (ao : Option Addr) (nn c : Nat) (hn : 3 ≤ k ∧ k ≤ 64) (hw : 1 ≤ width ∧ width ≤ 32) (h : 32 < other) (w : World) : Calls Try.prog 3 #[.int .i64 (k : Int), .int .i64 width, .int .i64 other, .int .i64 at_, .slice ao nn c] w fun e w' => e = .returned (.bool true) ∧ Mem w [] w' [] := by
  have M := Mem.nil w
  go_enter Try.func3, Try.ntmps3
  refine wp_seq_k (fun K1 hK1 => ?_)
  refine wp_region_lit ?_
  refine pl M (y_assign (v := .bool false) rfl rfl rfl) ?_
  simp only [Act.put, z1, z2, z3]
  refine wpList_nil ?_
  refine hK1 _ _ ?_
  clear hK1
  refine wp_seq_k (fun K2 hK2 => ?_)
  refine wp_seq_k (fun K3 hK3 => ?_)
  refine wp_region_lit ?_
  refine pl M (y_move (v := .int .i64 (k : Int)) rfl rfl rfl) ?_
  simp only [Act.put, z1, z2, z3]
  refine pl M (y_move (v := .int .i64 width) rfl rfl rfl) ?_
  simp only [Act.put, z1, z2, z3]
  refine pe rfl (fun K hK => ?_)
  refine e_call 11 [.int .i64 (k : Int), .int .i64 width] rfl rfl Try.call11 (fits_any (k : Int) width _) ?_
  rintro e w4 ⟨rfl, H4⟩
  have M4 : Mem w [] w4 [] := M.step H4
  rw [(fits_yes hn hw)]
  refine ⟨_, rfl, ?_⟩
  refine hK.out _ _ ?_
  clear hK K
  simp only [Act.put, z1, z2, z3]
  refine pl M4 (y_not rfl rfl rfl rfl) ?_
  simp only [Act.put, z1, z2, z3]
  refine pl M4 (y_move (v := .bool false) rfl rfl rfl) ?_
  simp only [Act.put, z1, z2, z3]
  refine pl M4 (y_move (v := .int .i64 other) rfl rfl rfl) ?_
  simp only [Act.put, z1, z2, z3]
  refine pl M4 (y_lss (b := false) rfl rfl rfl rfl (decide_eq_false (by omega))) ?_
  simp only [Act.put, z1, z2, z3]
  refine pl M4 (y_pickF (v := .bool false) rfl rfl rfl rfl) ?_
  simp only [Act.put, z1, z2, z3]
  refine pl M4 (y_move (v := .bool false) rfl rfl rfl) ?_
  simp only [Act.put, z1, z2, z3]
  refine pl M4 (y_move (v := .int .i64 other) rfl rfl rfl) ?_
  simp only [Act.put, z1, z2, z3]
  refine pl M4 (y_gtr (b := true) rfl rfl rfl rfl (decide_eq_true h)) ?_
  simp only [Act.put, z1, z2, z3]
  refine pl M4 (y_pickF (v := .bool true) rfl rfl rfl rfl) ?_
  simp only [Act.put, z1, z2, z3]
  refine wpList_nil ?_
  refine hK3 _ _ ?_
  clear hK3
  refine wp_cond_true rfl ?_
  refine wp_seq_k (fun K5 hK5 => ?_)
  refine wp_region_lit ?_
  refine pl M4 (y_assign (v := .bool true) rfl rfl rfl) ?_
  simp only [Act.put, z1, z2, z3]
  refine wpList_nil ?_
  refine hK5 _ _ ?_
  clear hK5
  refine wp_ret ?_
  try simp only [Exit.inBlock, Exit.then]
  refine bodyPost_ret (v := .bool true) (res1 rfl rfl) rfl ?_
  exact ⟨rfl, M4.arr [] (by decide)⟩
set_option maxRecDepth 100000 in
set_option maxHeartbeats 800000 in
theorem begins_a (k : Nat) (width other at_ : Int) (ao : Option Addr) (nn c : Nat) (w : World) (hn : 3 ≤ k ∧ k ≤ 64) (hw : 1 ≤ width ∧ width ≤ 32) (ho : 1 ≤ other ∧ other ≤ 32) (n : Int) (han : 1 + at_ % 5 = n) (l : List UInt8) (hr : Row w ao nn l) (hnn : nn ≤ 140737488351232) (E0 : DV) (hn4 : n ≤ 4) (hF : formatR ({ newD k with armed := n } : DV) width = (E0, 2)) (hB : Blank (crashD E0 l)) (hl : (crashD E0 l).pages.length = k) : Calls Try.prog 3 #[.int .i64 (k : Int), .int .i64 width, .int .i64 other, .int .i64 at_, .slice ao nn c] w fun e w' => e = .returned (.bool true) ∧ Mem w [] w' [] := by
  have M := Mem.nil w
  go_enter Try.func3, Try.ntmps3
  refine wp_seq_k (fun K1 hK1 => ?_)
  refine wp_region_lit ?_
  refine pl M (y_assign (v := .bool false) rfl rfl rfl) ?_
  simp only [Act.put, z1, z2, z3]
  refine wpList_nil ?_
  refine hK1 _ _ ?_
  clear hK1
  refine wp_seq_k (fun K2 hK2 => ?_)
  refine wp_seq_k (fun K3 hK3 => ?_)
  refine wp_region_lit ?_
  refine pl M (y_move (v := .int .i64 (k : Int)) rfl rfl rfl) ?_
  simp only [Act.put, z1, z2, z3]
  refine pl M (y_move (v := .int .i64 width) rfl rfl rfl) ?_
  simp only [Act.put, z1, z2, z3]
  refine pe rfl (fun K hK => ?_)
  refine e_call 11 [.int .i64 (k : Int), .int .i64 width] rfl rfl Try.call11 (fits_any (k : Int) width _) ?_
  rintro e w4 ⟨rfl, H4⟩
  have M4 : Mem w [] w4 [] := M.step H4
  rw [(fits_yes hn hw)]
  refine ⟨_, rfl, ?_⟩
  refine hK.out _ _ ?_
  clear hK K
  simp only [Act.put, z1, z2, z3]
  refine pl M4 (y_not rfl rfl rfl rfl) ?_
  simp only [Act.put, z1, z2, z3]
  refine pl M4 (y_move (v := .bool false) rfl rfl rfl) ?_
  simp only [Act.put, z1, z2, z3]
  refine pl M4 (y_move (v := .int .i64 other) rfl rfl rfl) ?_
  simp only [Act.put, z1, z2, z3]
  refine pl M4 (y_lss (b := false) rfl rfl rfl rfl (decide_eq_false (by omega))) ?_
  simp only [Act.put, z1, z2, z3]
  refine pl M4 (y_pickF (v := .bool false) rfl rfl rfl rfl) ?_
  simp only [Act.put, z1, z2, z3]
  refine pl M4 (y_move (v := .bool false) rfl rfl rfl) ?_
  simp only [Act.put, z1, z2, z3]
  refine pl M4 (y_move (v := .int .i64 other) rfl rfl rfl) ?_
  simp only [Act.put, z1, z2, z3]
  refine pl M4 (y_gtr (b := false) rfl rfl rfl rfl (decide_eq_false (by omega))) ?_
  simp only [Act.put, z1, z2, z3]
  refine pl M4 (y_pickF (v := .bool false) rfl rfl rfl rfl) ?_
  simp only [Act.put, z1, z2, z3]
  refine wpList_nil ?_
  refine hK3 _ _ ?_
  clear hK3
  refine wp_cond_false rfl ?_
  refine wp_skip ?_
  refine hK2 _ _ ?_
  clear hK2
  refine wp_seq_k (fun K5 hK5 => ?_)
  refine wp_region_lit ?_
  refine pl M4 (y_move (v := .int .i64 (k : Int)) rfl rfl rfl) ?_
  simp only [Act.put, z1, z2, z3]
  refine pe rfl (fun K hK => ?_)
  refine e_call 12 [.int .i64 (k : Int)] rfl rfl Try.call12 (new_fit k ⟨by omega, by omega⟩ _) ?_
  rintro e w6 ⟨p, pg, mb, rfl, H6⟩
  have M6 : Mem w [] w6 [disk (newD k) p pg mb (.slice none 0 0)] := M4.step H6
  refine ⟨_, rfl, ?_⟩
  refine hK.out _ _ ?_
  clear hK K
  simp only [Act.put, z1, z2, z3]
  refine pl M6 (y_move (v := .tuple #[.pointer (some ⟨p, 0, none⟩), .int .i64 0]) rfl rfl rfl) ?_
  simp only [Act.put, z1, z2, z3]
  refine pl M6 (y_ext (v := .pointer (some ⟨p, 0, none⟩)) rfl rfl rfl rfl) ?_
  simp only [Act.put, z1, z2, z3]
  refine pl M6 (y_ext (v := .int .i64 0) rfl rfl rfl rfl) ?_
  simp only [Act.put, z1, z2, z3]
  refine pl M6 (y_assign (v := .pointer (some ⟨p, 0, none⟩)) rfl rfl rfl) ?_
  simp only [Act.put, z1, z2, z3]
  refine pl M6 (y_assign (v := .int .i64 0) rfl rfl rfl) ?_
  simp only [Act.put, z1, z2, z3]
  refine wpList_nil ?_
  refine hK5 _ _ ?_
  clear hK5
  refine wp_seq_k (fun K7 hK7 => ?_)
  refine wp_seq_k (fun K8 hK8 => ?_)
  refine wp_region_lit ?_
  refine pl M6 (y_move (v := .int .i64 0) rfl rfl rfl) ?_
  simp only [Act.put, z1, z2, z3]
  refine pl M6 (y_neq (b := false) rfl rfl rfl rfl (by rw [decide_eq_true (by decide)]; rfl)) ?_
  simp only [Act.put, z1, z2, z3]
  refine pl M6 (y_move (v := .bool false) rfl rfl rfl) ?_
  simp only [Act.put, z1, z2, z3]
  refine pl M6 (y_move (v := .pointer (some ⟨p, 0, none⟩)) rfl rfl rfl) ?_
  simp only [Act.put, z1, z2, z3]
  refine pl M6 (y_eqnil (r := false) rfl rfl rfl rfl Try.underlying24 rfl) ?_
  simp only [Act.put, z1, z2, z3]
  refine pl M6 (y_pickF (v := .bool false) rfl rfl rfl rfl) ?_
  simp only [Act.put, z1, z2, z3]
  refine wpList_nil ?_
  refine hK8 _ _ ?_
  clear hK8
  refine wp_cond_false rfl ?_
  refine wp_skip ?_
  refine hK7 _ _ ?_
  clear hK7
  refine wp_seq_k (fun K9 hK9 => ?_)
  refine wp_region_lit ?_
  refine pl M6 (y_move (v := .int .i64 at_) rfl rfl rfl) ?_
  simp only [Act.put, z1, z2, z3]
  refine pe rfl (fun K hK => ?_)
  refine e_call 13 [.int .i64 at_, .int .i64 5] rfl rfl Try.call13 (place3_any at_ 5 (by decide) (by decide) _) ?_
  rintro e w10 ⟨rfl, H10⟩
  have M10 : Mem w [] w10 [disk (newD k) p pg mb (.slice none 0 0)] := M6.step H10
  refine ⟨_, rfl, ?_⟩
  refine hK.out _ _ ?_
  clear hK K
  simp only [Act.put, z1, z2, z3]
  refine pl M10 (y_add (r := n) rfl rfl rfl rfl (han) (by omega)) ?_
  simp only [Act.put, z1, z2, z3]
  refine pl M10 (y_assign (v := .int .i64 n) rfl rfl rfl) ?_
  simp only [Act.put, z1, z2, z3]
  refine wpList_nil ?_
  refine hK9 _ _ ?_
  clear hK9
  refine wp_seq_k (fun K11 hK11 => ?_)
  refine wp_region_lit ?_
  refine pl M10 (y_move (v := .pointer (some ⟨p, 0, none⟩)) rfl rfl rfl) ?_
  simp only [Act.put, z1, z2, z3]
  refine pl M10 (y_move (v := .int .i64 n) rfl rfl rfl) ?_
  simp only [Act.put, z1, z2, z3]
  have hX12 : Mem w [] w10 ([disk (newD k) p pg mb (.slice none 0 0)] ++ []) := M10.arr [0] (by decide)
  refine pe rfl (fun K hK => ?_)
  refine e_call 14 [.pointer (some ⟨p, 0, none⟩), .int .i64 n] rfl rfl Try.call14 ((by have N := arm_any (Mem.here (L := [disk (newD k) p pg mb (.slice none 0 0)]) (R := []) hX12) n (by omega); rw [armD_new k (by omega)] at N; exact N)) ?_
  rintro e w12 ⟨rfl, H12⟩
  have M12 : Mem w [] w12 [disk ({ newD k with armed := n } : DV) p pg mb (.slice none 0 0)] := Mem.frame (Pre := [disk (newD k) p pg mb (.slice none 0 0)]) (Post := [disk ({ newD k with armed := n } : DV) p pg mb (.slice none 0 0)]) (R := []) hX12 H12
  refine ⟨_, rfl, ?_⟩
  refine hK.out _ _ ?_
  clear hK K
  simp only [Act.put, z1, z2, z3]
  refine wpList_nil ?_
  refine hK11 _ _ ?_
  clear hK11
  refine wp_seq_k (fun K13 hK13 => ?_)
  refine wp_region_lit ?_
  refine pl M12 (y_move (v := .pointer (some ⟨p, 0, none⟩)) rfl rfl rfl) ?_
  simp only [Act.put, z1, z2, z3]
  refine pl M12 (y_move (v := .int .i64 width) rfl rfl rfl) ?_
  simp only [Act.put, z1, z2, z3]
  have hX14 : Mem w [] w12 ([disk ({ newD k with armed := n } : DV) p pg mb (.slice none 0 0)] ++ []) := M12.arr [0] (by decide)
  refine pe rfl (fun K hK => ?_)
  refine e_call 15 [.pointer (some ⟨p, 0, none⟩), .int .i64 width] rfl rfl Try.call15 (format_eq (Mem.here (L := [disk ({ newD k with armed := n } : DV) p pg mb (.slice none 0 0)]) (R := []) hX14) hF (by show (0 : Nat) ≤ 400000000000; decide)) ?_
  rintro e w14 ⟨qv1, rfl, H14⟩
  have M14 : Mem w [] w14 [disk E0 p pg mb qv1] := Mem.frame (Pre := [disk ({ newD k with armed := n } : DV) p pg mb (.slice none 0 0)]) (Post := [disk E0 p pg mb qv1]) (R := []) hX14 H14
  refine ⟨_, rfl, ?_⟩
  refine hK.out _ _ ?_
  clear hK K
  simp only [Act.put, z1, z2, z3]
  refine pl M14 (y_assign (v := .int .i64 2) rfl rfl rfl) ?_
  simp only [Act.put, z1, z2, z3]
  refine wpList_nil ?_
  refine hK13 _ _ ?_
  clear hK13
  refine wp_seq_k (fun K15 hK15 => ?_)
  refine wp_seq_k (fun K16 hK16 => ?_)
  refine wp_region_lit ?_
  refine pl M14 (y_move (v := .int .i64 n) rfl rfl rfl) ?_
  simp only [Act.put, z1, z2, z3]
  refine pl M14 (y_leq (b := true) rfl rfl rfl rfl (decide_eq_true (by omega))) ?_
  simp only [Act.put, z1, z2, z3]
  refine pl M14 (y_move (v := .int .i64 2) rfl rfl rfl) ?_
  simp only [Act.put, z1, z2, z3]
  refine pl M14 (y_eql (b := true) rfl rfl rfl rfl (decide_eq_true (by decide))) ?_
  simp only [Act.put, z1, z2, z3]
  refine pl M14 (y_neb (r := false) rfl rfl rfl rfl Try.underlying4 rfl) ?_
  simp only [Act.put, z1, z2, z3]
  refine pl M14 (y_move (v := .bool false) rfl rfl rfl) ?_
  simp only [Act.put, z1, z2, z3]
  refine pl M14 (y_move (v := .int .i64 n) rfl rfl rfl) ?_
  simp only [Act.put, z1, z2, z3]
  refine pl M14 (y_gtr (b := false) rfl rfl rfl rfl (decide_eq_false (by omega))) ?_
  simp only [Act.put, z1, z2, z3]
  refine pl M14 (y_move (v := .int .i64 2) rfl rfl rfl) ?_
  simp only [Act.put, z1, z2, z3]
  refine pl M14 (y_eql (b := false) rfl rfl rfl rfl (decide_eq_false (by decide))) ?_
  simp only [Act.put, z1, z2, z3]
  refine pl M14 (y_neb (r := false) rfl rfl rfl rfl Try.underlying4 rfl) ?_
  simp only [Act.put, z1, z2, z3]
  refine pl M14 (y_pickF (v := .bool false) rfl rfl rfl rfl) ?_
  simp only [Act.put, z1, z2, z3]
  refine wpList_nil ?_
  refine hK16 _ _ ?_
  clear hK16
  refine wp_cond_false rfl ?_
  refine wp_skip ?_
  refine hK15 _ _ ?_
  clear hK15
  refine wp_seq_k (fun K17 hK17 => ?_)
  refine wp_region_lit ?_
  refine pl M14 (y_move (v := .pointer (some ⟨p, 0, none⟩)) rfl rfl rfl) ?_
  simp only [Act.put, z1, z2, z3]
  refine pl M14 (y_move (v := .slice ao nn c) rfl rfl rfl) ?_
  simp only [Act.put, z1, z2, z3]
  have hX18 : Mem w [] w14 ([disk E0 p pg mb qv1] ++ []) := M14.arr [0] (by decide)
  refine pe rfl (fun K hK => ?_)
  refine e_call 16 [.pointer (some ⟨p, 0, none⟩), .slice ao nn c] rfl rfl Try.call16 (crash_any (Mem.here (L := [disk E0 p pg mb qv1]) (R := []) hX18) ao nn c l (M14.row hr (by simp)) (hX18.left.off_row hr) (by omega)) ?_
  rintro e w18 ⟨qv2, rfl, H18⟩
  have M18 : Mem w [] w18 [disk (crashD E0 l) p pg mb qv2] := Mem.frame (Pre := [disk E0 p pg mb qv1]) (Post := [disk (crashD E0 l) p pg mb qv2]) (R := []) hX18 H18
  refine ⟨_, rfl, ?_⟩
  refine hK.out _ _ ?_
  clear hK K
  simp only [Act.put, z1, z2, z3]
  refine wpList_nil ?_
  refine hK17 _ _ ?_
  clear hK17
  refine wp_seq_k (fun K19 hK19 => ?_)
  refine wp_region_lit ?_
  refine pl M18 (y_move (v := .pointer (some ⟨p, 0, none⟩)) rfl rfl rfl) ?_
  simp only [Act.put, z1, z2, z3]
  have hX20 : Mem w [] w18 ([disk (crashD E0 l) p pg mb qv2] ++ []) := M18.arr [0] (by decide)
  refine pe rfl (fun K hK => ?_)
  refine e_call 17 [.pointer (some ⟨p, 0, none⟩)] rfl rfl Try.call17 (epoch_any (Mem.here (L := [disk (crashD E0 l) p pg mb qv2]) (R := []) hX20)) ?_
  rintro e w20 ⟨rfl, H20⟩
  have M20 : Mem w [] w20 [disk (crashD E0 l) p pg mb qv2] := Mem.frame (Pre := [disk (crashD E0 l) p pg mb qv2]) (Post := [disk (crashD E0 l) p pg mb qv2]) (R := []) hX20 H20
  refine ⟨_, rfl, ?_⟩
  refine hK.out _ _ ?_
  clear hK K
  simp only [Act.put, z1, z2, z3]
  refine pl M20 (y_assign (v := .int .i64 ((crashD E0 l).epoch)) rfl rfl rfl) ?_
  simp only [Act.put, z1, z2, z3]
  refine wpList_nil ?_
  refine hK19 _ _ ?_
  clear hK19
  refine wp_seq_k (fun K21 hK21 => ?_)
  refine wp_region_lit ?_
  refine pl M20 (y_move (v := .pointer (some ⟨p, 0, none⟩)) rfl rfl rfl) ?_
  simp only [Act.put, z1, z2, z3]
  have hX22 : Mem w [] w20 ([disk (crashD E0 l) p pg mb qv2] ++ []) := M20.arr [0] (by decide)
  refine pe rfl (fun K hK => ?_)
  refine e_call 18 [.pointer (some ⟨p, 0, none⟩)] rfl rfl Try.call18 (open_blank (Mem.here (L := [disk (crashD E0 l) p pg mb qv2]) (R := []) hX22) hB) ?_
  rintro e w22 ⟨E1, rfl, H22, hB1, he1, ha1, hl1⟩
  have M22 : Mem w [] w22 [disk E1 p pg mb qv2] := Mem.frame (Pre := [disk (crashD E0 l) p pg mb qv2]) (Post := [disk E1 p pg mb qv2]) (R := []) hX22 H22
  refine ⟨_, rfl, ?_⟩
  refine hK.out _ _ ?_
  clear hK K
  simp only [Act.put, z1, z2, z3]
  refine pl M22 (y_move (v := .tuple #[.pointer none, .int .i64 55]) rfl rfl rfl) ?_
  simp only [Act.put, z1, z2, z3]
  refine pl M22 (y_ext (v := .pointer none) rfl rfl rfl rfl) ?_
  simp only [Act.put, z1, z2, z3]
  refine pl M22 (y_ext (v := .int .i64 55) rfl rfl rfl rfl) ?_
  simp only [Act.put, z1, z2, z3]
  refine pl M22 (y_assign (v := .pointer none) rfl rfl rfl) ?_
  simp only [Act.put, z1, z2, z3]
  refine pl M22 (y_assign (v := .int .i64 55) rfl rfl rfl) ?_
  simp only [Act.put, z1, z2, z3]
  refine wpList_nil ?_
  refine hK21 _ _ ?_
  clear hK21
  refine wp_seq_k (fun K23 hK23 => ?_)
  refine wp_seq_k (fun K24 hK24 => ?_)
  refine wp_region_lit ?_
  refine pl M22 (y_move (v := .int .i64 55) rfl rfl rfl) ?_
  simp only [Act.put, z1, z2, z3]
  refine pl M22 (y_eql (b := true) rfl rfl rfl rfl (decide_eq_true (by decide))) ?_
  simp only [Act.put, z1, z2, z3]
  refine wpList_nil ?_
  refine hK24 _ _ ?_
  clear hK24
  refine wp_cond_true rfl ?_
  refine wp_seq_k (fun K25 hK25 => ?_)
  refine wp_seq_k (fun K26 hK26 => ?_)
  refine wp_region_lit ?_
  refine pl M22 (y_move (v := .pointer none) rfl rfl rfl) ?_
  simp only [Act.put, z1, z2, z3]
  refine pl M22 (y_nenil (r := false) rfl rfl rfl rfl Try.underlying33 rfl) ?_
  simp only [Act.put, z1, z2, z3]
  refine pl M22 (y_move (v := .bool false) rfl rfl rfl) ?_
  simp only [Act.put, z1, z2, z3]
  refine pl M22 (y_move (v := .int .i64 n) rfl rfl rfl) ?_
  simp only [Act.put, z1, z2, z3]
  refine pl M22 (y_gtr (b := false) rfl rfl rfl rfl (decide_eq_false (by omega))) ?_
  simp only [Act.put, z1, z2, z3]
  refine pl M22 (y_pickF (v := .bool false) rfl rfl rfl rfl) ?_
  simp only [Act.put, z1, z2, z3]
  refine pl M22 (y_move (v := .bool false) rfl rfl rfl) ?_
  simp only [Act.put, z1, z2, z3]
  refine pl M22 (y_move (v := .pointer (some ⟨p, 0, none⟩)) rfl rfl rfl) ?_
  simp only [Act.put, z1, z2, z3]
  have hX27 : Mem w [] w22 ([disk E1 p pg mb qv2] ++ []) := M22.arr [0] (by decide)
  refine pe rfl (fun K hK => ?_)
  refine e_call 17 [.pointer (some ⟨p, 0, none⟩)] rfl rfl Try.call17 (epoch_any (Mem.here (L := [disk E1 p pg mb qv2]) (R := []) hX27)) ?_
  rintro e w27 ⟨rfl, H27⟩
  have M27 : Mem w [] w27 [disk E1 p pg mb qv2] := Mem.frame (Pre := [disk E1 p pg mb qv2]) (Post := [disk E1 p pg mb qv2]) (R := []) hX27 H27
  refine ⟨_, rfl, ?_⟩
  refine hK.out _ _ ?_
  clear hK K
  simp only [Act.put, z1, z2, z3]
  refine pl M27 (y_move (v := .int .i64 ((crashD E0 l).epoch)) rfl rfl rfl) ?_
  simp only [Act.put, z1, z2, z3]
  refine pl M27 (y_neq (b := false) rfl rfl rfl rfl (by rw [decide_eq_true he1]; rfl)) ?_
  simp only [Act.put, z1, z2, z3]
  refine pl M27 (y_pickF (v := .bool false) rfl rfl rfl rfl) ?_
  simp only [Act.put, z1, z2, z3]
  refine pl M27 (y_move (v := .bool false) rfl rfl rfl) ?_
  simp only [Act.put, z1, z2, z3]
  refine pl M27 (y_move (v := .pointer (some ⟨p, 0, none⟩)) rfl rfl rfl) ?_
  simp only [Act.put, z1, z2, z3]
  refine pl M27 (y_move (v := .int .i64 other) rfl rfl rfl) ?_
  simp only [Act.put, z1, z2, z3]
  have hX28 : Mem w [] w27 ([disk E1 p pg mb qv2] ++ []) := M27.arr [0] (by decide)
  refine pe rfl (fun K hK => ?_)
  refine e_call 15 [.pointer (some ⟨p, 0, none⟩), .int .i64 other] rfl rfl Try.call15 (format_fit (Mem.here (L := [disk E1 p pg mb qv2]) (R := []) hX28) hB1 (by rw [ha1]; rfl) ho) ?_
  rintro e w28 ⟨E2, qv3, rfl, H28, hP2, hq2, hd2, he2, ha2, hl2⟩
  have M28 : Mem w [] w28 [disk E2 p pg mb qv3] := Mem.frame (Pre := [disk E1 p pg mb qv2]) (Post := [disk E2 p pg mb qv3]) (R := []) hX28 H28
  rw [hl1, hl] at hP2
  refine ⟨_, rfl, ?_⟩
  refine hK.out _ _ ?_
  clear hK K
  simp only [Act.put, z1, z2, z3]
  refine pl M28 (y_neq (b := false) rfl rfl rfl rfl (by rw [decide_eq_true (by decide)]; rfl)) ?_
  simp only [Act.put, z1, z2, z3]
  refine pl M28 (y_pickF (v := .bool false) rfl rfl rfl rfl) ?_
  simp only [Act.put, z1, z2, z3]
  refine wpList_nil ?_
  refine hK26 _ _ ?_
  clear hK26
  refine wp_cond_false rfl ?_
  refine wp_skip ?_
  refine hK25 _ _ ?_
  clear hK25
  refine wp_seq_k (fun K29 hK29 => ?_)
  refine wp_region_lit ?_
  refine pl M28 (y_move (v := .int .i64 other) rfl rfl rfl) ?_
  simp only [Act.put, z1, z2, z3]
  refine pl M28 (y_assign (v := .int .i64 other) rfl rfl rfl) ?_
  simp only [Act.put, z1, z2, z3]
  refine wpList_nil ?_
  refine hK29 _ _ ?_
  clear hK29
  refine wp_seq_k (fun K30 hK30 => ?_)
  refine wp_region_lit ?_
  refine pl M28 (y_move (v := .pointer (some ⟨p, 0, none⟩)) rfl rfl rfl) ?_
  simp only [Act.put, z1, z2, z3]
  have hX31 : Mem w [] w28 ([disk E2 p pg mb qv3] ++ []) := M28.arr [0] (by decide)
  refine pe rfl (fun K hK => ?_)
  refine e_call 17 [.pointer (some ⟨p, 0, none⟩)] rfl rfl Try.call17 (epoch_any (Mem.here (L := [disk E2 p pg mb qv3]) (R := []) hX31)) ?_
  rintro e w31 ⟨rfl, H31⟩
  have M31 : Mem w [] w31 [disk E2 p pg mb qv3] := Mem.frame (Pre := [disk E2 p pg mb qv3]) (Post := [disk E2 p pg mb qv3]) (R := []) hX31 H31
  refine ⟨_, rfl, ?_⟩
  refine hK.out _ _ ?_
  clear hK K
  simp only [Act.put, z1, z2, z3]
  refine pl M31 (y_assign (v := .int .i64 E2.epoch) rfl rfl rfl) ?_
  simp only [Act.put, z1, z2, z3]
  refine wpList_nil ?_
  refine hK30 _ _ ?_
  clear hK30
  refine wp_region_lit ?_
  refine pl M31 (y_move (v := .pointer (some ⟨p, 0, none⟩)) rfl rfl rfl) ?_
  simp only [Act.put, z1, z2, z3]
  have hX32 : Mem w [] w31 ([disk E2 p pg mb qv3] ++ []) := M31.arr [0] (by decide)
  refine pe rfl (fun K hK => ?_)
  refine e_call 18 [.pointer (some ⟨p, 0, none⟩)] rfl rfl Try.call18 (open_fit (Mem.here (L := [disk E2 p pg mb qv3]) (R := []) hX32) hP2 hd2) ?_
  rintro e w32 ⟨f, E3, m, rfl, H32, hI, hq3, hp3, ha3, he3⟩
  have M32 : Mem w [] w32 [disk E3 p pg mb qv3, blk f 96 (fC (⟨(secondS other k), 2, m⟩ : FV) p)] := Mem.frame (Pre := [disk E2 p pg mb qv3]) (Post := [disk E3 p pg mb qv3, blk f 96 (fC (⟨(secondS other k), 2, m⟩ : FV) p)]) (R := []) hX32 H32
  replace hI : Inv E3 ⟨(secondS other k), 2, m⟩ [] := hI
  refine ⟨_, rfl, ?_⟩
  refine hK.out _ _ ?_
  clear hK K
  simp only [Act.put, z1, z2, z3]
  refine pl M32 (y_move (v := .tuple #[.pointer (some ⟨f, 0, none⟩), .int .i64 0]) rfl rfl rfl) ?_
  simp only [Act.put, z1, z2, z3]
  refine pl M32 (y_ext (v := .pointer (some ⟨f, 0, none⟩)) rfl rfl rfl rfl) ?_
  simp only [Act.put, z1, z2, z3]
  refine pl M32 (y_ext (v := .int .i64 0) rfl rfl rfl rfl) ?_
  simp only [Act.put, z1, z2, z3]
  refine pl M32 (y_assign (v := .pointer (some ⟨f, 0, none⟩)) rfl rfl rfl) ?_
  simp only [Act.put, z1, z2, z3]
  refine pl M32 (y_assign (v := .int .i64 0) rfl rfl rfl) ?_
  simp only [Act.put, z1, z2, z3]
  refine wpList_nil ?_
  refine hK23 _ _ ?_
  clear hK23
  refine wp_seq_k (fun K33 hK33 => ?_)
  refine wp_seq_k (fun K34 hK34 => ?_)
  refine wp_region_lit ?_
  refine pl M32 (y_move (v := .int .i64 0) rfl rfl rfl) ?_
  simp only [Act.put, z1, z2, z3]
  refine pl M32 (y_neq (b := false) rfl rfl rfl rfl (by rw [decide_eq_true (by decide)]; rfl)) ?_
  simp only [Act.put, z1, z2, z3]
  refine pl M32 (y_move (v := .bool false) rfl rfl rfl) ?_
  simp only [Act.put, z1, z2, z3]
  refine pl M32 (y_move (v := .pointer (some ⟨f, 0, none⟩)) rfl rfl rfl) ?_
  simp only [Act.put, z1, z2, z3]
  refine pl M32 (y_eqnil (r := false) rfl rfl rfl rfl Try.underlying33 rfl) ?_
  simp only [Act.put, z1, z2, z3]
  refine pl M32 (y_pickF (v := .bool false) rfl rfl rfl rfl) ?_
  simp only [Act.put, z1, z2, z3]
  refine pl M32 (y_move (v := .bool false) rfl rfl rfl) ?_
  simp only [Act.put, z1, z2, z3]
  refine pl M32 (y_move (v := .pointer (some ⟨p, 0, none⟩)) rfl rfl rfl) ?_
  simp only [Act.put, z1, z2, z3]
  have hX35 : Mem w [] w32 ([disk E3 p pg mb qv3] ++ [blk f 96 (fC (⟨(secondS other k), 2, m⟩ : FV) p)]) := M32.arr [0, 1] (by decide)
  refine pe rfl (fun K hK => ?_)
  refine e_call 17 [.pointer (some ⟨p, 0, none⟩)] rfl rfl Try.call17 (epoch_any (Mem.here (L := [disk E3 p pg mb qv3]) (R := [blk f 96 (fC (⟨(secondS other k), 2, m⟩ : FV) p)]) hX35)) ?_
  rintro e w35 ⟨rfl, H35⟩
  have M35 : Mem w [] w35 [disk E3 p pg mb qv3, blk f 96 (fC (⟨(secondS other k), 2, m⟩ : FV) p)] := Mem.frame (Pre := [disk E3 p pg mb qv3]) (Post := [disk E3 p pg mb qv3]) (R := [blk f 96 (fC (⟨(secondS other k), 2, m⟩ : FV) p)]) hX35 H35
  refine ⟨_, rfl, ?_⟩
  refine hK.out _ _ ?_
  clear hK K
  simp only [Act.put, z1, z2, z3]
  refine pl M35 (y_move (v := .int .i64 E2.epoch) rfl rfl rfl) ?_
  simp only [Act.put, z1, z2, z3]
  refine pl M35 (y_addw rfl rfl rfl rfl) ?_
  simp only [Act.put, z1, z2, z3]
  refine pl M35 (y_neq (b := false) rfl rfl rfl rfl (by rw [decide_eq_true he3]; rfl)) ?_
  simp only [Act.put, z1, z2, z3]
  refine pl M35 (y_pickF (v := .bool false) rfl rfl rfl rfl) ?_
  simp only [Act.put, z1, z2, z3]
  refine pl M35 (y_move (v := .bool false) rfl rfl rfl) ?_
  simp only [Act.put, z1, z2, z3]
  refine pl M35 (y_move (v := .pointer (some ⟨p, 0, none⟩)) rfl rfl rfl) ?_
  simp only [Act.put, z1, z2, z3]
  refine pl M35 (y_move (v := .int .i64 other) rfl rfl rfl) ?_
  simp only [Act.put, z1, z2, z3]
  have hX36 : Mem w [] w35 ([disk E3 p pg mb qv3] ++ [blk f 96 (fC (⟨(secondS other k), 2, m⟩ : FV) p)]) := M35.arr [0, 1] (by decide)
  refine pe rfl (fun K hK => ?_)
  refine e_call 15 [.pointer (some ⟨p, 0, none⟩), .int .i64 other] rfl rfl Try.call15 (format_taken2 (Mem.here (L := [disk E3 p pg mb qv3]) (R := [blk f 96 (fC (⟨(secondS other k), 2, m⟩ : FV) p)]) hX36) hI ho (by rw [hq3, hq2]; decide)) ?_
  rintro e w36 ⟨E4, qv4, rfl, H36, hI4⟩
  have M36 : Mem w [] w36 [disk E4 p pg mb qv4, blk f 96 (fC (⟨(secondS other k), 2, m⟩ : FV) p)] := Mem.frame (Pre := [disk E3 p pg mb qv3]) (Post := [disk E4 p pg mb qv4]) (R := [blk f 96 (fC (⟨(secondS other k), 2, m⟩ : FV) p)]) hX36 H36
  refine ⟨_, rfl, ?_⟩
  refine hK.out _ _ ?_
  clear hK K
  simp only [Act.put, z1, z2, z3]
  refine pl M36 (y_neq (b := false) rfl rfl rfl rfl (by rw [decide_eq_true (by decide)]; rfl)) ?_
  simp only [Act.put, z1, z2, z3]
  refine pl M36 (y_pickF (v := .bool false) rfl rfl rfl rfl) ?_
  simp only [Act.put, z1, z2, z3]
  refine wpList_nil ?_
  refine hK34 _ _ ?_
  clear hK34
  refine wp_cond_false rfl ?_
  refine wp_skip ?_
  refine hK33 _ _ ?_
  clear hK33
  refine wp_seq_k (fun K37 hK37 => ?_)
  refine wp_region_lit ?_
  refine pl M36 (y_move (v := .pointer (some ⟨f, 0, none⟩)) rfl rfl rfl) ?_
  simp only [Act.put, z1, z2, z3]
  have hX38 : Mem w [] w36 ([disk E4 p pg mb qv4, blk f 96 (fC (⟨(secondS other k), 2, m⟩ : FV) p)] ++ []) := M36.arr [0, 1] (by decide)
  refine pe rfl (fun K hK => ?_)
  refine e_call 19 [.pointer (some ⟨f, 0, none⟩)] rfl rfl Try.call19 (super_any (Mem.here (L := [disk E4 p pg mb qv4, blk f 96 (fC (⟨(secondS other k), 2, m⟩ : FV) p)]) (R := []) hX38)) ?_
  rintro e w38 ⟨rfl, H38⟩
  have M38 : Mem w [] w38 [disk E4 p pg mb qv4, blk f 96 (fC (⟨(secondS other k), 2, m⟩ : FV) p)] := Mem.frame (Pre := [disk E4 p pg mb qv4, blk f 96 (fC (⟨(secondS other k), 2, m⟩ : FV) p)]) (Post := [disk E4 p pg mb qv4, blk f 96 (fC (⟨(secondS other k), 2, m⟩ : FV) p)]) (R := []) hX38 H38
  refine ⟨_, rfl, ?_⟩
  refine hK.out _ _ ?_
  clear hK K
  simp only [Act.put, z1, z2, z3]
  refine pl M38 (y_move (v := .int .i64 other) rfl rfl rfl) ?_
  simp only [Act.put, z1, z2, z3]
  refine pl M38 (y_move (v := .int .i64 (k : Int)) rfl rfl rfl) ?_
  simp only [Act.put, z1, z2, z3]
  refine pl M38 (y_build (ps := [(0, .tmp 120), (1, .const (.int .i64 1)), (2, .const (.int .i64 2)), (3, .const (.int .i64 0)), (4, .tmp 121)]) (pv := [(0, .int .i64 other), (1, .int .i64 1), (2, .int .i64 2), (3, .int .i64 0), (4, .int .i64 (k : Int))]) (cs := (supC (secondS other k))) rfl rfl rfl (by kernel_rfl)) ?_
  simp only [Act.put, z1, z2, z3]
  refine pl M38 (y_eqs (r := true) rfl rfl rfl rfl sup_guard (fun W => sup_same _ W)) ?_
  simp only [Act.put, z1, z2, z3]
  refine pl M38 (y_move (v := .bool true) rfl rfl rfl) ?_
  simp only [Act.put, z1, z2, z3]
  refine pl M38 (y_move (v := .pointer (some ⟨f, 0, none⟩)) rfl rfl rfl) ?_
  simp only [Act.put, z1, z2, z3]
  have hX39 : Mem w [] w38 ([disk E4 p pg mb qv4, blk f 96 (fC (⟨(secondS other k), 2, m⟩ : FV) p)] ++ []) := M38.arr [0, 1] (by decide)
  refine pe rfl (fun K hK => ?_)
  refine e_call 20 [.pointer (some ⟨f, 0, none⟩)] rfl rfl Try.call20 (next_any (Mem.here (L := [disk E4 p pg mb qv4, blk f 96 (fC (⟨(secondS other k), 2, m⟩ : FV) p)]) (R := []) hX39)) ?_
  rintro e w39 ⟨rfl, H39⟩
  have M39 : Mem w [] w39 [disk E4 p pg mb qv4, blk f 96 (fC (⟨(secondS other k), 2, m⟩ : FV) p)] := Mem.frame (Pre := [disk E4 p pg mb qv4, blk f 96 (fC (⟨(secondS other k), 2, m⟩ : FV) p)]) (Post := [disk E4 p pg mb qv4, blk f 96 (fC (⟨(secondS other k), 2, m⟩ : FV) p)]) (R := []) hX39 H39
  refine ⟨_, rfl, ?_⟩
  refine hK.out _ _ ?_
  clear hK K
  simp only [Act.put, z1, z2, z3]
  refine pl M39 (y_eql (b := true) rfl rfl rfl rfl (decide_eq_true rfl)) ?_
  simp only [Act.put, z1, z2, z3]
  refine pl M39 (y_pickT (v := .bool true) rfl rfl rfl rfl) ?_
  simp only [Act.put, z1, z2, z3]
  refine pl M39 (y_move (v := .bool true) rfl rfl rfl) ?_
  simp only [Act.put, z1, z2, z3]
  refine pl M39 (y_move (v := .pointer (some ⟨f, 0, none⟩)) rfl rfl rfl) ?_
  simp only [Act.put, z1, z2, z3]
  have hX40 : Mem w [] w39 ([disk E4 p pg mb qv4, blk f 96 (fC (⟨(secondS other k), 2, m⟩ : FV) p)] ++ []) := M39.arr [0, 1] (by decide)
  refine pe rfl (fun K hK => ?_)
  refine e_call 21 [.pointer (some ⟨f, 0, none⟩)] rfl rfl Try.call21 (live_ok (Mem.here (L := [disk E4 p pg mb qv4, blk f 96 (fC (⟨(secondS other k), 2, m⟩ : FV) p)]) (R := []) hX40) hI4) ?_
  rintro e w40 ⟨rfl, H40⟩
  have M40 : Mem w [] w40 [disk E4 p pg mb qv4, blk f 96 (fC (⟨(secondS other k), 2, m⟩ : FV) p)] := Mem.frame (Pre := [disk E4 p pg mb qv4, blk f 96 (fC (⟨(secondS other k), 2, m⟩ : FV) p)]) (Post := [disk E4 p pg mb qv4, blk f 96 (fC (⟨(secondS other k), 2, m⟩ : FV) p)]) (R := []) hX40 H40
  refine ⟨_, rfl, ?_⟩
  refine hK.out _ _ ?_
  clear hK K
  simp only [Act.put, z1, z2, z3]
  refine pl M40 (y_eql (b := true) rfl rfl rfl rfl (decide_eq_true (by decide))) ?_
  simp only [Act.put, z1, z2, z3]
  refine pl M40 (y_pickT (v := .bool true) rfl rfl rfl rfl) ?_
  simp only [Act.put, z1, z2, z3]
  refine pl M40 (y_assign (v := .bool true) rfl rfl rfl) ?_
  simp only [Act.put, z1, z2, z3]
  refine wpList_nil ?_
  refine hK37 _ _ ?_
  clear hK37
  refine wp_ret ?_
  try simp only [Exit.inBlock, Exit.then]
  refine bodyPost_ret (v := .bool true) (res1 rfl rfl) rfl ?_
  exact ⟨rfl, M40.arr [] (by decide)⟩
set_option maxRecDepth 100000 in
set_option maxHeartbeats 800000 in
theorem begins_b (k : Nat) (width other at_ : Int) (ao : Option Addr) (nn c : Nat) (w : World) (hn : 3 ≤ k ∧ k ≤ 64) (hw : 1 ≤ width ∧ width ≤ 32) (ho : 1 ≤ other ∧ other ≤ 32) (n : Int) (han : 1 + at_ % 5 = n) (l : List UInt8) (hr : Row w ao nn l) (hnn : nn ≤ 140737488351232) (E0 : DV) (hn4 : n ≤ 4) (hF : formatR ({ newD k with armed := n } : DV) width = (E0, 2)) (hP : Plat (crashD E0 l) (secondS width k) []) : Calls Try.prog 3 #[.int .i64 (k : Int), .int .i64 width, .int .i64 other, .int .i64 at_, .slice ao nn c] w fun e w' => e = .returned (.bool true) ∧ Mem w [] w' [] := by
  have M := Mem.nil w
  go_enter Try.func3, Try.ntmps3
  refine wp_seq_k (fun K1 hK1 => ?_)
  refine wp_region_lit ?_
  refine pl M (y_assign (v := .bool false) rfl rfl rfl) ?_
  simp only [Act.put, z1, z2, z3]
  refine wpList_nil ?_
  refine hK1 _ _ ?_
  clear hK1
  refine wp_seq_k (fun K2 hK2 => ?_)
  refine wp_seq_k (fun K3 hK3 => ?_)
  refine wp_region_lit ?_
  refine pl M (y_move (v := .int .i64 (k : Int)) rfl rfl rfl) ?_
  simp only [Act.put, z1, z2, z3]
  refine pl M (y_move (v := .int .i64 width) rfl rfl rfl) ?_
  simp only [Act.put, z1, z2, z3]
  refine pe rfl (fun K hK => ?_)
  refine e_call 11 [.int .i64 (k : Int), .int .i64 width] rfl rfl Try.call11 (fits_any (k : Int) width _) ?_
  rintro e w4 ⟨rfl, H4⟩
  have M4 : Mem w [] w4 [] := M.step H4
  rw [(fits_yes hn hw)]
  refine ⟨_, rfl, ?_⟩
  refine hK.out _ _ ?_
  clear hK K
  simp only [Act.put, z1, z2, z3]
  refine pl M4 (y_not rfl rfl rfl rfl) ?_
  simp only [Act.put, z1, z2, z3]
  refine pl M4 (y_move (v := .bool false) rfl rfl rfl) ?_
  simp only [Act.put, z1, z2, z3]
  refine pl M4 (y_move (v := .int .i64 other) rfl rfl rfl) ?_
  simp only [Act.put, z1, z2, z3]
  refine pl M4 (y_lss (b := false) rfl rfl rfl rfl (decide_eq_false (by omega))) ?_
  simp only [Act.put, z1, z2, z3]
  refine pl M4 (y_pickF (v := .bool false) rfl rfl rfl rfl) ?_
  simp only [Act.put, z1, z2, z3]
  refine pl M4 (y_move (v := .bool false) rfl rfl rfl) ?_
  simp only [Act.put, z1, z2, z3]
  refine pl M4 (y_move (v := .int .i64 other) rfl rfl rfl) ?_
  simp only [Act.put, z1, z2, z3]
  refine pl M4 (y_gtr (b := false) rfl rfl rfl rfl (decide_eq_false (by omega))) ?_
  simp only [Act.put, z1, z2, z3]
  refine pl M4 (y_pickF (v := .bool false) rfl rfl rfl rfl) ?_
  simp only [Act.put, z1, z2, z3]
  refine wpList_nil ?_
  refine hK3 _ _ ?_
  clear hK3
  refine wp_cond_false rfl ?_
  refine wp_skip ?_
  refine hK2 _ _ ?_
  clear hK2
  refine wp_seq_k (fun K5 hK5 => ?_)
  refine wp_region_lit ?_
  refine pl M4 (y_move (v := .int .i64 (k : Int)) rfl rfl rfl) ?_
  simp only [Act.put, z1, z2, z3]
  refine pe rfl (fun K hK => ?_)
  refine e_call 12 [.int .i64 (k : Int)] rfl rfl Try.call12 (new_fit k ⟨by omega, by omega⟩ _) ?_
  rintro e w6 ⟨p, pg, mb, rfl, H6⟩
  have M6 : Mem w [] w6 [disk (newD k) p pg mb (.slice none 0 0)] := M4.step H6
  refine ⟨_, rfl, ?_⟩
  refine hK.out _ _ ?_
  clear hK K
  simp only [Act.put, z1, z2, z3]
  refine pl M6 (y_move (v := .tuple #[.pointer (some ⟨p, 0, none⟩), .int .i64 0]) rfl rfl rfl) ?_
  simp only [Act.put, z1, z2, z3]
  refine pl M6 (y_ext (v := .pointer (some ⟨p, 0, none⟩)) rfl rfl rfl rfl) ?_
  simp only [Act.put, z1, z2, z3]
  refine pl M6 (y_ext (v := .int .i64 0) rfl rfl rfl rfl) ?_
  simp only [Act.put, z1, z2, z3]
  refine pl M6 (y_assign (v := .pointer (some ⟨p, 0, none⟩)) rfl rfl rfl) ?_
  simp only [Act.put, z1, z2, z3]
  refine pl M6 (y_assign (v := .int .i64 0) rfl rfl rfl) ?_
  simp only [Act.put, z1, z2, z3]
  refine wpList_nil ?_
  refine hK5 _ _ ?_
  clear hK5
  refine wp_seq_k (fun K7 hK7 => ?_)
  refine wp_seq_k (fun K8 hK8 => ?_)
  refine wp_region_lit ?_
  refine pl M6 (y_move (v := .int .i64 0) rfl rfl rfl) ?_
  simp only [Act.put, z1, z2, z3]
  refine pl M6 (y_neq (b := false) rfl rfl rfl rfl (by rw [decide_eq_true (by decide)]; rfl)) ?_
  simp only [Act.put, z1, z2, z3]
  refine pl M6 (y_move (v := .bool false) rfl rfl rfl) ?_
  simp only [Act.put, z1, z2, z3]
  refine pl M6 (y_move (v := .pointer (some ⟨p, 0, none⟩)) rfl rfl rfl) ?_
  simp only [Act.put, z1, z2, z3]
  refine pl M6 (y_eqnil (r := false) rfl rfl rfl rfl Try.underlying24 rfl) ?_
  simp only [Act.put, z1, z2, z3]
  refine pl M6 (y_pickF (v := .bool false) rfl rfl rfl rfl) ?_
  simp only [Act.put, z1, z2, z3]
  refine wpList_nil ?_
  refine hK8 _ _ ?_
  clear hK8
  refine wp_cond_false rfl ?_
  refine wp_skip ?_
  refine hK7 _ _ ?_
  clear hK7
  refine wp_seq_k (fun K9 hK9 => ?_)
  refine wp_region_lit ?_
  refine pl M6 (y_move (v := .int .i64 at_) rfl rfl rfl) ?_
  simp only [Act.put, z1, z2, z3]
  refine pe rfl (fun K hK => ?_)
  refine e_call 13 [.int .i64 at_, .int .i64 5] rfl rfl Try.call13 (place3_any at_ 5 (by decide) (by decide) _) ?_
  rintro e w10 ⟨rfl, H10⟩
  have M10 : Mem w [] w10 [disk (newD k) p pg mb (.slice none 0 0)] := M6.step H10
  refine ⟨_, rfl, ?_⟩
  refine hK.out _ _ ?_
  clear hK K
  simp only [Act.put, z1, z2, z3]
  refine pl M10 (y_add (r := n) rfl rfl rfl rfl (han) (by omega)) ?_
  simp only [Act.put, z1, z2, z3]
  refine pl M10 (y_assign (v := .int .i64 n) rfl rfl rfl) ?_
  simp only [Act.put, z1, z2, z3]
  refine wpList_nil ?_
  refine hK9 _ _ ?_
  clear hK9
  refine wp_seq_k (fun K11 hK11 => ?_)
  refine wp_region_lit ?_
  refine pl M10 (y_move (v := .pointer (some ⟨p, 0, none⟩)) rfl rfl rfl) ?_
  simp only [Act.put, z1, z2, z3]
  refine pl M10 (y_move (v := .int .i64 n) rfl rfl rfl) ?_
  simp only [Act.put, z1, z2, z3]
  have hX12 : Mem w [] w10 ([disk (newD k) p pg mb (.slice none 0 0)] ++ []) := M10.arr [0] (by decide)
  refine pe rfl (fun K hK => ?_)
  refine e_call 14 [.pointer (some ⟨p, 0, none⟩), .int .i64 n] rfl rfl Try.call14 ((by have N := arm_any (Mem.here (L := [disk (newD k) p pg mb (.slice none 0 0)]) (R := []) hX12) n (by omega); rw [armD_new k (by omega)] at N; exact N)) ?_
  rintro e w12 ⟨rfl, H12⟩
  have M12 : Mem w [] w12 [disk ({ newD k with armed := n } : DV) p pg mb (.slice none 0 0)] := Mem.frame (Pre := [disk (newD k) p pg mb (.slice none 0 0)]) (Post := [disk ({ newD k with armed := n } : DV) p pg mb (.slice none 0 0)]) (R := []) hX12 H12
  refine ⟨_, rfl, ?_⟩
  refine hK.out _ _ ?_
  clear hK K
  simp only [Act.put, z1, z2, z3]
  refine wpList_nil ?_
  refine hK11 _ _ ?_
  clear hK11
  refine wp_seq_k (fun K13 hK13 => ?_)
  refine wp_region_lit ?_
  refine pl M12 (y_move (v := .pointer (some ⟨p, 0, none⟩)) rfl rfl rfl) ?_
  simp only [Act.put, z1, z2, z3]
  refine pl M12 (y_move (v := .int .i64 width) rfl rfl rfl) ?_
  simp only [Act.put, z1, z2, z3]
  have hX14 : Mem w [] w12 ([disk ({ newD k with armed := n } : DV) p pg mb (.slice none 0 0)] ++ []) := M12.arr [0] (by decide)
  refine pe rfl (fun K hK => ?_)
  refine e_call 15 [.pointer (some ⟨p, 0, none⟩), .int .i64 width] rfl rfl Try.call15 (format_eq (Mem.here (L := [disk ({ newD k with armed := n } : DV) p pg mb (.slice none 0 0)]) (R := []) hX14) hF (by show (0 : Nat) ≤ 400000000000; decide)) ?_
  rintro e w14 ⟨qv1, rfl, H14⟩
  have M14 : Mem w [] w14 [disk E0 p pg mb qv1] := Mem.frame (Pre := [disk ({ newD k with armed := n } : DV) p pg mb (.slice none 0 0)]) (Post := [disk E0 p pg mb qv1]) (R := []) hX14 H14
  refine ⟨_, rfl, ?_⟩
  refine hK.out _ _ ?_
  clear hK K
  simp only [Act.put, z1, z2, z3]
  refine pl M14 (y_assign (v := .int .i64 2) rfl rfl rfl) ?_
  simp only [Act.put, z1, z2, z3]
  refine wpList_nil ?_
  refine hK13 _ _ ?_
  clear hK13
  refine wp_seq_k (fun K15 hK15 => ?_)
  refine wp_seq_k (fun K16 hK16 => ?_)
  refine wp_region_lit ?_
  refine pl M14 (y_move (v := .int .i64 n) rfl rfl rfl) ?_
  simp only [Act.put, z1, z2, z3]
  refine pl M14 (y_leq (b := true) rfl rfl rfl rfl (decide_eq_true (by omega))) ?_
  simp only [Act.put, z1, z2, z3]
  refine pl M14 (y_move (v := .int .i64 2) rfl rfl rfl) ?_
  simp only [Act.put, z1, z2, z3]
  refine pl M14 (y_eql (b := true) rfl rfl rfl rfl (decide_eq_true (by decide))) ?_
  simp only [Act.put, z1, z2, z3]
  refine pl M14 (y_neb (r := false) rfl rfl rfl rfl Try.underlying4 rfl) ?_
  simp only [Act.put, z1, z2, z3]
  refine pl M14 (y_move (v := .bool false) rfl rfl rfl) ?_
  simp only [Act.put, z1, z2, z3]
  refine pl M14 (y_move (v := .int .i64 n) rfl rfl rfl) ?_
  simp only [Act.put, z1, z2, z3]
  refine pl M14 (y_gtr (b := false) rfl rfl rfl rfl (decide_eq_false (by omega))) ?_
  simp only [Act.put, z1, z2, z3]
  refine pl M14 (y_move (v := .int .i64 2) rfl rfl rfl) ?_
  simp only [Act.put, z1, z2, z3]
  refine pl M14 (y_eql (b := false) rfl rfl rfl rfl (decide_eq_false (by decide))) ?_
  simp only [Act.put, z1, z2, z3]
  refine pl M14 (y_neb (r := false) rfl rfl rfl rfl Try.underlying4 rfl) ?_
  simp only [Act.put, z1, z2, z3]
  refine pl M14 (y_pickF (v := .bool false) rfl rfl rfl rfl) ?_
  simp only [Act.put, z1, z2, z3]
  refine wpList_nil ?_
  refine hK16 _ _ ?_
  clear hK16
  refine wp_cond_false rfl ?_
  refine wp_skip ?_
  refine hK15 _ _ ?_
  clear hK15
  refine wp_seq_k (fun K17 hK17 => ?_)
  refine wp_region_lit ?_
  refine pl M14 (y_move (v := .pointer (some ⟨p, 0, none⟩)) rfl rfl rfl) ?_
  simp only [Act.put, z1, z2, z3]
  refine pl M14 (y_move (v := .slice ao nn c) rfl rfl rfl) ?_
  simp only [Act.put, z1, z2, z3]
  have hX18 : Mem w [] w14 ([disk E0 p pg mb qv1] ++ []) := M14.arr [0] (by decide)
  refine pe rfl (fun K hK => ?_)
  refine e_call 16 [.pointer (some ⟨p, 0, none⟩), .slice ao nn c] rfl rfl Try.call16 (crash_any (Mem.here (L := [disk E0 p pg mb qv1]) (R := []) hX18) ao nn c l (M14.row hr (by simp)) (hX18.left.off_row hr) (by omega)) ?_
  rintro e w18 ⟨qv2, rfl, H18⟩
  have M18 : Mem w [] w18 [disk (crashD E0 l) p pg mb qv2] := Mem.frame (Pre := [disk E0 p pg mb qv1]) (Post := [disk (crashD E0 l) p pg mb qv2]) (R := []) hX18 H18
  refine ⟨_, rfl, ?_⟩
  refine hK.out _ _ ?_
  clear hK K
  simp only [Act.put, z1, z2, z3]
  refine wpList_nil ?_
  refine hK17 _ _ ?_
  clear hK17
  refine wp_seq_k (fun K19 hK19 => ?_)
  refine wp_region_lit ?_
  refine pl M18 (y_move (v := .pointer (some ⟨p, 0, none⟩)) rfl rfl rfl) ?_
  simp only [Act.put, z1, z2, z3]
  have hX20 : Mem w [] w18 ([disk (crashD E0 l) p pg mb qv2] ++ []) := M18.arr [0] (by decide)
  refine pe rfl (fun K hK => ?_)
  refine e_call 17 [.pointer (some ⟨p, 0, none⟩)] rfl rfl Try.call17 (epoch_any (Mem.here (L := [disk (crashD E0 l) p pg mb qv2]) (R := []) hX20)) ?_
  rintro e w20 ⟨rfl, H20⟩
  have M20 : Mem w [] w20 [disk (crashD E0 l) p pg mb qv2] := Mem.frame (Pre := [disk (crashD E0 l) p pg mb qv2]) (Post := [disk (crashD E0 l) p pg mb qv2]) (R := []) hX20 H20
  refine ⟨_, rfl, ?_⟩
  refine hK.out _ _ ?_
  clear hK K
  simp only [Act.put, z1, z2, z3]
  refine pl M20 (y_assign (v := .int .i64 ((crashD E0 l).epoch)) rfl rfl rfl) ?_
  simp only [Act.put, z1, z2, z3]
  refine wpList_nil ?_
  refine hK19 _ _ ?_
  clear hK19
  refine wp_seq_k (fun K21 hK21 => ?_)
  refine wp_region_lit ?_
  refine pl M20 (y_move (v := .pointer (some ⟨p, 0, none⟩)) rfl rfl rfl) ?_
  simp only [Act.put, z1, z2, z3]
  have hX22 : Mem w [] w20 ([disk (crashD E0 l) p pg mb qv2] ++ []) := M20.arr [0] (by decide)
  refine pe rfl (fun K hK => ?_)
  refine e_call 18 [.pointer (some ⟨p, 0, none⟩)] rfl rfl Try.call18 (open_fit (Mem.here (L := [disk (crashD E0 l) p pg mb qv2]) (R := []) hX22) hP rfl) ?_
  rintro e w22 ⟨f, E3, m, rfl, H22, hI, hq3, hp3, ha3, he3⟩
  have M22 : Mem w [] w22 [disk E3 p pg mb qv2, blk f 96 (fC (⟨(secondS width k), 2, m⟩ : FV) p)] := Mem.frame (Pre := [disk (crashD E0 l) p pg mb qv2]) (Post := [disk E3 p pg mb qv2, blk f 96 (fC (⟨(secondS width k), 2, m⟩ : FV) p)]) (R := []) hX22 H22
  replace hI : Inv E3 ⟨(secondS width k), 2, m⟩ [] := hI
  refine ⟨_, rfl, ?_⟩
  refine hK.out _ _ ?_
  clear hK K
  simp only [Act.put, z1, z2, z3]
  refine pl M22 (y_move (v := .tuple #[.pointer (some ⟨f, 0, none⟩), .int .i64 0]) rfl rfl rfl) ?_
  simp only [Act.put, z1, z2, z3]
  refine pl M22 (y_ext (v := .pointer (some ⟨f, 0, none⟩)) rfl rfl rfl rfl) ?_
  simp only [Act.put, z1, z2, z3]
  refine pl M22 (y_ext (v := .int .i64 0) rfl rfl rfl rfl) ?_
  simp only [Act.put, z1, z2, z3]
  refine pl M22 (y_assign (v := .pointer (some ⟨f, 0, none⟩)) rfl rfl rfl) ?_
  simp only [Act.put, z1, z2, z3]
  refine pl M22 (y_assign (v := .int .i64 0) rfl rfl rfl) ?_
  simp only [Act.put, z1, z2, z3]
  refine wpList_nil ?_
  refine hK21 _ _ ?_
  clear hK21
  refine wp_seq_k (fun K23 hK23 => ?_)
  refine wp_seq_k (fun K24 hK24 => ?_)
  refine wp_region_lit ?_
  refine pl M22 (y_move (v := .int .i64 0) rfl rfl rfl) ?_
  simp only [Act.put, z1, z2, z3]
  refine pl M22 (y_eql (b := false) rfl rfl rfl rfl (decide_eq_false (by decide))) ?_
  simp only [Act.put, z1, z2, z3]
  refine wpList_nil ?_
  refine hK24 _ _ ?_
  clear hK24
  refine wp_cond_false rfl ?_
  refine wp_skip ?_
  refine hK23 _ _ ?_
  clear hK23
  refine wp_seq_k (fun K25 hK25 => ?_)
  refine wp_seq_k (fun K26 hK26 => ?_)
  refine wp_region_lit ?_
  refine pl M22 (y_move (v := .int .i64 0) rfl rfl rfl) ?_
  simp only [Act.put, z1, z2, z3]
  refine pl M22 (y_neq (b := false) rfl rfl rfl rfl (by rw [decide_eq_true (by decide)]; rfl)) ?_
  simp only [Act.put, z1, z2, z3]
  refine pl M22 (y_move (v := .bool false) rfl rfl rfl) ?_
  simp only [Act.put, z1, z2, z3]
  refine pl M22 (y_move (v := .pointer (some ⟨f, 0, none⟩)) rfl rfl rfl) ?_
  simp only [Act.put, z1, z2, z3]
  refine pl M22 (y_eqnil (r := false) rfl rfl rfl rfl Try.underlying33 rfl) ?_
  simp only [Act.put, z1, z2, z3]
  refine pl M22 (y_pickF (v := .bool false) rfl rfl rfl rfl) ?_
  simp only [Act.put, z1, z2, z3]
  refine pl M22 (y_move (v := .bool false) rfl rfl rfl) ?_
  simp only [Act.put, z1, z2, z3]
  refine pl M22 (y_move (v := .pointer (some ⟨p, 0, none⟩)) rfl rfl rfl) ?_
  simp only [Act.put, z1, z2, z3]
  have hX27 : Mem w [] w22 ([disk E3 p pg mb qv2] ++ [blk f 96 (fC (⟨(secondS width k), 2, m⟩ : FV) p)]) := M22.arr [0, 1] (by decide)
  refine pe rfl (fun K hK => ?_)
  refine e_call 17 [.pointer (some ⟨p, 0, none⟩)] rfl rfl Try.call17 (epoch_any (Mem.here (L := [disk E3 p pg mb qv2]) (R := [blk f 96 (fC (⟨(secondS width k), 2, m⟩ : FV) p)]) hX27)) ?_
  rintro e w27 ⟨rfl, H27⟩
  have M27 : Mem w [] w27 [disk E3 p pg mb qv2, blk f 96 (fC (⟨(secondS width k), 2, m⟩ : FV) p)] := Mem.frame (Pre := [disk E3 p pg mb qv2]) (Post := [disk E3 p pg mb qv2]) (R := [blk f 96 (fC (⟨(secondS width k), 2, m⟩ : FV) p)]) hX27 H27
  refine ⟨_, rfl, ?_⟩
  refine hK.out _ _ ?_
  clear hK K
  simp only [Act.put, z1, z2, z3]
  refine pl M27 (y_move (v := .int .i64 ((crashD E0 l).epoch)) rfl rfl rfl) ?_
  simp only [Act.put, z1, z2, z3]
  refine pl M27 (y_addw rfl rfl rfl rfl) ?_
  simp only [Act.put, z1, z2, z3]
  refine pl M27 (y_neq (b := false) rfl rfl rfl rfl (by rw [decide_eq_true he3]; rfl)) ?_
  simp only [Act.put, z1, z2, z3]
  refine pl M27 (y_pickF (v := .bool false) rfl rfl rfl rfl) ?_
  simp only [Act.put, z1, z2, z3]
  refine pl M27 (y_move (v := .bool false) rfl rfl rfl) ?_
  simp only [Act.put, z1, z2, z3]
  refine pl M27 (y_move (v := .pointer (some ⟨p, 0, none⟩)) rfl rfl rfl) ?_
  simp only [Act.put, z1, z2, z3]
  refine pl M27 (y_move (v := .int .i64 width) rfl rfl rfl) ?_
  simp only [Act.put, z1, z2, z3]
  have hX28 : Mem w [] w27 ([disk E3 p pg mb qv2] ++ [blk f 96 (fC (⟨(secondS width k), 2, m⟩ : FV) p)]) := M27.arr [0, 1] (by decide)
  refine pe rfl (fun K hK => ?_)
  refine e_call 15 [.pointer (some ⟨p, 0, none⟩), .int .i64 width] rfl rfl Try.call15 (format_taken2 (Mem.here (L := [disk E3 p pg mb qv2]) (R := [blk f 96 (fC (⟨(secondS width k), 2, m⟩ : FV) p)]) hX28) hI hw (by rw [hq3]; exact Nat.zero_le _)) ?_
  rintro e w28 ⟨E4, qv4, rfl, H28, hI4⟩
  have M28 : Mem w [] w28 [disk E4 p pg mb qv4, blk f 96 (fC (⟨(secondS width k), 2, m⟩ : FV) p)] := Mem.frame (Pre := [disk E3 p pg mb qv2]) (Post := [disk E4 p pg mb qv4]) (R := [blk f 96 (fC (⟨(secondS width k), 2, m⟩ : FV) p)]) hX28 H28
  refine ⟨_, rfl, ?_⟩
  refine hK.out _ _ ?_
  clear hK K
  simp only [Act.put, z1, z2, z3]
  refine pl M28 (y_neq (b := false) rfl rfl rfl rfl (by rw [decide_eq_true (by decide)]; rfl)) ?_
  simp only [Act.put, z1, z2, z3]
  refine pl M28 (y_pickF (v := .bool false) rfl rfl rfl rfl) ?_
  simp only [Act.put, z1, z2, z3]
  refine wpList_nil ?_
  refine hK26 _ _ ?_
  clear hK26
  refine wp_cond_false rfl ?_
  refine wp_skip ?_
  refine hK25 _ _ ?_
  clear hK25
  refine wp_seq_k (fun K29 hK29 => ?_)
  refine wp_region_lit ?_
  refine pl M28 (y_move (v := .pointer (some ⟨f, 0, none⟩)) rfl rfl rfl) ?_
  simp only [Act.put, z1, z2, z3]
  have hX30 : Mem w [] w28 ([disk E4 p pg mb qv4, blk f 96 (fC (⟨(secondS width k), 2, m⟩ : FV) p)] ++ []) := M28.arr [0, 1] (by decide)
  refine pe rfl (fun K hK => ?_)
  refine e_call 19 [.pointer (some ⟨f, 0, none⟩)] rfl rfl Try.call19 (super_any (Mem.here (L := [disk E4 p pg mb qv4, blk f 96 (fC (⟨(secondS width k), 2, m⟩ : FV) p)]) (R := []) hX30)) ?_
  rintro e w30 ⟨rfl, H30⟩
  have M30 : Mem w [] w30 [disk E4 p pg mb qv4, blk f 96 (fC (⟨(secondS width k), 2, m⟩ : FV) p)] := Mem.frame (Pre := [disk E4 p pg mb qv4, blk f 96 (fC (⟨(secondS width k), 2, m⟩ : FV) p)]) (Post := [disk E4 p pg mb qv4, blk f 96 (fC (⟨(secondS width k), 2, m⟩ : FV) p)]) (R := []) hX30 H30
  refine ⟨_, rfl, ?_⟩
  refine hK.out _ _ ?_
  clear hK K
  simp only [Act.put, z1, z2, z3]
  refine pl M30 (y_move (v := .int .i64 width) rfl rfl rfl) ?_
  simp only [Act.put, z1, z2, z3]
  refine pl M30 (y_move (v := .int .i64 (k : Int)) rfl rfl rfl) ?_
  simp only [Act.put, z1, z2, z3]
  refine pl M30 (y_build (ps := [(0, .tmp 120), (1, .const (.int .i64 1)), (2, .const (.int .i64 2)), (3, .const (.int .i64 0)), (4, .tmp 121)]) (pv := [(0, .int .i64 width), (1, .int .i64 1), (2, .int .i64 2), (3, .int .i64 0), (4, .int .i64 (k : Int))]) (cs := (supC (secondS width k))) rfl rfl rfl (by kernel_rfl)) ?_
  simp only [Act.put, z1, z2, z3]
  refine pl M30 (y_eqs (r := true) rfl rfl rfl rfl sup_guard (fun W => sup_same _ W)) ?_
  simp only [Act.put, z1, z2, z3]
  refine pl M30 (y_move (v := .bool true) rfl rfl rfl) ?_
  simp only [Act.put, z1, z2, z3]
  refine pl M30 (y_move (v := .pointer (some ⟨f, 0, none⟩)) rfl rfl rfl) ?_
  simp only [Act.put, z1, z2, z3]
  have hX31 : Mem w [] w30 ([disk E4 p pg mb qv4, blk f 96 (fC (⟨(secondS width k), 2, m⟩ : FV) p)] ++ []) := M30.arr [0, 1] (by decide)
  refine pe rfl (fun K hK => ?_)
  refine e_call 20 [.pointer (some ⟨f, 0, none⟩)] rfl rfl Try.call20 (next_any (Mem.here (L := [disk E4 p pg mb qv4, blk f 96 (fC (⟨(secondS width k), 2, m⟩ : FV) p)]) (R := []) hX31)) ?_
  rintro e w31 ⟨rfl, H31⟩
  have M31 : Mem w [] w31 [disk E4 p pg mb qv4, blk f 96 (fC (⟨(secondS width k), 2, m⟩ : FV) p)] := Mem.frame (Pre := [disk E4 p pg mb qv4, blk f 96 (fC (⟨(secondS width k), 2, m⟩ : FV) p)]) (Post := [disk E4 p pg mb qv4, blk f 96 (fC (⟨(secondS width k), 2, m⟩ : FV) p)]) (R := []) hX31 H31
  refine ⟨_, rfl, ?_⟩
  refine hK.out _ _ ?_
  clear hK K
  simp only [Act.put, z1, z2, z3]
  refine pl M31 (y_eql (b := true) rfl rfl rfl rfl (decide_eq_true rfl)) ?_
  simp only [Act.put, z1, z2, z3]
  refine pl M31 (y_pickT (v := .bool true) rfl rfl rfl rfl) ?_
  simp only [Act.put, z1, z2, z3]
  refine pl M31 (y_move (v := .bool true) rfl rfl rfl) ?_
  simp only [Act.put, z1, z2, z3]
  refine pl M31 (y_move (v := .pointer (some ⟨f, 0, none⟩)) rfl rfl rfl) ?_
  simp only [Act.put, z1, z2, z3]
  have hX32 : Mem w [] w31 ([disk E4 p pg mb qv4, blk f 96 (fC (⟨(secondS width k), 2, m⟩ : FV) p)] ++ []) := M31.arr [0, 1] (by decide)
  refine pe rfl (fun K hK => ?_)
  refine e_call 21 [.pointer (some ⟨f, 0, none⟩)] rfl rfl Try.call21 (live_ok (Mem.here (L := [disk E4 p pg mb qv4, blk f 96 (fC (⟨(secondS width k), 2, m⟩ : FV) p)]) (R := []) hX32) hI4) ?_
  rintro e w32 ⟨rfl, H32⟩
  have M32 : Mem w [] w32 [disk E4 p pg mb qv4, blk f 96 (fC (⟨(secondS width k), 2, m⟩ : FV) p)] := Mem.frame (Pre := [disk E4 p pg mb qv4, blk f 96 (fC (⟨(secondS width k), 2, m⟩ : FV) p)]) (Post := [disk E4 p pg mb qv4, blk f 96 (fC (⟨(secondS width k), 2, m⟩ : FV) p)]) (R := []) hX32 H32
  refine ⟨_, rfl, ?_⟩
  refine hK.out _ _ ?_
  clear hK K
  simp only [Act.put, z1, z2, z3]
  refine pl M32 (y_eql (b := true) rfl rfl rfl rfl (decide_eq_true (by decide))) ?_
  simp only [Act.put, z1, z2, z3]
  refine pl M32 (y_pickT (v := .bool true) rfl rfl rfl rfl) ?_
  simp only [Act.put, z1, z2, z3]
  refine pl M32 (y_assign (v := .bool true) rfl rfl rfl) ?_
  simp only [Act.put, z1, z2, z3]
  refine wpList_nil ?_
  refine hK29 _ _ ?_
  clear hK29
  refine wp_ret ?_
  try simp only [Exit.inBlock, Exit.then]
  refine bodyPost_ret (v := .bool true) (res1 rfl rfl) rfl ?_
  exact ⟨rfl, M32.arr [] (by decide)⟩
set_option maxRecDepth 100000 in
set_option maxHeartbeats 800000 in
theorem begins_c (k : Nat) (width other at_ : Int) (ao : Option Addr) (nn c : Nat) (w : World) (hn : 3 ≤ k ∧ k ≤ 64) (hw : 1 ≤ width ∧ width ≤ 32) (ho : 1 ≤ other ∧ other ≤ 32) (n : Int) (han : 1 + at_ % 5 = n) (l : List UInt8) (hr : Row w ao nn l) (hnn : nn ≤ 140737488351232) (E0 : DV) (hn4 : 4 < n) (hF : formatR ({ newD k with armed := n } : DV) width = (E0, 0)) (hP : Plat (crashD E0 l) (secondS width k) []) : Calls Try.prog 3 #[.int .i64 (k : Int), .int .i64 width, .int .i64 other, .int .i64 at_, .slice ao nn c] w fun e w' => e = .returned (.bool true) ∧ Mem w [] w' [] := by
  have M := Mem.nil w
  go_enter Try.func3, Try.ntmps3
  refine wp_seq_k (fun K1 hK1 => ?_)
  refine wp_region_lit ?_
  refine pl M (y_assign (v := .bool false) rfl rfl rfl) ?_
  simp only [Act.put, z1, z2, z3]
  refine wpList_nil ?_
  refine hK1 _ _ ?_
  clear hK1
  refine wp_seq_k (fun K2 hK2 => ?_)
  refine wp_seq_k (fun K3 hK3 => ?_)
  refine wp_region_lit ?_
  refine pl M (y_move (v := .int .i64 (k : Int)) rfl rfl rfl) ?_
  simp only [Act.put, z1, z2, z3]
  refine pl M (y_move (v := .int .i64 width) rfl rfl rfl) ?_
  simp only [Act.put, z1, z2, z3]
  refine pe rfl (fun K hK => ?_)
  refine e_call 11 [.int .i64 (k : Int), .int .i64 width] rfl rfl Try.call11 (fits_any (k : Int) width _) ?_
  rintro e w4 ⟨rfl, H4⟩
  have M4 : Mem w [] w4 [] := M.step H4
  rw [(fits_yes hn hw)]
  refine ⟨_, rfl, ?_⟩
  refine hK.out _ _ ?_
  clear hK K
  simp only [Act.put, z1, z2, z3]
  refine pl M4 (y_not rfl rfl rfl rfl) ?_
  simp only [Act.put, z1, z2, z3]
  refine pl M4 (y_move (v := .bool false) rfl rfl rfl) ?_
  simp only [Act.put, z1, z2, z3]
  refine pl M4 (y_move (v := .int .i64 other) rfl rfl rfl) ?_
  simp only [Act.put, z1, z2, z3]
  refine pl M4 (y_lss (b := false) rfl rfl rfl rfl (decide_eq_false (by omega))) ?_
  simp only [Act.put, z1, z2, z3]
  refine pl M4 (y_pickF (v := .bool false) rfl rfl rfl rfl) ?_
  simp only [Act.put, z1, z2, z3]
  refine pl M4 (y_move (v := .bool false) rfl rfl rfl) ?_
  simp only [Act.put, z1, z2, z3]
  refine pl M4 (y_move (v := .int .i64 other) rfl rfl rfl) ?_
  simp only [Act.put, z1, z2, z3]
  refine pl M4 (y_gtr (b := false) rfl rfl rfl rfl (decide_eq_false (by omega))) ?_
  simp only [Act.put, z1, z2, z3]
  refine pl M4 (y_pickF (v := .bool false) rfl rfl rfl rfl) ?_
  simp only [Act.put, z1, z2, z3]
  refine wpList_nil ?_
  refine hK3 _ _ ?_
  clear hK3
  refine wp_cond_false rfl ?_
  refine wp_skip ?_
  refine hK2 _ _ ?_
  clear hK2
  refine wp_seq_k (fun K5 hK5 => ?_)
  refine wp_region_lit ?_
  refine pl M4 (y_move (v := .int .i64 (k : Int)) rfl rfl rfl) ?_
  simp only [Act.put, z1, z2, z3]
  refine pe rfl (fun K hK => ?_)
  refine e_call 12 [.int .i64 (k : Int)] rfl rfl Try.call12 (new_fit k ⟨by omega, by omega⟩ _) ?_
  rintro e w6 ⟨p, pg, mb, rfl, H6⟩
  have M6 : Mem w [] w6 [disk (newD k) p pg mb (.slice none 0 0)] := M4.step H6
  refine ⟨_, rfl, ?_⟩
  refine hK.out _ _ ?_
  clear hK K
  simp only [Act.put, z1, z2, z3]
  refine pl M6 (y_move (v := .tuple #[.pointer (some ⟨p, 0, none⟩), .int .i64 0]) rfl rfl rfl) ?_
  simp only [Act.put, z1, z2, z3]
  refine pl M6 (y_ext (v := .pointer (some ⟨p, 0, none⟩)) rfl rfl rfl rfl) ?_
  simp only [Act.put, z1, z2, z3]
  refine pl M6 (y_ext (v := .int .i64 0) rfl rfl rfl rfl) ?_
  simp only [Act.put, z1, z2, z3]
  refine pl M6 (y_assign (v := .pointer (some ⟨p, 0, none⟩)) rfl rfl rfl) ?_
  simp only [Act.put, z1, z2, z3]
  refine pl M6 (y_assign (v := .int .i64 0) rfl rfl rfl) ?_
  simp only [Act.put, z1, z2, z3]
  refine wpList_nil ?_
  refine hK5 _ _ ?_
  clear hK5
  refine wp_seq_k (fun K7 hK7 => ?_)
  refine wp_seq_k (fun K8 hK8 => ?_)
  refine wp_region_lit ?_
  refine pl M6 (y_move (v := .int .i64 0) rfl rfl rfl) ?_
  simp only [Act.put, z1, z2, z3]
  refine pl M6 (y_neq (b := false) rfl rfl rfl rfl (by rw [decide_eq_true (by decide)]; rfl)) ?_
  simp only [Act.put, z1, z2, z3]
  refine pl M6 (y_move (v := .bool false) rfl rfl rfl) ?_
  simp only [Act.put, z1, z2, z3]
  refine pl M6 (y_move (v := .pointer (some ⟨p, 0, none⟩)) rfl rfl rfl) ?_
  simp only [Act.put, z1, z2, z3]
  refine pl M6 (y_eqnil (r := false) rfl rfl rfl rfl Try.underlying24 rfl) ?_
  simp only [Act.put, z1, z2, z3]
  refine pl M6 (y_pickF (v := .bool false) rfl rfl rfl rfl) ?_
  simp only [Act.put, z1, z2, z3]
  refine wpList_nil ?_
  refine hK8 _ _ ?_
  clear hK8
  refine wp_cond_false rfl ?_
  refine wp_skip ?_
  refine hK7 _ _ ?_
  clear hK7
  refine wp_seq_k (fun K9 hK9 => ?_)
  refine wp_region_lit ?_
  refine pl M6 (y_move (v := .int .i64 at_) rfl rfl rfl) ?_
  simp only [Act.put, z1, z2, z3]
  refine pe rfl (fun K hK => ?_)
  refine e_call 13 [.int .i64 at_, .int .i64 5] rfl rfl Try.call13 (place3_any at_ 5 (by decide) (by decide) _) ?_
  rintro e w10 ⟨rfl, H10⟩
  have M10 : Mem w [] w10 [disk (newD k) p pg mb (.slice none 0 0)] := M6.step H10
  refine ⟨_, rfl, ?_⟩
  refine hK.out _ _ ?_
  clear hK K
  simp only [Act.put, z1, z2, z3]
  refine pl M10 (y_add (r := n) rfl rfl rfl rfl (han) (by omega)) ?_
  simp only [Act.put, z1, z2, z3]
  refine pl M10 (y_assign (v := .int .i64 n) rfl rfl rfl) ?_
  simp only [Act.put, z1, z2, z3]
  refine wpList_nil ?_
  refine hK9 _ _ ?_
  clear hK9
  refine wp_seq_k (fun K11 hK11 => ?_)
  refine wp_region_lit ?_
  refine pl M10 (y_move (v := .pointer (some ⟨p, 0, none⟩)) rfl rfl rfl) ?_
  simp only [Act.put, z1, z2, z3]
  refine pl M10 (y_move (v := .int .i64 n) rfl rfl rfl) ?_
  simp only [Act.put, z1, z2, z3]
  have hX12 : Mem w [] w10 ([disk (newD k) p pg mb (.slice none 0 0)] ++ []) := M10.arr [0] (by decide)
  refine pe rfl (fun K hK => ?_)
  refine e_call 14 [.pointer (some ⟨p, 0, none⟩), .int .i64 n] rfl rfl Try.call14 ((by have N := arm_any (Mem.here (L := [disk (newD k) p pg mb (.slice none 0 0)]) (R := []) hX12) n (by omega); rw [armD_new k (by omega)] at N; exact N)) ?_
  rintro e w12 ⟨rfl, H12⟩
  have M12 : Mem w [] w12 [disk ({ newD k with armed := n } : DV) p pg mb (.slice none 0 0)] := Mem.frame (Pre := [disk (newD k) p pg mb (.slice none 0 0)]) (Post := [disk ({ newD k with armed := n } : DV) p pg mb (.slice none 0 0)]) (R := []) hX12 H12
  refine ⟨_, rfl, ?_⟩
  refine hK.out _ _ ?_
  clear hK K
  simp only [Act.put, z1, z2, z3]
  refine wpList_nil ?_
  refine hK11 _ _ ?_
  clear hK11
  refine wp_seq_k (fun K13 hK13 => ?_)
  refine wp_region_lit ?_
  refine pl M12 (y_move (v := .pointer (some ⟨p, 0, none⟩)) rfl rfl rfl) ?_
  simp only [Act.put, z1, z2, z3]
  refine pl M12 (y_move (v := .int .i64 width) rfl rfl rfl) ?_
  simp only [Act.put, z1, z2, z3]
  have hX14 : Mem w [] w12 ([disk ({ newD k with armed := n } : DV) p pg mb (.slice none 0 0)] ++ []) := M12.arr [0] (by decide)
  refine pe rfl (fun K hK => ?_)
  refine e_call 15 [.pointer (some ⟨p, 0, none⟩), .int .i64 width] rfl rfl Try.call15 (format_eq (Mem.here (L := [disk ({ newD k with armed := n } : DV) p pg mb (.slice none 0 0)]) (R := []) hX14) hF (by show (0 : Nat) ≤ 400000000000; decide)) ?_
  rintro e w14 ⟨qv1, rfl, H14⟩
  have M14 : Mem w [] w14 [disk E0 p pg mb qv1] := Mem.frame (Pre := [disk ({ newD k with armed := n } : DV) p pg mb (.slice none 0 0)]) (Post := [disk E0 p pg mb qv1]) (R := []) hX14 H14
  refine ⟨_, rfl, ?_⟩
  refine hK.out _ _ ?_
  clear hK K
  simp only [Act.put, z1, z2, z3]
  refine pl M14 (y_assign (v := .int .i64 0) rfl rfl rfl) ?_
  simp only [Act.put, z1, z2, z3]
  refine wpList_nil ?_
  refine hK13 _ _ ?_
  clear hK13
  refine wp_seq_k (fun K15 hK15 => ?_)
  refine wp_seq_k (fun K16 hK16 => ?_)
  refine wp_region_lit ?_
  refine pl M14 (y_move (v := .int .i64 n) rfl rfl rfl) ?_
  simp only [Act.put, z1, z2, z3]
  refine pl M14 (y_leq (b := false) rfl rfl rfl rfl (decide_eq_false (by omega))) ?_
  simp only [Act.put, z1, z2, z3]
  refine pl M14 (y_move (v := .int .i64 0) rfl rfl rfl) ?_
  simp only [Act.put, z1, z2, z3]
  refine pl M14 (y_eql (b := false) rfl rfl rfl rfl (decide_eq_false (by decide))) ?_
  simp only [Act.put, z1, z2, z3]
  refine pl M14 (y_neb (r := false) rfl rfl rfl rfl Try.underlying4 rfl) ?_
  simp only [Act.put, z1, z2, z3]
  refine pl M14 (y_move (v := .bool false) rfl rfl rfl) ?_
  simp only [Act.put, z1, z2, z3]
  refine pl M14 (y_move (v := .int .i64 n) rfl rfl rfl) ?_
  simp only [Act.put, z1, z2, z3]
  refine pl M14 (y_gtr (b := true) rfl rfl rfl rfl (decide_eq_true (by omega))) ?_
  simp only [Act.put, z1, z2, z3]
  refine pl M14 (y_move (v := .int .i64 0) rfl rfl rfl) ?_
  simp only [Act.put, z1, z2, z3]
  refine pl M14 (y_eql (b := true) rfl rfl rfl rfl (decide_eq_true (by decide))) ?_
  simp only [Act.put, z1, z2, z3]
  refine pl M14 (y_neb (r := false) rfl rfl rfl rfl Try.underlying4 rfl) ?_
  simp only [Act.put, z1, z2, z3]
  refine pl M14 (y_pickF (v := .bool false) rfl rfl rfl rfl) ?_
  simp only [Act.put, z1, z2, z3]
  refine wpList_nil ?_
  refine hK16 _ _ ?_
  clear hK16
  refine wp_cond_false rfl ?_
  refine wp_skip ?_
  refine hK15 _ _ ?_
  clear hK15
  refine wp_seq_k (fun K17 hK17 => ?_)
  refine wp_region_lit ?_
  refine pl M14 (y_move (v := .pointer (some ⟨p, 0, none⟩)) rfl rfl rfl) ?_
  simp only [Act.put, z1, z2, z3]
  refine pl M14 (y_move (v := .slice ao nn c) rfl rfl rfl) ?_
  simp only [Act.put, z1, z2, z3]
  have hX18 : Mem w [] w14 ([disk E0 p pg mb qv1] ++ []) := M14.arr [0] (by decide)
  refine pe rfl (fun K hK => ?_)
  refine e_call 16 [.pointer (some ⟨p, 0, none⟩), .slice ao nn c] rfl rfl Try.call16 (crash_any (Mem.here (L := [disk E0 p pg mb qv1]) (R := []) hX18) ao nn c l (M14.row hr (by simp)) (hX18.left.off_row hr) (by omega)) ?_
  rintro e w18 ⟨qv2, rfl, H18⟩
  have M18 : Mem w [] w18 [disk (crashD E0 l) p pg mb qv2] := Mem.frame (Pre := [disk E0 p pg mb qv1]) (Post := [disk (crashD E0 l) p pg mb qv2]) (R := []) hX18 H18
  refine ⟨_, rfl, ?_⟩
  refine hK.out _ _ ?_
  clear hK K
  simp only [Act.put, z1, z2, z3]
  refine wpList_nil ?_
  refine hK17 _ _ ?_
  clear hK17
  refine wp_seq_k (fun K19 hK19 => ?_)
  refine wp_region_lit ?_
  refine pl M18 (y_move (v := .pointer (some ⟨p, 0, none⟩)) rfl rfl rfl) ?_
  simp only [Act.put, z1, z2, z3]
  have hX20 : Mem w [] w18 ([disk (crashD E0 l) p pg mb qv2] ++ []) := M18.arr [0] (by decide)
  refine pe rfl (fun K hK => ?_)
  refine e_call 17 [.pointer (some ⟨p, 0, none⟩)] rfl rfl Try.call17 (epoch_any (Mem.here (L := [disk (crashD E0 l) p pg mb qv2]) (R := []) hX20)) ?_
  rintro e w20 ⟨rfl, H20⟩
  have M20 : Mem w [] w20 [disk (crashD E0 l) p pg mb qv2] := Mem.frame (Pre := [disk (crashD E0 l) p pg mb qv2]) (Post := [disk (crashD E0 l) p pg mb qv2]) (R := []) hX20 H20
  refine ⟨_, rfl, ?_⟩
  refine hK.out _ _ ?_
  clear hK K
  simp only [Act.put, z1, z2, z3]
  refine pl M20 (y_assign (v := .int .i64 ((crashD E0 l).epoch)) rfl rfl rfl) ?_
  simp only [Act.put, z1, z2, z3]
  refine wpList_nil ?_
  refine hK19 _ _ ?_
  clear hK19
  refine wp_seq_k (fun K21 hK21 => ?_)
  refine wp_region_lit ?_
  refine pl M20 (y_move (v := .pointer (some ⟨p, 0, none⟩)) rfl rfl rfl) ?_
  simp only [Act.put, z1, z2, z3]
  have hX22 : Mem w [] w20 ([disk (crashD E0 l) p pg mb qv2] ++ []) := M20.arr [0] (by decide)
  refine pe rfl (fun K hK => ?_)
  refine e_call 18 [.pointer (some ⟨p, 0, none⟩)] rfl rfl Try.call18 (open_fit (Mem.here (L := [disk (crashD E0 l) p pg mb qv2]) (R := []) hX22) hP rfl) ?_
  rintro e w22 ⟨f, E3, m, rfl, H22, hI, hq3, hp3, ha3, he3⟩
  have M22 : Mem w [] w22 [disk E3 p pg mb qv2, blk f 96 (fC (⟨(secondS width k), 2, m⟩ : FV) p)] := Mem.frame (Pre := [disk (crashD E0 l) p pg mb qv2]) (Post := [disk E3 p pg mb qv2, blk f 96 (fC (⟨(secondS width k), 2, m⟩ : FV) p)]) (R := []) hX22 H22
  replace hI : Inv E3 ⟨(secondS width k), 2, m⟩ [] := hI
  refine ⟨_, rfl, ?_⟩
  refine hK.out _ _ ?_
  clear hK K
  simp only [Act.put, z1, z2, z3]
  refine pl M22 (y_move (v := .tuple #[.pointer (some ⟨f, 0, none⟩), .int .i64 0]) rfl rfl rfl) ?_
  simp only [Act.put, z1, z2, z3]
  refine pl M22 (y_ext (v := .pointer (some ⟨f, 0, none⟩)) rfl rfl rfl rfl) ?_
  simp only [Act.put, z1, z2, z3]
  refine pl M22 (y_ext (v := .int .i64 0) rfl rfl rfl rfl) ?_
  simp only [Act.put, z1, z2, z3]
  refine pl M22 (y_assign (v := .pointer (some ⟨f, 0, none⟩)) rfl rfl rfl) ?_
  simp only [Act.put, z1, z2, z3]
  refine pl M22 (y_assign (v := .int .i64 0) rfl rfl rfl) ?_
  simp only [Act.put, z1, z2, z3]
  refine wpList_nil ?_
  refine hK21 _ _ ?_
  clear hK21
  refine wp_seq_k (fun K23 hK23 => ?_)
  refine wp_seq_k (fun K24 hK24 => ?_)
  refine wp_region_lit ?_
  refine pl M22 (y_move (v := .int .i64 0) rfl rfl rfl) ?_
  simp only [Act.put, z1, z2, z3]
  refine pl M22 (y_eql (b := false) rfl rfl rfl rfl (decide_eq_false (by decide))) ?_
  simp only [Act.put, z1, z2, z3]
  refine wpList_nil ?_
  refine hK24 _ _ ?_
  clear hK24
  refine wp_cond_false rfl ?_
  refine wp_skip ?_
  refine hK23 _ _ ?_
  clear hK23
  refine wp_seq_k (fun K25 hK25 => ?_)
  refine wp_seq_k (fun K26 hK26 => ?_)
  refine wp_region_lit ?_
  refine pl M22 (y_move (v := .int .i64 0) rfl rfl rfl) ?_
  simp only [Act.put, z1, z2, z3]
  refine pl M22 (y_neq (b := false) rfl rfl rfl rfl (by rw [decide_eq_true (by decide)]; rfl)) ?_
  simp only [Act.put, z1, z2, z3]
  refine pl M22 (y_move (v := .bool false) rfl rfl rfl) ?_
  simp only [Act.put, z1, z2, z3]
  refine pl M22 (y_move (v := .pointer (some ⟨f, 0, none⟩)) rfl rfl rfl) ?_
  simp only [Act.put, z1, z2, z3]
  refine pl M22 (y_eqnil (r := false) rfl rfl rfl rfl Try.underlying33 rfl) ?_
  simp only [Act.put, z1, z2, z3]
  refine pl M22 (y_pickF (v := .bool false) rfl rfl rfl rfl) ?_
  simp only [Act.put, z1, z2, z3]
  refine pl M22 (y_move (v := .bool false) rfl rfl rfl) ?_
  simp only [Act.put, z1, z2, z3]
  refine pl M22 (y_move (v := .pointer (some ⟨p, 0, none⟩)) rfl rfl rfl) ?_
  simp only [Act.put, z1, z2, z3]
  have hX27 : Mem w [] w22 ([disk E3 p pg mb qv2] ++ [blk f 96 (fC (⟨(secondS width k), 2, m⟩ : FV) p)]) := M22.arr [0, 1] (by decide)
  refine pe rfl (fun K hK => ?_)
  refine e_call 17 [.pointer (some ⟨p, 0, none⟩)] rfl rfl Try.call17 (epoch_any (Mem.here (L := [disk E3 p pg mb qv2]) (R := [blk f 96 (fC (⟨(secondS width k), 2, m⟩ : FV) p)]) hX27)) ?_
  rintro e w27 ⟨rfl, H27⟩
  have M27 : Mem w [] w27 [disk E3 p pg mb qv2, blk f 96 (fC (⟨(secondS width k), 2, m⟩ : FV) p)] := Mem.frame (Pre := [disk E3 p pg mb qv2]) (Post := [disk E3 p pg mb qv2]) (R := [blk f 96 (fC (⟨(secondS width k), 2, m⟩ : FV) p)]) hX27 H27
  refine ⟨_, rfl, ?_⟩
  refine hK.out _ _ ?_
  clear hK K
  simp only [Act.put, z1, z2, z3]
  refine pl M27 (y_move (v := .int .i64 ((crashD E0 l).epoch)) rfl rfl rfl) ?_
  simp only [Act.put, z1, z2, z3]
  refine pl M27 (y_addw rfl rfl rfl rfl) ?_
  simp only [Act.put, z1, z2, z3]
  refine pl M27 (y_neq (b := false) rfl rfl rfl rfl (by rw [decide_eq_true he3]; rfl)) ?_
  simp only [Act.put, z1, z2, z3]
  refine pl M27 (y_pickF (v := .bool false) rfl rfl rfl rfl) ?_
  simp only [Act.put, z1, z2, z3]
  refine pl M27 (y_move (v := .bool false) rfl rfl rfl) ?_
  simp only [Act.put, z1, z2, z3]
  refine pl M27 (y_move (v := .pointer (some ⟨p, 0, none⟩)) rfl rfl rfl) ?_
  simp only [Act.put, z1, z2, z3]
  refine pl M27 (y_move (v := .int .i64 width) rfl rfl rfl) ?_
  simp only [Act.put, z1, z2, z3]
  have hX28 : Mem w [] w27 ([disk E3 p pg mb qv2] ++ [blk f 96 (fC (⟨(secondS width k), 2, m⟩ : FV) p)]) := M27.arr [0, 1] (by decide)
  refine pe rfl (fun K hK => ?_)
  refine e_call 15 [.pointer (some ⟨p, 0, none⟩), .int .i64 width] rfl rfl Try.call15 (format_taken2 (Mem.here (L := [disk E3 p pg mb qv2]) (R := [blk f 96 (fC (⟨(secondS width k), 2, m⟩ : FV) p)]) hX28) hI hw (by rw [hq3]; exact Nat.zero_le _)) ?_
  rintro e w28 ⟨E4, qv4, rfl, H28, hI4⟩
  have M28 : Mem w [] w28 [disk E4 p pg mb qv4, blk f 96 (fC (⟨(secondS width k), 2, m⟩ : FV) p)] := Mem.frame (Pre := [disk E3 p pg mb qv2]) (Post := [disk E4 p pg mb qv4]) (R := [blk f 96 (fC (⟨(secondS width k), 2, m⟩ : FV) p)]) hX28 H28
  refine ⟨_, rfl, ?_⟩
  refine hK.out _ _ ?_
  clear hK K
  simp only [Act.put, z1, z2, z3]
  refine pl M28 (y_neq (b := false) rfl rfl rfl rfl (by rw [decide_eq_true (by decide)]; rfl)) ?_
  simp only [Act.put, z1, z2, z3]
  refine pl M28 (y_pickF (v := .bool false) rfl rfl rfl rfl) ?_
  simp only [Act.put, z1, z2, z3]
  refine wpList_nil ?_
  refine hK26 _ _ ?_
  clear hK26
  refine wp_cond_false rfl ?_
  refine wp_skip ?_
  refine hK25 _ _ ?_
  clear hK25
  refine wp_seq_k (fun K29 hK29 => ?_)
  refine wp_region_lit ?_
  refine pl M28 (y_move (v := .pointer (some ⟨f, 0, none⟩)) rfl rfl rfl) ?_
  simp only [Act.put, z1, z2, z3]
  have hX30 : Mem w [] w28 ([disk E4 p pg mb qv4, blk f 96 (fC (⟨(secondS width k), 2, m⟩ : FV) p)] ++ []) := M28.arr [0, 1] (by decide)
  refine pe rfl (fun K hK => ?_)
  refine e_call 19 [.pointer (some ⟨f, 0, none⟩)] rfl rfl Try.call19 (super_any (Mem.here (L := [disk E4 p pg mb qv4, blk f 96 (fC (⟨(secondS width k), 2, m⟩ : FV) p)]) (R := []) hX30)) ?_
  rintro e w30 ⟨rfl, H30⟩
  have M30 : Mem w [] w30 [disk E4 p pg mb qv4, blk f 96 (fC (⟨(secondS width k), 2, m⟩ : FV) p)] := Mem.frame (Pre := [disk E4 p pg mb qv4, blk f 96 (fC (⟨(secondS width k), 2, m⟩ : FV) p)]) (Post := [disk E4 p pg mb qv4, blk f 96 (fC (⟨(secondS width k), 2, m⟩ : FV) p)]) (R := []) hX30 H30
  refine ⟨_, rfl, ?_⟩
  refine hK.out _ _ ?_
  clear hK K
  simp only [Act.put, z1, z2, z3]
  refine pl M30 (y_move (v := .int .i64 width) rfl rfl rfl) ?_
  simp only [Act.put, z1, z2, z3]
  refine pl M30 (y_move (v := .int .i64 (k : Int)) rfl rfl rfl) ?_
  simp only [Act.put, z1, z2, z3]
  refine pl M30 (y_build (ps := [(0, .tmp 120), (1, .const (.int .i64 1)), (2, .const (.int .i64 2)), (3, .const (.int .i64 0)), (4, .tmp 121)]) (pv := [(0, .int .i64 width), (1, .int .i64 1), (2, .int .i64 2), (3, .int .i64 0), (4, .int .i64 (k : Int))]) (cs := (supC (secondS width k))) rfl rfl rfl (by kernel_rfl)) ?_
  simp only [Act.put, z1, z2, z3]
  refine pl M30 (y_eqs (r := true) rfl rfl rfl rfl sup_guard (fun W => sup_same _ W)) ?_
  simp only [Act.put, z1, z2, z3]
  refine pl M30 (y_move (v := .bool true) rfl rfl rfl) ?_
  simp only [Act.put, z1, z2, z3]
  refine pl M30 (y_move (v := .pointer (some ⟨f, 0, none⟩)) rfl rfl rfl) ?_
  simp only [Act.put, z1, z2, z3]
  have hX31 : Mem w [] w30 ([disk E4 p pg mb qv4, blk f 96 (fC (⟨(secondS width k), 2, m⟩ : FV) p)] ++ []) := M30.arr [0, 1] (by decide)
  refine pe rfl (fun K hK => ?_)
  refine e_call 20 [.pointer (some ⟨f, 0, none⟩)] rfl rfl Try.call20 (next_any (Mem.here (L := [disk E4 p pg mb qv4, blk f 96 (fC (⟨(secondS width k), 2, m⟩ : FV) p)]) (R := []) hX31)) ?_
  rintro e w31 ⟨rfl, H31⟩
  have M31 : Mem w [] w31 [disk E4 p pg mb qv4, blk f 96 (fC (⟨(secondS width k), 2, m⟩ : FV) p)] := Mem.frame (Pre := [disk E4 p pg mb qv4, blk f 96 (fC (⟨(secondS width k), 2, m⟩ : FV) p)]) (Post := [disk E4 p pg mb qv4, blk f 96 (fC (⟨(secondS width k), 2, m⟩ : FV) p)]) (R := []) hX31 H31
  refine ⟨_, rfl, ?_⟩
  refine hK.out _ _ ?_
  clear hK K
  simp only [Act.put, z1, z2, z3]
  refine pl M31 (y_eql (b := true) rfl rfl rfl rfl (decide_eq_true rfl)) ?_
  simp only [Act.put, z1, z2, z3]
  refine pl M31 (y_pickT (v := .bool true) rfl rfl rfl rfl) ?_
  simp only [Act.put, z1, z2, z3]
  refine pl M31 (y_move (v := .bool true) rfl rfl rfl) ?_
  simp only [Act.put, z1, z2, z3]
  refine pl M31 (y_move (v := .pointer (some ⟨f, 0, none⟩)) rfl rfl rfl) ?_
  simp only [Act.put, z1, z2, z3]
  have hX32 : Mem w [] w31 ([disk E4 p pg mb qv4, blk f 96 (fC (⟨(secondS width k), 2, m⟩ : FV) p)] ++ []) := M31.arr [0, 1] (by decide)
  refine pe rfl (fun K hK => ?_)
  refine e_call 21 [.pointer (some ⟨f, 0, none⟩)] rfl rfl Try.call21 (live_ok (Mem.here (L := [disk E4 p pg mb qv4, blk f 96 (fC (⟨(secondS width k), 2, m⟩ : FV) p)]) (R := []) hX32) hI4) ?_
  rintro e w32 ⟨rfl, H32⟩
  have M32 : Mem w [] w32 [disk E4 p pg mb qv4, blk f 96 (fC (⟨(secondS width k), 2, m⟩ : FV) p)] := Mem.frame (Pre := [disk E4 p pg mb qv4, blk f 96 (fC (⟨(secondS width k), 2, m⟩ : FV) p)]) (Post := [disk E4 p pg mb qv4, blk f 96 (fC (⟨(secondS width k), 2, m⟩ : FV) p)]) (R := []) hX32 H32
  refine ⟨_, rfl, ?_⟩
  refine hK.out _ _ ?_
  clear hK K
  simp only [Act.put, z1, z2, z3]
  refine pl M32 (y_eql (b := true) rfl rfl rfl rfl (decide_eq_true (by decide))) ?_
  simp only [Act.put, z1, z2, z3]
  refine pl M32 (y_pickT (v := .bool true) rfl rfl rfl rfl) ?_
  simp only [Act.put, z1, z2, z3]
  refine pl M32 (y_assign (v := .bool true) rfl rfl rfl) ?_
  simp only [Act.put, z1, z2, z3]
  refine wpList_nil ?_
  refine hK29 _ _ ?_
  clear hK29
  refine wp_ret ?_
  try simp only [Exit.inBlock, Exit.then]
  refine bodyPost_ret (v := .bool true) (res1 rfl rfl) rfl ?_
  exact ⟨rfl, M32.arr [] (by decide)⟩
theorem begins_walk (pages width other at_ : Int) (ao : Option Addr) (nn c : Nat) (l : List UInt8) {w : World} (hr : Row w ao nn l) (hnn : nn ≤ 140737488351232) : Calls Try.prog 3 #[.int .i64 pages, .int .i64 width, .int .i64 other, .int .i64 at_, .slice ao nn c] w fun e w' => e = .returned (.bool true) ∧ Below w.heap.size w w' := by
  have fin : Calls Try.prog 3 #[.int .i64 pages, .int .i64 width, .int .i64 other, .int .i64 at_, .slice ao nn c] w (fun e w' => e = .returned (.bool true) ∧ Mem w [] w' []) := by
    by_cases hf : Fits pages width
    · obtain ⟨h1, h2, h3, h4⟩ := hf
      obtain ⟨k, rfl⟩ := Int.eq_ofNat_of_zero_le (show 0 ≤ pages by omega)
      have hn : 3 ≤ k ∧ k ≤ 64 := ⟨by omega, by omega⟩
      by_cases h5 : other < 1
      · exact begins_low k width other at_ ao nn c hn ⟨h3, h4⟩ h5 w
      · by_cases h6 : 32 < other
        · exact begins_high k width other at_ ao nn c hn ⟨h3, h4⟩ h6 w
        · have hl : (newD k).pages.length = k := List.length_replicate
          have hb := (newD_blank (n := k) (by omega) (by omega) (1 + at_ % 5) ⟨by omega, by omega⟩).format ⟨h3, h4⟩
          have hp : ({ newD k with armed := 1 + at_ % 5 } : DV).pages.length = k := hl
          rw [hp] at hb
          rcases hb with ⟨c1, c2, c3, c4, c5, c6, c7, c8⟩ | ⟨c1, c2, c3, c4, c5, c6⟩
          · have c1 : (1 + at_ % 5 = 0 ∨ 5 ≤ 1 + at_ % 5) := c1
            exact begins_c k width other at_ ao nn c w hn ⟨h3, h4⟩ ⟨by omega, by omega⟩ _ rfl l hr hnn _ (by omega) (Prod.ext rfl c2) (c3.crash l)
          · have c1 : (1 ≤ 1 + at_ % 5 ∧ 1 + at_ % 5 ≤ 4) := c1
            rcases c6 l with hB | hP
            · exact begins_a k width other at_ ao nn c w hn ⟨h3, h4⟩ ⟨by omega, by omega⟩ _ rfl l hr hnn _ (by omega) (Prod.ext rfl c2) hB (by rw [crash_len, c3])
            · exact begins_b k width other at_ ao nn c w hn ⟨h3, h4⟩ ⟨by omega, by omega⟩ _ rfl l hr hnn _ (by omega) (Prod.ext rfl c2) hP
    · exact begins_nofit pages width other at_ ao nn c hf w
  refine fin.mono ?_
  rintro e w' ⟨rfl, h⟩
  exact ⟨rfl, h.below⟩
end Go.Proofs.Ytehnnnohoaapdaa
