/- Texts joined: LawC, LawD, LawE, LawF. -/
import Derived.Test.YtehnnnohoaapdaaFC16
import Derived.LaidEql
/- What an image shows of the pages below a mark. No program in sight. -/
namespace Go.Proofs.Ytehnnnohoaapdaa
set_option linter.unusedSectionVars false
set_option linter.unusedSimpArgs false
open Go Go.RowKit
set_option linter.unusedVariables false
end Go.Proofs.Ytehnnnohoaapdaa

/- A file that lost its disk; pointers and counts compared. -/
namespace Go.Proofs.Ytehnnnohoaapdaa
open Go Go.RowKit
set_option linter.unusedVariables false
set_option linter.unusedSectionVars false
set_option linter.unusedSimpArgs false
section
variable {P : Program} {ops : Array Oper} {S : World → Prop} {o : Oper} {a : Act} {x y : Operand} {t t' : TypeId}
end
theorem wrap64_ne (x : Int) : wrap64 (x + 1) ≠ x := by
  unfold wrap64
  omega
section
variable {D : DV} {V : FV} {f p pg mb : Nat} {qv : Value} {w : World}
end
end Go.Proofs.Ytehnnnohoaapdaa

/- A disk out of an image; superblocks out of it. -/
namespace Go.Proofs.Ytehnnnohoaapdaa
set_option linter.unusedSectionVars false
set_option linter.unusedSimpArgs false
open Go Go.RowKit
set_option linter.unusedVariables false
end Go.Proofs.Ytehnnnohoaapdaa

/- What the calls of a file count. -/
namespace Go.Proofs.Ytehnnnohoaapdaa
set_option linter.unusedSectionVars false
set_option linter.unusedSimpArgs false
open Go Go.RowKit
set_option linter.unusedVariables false
theorem wrap64_two (x : Int) : wrap64 (wrap64 (x + 1) + 1) = wrap64 (x + 2) := by unfold wrap64; omega
def CntIn (D : DV) : Prop := inI D.writes ∧ inI D.syncs
theorem CntIn.same {D E : DV} (h : CntIn D) (h1 : E.writes = D.writes) (h2 : E.syncs = D.syncs) : CntIn E := by unfold CntIn; rw [h1, h2]; exact h
theorem runS_split (f : DV → DV × Int) (fs : List (DV → DV × Int)) (D : DV) (h : (runS (f :: fs) D).2 = 0) : (f D).2 = 0 ∧ runS (f :: fs) D = runS fs (f D).1 := by
  have e : runS (f :: fs) D = if (f D).2 = 0 then runS fs (f D).1 else f D := rfl
  by_cases h0 : (f D).2 = 0
  · rw [if_pos h0] at e; exact ⟨h0, e⟩
  · rw [e, if_neg h0] at h; exact absurd h h0
theorem writeD_cnt {D : DV} {p : Int} {d : List UInt8} (h : writeE D p d = 0) : inI (writeD D p d).writes := by
  unfold writeE at h
  unfold writeD
  split at h
  · cases h
  · rename_i h1
    rw [if_neg h1]
    split at h
    · rename_i h2
      rw [if_pos h2]
      split at h
      · rename_i h3
        rw [if_pos h3, (actD_cnt _).2.1]
        exact inI_wrap _
      · cases h
    · cases h
theorem syncD_cnt {D : DV} (h : syncE D = 0) : (syncD D).writes = D.writes ∧ inI (syncD D).syncs := by
  unfold syncE at h
  unfold syncD
  split at h
  · cases h
  · rename_i h1
    rw [if_neg h1]
    by_cases h2 : D.armed = 1
    · unfold actE at h; rw [if_pos h2] at h; cases h
    · rw [if_neg h2]
      exact ⟨by show (actD D).writes = _; rw [(actD_cnt D).2.1], inI_wrap _⟩
theorem format_cnt {D : DV} (hB : Blank D) {w : Int} (hw : 1 ≤ w ∧ w ≤ 32) (h0 : (formatR D w).2 = 0) : CntIn (formatR D w).1 := by
  have hR : formatR D w = runS [wS (firstS w D.pages.length), yS, wS (secondS w D.pages.length), yS] (slotsD D) := by
    unfold formatR
    rw [if_neg (by rw [hB.pow]; decide), if_neg (by omega), if_neg (by rw [hB.slots]; decide)]
    rfl
  rw [hR] at h0 ⊢
  obtain ⟨_, e1⟩ := runS_split _ _ _ h0
  rw [e1] at h0 ⊢
  obtain ⟨_, e2⟩ := runS_split _ _ _ h0
  rw [e2] at h0 ⊢
  obtain ⟨h3, e3⟩ := runS_split _ _ _ h0
  rw [e3] at h0 ⊢
  obtain ⟨h4, e4⟩ := runS_split _ _ _ h0
  rw [e4]
  have w1 := writeD_cnt h3
  have s1 := syncD_cnt h4
  exact ⟨by show inI (syncD _).writes; rw [s1.1]; exact w1, s1.2⟩
theorem open_cnt {D : DV} (h : openE D = 0) : (openD D).writes = D.writes ∧ (openD D).syncs = D.syncs := by
  have e : openD D = claimD (slotsD D) := if_pos h
  obtain ⟨_, _, _, _, _, f6, f7⟩ := slotsD_same D
  rw [e]
  exact ⟨f6, f7⟩
section
variable {D : DV} {V : FV} {ps : Pgs} {f p pg mb : Nat} {qv : Value} {w : World}
theorem app_cnt (h : Inv D V ps) {k : Nat} {l : List UInt8} (hx : PageOk (k, l)) (hn : V.next < (D.pages.length : Int)) : (appD D V k l).reads = D.reads ∧ (appD D V k l).writes = wrap64 (D.writes + 1) ∧ (appD D V k l).syncs = D.syncs ∧ (appD D V k l).q.length = D.q.length + 1 ∧ (appD D V k l).pages.length = D.pages.length ∧ (D.armed = 0 → (appD D V k l).armed = 0) := by
  obtain ⟨_, a2, _, _⟩ := h.app hx hn
  obtain ⟨c1, c2, c3⟩ := actD_cnt (openW D V.next (pageB k V.next.toNat l))
  rw [a2]
  refine ⟨c1, c2, c3, ?_, ?_, fun ha => ?_⟩
  · rw [actD_q]; simp [openW]
  · rw [actD_pages]; rfl
  · rw [actD_armed]
    show (if D.armed = 0 then 0 else D.armed - 1) = 0
    rw [if_pos ha]
theorem pub_cnt (h : Inv D V ps) {head : Int} (hh : head = 0 ∨ (2 ≤ head ∧ head < V.next)) (hg : V.s.gen < 1099511627776) (ha : D.armed = 0) :
    (pubR D V head).2 = 0 ∧ Inv (pubR D V head).1 { V with s := pubS V head } ps ∧ (pubR D V head).1.reads = D.reads ∧ (pubR D V head).1.writes = wrap64 (D.writes + 1) ∧ (pubR D V head).1.syncs = wrap64 (D.syncs + 2) ∧ (pubR D V head).1.q = [] ∧ (pubR D V head).1.armed = 0 ∧ (pubR D V head).1.pages.length = D.pages.length := by
  rcases h.pub hh hg with ⟨c1, c2, c3, c4⟩ | ⟨c1, c2, _⟩
  · refine ⟨c1, c3, ?_, ?_, ?_, c4, ?_, ?_⟩
    · rw [c2]
      show (actD (actD (openW (flushD (actD D)) _ _))).reads = _
      rw [(actD_cnt _).1, (actD_cnt _).1]
      show (actD D).reads = _
      rw [(actD_cnt _).1]
    · rw [c2]
      show (actD (actD (openW (flushD (actD D)) _ _))).writes = _
      rw [(actD_cnt _).2.1, (actD_cnt _).2.1]
      show wrap64 ((actD D).writes + 1) = _
      rw [(actD_cnt _).2.1]
    · rw [c2]
      show wrap64 ((actD (actD (openW (flushD (actD D)) _ _))).syncs + 1) = _
      rw [(actD_cnt _).2.2, (actD_cnt _).2.2]
      show wrap64 (wrap64 ((actD D).syncs + 1) + 1) = _
      rw [(actD_cnt _).2.2, wrap64_two]
    · rw [c2]
      have q1 : (pubD1 D).armed = 0 := by show (actD D).armed = 0; rw [(act_arm0 ha).2]; exact ha
      have q2 : (pubD2 D (pubS V head)).armed = 0 := by
        show (actD _).armed = 0
        rw [(act_arm0 (D := openW (pubD1 D) ((pubS V head).gen % 2) (superB (pubS V head))) q1).2]; exact q1
      show (actD _).armed = 0
      rw [(act_arm0 q2).2]; exact q2
    · have h1 := c3.plat.pages
      have h2 := h.plat.pages
      have h1 : (pubS V head).pages = _ := h1
      have h3 : (pubS V head).pages = V.s.pages := rfl
      omega
  · exact absurd ha c2
theorem app_kind0 (hM : Mem w (foots [disk D p pg mb qv, blk f 96 (fC V p)]) w [disk D p pg mb qv, blk f 96 (fC V p)]) (h : Inv D V ps) (ao : Option Addr) (n c : Nat) (l : List UInt8) (hr : Row w ao n l) (hF : ∀ b o, ao = some ⟨b, o, none⟩ → 0 < n → b ∉ foots [disk D p pg mb qv, blk f 96 (fC V p)]) (hq : D.q.length ≤ 400000000000) :
    Calls Try.prog 26 #[.pointer (some ⟨f, 0, none⟩), .int .i64 0, .slice ao n c] w fun e w' => ∃ qv', e = .returned (.tuple #[.int .i64 0, .int .i64 50]) ∧ Mem w (foots [disk D p pg mb qv, blk f 96 (fC V p)]) w' [disk D p pg mb qv', blk f 96 (fC V p)] := by
  have hL : ¬ liveE D V ≠ 0 := fun x => x h.isLive
  have e1 : appE D V 0 l = 50 := by unfold appE; rw [if_neg hL, if_pos (.inl (by decide))]
  obtain ⟨e2, e3⟩ := app_no e1 (by decide)
  have e4 : appD D V 0 l = D := if_pos (.inr (.inl (by decide)))
  have := app_any hM 0 ao n c l hr hF (by omega) h.fok
  rw [e1, e2, e3, e4] at this
  exact this
theorem app_long1 (hM : Mem w (foots [disk D p pg mb qv, blk f 96 (fC V p)]) w [disk D p pg mb qv, blk f 96 (fC V p)]) (h : Inv D V ps) (ao : Option Addr) (n c : Nat) (l : List UInt8) (hr : Row w ao n l) (hF : ∀ b o, ao = some ⟨b, o, none⟩ → 0 < n → b ∉ foots [disk D p pg mb qv, blk f 96 (fC V p)]) (hq : D.q.length ≤ 400000000000) (hl : 246 < l.length) :
    Calls Try.prog 26 #[.pointer (some ⟨f, 0, none⟩), .int .i64 1, .slice ao n c] w fun e w' => ∃ qv', e = .returned (.tuple #[.int .i64 0, .int .i64 51]) ∧ Mem w (foots [disk D p pg mb qv, blk f 96 (fC V p)]) w' [disk D p pg mb qv', blk f 96 (fC V p)] := by
  have hL : ¬ liveE D V ≠ 0 := fun x => x h.isLive
  have e1 : appE D V 1 l = 51 := by unfold appE; rw [if_neg hL, if_neg (by decide), if_pos hl]
  obtain ⟨e2, e3⟩ := app_no e1 (by decide)
  have e4 : appD D V 1 l = D := if_pos (.inr (.inr (.inr (.inl hl))))
  have := app_any hM 1 ao n c l hr hF (by omega) h.fok
  rw [e1, e2, e3, e4] at this
  exact this
theorem pub_bad (hM : Mem w (foots [disk D p pg mb qv, blk f 96 (fC V p)]) w [disk D p pg mb qv, blk f 96 (fC V p)]) (h : Inv D V ps) (head : Int) (hh : head ≠ 0 ∧ (head < 2 ∨ V.next ≤ head)) (hq : D.q.length ≤ 400000000000) :
    Calls Try.prog 28 #[.pointer (some ⟨f, 0, none⟩), .int .i64 head] w fun e w' => ∃ qv', e = .returned (.int .i64 41) ∧ Mem w (foots [disk D p pg mb qv, blk f 96 (fC V p)]) w' [disk D p pg mb qv', blk f 96 (fC V p)] := by
  have hL : ¬ liveE D V ≠ 0 := fun x => x h.isLive
  have e1 : pubR D V head = (D, 41) := by unfold pubR; rw [if_neg hL, if_pos hh]
  have e2 := pub_no e1 (by decide)
  have := pub_any hM head hq h.fok
  rw [e2, e1] at this
  exact this
theorem read_low2 (hM : Mem w (foots [disk D p pg mb qv, blk f 96 (fC V p)]) w [disk D p pg mb qv, blk f 96 (fC V p)]) (h : Inv D V ps) (page : Int) (hp : page < 2) :
    Calls Try.prog 25 #[.pointer (some ⟨f, 0, none⟩), .int .i64 page] w fun e w' => ∃ a c, e = .returned (.tuple #[.int .i64 0, .slice a 0 c, .int .i64 41]) ∧ Mem w (foots [disk D p pg mb qv, blk f 96 (fC V p)]) w' [disk D p pg mb qv, blk f 96 (fC V p)] := by
  have hL : ¬ liveE D V ≠ 0 := fun x => x h.isLive
  have e1 : fReadE D V page = 41 := by unfold fReadE; rw [if_neg hL, if_pos (.inl hp)]
  obtain ⟨e2, e3⟩ := fRead_no e1 (by decide)
  have e4 : fReadD D V page = D := if_pos (.inr (.inl hp))
  have := fread_any hM page h.fok
  rw [e1, e2, e3, e4] at this
  refine this.mono ?_
  rintro e w' ⟨v, rfl, h⟩
  obtain ⟨a, c, rfl⟩ := qv_at (h.get 2 rfl)
  exact ⟨a, c, rfl, h.arr [0, 1] (by decide)⟩
end
end Go.Proofs.Ytehnnnohoaapdaa
