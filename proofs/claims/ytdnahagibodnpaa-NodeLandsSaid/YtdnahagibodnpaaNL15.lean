/- Texts joined: File4, File5, File6, File7. -/
import Derived.Test.YtdnahagibodnpaaNL14
/- The file: Open, Live, Super, Next, Forget. -/
namespace Go.Proofs.Ytdnahagibodnpaa
set_option linter.unusedSectionVars false
open Go Go.RowKit
set_option linter.unusedVariables false
set_option linter.unusedSimpArgs false
structure FV where
  s : SupV
  next : Int
  mine : Int
def fC (V : FV) (p : Nat) : List Value := .pointer (some ⟨p, 0, none⟩) :: (supC V.s ++ [.int .i64 V.next, .int .i64 V.mine])
structure FOk (D : DV) (V : FV) : Prop where
  valid : ValidS V.s
  pages : V.s.pages = (D.pages.length : Int)
  lo : 2 ≤ V.next
  hi : V.next ≤ V.s.pages
  mark : V.s.mark ≤ V.next
def liveE (D : DV) (V : FV) : Int := if D.epoch ≠ V.mine then 3 else if D.dead then 2 else 0
def openE (D : DV) : Int := if slotsE D ≠ 0 then slotsE D else if (slotsS D).pages ≠ (D.pages.length : Int) then 4 else 0
def openD (D : DV) : DV := if openE D = 0 then claimD (slotsD D) else slotsD D
def openV (D : DV) : FV := ⟨slotsS D, (slotsS D).mark, (claimD (slotsD D)).epoch⟩
theorem claim_ok {D : DV} (h : DOk D) : DOk (claimD D) := ⟨h.lo, h.hi, h.len, h.qs, h.arm, inI_wrap _⟩
set_option maxRecDepth 100000 in
set_option maxHeartbeats 4000000 in
theorem live_any {D : DV} {V : FV} {f p pg mb : Nat} {qv : Value} {w : World} (hM : Mem w (foots [disk D p pg mb qv, blk f 69 (fC V p)]) w [disk D p pg mb qv, blk f 69 (fC V p)])  : Calls Try.prog 24 #[.pointer (some ⟨f, 0, none⟩)] w fun e w' => e = .returned (.int .i64 (liveE D V)) ∧ Mem w (foots [disk D p pg mb qv, blk f 69 (fC V p)]) w' [disk (D) p pg mb qv, blk f 69 (fC (V) p)] := by
  obtain ⟨hok, M⟩ := disk_open hM
  clear hM
  go_enter Try.func24, Try.ntmps24
  refine wp_seq_k (fun K1 hK1 => ?_)
  refine wp_region_lit ?_
  refine pl M (y_assign (v := .int .i64 0) rfl rfl rfl) ?_
  simp only [Act.put, zq1, zq2, zq3]
  refine wpList_nil ?_
  refine hK1 _ _ ?_
  clear hK1
  refine wp_seq_k (fun K2 hK2 => ?_)
  refine wp_block ?_
  refine wp_seq_k (fun K3 hK3 => ?_)
  have M4 := M.drew
  refine held_begin (fun W => Mem w (foots [disk D p pg mb qv, blk f 69 (fC V p)]) W [blk f 69 (fC V p)]) (by kernel_rfl) (M4.arr [4] (by decide)) (fun hS => ?_)
  refine held_take 0 _ rfl (by kernel_rfl) (by kernel_rfl) (by kernel_rfl) (y_move (v := .pointer (some ⟨f, 0, none⟩)) rfl rfl rfl) hS ?_
  simp only [Act.put, zq1, zq2, zq3]
  refine held_take 1 _ rfl (by kernel_rfl) (by kernel_rfl) (by kernel_rfl) (y_nil rfl rfl rfl) hS ?_
  simp only [Act.put, zq1, zq2, zq3]
  refine held_take 2 _ rfl (by kernel_rfl) (by kernel_rfl) (by kernel_rfl) (y_fa (r := 0) rfl rfl rfl Try.underlying69 rfl Try.sizeOf24 rfl) hS ?_
  simp only [Act.put, zq1, zq2, zq3]
  refine held_take 3 _ rfl (by kernel_rfl) (by kernel_rfl) (by kernel_rfl) (y_load (v := .pointer (some ⟨p, 0, none⟩)) rfl rfl rfl Try.isAgg24 (fun W hW => hW.get 0 rfl) (rfl)) hS ?_
  simp only [Act.put, zq1, zq2, zq3]
  refine held_take 5 _ rfl (by kernel_rfl) (by kernel_rfl) (by kernel_rfl) (y_move (v := .pointer (some ⟨f, 0, none⟩)) rfl rfl rfl) hS ?_
  simp only [Act.put, zq1, zq2, zq3]
  refine held_take 6 _ rfl (by kernel_rfl) (by kernel_rfl) (by kernel_rfl) (y_nil rfl rfl rfl) hS ?_
  simp only [Act.put, zq1, zq2, zq3]
  refine held_take 7 _ rfl (by kernel_rfl) (by kernel_rfl) (by kernel_rfl) (y_fa (r := 7) rfl rfl rfl Try.underlying69 rfl Try.sizeOf3 rfl) hS ?_
  simp only [Act.put, zq1, zq2, zq3]
  refine held_take 8 _ rfl (by kernel_rfl) (by kernel_rfl) (by kernel_rfl) (y_load (v := .int .i64 V.mine) rfl rfl rfl Try.isAgg3 (fun W hW => hW.get 0 rfl) (rfl)) hS ?_
  simp only [Act.put, zq1, zq2, zq3]
  refine held_step 4 (by kernel_rfl) rfl (by rfl) (fun K hK => ?_)
  refine e_call 37 [.pointer (some ⟨p, 0, none⟩)] rfl rfl Try.call37 (epoch_any (Mem.here (L := [disk (D) p pg mb (qv)]) (R := [blk f 69 (fC V p)]) (disk_close (D := D) (R := [blk f 69 (fC V p)]) hok M4)) ) ?_
  rintro e w5 ⟨rfl, H5⟩
  have M5 : Mem w _ w5 [blk p 57 (dC D pg mb qv), blk pg 77 (pagesC D.pages), lst 79 257 qv D.q.length (qC D.q), mapq mb D.q, blk f 69 (fC V p)] := (disk_open (Mem.frame (Pre := [disk (D) p pg mb (qv)]) (Post := [disk (D) p pg mb (qv)]) (R := [blk f 69 (fC V p)]) (disk_close (D := D) (R := [blk f 69 (fC V p)]) hok M4) H5)).2
  refine ⟨_, rfl, ?_⟩
  refine hK.out _ _ (M5.arr [4] (by decide)) (fun hS => ?_)
  clear hK K
  simp only [Act.put, zq1, zq2, zq3]
  rcases Decidable.em (D.epoch = V.mine) with h6 | h6
  · refine held_take 9 _ rfl (by kernel_rfl) (by kernel_rfl) (by kernel_rfl) (y_neq (b := false) rfl rfl rfl rfl (by rw [decide_eq_true h6]; rfl)) hS ?_
    simp only [Act.put, zq1, zq2, zq3]
    refine held_take 10 _ rfl (by kernel_rfl) (by kernel_rfl) (by kernel_rfl) (y_assign (v := .bool false) rfl rfl rfl) hS ?_
    simp only [Act.put, zq1, zq2, zq3]
    refine held_done (by kernel_rfl) ?_ _
    refine hK3 _ _ ?_
    clear hK3
    refine wp_cond_false rfl ?_
    refine wp_seq_k (fun K7 hK7 => ?_)
    refine wp_region_lit ?_
    refine pl M5 (y_move (v := .pointer (some ⟨f, 0, none⟩)) rfl rfl rfl) ?_
    simp only [Act.put, zq1, zq2, zq3]
    refine pl M5 (y_nil rfl rfl rfl) ?_
    simp only [Act.put, zq1, zq2, zq3]
    refine pl M5 (y_fa (r := 0) rfl rfl rfl Try.underlying69 rfl Try.sizeOf24 rfl) ?_
    simp only [Act.put, zq1, zq2, zq3]
    refine pl M5 (y_load (v := .pointer (some ⟨p, 0, none⟩)) rfl rfl rfl Try.isAgg24 (fun W hW => hW.get 4 rfl) (rfl)) ?_
    simp only [Act.put, zq1, zq2, zq3]
    refine pe rfl (fun K hK => ?_)
    refine e_call 15 [.pointer (some ⟨p, 0, none⟩)] rfl rfl Try.call15 (power_any (Mem.here (L := [disk (D) p pg mb (qv)]) (R := [blk f 69 (fC V p)]) (disk_close (D := D) (R := [blk f 69 (fC V p)]) hok M5)) ) ?_
    rintro e w8 ⟨rfl, H8⟩
    have M8 : Mem w _ w8 [blk p 57 (dC D pg mb qv), blk pg 77 (pagesC D.pages), lst 79 257 qv D.q.length (qC D.q), mapq mb D.q, blk f 69 (fC V p)] := (disk_open (Mem.frame (Pre := [disk (D) p pg mb (qv)]) (Post := [disk (D) p pg mb (qv)]) (R := [blk f 69 (fC V p)]) (disk_close (D := D) (R := [blk f 69 (fC V p)]) hok M5) H8)).2
    rcases Bool.eq_false_or_eq_true (!D.dead) with h9 | h9
    · rw [h9]
      refine ⟨_, rfl, ?_⟩
      refine hK.out _ _ ?_
      clear hK K
      simp only [Act.put, zq1, zq2, zq3]
      refine pl M8 (y_not rfl rfl rfl rfl) ?_
      simp only [Act.put, zq1, zq2, zq3]
      refine pl M8 (y_assign (v := .bool false) rfl rfl rfl) ?_
      simp only [Act.put, zq1, zq2, zq3]
      refine wpList_nil ?_
      refine hK7 _ _ ?_
      clear hK7
      refine wp_cond_false rfl ?_
      refine wp_skip ?_
      refine hK2 _ _ ?_
      clear hK2
      refine wp_seq_k (fun K10 hK10 => ?_)
      refine wp_region_lit ?_
      refine pl M8 (y_assign (v := .int .i64 0) rfl rfl rfl) ?_
      simp only [Act.put, zq1, zq2, zq3]
      refine wpList_nil ?_
      refine hK10 _ _ ?_
      clear hK10
      refine wp_ret ?_
      try simp only [Exit.inBlock, Exit.then]
      refine bodyPost_ret (v := .int .i64 0) (res1 rfl rfl) rfl ?_
      have hdd : D.dead = false := by revert h9; cases D.dead <;> simp
      have e1 : liveE D V = 0 := by unfold liveE; rw [if_neg (fun h => h h6), if_neg (by rw [hdd]; decide)]
      rw [e1]
      exact ⟨rfl, (disk_close (D := D) hok (M8.arr [0, 1, 2, 3, 4] (by decide)))⟩
    · rw [h9]
      refine ⟨_, rfl, ?_⟩
      refine hK.out _ _ ?_
      clear hK K
      simp only [Act.put, zq1, zq2, zq3]
      refine pl M8 (y_not rfl rfl rfl rfl) ?_
      simp only [Act.put, zq1, zq2, zq3]
      refine pl M8 (y_assign (v := .bool true) rfl rfl rfl) ?_
      simp only [Act.put, zq1, zq2, zq3]
      refine wpList_nil ?_
      refine hK7 _ _ ?_
      clear hK7
      refine wp_cond_true rfl ?_
      refine wp_seq_k (fun K11 hK11 => ?_)
      refine wp_region_lit ?_
      refine pl M8 (y_assign (v := .int .i64 2) rfl rfl rfl) ?_
      simp only [Act.put, zq1, zq2, zq3]
      refine wpList_nil ?_
      refine hK11 _ _ ?_
      clear hK11
      refine wp_ret ?_
      try simp only [Exit.inBlock, Exit.then]
      refine bodyPost_ret (v := .int .i64 2) (res1 rfl rfl) rfl ?_
      have hdd : D.dead = true := by revert h9; cases D.dead <;> simp
      have e1 : liveE D V = 2 := by unfold liveE; rw [if_neg (fun h => h h6), if_pos hdd]
      rw [e1]
      exact ⟨rfl, (disk_close (D := D) hok (M8.arr [0, 1, 2, 3, 4] (by decide)))⟩
  · refine held_take 9 _ rfl (by kernel_rfl) (by kernel_rfl) (by kernel_rfl) (y_neq (b := true) rfl rfl rfl rfl (by rw [decide_eq_false h6]; rfl)) hS ?_
    simp only [Act.put, zq1, zq2, zq3]
    refine held_take 10 _ rfl (by kernel_rfl) (by kernel_rfl) (by kernel_rfl) (y_assign (v := .bool true) rfl rfl rfl) hS ?_
    simp only [Act.put, zq1, zq2, zq3]
    refine held_done (by kernel_rfl) ?_ _
    refine hK3 _ _ ?_
    clear hK3
    refine wp_cond_true rfl ?_
    refine wp_seq_k (fun K12 hK12 => ?_)
    refine wp_region_lit ?_
    refine pl M5 (y_assign (v := .int .i64 3) rfl rfl rfl) ?_
    simp only [Act.put, zq1, zq2, zq3]
    refine wpList_nil ?_
    refine hK12 _ _ ?_
    clear hK12
    refine wp_ret ?_
    try simp only [Exit.inBlock, Exit.then]
    refine bodyPost_ret (v := .int .i64 3) (res1 rfl rfl) rfl ?_
    have e1 : liveE D V = 3 := if_pos h6
    rw [e1]
    exact ⟨rfl, (disk_close (D := D) hok (M5.arr [0, 1, 2, 3, 4] (by decide)))⟩
set_option maxRecDepth 100000 in
set_option maxHeartbeats 4000000 in
theorem open_any {D : DV} {p pg mb : Nat} {qv : Value} {w : World} (hM : Mem w (foots [disk D p pg mb qv]) w [disk D p pg mb qv])  : Calls Try.prog 6 #[.pointer (some ⟨p, 0, none⟩)] w fun e w' => (openE D ≠ 0 ∧ e = .returned (.tuple #[.pointer none, .int .i64 (openE D)]) ∧ Mem w (foots [disk D p pg mb qv]) w' [disk (openD D) p pg mb qv]) ∨ (openE D = 0 ∧ ∃ f, e = .returned (.tuple #[.pointer (some ⟨f, 0, none⟩), .int .i64 0]) ∧ Mem w (foots [disk D p pg mb qv]) w' [disk (openD D) p pg mb qv, blk f 69 (fC (openV D) p)]) := by
  obtain ⟨hok, M⟩ := disk_open hM
  clear hM
  obtain ⟨sp1, sp2, sok⟩ := slotsD_facts D hok
  go_enter Try.func6, Try.ntmps6
  refine wp_seq_k (fun K1 hK1 => ?_)
  refine wp_region_lit ?_
  refine pl M (y_assign (v := .pointer none) rfl rfl rfl) ?_
  simp only [Act.put, zq1, zq2, zq3]
  refine pl M (y_assign (v := .int .i64 0) rfl rfl rfl) ?_
  simp only [Act.put, zq1, zq2, zq3]
  refine wpList_nil ?_
  refine hK1 _ _ ?_
  clear hK1
  refine wp_seq_k (fun K2 hK2 => ?_)
  refine wp_seq_k (fun K3 hK3 => ?_)
  refine wp_region_lit ?_
  refine pl M (y_move (v := .pointer (some ⟨p, 0, none⟩)) rfl rfl rfl) ?_
  simp only [Act.put, zq1, zq2, zq3]
  refine pl M (y_eqnil (r := false) rfl rfl rfl rfl Try.underlying24 rfl) ?_
  simp only [Act.put, zq1, zq2, zq3]
  refine wpList_nil ?_
  refine hK3 _ _ ?_
  clear hK3
  refine wp_cond_false rfl ?_
  refine wp_skip ?_
  refine hK2 _ _ ?_
  clear hK2
  refine wp_seq_k (fun K4 hK4 => ?_)
  refine wp_region_lit ?_
  refine pl M (y_move (v := .pointer (some ⟨p, 0, none⟩)) rfl rfl rfl) ?_
  simp only [Act.put, zq1, zq2, zq3]
  refine pe rfl (fun K hK => ?_)
  refine e_call 16 [.pointer (some ⟨p, 0, none⟩)] rfl rfl Try.call16 (slots_any (Mem.here (L := [disk (D) p pg mb (qv)]) (R := []) (disk_close (D := D) (R := []) hok M)) ) ?_
  rintro e w5 ⟨rfl, H5⟩
  have M5 : Mem w _ w5 [blk p 57 (dC (slotsD D) pg mb qv), blk pg 77 (pagesC (slotsD D).pages), lst 79 257 qv ((slotsD D).q.length) (qC (slotsD D).q), mapq mb ((slotsD D).q)] := (disk_open (Mem.frame (Pre := [disk (D) p pg mb (qv)]) (Post := [disk (slotsD D) p pg mb (qv)]) (R := []) (disk_close (D := D) (R := []) hok M) H5)).2
  refine ⟨_, rfl, ?_⟩
  refine hK.out _ _ ?_
  clear hK K
  simp only [Act.put, zq1, zq2, zq3]
  refine pl M5 (y_move (v := .tuple #[.agg ((supC (slotsS D))).toArray, .int .i64 (slotsE D)]) rfl rfl rfl) ?_
  simp only [Act.put, zq1, zq2, zq3]
  refine pl M5 (y_ext (v := .agg ((supC (slotsS D))).toArray) rfl rfl rfl rfl) ?_
  simp only [Act.put, zq1, zq2, zq3]
  refine pl M5 (y_ext (v := .int .i64 (slotsE D)) rfl rfl rfl rfl) ?_
  simp only [Act.put, zq1, zq2, zq3]
  refine pe rfl (fun K hK => ?_)
  refine e_alloc M5 (supC noSup) rfl zero_sup ?_
  intro gs w6 (M6 : Mem w _ w6 [blk gs 60 (supC noSup), blk p 57 (dC (slotsD D) pg mb qv), blk pg 77 (pagesC (slotsD D).pages), lst 79 257 qv ((slotsD D).q.length) (qC (slotsD D).q), mapq mb ((slotsD D).q)])
  clear M5
  refine hK.out _ _ ?_
  clear hK K
  simp only [Act.put, zq1, zq2, zq3]
  refine pe rfl (fun K hK => ?_)
  refine e_storew M6 0 (cs := (supC (slotsS D))) rfl rfl rfl rfl (size_sup _) (sup_all _) rfl (rfl) ?_
  intro w7 (M7 : Mem w _ w7 [blk gs 60 (supC (slotsS D)), blk p 57 (dC (slotsD D) pg mb qv), blk pg 77 (pagesC (slotsD D).pages), lst 79 257 qv ((slotsD D).q.length) (qC (slotsD D).q), mapq mb ((slotsD D).q)])
  clear M6
  refine hK.out _ _ ?_
  clear hK K
  simp only [Act.put, zq1, zq2, zq3]
  refine pl M7 (y_assign (v := .int .i64 (slotsE D)) rfl rfl rfl) ?_
  simp only [Act.put, zq1, zq2, zq3]
  refine wpList_nil ?_
  refine hK4 _ _ ?_
  clear hK4
  refine wp_seq_k (fun K8 hK8 => ?_)
  refine wp_seq_k (fun K9 hK9 => ?_)
  refine wp_region_lit ?_
  refine pl M7 (y_move (v := .int .i64 (slotsE D)) rfl rfl rfl) ?_
  simp only [Act.put, zq1, zq2, zq3]
  rcases Decidable.em (slotsE D = 0) with h10 | h10
  · refine pl M7 (y_neq (b := false) rfl rfl rfl rfl (by rw [decide_eq_true h10]; rfl)) ?_
    simp only [Act.put, zq1, zq2, zq3]
    refine wpList_nil ?_
    refine hK9 _ _ ?_
    clear hK9
    refine wp_cond_false rfl ?_
    refine wp_skip ?_
    refine hK8 _ _ ?_
    clear hK8
    refine wp_seq_k (fun K11 hK11 => ?_)
    refine wp_seq_k (fun K12 hK12 => ?_)
    have M13 := M7.drew
    refine held_begin (fun W => Mem w (foots [disk D p pg mb qv]) W [blk gs 60 (supC (slotsS D))]) (by kernel_rfl) (M13.arr [0] (by decide)) (fun hS => ?_)
    refine held_take 0 _ rfl (by kernel_rfl) (by kernel_rfl) (by kernel_rfl) (y_fa (r := 4) rfl rfl rfl Try.underlying60 rfl Try.sizeOf3 rfl) hS ?_
    simp only [Act.put, zq1, zq2, zq3]
    refine held_take 1 _ rfl (by kernel_rfl) (by kernel_rfl) (by kernel_rfl) (y_load (v := .int .i64 ((slotsS D).pages)) rfl rfl rfl Try.isAgg3 (fun W hW => hW.get 0 rfl) (rfl)) hS ?_
    simp only [Act.put, zq1, zq2, zq3]
    refine held_take 2 _ rfl (by kernel_rfl) (by kernel_rfl) (by kernel_rfl) (y_move (v := .pointer (some ⟨p, 0, none⟩)) rfl rfl rfl) hS ?_
    simp only [Act.put, zq1, zq2, zq3]
    have M14 : Mem w _ w7.drew [blk p 57 (dC (slotsD D) pg mb qv), blk pg 77 (pagesC (slotsD D).pages), lst 79 257 qv ((slotsD D).q.length) (qC (slotsD D).q), mapq mb ((slotsD D).q), blk gs 60 (supC (slotsS D))] := M13.arr [1, 2, 3, 4, 0] (by decide)
    clear M13
    refine held_step 3 (by kernel_rfl) rfl (by rfl) (fun K hK => ?_)
    refine e_call 17 [.pointer (some ⟨p, 0, none⟩)] rfl rfl Try.call17 (pages_any (Mem.here (L := [disk (slotsD D) p pg mb (qv)]) (R := [blk gs 60 (supC (slotsS D))]) (disk_close (D := slotsD D) (R := [blk gs 60 (supC (slotsS D))]) sok M14)) ) ?_
    rintro e w15 ⟨rfl, H15⟩
    have M15 : Mem w _ w15 [blk p 57 (dC (slotsD D) pg mb qv), blk pg 77 (pagesC (slotsD D).pages), lst 79 257 qv ((slotsD D).q.length) (qC (slotsD D).q), mapq mb ((slotsD D).q), blk gs 60 (supC (slotsS D))] := (disk_open (Mem.frame (Pre := [disk (slotsD D) p pg mb (qv)]) (Post := [disk (slotsD D) p pg mb (qv)]) (R := [blk gs 60 (supC (slotsS D))]) (disk_close (D := slotsD D) (R := [blk gs 60 (supC (slotsS D))]) sok M14) H15)).2
    refine ⟨_, rfl, ?_⟩
    refine hK.out _ _ (M15.arr [4] (by decide)) (fun hS => ?_)
    clear hK K
    simp only [Act.put, zq1, zq2, zq3]
    rcases Decidable.em ((slotsS D).pages = ((slotsD D).pages.length : Int)) with h16 | h16
    · refine held_take 4 _ rfl (by kernel_rfl) (by kernel_rfl) (by kernel_rfl) (y_neq (b := false) rfl rfl rfl rfl (by rw [decide_eq_true h16]; rfl)) hS ?_
      simp only [Act.put, zq1, zq2, zq3]
      refine held_done (by kernel_rfl) ?_ _
      refine hK12 _ _ ?_
      clear hK12
      refine wp_cond_false rfl ?_
      refine wp_skip ?_
      refine hK11 _ _ ?_
      clear hK11
      refine wp_seq_k (fun K17 hK17 => ?_)
      have M18 := M15.drew
      refine held_begin (fun W => Mem w (foots [disk D p pg mb qv]) W [blk gs 60 (supC (slotsS D))]) (by kernel_rfl) (M18.arr [4] (by decide)) (fun hS => ?_)
      refine held_take 0 _ rfl (by kernel_rfl) (by kernel_rfl) (by kernel_rfl) (y_move (v := .pointer (some ⟨p, 0, none⟩)) rfl rfl rfl) hS ?_
      simp only [Act.put, zq1, zq2, zq3]
      refine held_take 1 _ rfl (by kernel_rfl) (by kernel_rfl) (by kernel_rfl) (y_loadb (cs := (supC (slotsS D))) rfl rfl rfl Try.underlying60 rfl (size_sup _) (fun W hW => hW.get 0 rfl) (List.take_of_length_le (Nat.le_refl _))) hS ?_
      simp only [Act.put, zq1, zq2, zq3]
      refine held_take 2 _ rfl (by kernel_rfl) (by kernel_rfl) (by kernel_rfl) (y_fa (r := 2) rfl rfl rfl Try.underlying60 rfl Try.sizeOf3 rfl) hS ?_
      simp only [Act.put, zq1, zq2, zq3]
      refine held_take 3 _ rfl (by kernel_rfl) (by kernel_rfl) (by kernel_rfl) (y_load (v := .int .i64 ((slotsS D).mark)) rfl rfl rfl Try.isAgg3 (fun W hW => hW.get 0 rfl) (rfl)) hS ?_
      simp only [Act.put, zq1, zq2, zq3]
      refine held_take 4 _ rfl (by kernel_rfl) (by kernel_rfl) (by kernel_rfl) (y_move (v := .pointer (some ⟨p, 0, none⟩)) rfl rfl rfl) hS ?_
      simp only [Act.put, zq1, zq2, zq3]
      refine held_step 5 (by kernel_rfl) rfl (by rfl) (fun K hK => ?_)
      refine e_call 21 [.pointer (some ⟨p, 0, none⟩)] rfl rfl Try.call21 (claim_any (Mem.here (L := [disk (slotsD D) p pg mb (qv)]) (R := [blk gs 60 (supC (slotsS D))]) (disk_close (D := slotsD D) (R := [blk gs 60 (supC (slotsS D))]) sok M18)) ) ?_
      rintro e w19 ⟨rfl, H19⟩
      have M19 : Mem w _ w19 [blk p 57 (dC (claimD (slotsD D)) pg mb qv), blk pg 77 (pagesC (claimD (slotsD D)).pages), lst 79 257 qv ((claimD (slotsD D)).q.length) (qC (claimD (slotsD D)).q), mapq mb ((claimD (slotsD D)).q), blk gs 60 (supC (slotsS D))] := (disk_open (Mem.frame (Pre := [disk (slotsD D) p pg mb (qv)]) (Post := [disk (claimD (slotsD D)) p pg mb (qv)]) (R := [blk gs 60 (supC (slotsS D))]) (disk_close (D := slotsD D) (R := [blk gs 60 (supC (slotsS D))]) sok M18) H19)).2
      refine ⟨_, rfl, ?_⟩
      refine hK.out _ _ (M19.arr [4] (by decide)) (fun hS => ?_)
      clear hK K
      simp only [Act.put, zq1, zq2, zq3]
      refine held_take 6 _ rfl (by kernel_rfl) (by kernel_rfl) (by kernel_rfl) (y_build (ps := [(0, .tmp 21), (1, .tmp 22), (2, .tmp 24), (3, .tmp 26)]) (pv := [(0, .pointer (some ⟨p, 0, none⟩)), (1, .agg ((supC (slotsS D))).toArray), (2, .int .i64 ((slotsS D).mark)), (3, .int .i64 ((claimD (slotsD D)).epoch))]) (cs := (fC (openV D) p)) rfl rfl rfl (by kernel_rfl)) hS ?_
      simp only [Act.put, zq1, zq2, zq3]
      refine held_step 7 (by kernel_rfl) rfl (by rfl) (fun K hK => ?_)
      refine e_box M19 (fC (openV D) p) rfl rfl ?_
      intro f w20 (M20 : Mem w _ w20 [blk f 69 (fC (openV D) p), blk p 57 (dC (claimD (slotsD D)) pg mb qv), blk pg 77 (pagesC (claimD (slotsD D)).pages), lst 79 257 qv ((claimD (slotsD D)).q.length) (qC (claimD (slotsD D)).q), mapq mb ((claimD (slotsD D)).q), blk gs 60 (supC (slotsS D))])
      clear M19
      refine hK.out _ _ (M20.arr [5] (by decide)) (fun hS => ?_)
      clear hK K
      simp only [Act.put, zq1, zq2, zq3]
      refine held_take 8 _ rfl (by kernel_rfl) (by kernel_rfl) (by kernel_rfl) (y_assign (v := .pointer (some ⟨f, 0, none⟩)) rfl rfl rfl) hS ?_
      simp only [Act.put, zq1, zq2, zq3]
      refine held_take 9 _ rfl (by kernel_rfl) (by kernel_rfl) (by kernel_rfl) (y_assign (v := .int .i64 0) rfl rfl rfl) hS ?_
      simp only [Act.put, zq1, zq2, zq3]
      refine held_done (by kernel_rfl) ?_ _
      refine hK17 _ _ ?_
      clear hK17
      refine wp_ret ?_
      try simp only [Exit.inBlock, Exit.then]
      refine bodyPost_ret (v := .tuple #[.pointer (some ⟨f, 0, none⟩), .int .i64 0]) (res2 rfl rfl rfl) rfl ?_
      have hpp : (slotsS D).pages = (D.pages.length : Int) := by rw [← sp1]; exact h16
      have e1 : openE D = 0 := by unfold openE; rw [if_neg (fun h => h h10), if_neg (fun h => h hpp)]
      have e2 : openD D = claimD (slotsD D) := if_pos e1
      rw [e2]
      exact Or.inr ⟨e1, f, rfl, (disk_close (D := claimD (slotsD D)) (claim_ok sok) (M20.arr [1, 2, 3, 4, 0] (by decide)))⟩
    · refine held_take 4 _ rfl (by kernel_rfl) (by kernel_rfl) (by kernel_rfl) (y_neq (b := true) rfl rfl rfl rfl (by rw [decide_eq_false h16]; rfl)) hS ?_
      simp only [Act.put, zq1, zq2, zq3]
      refine held_done (by kernel_rfl) ?_ _
      refine hK12 _ _ ?_
      clear hK12
      refine wp_cond_true rfl ?_
      refine wp_seq_k (fun K21 hK21 => ?_)
      refine wp_region_lit ?_
      refine pl M15 (y_assign (v := .pointer none) rfl rfl rfl) ?_
      simp only [Act.put, zq1, zq2, zq3]
      refine pl M15 (y_assign (v := .int .i64 4) rfl rfl rfl) ?_
      simp only [Act.put, zq1, zq2, zq3]
      refine wpList_nil ?_
      refine hK21 _ _ ?_
      clear hK21
      refine wp_ret ?_
      try simp only [Exit.inBlock, Exit.then]
      refine bodyPost_ret (v := .tuple #[.pointer none, .int .i64 4]) (res2 rfl rfl rfl) rfl ?_
      have hpp : (slotsS D).pages ≠ (D.pages.length : Int) := by rw [← sp1]; exact h16
      have e1 : openE D = 4 := by unfold openE; rw [if_neg (fun h => h h10), if_pos hpp]
      have e2 : openD D = slotsD D := if_neg (by rw [e1]; decide)
      rw [e1, e2]
      exact Or.inl ⟨by decide, rfl, (disk_close (D := slotsD D) sok (M15.arr [0, 1, 2, 3] (by decide)))⟩
  · refine pl M7 (y_neq (b := true) rfl rfl rfl rfl (by rw [decide_eq_false h10]; rfl)) ?_
    simp only [Act.put, zq1, zq2, zq3]
    refine wpList_nil ?_
    refine hK9 _ _ ?_
    clear hK9
    refine wp_cond_true rfl ?_
    refine wp_seq_k (fun K22 hK22 => ?_)
    refine wp_region_lit ?_
    refine pl M7 (y_move (v := .int .i64 (slotsE D)) rfl rfl rfl) ?_
    simp only [Act.put, zq1, zq2, zq3]
    refine pl M7 (y_assign (v := .pointer none) rfl rfl rfl) ?_
    simp only [Act.put, zq1, zq2, zq3]
    refine pl M7 (y_assign (v := .int .i64 (slotsE D)) rfl rfl rfl) ?_
    simp only [Act.put, zq1, zq2, zq3]
    refine wpList_nil ?_
    refine hK22 _ _ ?_
    clear hK22
    refine wp_ret ?_
    try simp only [Exit.inBlock, Exit.then]
    refine bodyPost_ret (v := .tuple #[.pointer none, .int .i64 (slotsE D)]) (res2 rfl rfl rfl) rfl ?_
    have e1 : openE D = slotsE D := if_pos h10
    have e2 : openD D = slotsD D := if_neg (by rw [e1]; exact h10)
    rw [e1, e2]
    exact Or.inl ⟨h10, rfl, (disk_close (D := slotsD D) sok (M7.arr [1, 2, 3, 4] (by decide)))⟩
end Go.Proofs.Ytdnahagibodnpaa

/- The file: Read. -/
namespace Go.Proofs.Ytdnahagibodnpaa
set_option linter.unusedSectionVars false
open Go Go.RowKit
set_option linter.unusedVariables false
set_option linter.unusedSimpArgs false
theorem live_zero {D : DV} {V : FV} (h : liveE D V = 0) : D.epoch = V.mine ∧ D.dead = false := by
  unfold liveE at h
  split at h
  · cases h
  · rename_i h1
    split at h
    · cases h
    · rename_i h2
      exact ⟨Decidable.of_not_not h1, by revert h2; cases D.dead <;> simp⟩
def fReadE (D : DV) (V : FV) (page : Int) : Int := if liveE D V ≠ 0 then liveE D V else if page < 2 ∨ V.next ≤ page then 41 else if unpgE page (D.cur page.toNat) ≠ 0 then 4 else 0
def fReadK (D : DV) (V : FV) (page : Int) : Int := if fReadE D V page = 0 then unpgK page (D.cur page.toNat) else 0
def fReadL (D : DV) (V : FV) (page : Int) : List UInt8 := if fReadE D V page = 0 then unpgL page (D.cur page.toNat) else []
def fReadD (D : DV) (V : FV) (page : Int) : DV := if liveE D V ≠ 0 ∨ page < 2 ∨ V.next ≤ page then D else readD D page
theorem fRead_no {D : DV} {V : FV} {page e : Int} (h : fReadE D V page = e) (he : e ≠ 0) : fReadK D V page = 0 ∧ fReadL D V page = [] := by
  unfold fReadK fReadL
  rw [h, if_neg he, if_neg he]
  exact ⟨rfl, rfl⟩
theorem fRead_yes {D : DV} {V : FV} {page : Int} (h : fReadE D V page = 0) : fReadK D V page = unpgK page (D.cur page.toNat) ∧ fReadL D V page = unpgL page (D.cur page.toNat) := by
  unfold fReadK fReadL
  rw [if_pos h, if_pos h]
  exact ⟨rfl, rfl⟩
set_option maxRecDepth 100000 in
set_option maxHeartbeats 4000000 in
theorem fread_dead {D : DV} {V : FV} {f p pg mb : Nat} {qv : Value} {w : World} (hM : Mem w (foots [disk D p pg mb qv, blk f 69 (fC V p)]) w [disk D p pg mb qv, blk f 69 (fC V p)]) (page : Int) (hL : liveE D V ≠ 0) : Calls Try.prog 12 #[.pointer (some ⟨f, 0, none⟩), .int .i64 page] w fun e w' => ∃ v, e = .returned (.tuple #[.int .i64 (fReadK D V page), v, .int .i64 (fReadE D V page)]) ∧ Mem w (foots [disk D p pg mb qv, blk f 69 (fC V p)]) w' [disk (fReadD D V page) p pg mb qv, blk f 69 (fC V p), lst 5 1 v (fReadL D V page).length (bvs (fReadL D V page))] := by
  obtain ⟨hok, M⟩ := disk_open hM
  clear hM
  go_enter Try.func12, Try.ntmps12
  refine wp_seq_k (fun K1 hK1 => ?_)
  refine wp_region_lit ?_
  refine pl M (y_assign (v := .int .i64 0) rfl rfl rfl) ?_
  simp only [Act.put, zq1, zq2, zq3]
  refine pl M (y_assign (v := .slice none 0 0) rfl rfl rfl) ?_
  simp only [Act.put, zq1, zq2, zq3]
  refine pl M (y_assign (v := .int .i64 0) rfl rfl rfl) ?_
  simp only [Act.put, zq1, zq2, zq3]
  refine wpList_nil ?_
  refine hK1 _ _ ?_
  clear hK1
  refine wp_seq_k (fun K2 hK2 => ?_)
  refine wp_seq_k (fun K3 hK3 => ?_)
  refine wp_region_lit ?_
  refine pl M (y_move (v := .pointer (some ⟨f, 0, none⟩)) rfl rfl rfl) ?_
  simp only [Act.put, zq1, zq2, zq3]
  have M4 : Mem w _ w [blk p 57 (dC D pg mb qv), blk pg 77 (pagesC D.pages), lst 79 257 qv D.q.length (qC D.q), mapq mb D.q, blk f 69 (fC V p)] := M.arr [0, 1, 2, 3, 4] (by decide)
  clear M
  have hlv : Mem w _ w ([disk D p pg mb (qv), blk f 69 (fC V p)] ++ []) := disk_close hok M4
  refine pe rfl (fun K hK => ?_)
  refine e_call 24 [.pointer (some ⟨f, 0, none⟩)] rfl rfl Try.call24 (live_any (Mem.here (L := [disk D p pg mb (qv), blk f 69 (fC V p)]) (R := []) hlv)) ?_
  rintro e w5 ⟨rfl, H5⟩
  have M5 : Mem w _ w5 [blk p 57 (dC D pg mb qv), blk pg 77 (pagesC D.pages), lst 79 257 qv D.q.length (qC D.q), mapq mb D.q, blk f 69 (fC V p)] := (disk_open (R := [blk f 69 (fC V p)] ++ []) (Mem.frame (Pre := [disk D p pg mb (qv), blk f 69 (fC V p)]) (Post := [disk D p pg mb (qv), blk f 69 (fC V p)]) (R := []) hlv H5)).2
  refine ⟨_, rfl, ?_⟩
  refine hK.out _ _ ?_
  clear hK K
  simp only [Act.put, zq1, zq2, zq3]
  refine pl M5 (y_assign (v := .int .i64 (liveE D V)) rfl rfl rfl) ?_
  simp only [Act.put, zq1, zq2, zq3]
  refine wpList_nil ?_
  refine hK3 _ _ ?_
  clear hK3
  refine wp_seq_k (fun K6 hK6 => ?_)
  refine wp_region_lit ?_
  refine pl M5 (y_move (v := .int .i64 (liveE D V)) rfl rfl rfl) ?_
  simp only [Act.put, zq1, zq2, zq3]
  refine pl M5 (y_neq (b := true) rfl rfl rfl rfl (by rw [decide_eq_false hL]; rfl)) ?_
  simp only [Act.put, zq1, zq2, zq3]
  refine wpList_nil ?_
  refine hK6 _ _ ?_
  clear hK6
  refine wp_cond_true rfl ?_
  refine wp_seq_k (fun K7 hK7 => ?_)
  refine wp_region_lit ?_
  refine pl M5 (y_move (v := .int .i64 (liveE D V)) rfl rfl rfl) ?_
  simp only [Act.put, zq1, zq2, zq3]
  refine pl M5 (y_assign (v := .int .i64 0) rfl rfl rfl) ?_
  simp only [Act.put, zq1, zq2, zq3]
  refine pl M5 (y_assign (v := .slice none 0 0) rfl rfl rfl) ?_
  simp only [Act.put, zq1, zq2, zq3]
  refine pl M5 (y_assign (v := .int .i64 (liveE D V)) rfl rfl rfl) ?_
  simp only [Act.put, zq1, zq2, zq3]
  refine wpList_nil ?_
  refine hK7 _ _ ?_
  clear hK7
  refine wp_ret ?_
  try simp only [Exit.inBlock, Exit.then]
  refine bodyPost_ret (v := .tuple #[.int .i64 0, .slice none 0 0, .int .i64 (liveE D V)]) (res3 rfl rfl rfl rfl) rfl ?_
  have e1 : fReadE D V page = liveE D V := if_pos hL
  obtain ⟨e2, e3⟩ := fRead_no e1 hL
  have e4 : fReadD D V page = D := if_pos (Or.inl hL)
  rw [e1, e2, e3, e4]
  have N := (disk_close hok (M5.arr [0, 1, 2, 3, 4] (by decide))).nilst 5 1
  exact ⟨_, rfl, N.arr [1, 2, 0] (by decide)⟩
set_option maxRecDepth 100000 in
set_option maxHeartbeats 4000000 in
theorem fread_low {D : DV} {V : FV} {f p pg mb : Nat} {qv : Value} {w : World} (hM : Mem w (foots [disk D p pg mb qv, blk f 69 (fC V p)]) w [disk D p pg mb qv, blk f 69 (fC V p)]) (page : Int) (hL : liveE D V = 0) (hp : page < 2) : Calls Try.prog 12 #[.pointer (some ⟨f, 0, none⟩), .int .i64 page] w fun e w' => ∃ v, e = .returned (.tuple #[.int .i64 (fReadK D V page), v, .int .i64 (fReadE D V page)]) ∧ Mem w (foots [disk D p pg mb qv, blk f 69 (fC V p)]) w' [disk (fReadD D V page) p pg mb qv, blk f 69 (fC V p), lst 5 1 v (fReadL D V page).length (bvs (fReadL D V page))] := by
  obtain ⟨hok, M⟩ := disk_open hM
  clear hM
  go_enter Try.func12, Try.ntmps12
  refine wp_seq_k (fun K1 hK1 => ?_)
  refine wp_region_lit ?_
  refine pl M (y_assign (v := .int .i64 0) rfl rfl rfl) ?_
  simp only [Act.put, zq1, zq2, zq3]
  refine pl M (y_assign (v := .slice none 0 0) rfl rfl rfl) ?_
  simp only [Act.put, zq1, zq2, zq3]
  refine pl M (y_assign (v := .int .i64 0) rfl rfl rfl) ?_
  simp only [Act.put, zq1, zq2, zq3]
  refine wpList_nil ?_
  refine hK1 _ _ ?_
  clear hK1
  refine wp_seq_k (fun K2 hK2 => ?_)
  refine wp_seq_k (fun K3 hK3 => ?_)
  refine wp_region_lit ?_
  refine pl M (y_move (v := .pointer (some ⟨f, 0, none⟩)) rfl rfl rfl) ?_
  simp only [Act.put, zq1, zq2, zq3]
  have M4 : Mem w _ w [blk p 57 (dC D pg mb qv), blk pg 77 (pagesC D.pages), lst 79 257 qv D.q.length (qC D.q), mapq mb D.q, blk f 69 (fC V p)] := M.arr [0, 1, 2, 3, 4] (by decide)
  clear M
  have hlv : Mem w _ w ([disk D p pg mb (qv), blk f 69 (fC V p)] ++ []) := disk_close hok M4
  refine pe rfl (fun K hK => ?_)
  refine e_call 24 [.pointer (some ⟨f, 0, none⟩)] rfl rfl Try.call24 (live_any (Mem.here (L := [disk D p pg mb (qv), blk f 69 (fC V p)]) (R := []) hlv)) ?_
  rintro e w5 ⟨rfl, H5⟩
  have M5 : Mem w _ w5 [blk p 57 (dC D pg mb qv), blk pg 77 (pagesC D.pages), lst 79 257 qv D.q.length (qC D.q), mapq mb D.q, blk f 69 (fC V p)] := (disk_open (R := [blk f 69 (fC V p)] ++ []) (Mem.frame (Pre := [disk D p pg mb (qv), blk f 69 (fC V p)]) (Post := [disk D p pg mb (qv), blk f 69 (fC V p)]) (R := []) hlv H5)).2
  refine ⟨_, rfl, ?_⟩
  refine hK.out _ _ ?_
  clear hK K
  simp only [Act.put, zq1, zq2, zq3]
  refine pl M5 (y_assign (v := .int .i64 (liveE D V)) rfl rfl rfl) ?_
  simp only [Act.put, zq1, zq2, zq3]
  refine wpList_nil ?_
  refine hK3 _ _ ?_
  clear hK3
  refine wp_seq_k (fun K6 hK6 => ?_)
  refine wp_region_lit ?_
  refine pl M5 (y_move (v := .int .i64 (liveE D V)) rfl rfl rfl) ?_
  simp only [Act.put, zq1, zq2, zq3]
  refine pl M5 (y_neq (b := false) rfl rfl rfl rfl (by rw [decide_eq_true hL]; rfl)) ?_
  simp only [Act.put, zq1, zq2, zq3]
  refine wpList_nil ?_
  refine hK6 _ _ ?_
  clear hK6
  refine wp_cond_false rfl ?_
  refine wp_skip ?_
  refine hK2 _ _ ?_
  clear hK2
  refine wp_seq_k (fun K7 hK7 => ?_)
  refine wp_seq_k (fun K8 hK8 => ?_)
  refine wp_region_lit ?_
  refine pl M5 (y_move (v := .int .i64 page) rfl rfl rfl) ?_
  simp only [Act.put, zq1, zq2, zq3]
  refine pl M5 (y_lss (b := true) rfl rfl rfl rfl (decide_eq_true (by omega))) ?_
  simp only [Act.put, zq1, zq2, zq3]
  refine pl M5 (y_move (v := .bool true) rfl rfl rfl) ?_
  simp only [Act.put, zq1, zq2, zq3]
  with_reducible refine pskip ?_ ?_
  · rfl
  simp only [Act.put, zq1, zq2, zq3]
  with_reducible refine pskip ?_ ?_
  · rfl
  simp only [Act.put, zq1, zq2, zq3]
  with_reducible refine pskip ?_ ?_
  · rfl
  simp only [Act.put, zq1, zq2, zq3]
  with_reducible refine pskip ?_ ?_
  · rfl
  simp only [Act.put, zq1, zq2, zq3]
  with_reducible refine pskip ?_ ?_
  · rfl
  simp only [Act.put, zq1, zq2, zq3]
  with_reducible refine pskip ?_ ?_
  · rfl
  simp only [Act.put, zq1, zq2, zq3]
  refine pl M5 (y_pickT (v := .bool true) rfl rfl rfl rfl) ?_
  simp only [Act.put, zq1, zq2, zq3]
  refine wpList_nil ?_
  refine hK8 _ _ ?_
  clear hK8
  refine wp_cond_true rfl ?_
  refine wp_seq_k (fun K9 hK9 => ?_)
  refine wp_region_lit ?_
  refine pl M5 (y_assign (v := .int .i64 0) rfl rfl rfl) ?_
  simp only [Act.put, zq1, zq2, zq3]
  refine pl M5 (y_assign (v := .slice none 0 0) rfl rfl rfl) ?_
  simp only [Act.put, zq1, zq2, zq3]
  refine pl M5 (y_assign (v := .int .i64 41) rfl rfl rfl) ?_
  simp only [Act.put, zq1, zq2, zq3]
  refine wpList_nil ?_
  refine hK9 _ _ ?_
  clear hK9
  refine wp_ret ?_
  try simp only [Exit.inBlock, Exit.then]
  refine bodyPost_ret (v := .tuple #[.int .i64 0, .slice none 0 0, .int .i64 41]) (res3 rfl rfl rfl rfl) rfl ?_
  have e1 : fReadE D V page = 41 := by unfold fReadE; rw [if_neg (fun h => h hL), if_pos (by omega)]
  obtain ⟨e2, e3⟩ := fRead_no e1 (by decide)
  have e4 : fReadD D V page = D := if_pos (Or.inr (Or.inl hp))
  rw [e1, e2, e3, e4]
  have N := (disk_close hok (M5.arr [0, 1, 2, 3, 4] (by decide))).nilst 5 1
  exact ⟨_, rfl, N.arr [1, 2, 0] (by decide)⟩
set_option maxRecDepth 100000 in
set_option maxHeartbeats 4000000 in
theorem fread_high {D : DV} {V : FV} {f p pg mb : Nat} {qv : Value} {w : World} (hM : Mem w (foots [disk D p pg mb qv, blk f 69 (fC V p)]) w [disk D p pg mb qv, blk f 69 (fC V p)]) (page : Int) (hL : liveE D V = 0) (hp0 : ¬ page < 2) (hp : V.next ≤ page) : Calls Try.prog 12 #[.pointer (some ⟨f, 0, none⟩), .int .i64 page] w fun e w' => ∃ v, e = .returned (.tuple #[.int .i64 (fReadK D V page), v, .int .i64 (fReadE D V page)]) ∧ Mem w (foots [disk D p pg mb qv, blk f 69 (fC V p)]) w' [disk (fReadD D V page) p pg mb qv, blk f 69 (fC V p), lst 5 1 v (fReadL D V page).length (bvs (fReadL D V page))] := by
  obtain ⟨hok, M⟩ := disk_open hM
  clear hM
  go_enter Try.func12, Try.ntmps12
  refine wp_seq_k (fun K1 hK1 => ?_)
  refine wp_region_lit ?_
  refine pl M (y_assign (v := .int .i64 0) rfl rfl rfl) ?_
  simp only [Act.put, zq1, zq2, zq3]
  refine pl M (y_assign (v := .slice none 0 0) rfl rfl rfl) ?_
  simp only [Act.put, zq1, zq2, zq3]
  refine pl M (y_assign (v := .int .i64 0) rfl rfl rfl) ?_
  simp only [Act.put, zq1, zq2, zq3]
  refine wpList_nil ?_
  refine hK1 _ _ ?_
  clear hK1
  refine wp_seq_k (fun K2 hK2 => ?_)
  refine wp_seq_k (fun K3 hK3 => ?_)
  refine wp_region_lit ?_
  refine pl M (y_move (v := .pointer (some ⟨f, 0, none⟩)) rfl rfl rfl) ?_
  simp only [Act.put, zq1, zq2, zq3]
  have M4 : Mem w _ w [blk p 57 (dC D pg mb qv), blk pg 77 (pagesC D.pages), lst 79 257 qv D.q.length (qC D.q), mapq mb D.q, blk f 69 (fC V p)] := M.arr [0, 1, 2, 3, 4] (by decide)
  clear M
  have hlv : Mem w _ w ([disk D p pg mb (qv), blk f 69 (fC V p)] ++ []) := disk_close hok M4
  refine pe rfl (fun K hK => ?_)
  refine e_call 24 [.pointer (some ⟨f, 0, none⟩)] rfl rfl Try.call24 (live_any (Mem.here (L := [disk D p pg mb (qv), blk f 69 (fC V p)]) (R := []) hlv)) ?_
  rintro e w5 ⟨rfl, H5⟩
  have M5 : Mem w _ w5 [blk p 57 (dC D pg mb qv), blk pg 77 (pagesC D.pages), lst 79 257 qv D.q.length (qC D.q), mapq mb D.q, blk f 69 (fC V p)] := (disk_open (R := [blk f 69 (fC V p)] ++ []) (Mem.frame (Pre := [disk D p pg mb (qv), blk f 69 (fC V p)]) (Post := [disk D p pg mb (qv), blk f 69 (fC V p)]) (R := []) hlv H5)).2
  refine ⟨_, rfl, ?_⟩
  refine hK.out _ _ ?_
  clear hK K
  simp only [Act.put, zq1, zq2, zq3]
  refine pl M5 (y_assign (v := .int .i64 (liveE D V)) rfl rfl rfl) ?_
  simp only [Act.put, zq1, zq2, zq3]
  refine wpList_nil ?_
  refine hK3 _ _ ?_
  clear hK3
  refine wp_seq_k (fun K6 hK6 => ?_)
  refine wp_region_lit ?_
  refine pl M5 (y_move (v := .int .i64 (liveE D V)) rfl rfl rfl) ?_
  simp only [Act.put, zq1, zq2, zq3]
  refine pl M5 (y_neq (b := false) rfl rfl rfl rfl (by rw [decide_eq_true hL]; rfl)) ?_
  simp only [Act.put, zq1, zq2, zq3]
  refine wpList_nil ?_
  refine hK6 _ _ ?_
  clear hK6
  refine wp_cond_false rfl ?_
  refine wp_skip ?_
  refine hK2 _ _ ?_
  clear hK2
  refine wp_seq_k (fun K7 hK7 => ?_)
  refine wp_seq_k (fun K8 hK8 => ?_)
  refine wp_region_lit ?_
  refine pl M5 (y_move (v := .int .i64 page) rfl rfl rfl) ?_
  simp only [Act.put, zq1, zq2, zq3]
  refine pl M5 (y_lss (b := false) rfl rfl rfl rfl (decide_eq_false (by omega))) ?_
  simp only [Act.put, zq1, zq2, zq3]
  refine pl M5 (y_move (v := .bool false) rfl rfl rfl) ?_
  simp only [Act.put, zq1, zq2, zq3]
  refine pl M5 (y_move (v := .int .i64 page) rfl rfl rfl) ?_
  simp only [Act.put, zq1, zq2, zq3]
  refine pl M5 (y_move (v := .pointer (some ⟨f, 0, none⟩)) rfl rfl rfl) ?_
  simp only [Act.put, zq1, zq2, zq3]
  refine pl M5 (y_nil rfl rfl rfl) ?_
  simp only [Act.put, zq1, zq2, zq3]
  refine pl M5 (y_fa (r := 6) rfl rfl rfl Try.underlying69 rfl Try.sizeOf3 rfl) ?_
  simp only [Act.put, zq1, zq2, zq3]
  refine pl M5 (y_load (v := .int .i64 V.next) rfl rfl rfl Try.isAgg3 (fun W hW => hW.get 4 rfl) (rfl)) ?_
  simp only [Act.put, zq1, zq2, zq3]
  refine pl M5 (y_geq (b := true) rfl rfl rfl rfl (decide_eq_true (by omega))) ?_
  simp only [Act.put, zq1, zq2, zq3]
  refine pl M5 (y_pickF (v := .bool true) rfl rfl rfl rfl) ?_
  simp only [Act.put, zq1, zq2, zq3]
  refine wpList_nil ?_
  refine hK8 _ _ ?_
  clear hK8
  refine wp_cond_true rfl ?_
  refine wp_seq_k (fun K9 hK9 => ?_)
  refine wp_region_lit ?_
  refine pl M5 (y_assign (v := .int .i64 0) rfl rfl rfl) ?_
  simp only [Act.put, zq1, zq2, zq3]
  refine pl M5 (y_assign (v := .slice none 0 0) rfl rfl rfl) ?_
  simp only [Act.put, zq1, zq2, zq3]
  refine pl M5 (y_assign (v := .int .i64 41) rfl rfl rfl) ?_
  simp only [Act.put, zq1, zq2, zq3]
  refine wpList_nil ?_
  refine hK9 _ _ ?_
  clear hK9
  refine wp_ret ?_
  try simp only [Exit.inBlock, Exit.then]
  refine bodyPost_ret (v := .tuple #[.int .i64 0, .slice none 0 0, .int .i64 41]) (res3 rfl rfl rfl rfl) rfl ?_
  have e1 : fReadE D V page = 41 := by unfold fReadE; rw [if_neg (fun h => h hL), if_pos (by omega)]
  obtain ⟨e2, e3⟩ := fRead_no e1 (by decide)
  have e4 : fReadD D V page = D := if_pos (Or.inr (Or.inr hp))
  rw [e1, e2, e3, e4]
  have N := (disk_close hok (M5.arr [0, 1, 2, 3, 4] (by decide))).nilst 5 1
  exact ⟨_, rfl, N.arr [1, 2, 0] (by decide)⟩
set_option maxRecDepth 100000 in
set_option maxHeartbeats 4000000 in
theorem fread_ok {D : DV} {V : FV} {f p pg mb : Nat} {qv : Value} {w : World} (hM : Mem w (foots [disk D p pg mb qv, blk f 69 (fC V p)]) w [disk D p pg mb qv, blk f 69 (fC V p)]) (n : Nat) (hL : liveE D V = 0) (hn : 2 ≤ n) (hx : (n : Int) < V.next) (hV : FOk D V) : Calls Try.prog 12 #[.pointer (some ⟨f, 0, none⟩), .int .i64 (n : Int)] w fun e w' => ∃ v, e = .returned (.tuple #[.int .i64 (fReadK D V (n : Int)), v, .int .i64 (fReadE D V (n : Int))]) ∧ Mem w (foots [disk D p pg mb qv, blk f 69 (fC V p)]) w' [disk (fReadD D V (n : Int)) p pg mb qv, blk f 69 (fC V p), lst 5 1 v (fReadL D V (n : Int)).length (bvs (fReadL D V (n : Int)))] := by
  obtain ⟨hok, M⟩ := disk_open hM
  clear hM
  have hv1 := hV.pages
  have hv2 := hV.hi
  have hhi := hok.hi
  have hnp : n < D.pages.length := by omega
  have r0 := read_alive (live_zero hL).2 hnp
  have l0 : (D.cur n).length = 256 := cur_len hok hnp
  go_enter Try.func12, Try.ntmps12
  refine wp_seq_k (fun K1 hK1 => ?_)
  refine wp_region_lit ?_
  refine pl M (y_assign (v := .int .i64 0) rfl rfl rfl) ?_
  simp only [Act.put, zq1, zq2, zq3]
  refine pl M (y_assign (v := .slice none 0 0) rfl rfl rfl) ?_
  simp only [Act.put, zq1, zq2, zq3]
  refine pl M (y_assign (v := .int .i64 0) rfl rfl rfl) ?_
  simp only [Act.put, zq1, zq2, zq3]
  refine wpList_nil ?_
  refine hK1 _ _ ?_
  clear hK1
  refine wp_seq_k (fun K2 hK2 => ?_)
  refine wp_seq_k (fun K3 hK3 => ?_)
  refine wp_region_lit ?_
  refine pl M (y_move (v := .pointer (some ⟨f, 0, none⟩)) rfl rfl rfl) ?_
  simp only [Act.put, zq1, zq2, zq3]
  have M4 : Mem w _ w [blk p 57 (dC D pg mb qv), blk pg 77 (pagesC D.pages), lst 79 257 qv D.q.length (qC D.q), mapq mb D.q, blk f 69 (fC V p)] := M.arr [0, 1, 2, 3, 4] (by decide)
  clear M
  have hlv : Mem w _ w ([disk D p pg mb (qv), blk f 69 (fC V p)] ++ []) := disk_close hok M4
  refine pe rfl (fun K hK => ?_)
  refine e_call 24 [.pointer (some ⟨f, 0, none⟩)] rfl rfl Try.call24 (live_any (Mem.here (L := [disk D p pg mb (qv), blk f 69 (fC V p)]) (R := []) hlv)) ?_
  rintro e w5 ⟨rfl, H5⟩
  have M5 : Mem w _ w5 [blk p 57 (dC D pg mb qv), blk pg 77 (pagesC D.pages), lst 79 257 qv D.q.length (qC D.q), mapq mb D.q, blk f 69 (fC V p)] := (disk_open (R := [blk f 69 (fC V p)] ++ []) (Mem.frame (Pre := [disk D p pg mb (qv), blk f 69 (fC V p)]) (Post := [disk D p pg mb (qv), blk f 69 (fC V p)]) (R := []) hlv H5)).2
  refine ⟨_, rfl, ?_⟩
  refine hK.out _ _ ?_
  clear hK K
  simp only [Act.put, zq1, zq2, zq3]
  refine pl M5 (y_assign (v := .int .i64 (liveE D V)) rfl rfl rfl) ?_
  simp only [Act.put, zq1, zq2, zq3]
  refine wpList_nil ?_
  refine hK3 _ _ ?_
  clear hK3
  refine wp_seq_k (fun K6 hK6 => ?_)
  refine wp_region_lit ?_
  refine pl M5 (y_move (v := .int .i64 (liveE D V)) rfl rfl rfl) ?_
  simp only [Act.put, zq1, zq2, zq3]
  refine pl M5 (y_neq (b := false) rfl rfl rfl rfl (by rw [decide_eq_true hL]; rfl)) ?_
  simp only [Act.put, zq1, zq2, zq3]
  refine wpList_nil ?_
  refine hK6 _ _ ?_
  clear hK6
  refine wp_cond_false rfl ?_
  refine wp_skip ?_
  refine hK2 _ _ ?_
  clear hK2
  refine wp_seq_k (fun K7 hK7 => ?_)
  refine wp_seq_k (fun K8 hK8 => ?_)
  refine wp_region_lit ?_
  refine pl M5 (y_move (v := .int .i64 (n : Int)) rfl rfl rfl) ?_
  simp only [Act.put, zq1, zq2, zq3]
  refine pl M5 (y_lss (b := false) rfl rfl rfl rfl (decide_eq_false (by omega))) ?_
  simp only [Act.put, zq1, zq2, zq3]
  refine pl M5 (y_move (v := .bool false) rfl rfl rfl) ?_
  simp only [Act.put, zq1, zq2, zq3]
  refine pl M5 (y_move (v := .int .i64 (n : Int)) rfl rfl rfl) ?_
  simp only [Act.put, zq1, zq2, zq3]
  refine pl M5 (y_move (v := .pointer (some ⟨f, 0, none⟩)) rfl rfl rfl) ?_
  simp only [Act.put, zq1, zq2, zq3]
  refine pl M5 (y_nil rfl rfl rfl) ?_
  simp only [Act.put, zq1, zq2, zq3]
  refine pl M5 (y_fa (r := 6) rfl rfl rfl Try.underlying69 rfl Try.sizeOf3 rfl) ?_
  simp only [Act.put, zq1, zq2, zq3]
  refine pl M5 (y_load (v := .int .i64 V.next) rfl rfl rfl Try.isAgg3 (fun W hW => hW.get 4 rfl) (rfl)) ?_
  simp only [Act.put, zq1, zq2, zq3]
  refine pl M5 (y_geq (b := false) rfl rfl rfl rfl (decide_eq_false (by omega))) ?_
  simp only [Act.put, zq1, zq2, zq3]
  refine pl M5 (y_pickF (v := .bool false) rfl rfl rfl rfl) ?_
  simp only [Act.put, zq1, zq2, zq3]
  refine wpList_nil ?_
  refine hK8 _ _ ?_
  clear hK8
  refine wp_cond_false rfl ?_
  refine wp_skip ?_
  refine hK7 _ _ ?_
  clear hK7
  refine wp_seq_k (fun K9 hK9 => ?_)
  refine wp_region_lit ?_
  refine pl M5 (y_move (v := .pointer (some ⟨f, 0, none⟩)) rfl rfl rfl) ?_
  simp only [Act.put, zq1, zq2, zq3]
  refine pl M5 (y_nil rfl rfl rfl) ?_
  simp only [Act.put, zq1, zq2, zq3]
  refine pl M5 (y_fa (r := 0) rfl rfl rfl Try.underlying69 rfl Try.sizeOf24 rfl) ?_
  simp only [Act.put, zq1, zq2, zq3]
  refine pl M5 (y_load (v := .pointer (some ⟨p, 0, none⟩)) rfl rfl rfl Try.isAgg24 (fun W hW => hW.get 4 rfl) (rfl)) ?_
  simp only [Act.put, zq1, zq2, zq3]
  refine pl M5 (y_move (v := .int .i64 (n : Int)) rfl rfl rfl) ?_
  simp only [Act.put, zq1, zq2, zq3]
  refine pe rfl (fun K hK => ?_)
  refine e_call 28 [.pointer (some ⟨p, 0, none⟩), .int .i64 (n : Int)] rfl rfl Try.call28 (read_any (Mem.here (L := [disk D p pg mb (qv)]) (R := [blk f 69 (fC V p)]) (disk_close (D := D) (R := [blk f 69 (fC V p)]) hok M5)) (n : Int)) ?_
  rintro e w10 ⟨v, rfl, H10⟩
  rw [r0.2.1] at H10
  rw [r0.1]
  obtain ⟨ga, ca, rfl, hca, hca2⟩ := lst_slice (H10.get 1 rfl) (by rw [l0]; decide)
  rw [l0] at H10
  rw [l0] at hca
  rw [l0]
  have M100 := Mem.frame (Pre := [disk D p pg mb (qv)]) (Post := [disk (readD D (n : Int)) p pg mb (qv), lst 5 1 (.slice (some ⟨ga, 0, none⟩) 256 ca) 256 (bvs (D.cur n))]) (R := [blk f 69 (fC V p)]) (disk_close (D := D) (R := [blk f 69 (fC V p)]) hok M5) H10
  have M10 : Mem w _ w10 [blk p 57 (dC (readD D (n : Int)) pg mb qv), blk pg 77 (pagesC (readD D (n : Int)).pages), lst 79 257 qv ((readD D (n : Int)).q.length) (qC (readD D (n : Int)).q), mapq mb ((readD D (n : Int)).q), lst 5 1 (.slice (some ⟨ga, 0, none⟩) 256 ca) 256 (bvs (D.cur n)), blk f 69 (fC V p)] := (disk_open (R := [lst 5 1 (.slice (some ⟨ga, 0, none⟩) 256 ca) 256 (bvs (D.cur n)), blk f 69 (fC V p)]) M100).2
  clear H10 M100 M5
  refine ⟨_, rfl, ?_⟩
  refine hK.out _ _ ?_
  clear hK K
  simp only [Act.put, zq1, zq2, zq3]
  refine pl M10 (y_move (v := .tuple #[.slice (some ⟨ga, 0, none⟩) 256 ca, .int .i64 0]) rfl rfl rfl) ?_
  simp only [Act.put, zq1, zq2, zq3]
  refine pl M10 (y_ext (v := .slice (some ⟨ga, 0, none⟩) 256 ca) rfl rfl rfl rfl) ?_
  simp only [Act.put, zq1, zq2, zq3]
  refine pl M10 (y_ext (v := .int .i64 0) rfl rfl rfl rfl) ?_
  simp only [Act.put, zq1, zq2, zq3]
  refine pl M10 (y_assign (v := .slice (some ⟨ga, 0, none⟩) 256 ca) rfl rfl rfl) ?_
  simp only [Act.put, zq1, zq2, zq3]
  refine pl M10 (y_assign (v := .int .i64 0) rfl rfl rfl) ?_
  simp only [Act.put, zq1, zq2, zq3]
  refine wpList_nil ?_
  refine hK9 _ _ ?_
  clear hK9
  refine wp_seq_k (fun K11 hK11 => ?_)
  refine wp_seq_k (fun K12 hK12 => ?_)
  refine wp_region_lit ?_
  refine pl M10 (y_move (v := .int .i64 0) rfl rfl rfl) ?_
  simp only [Act.put, zq1, zq2, zq3]
  refine pl M10 (y_neq (b := false) rfl rfl rfl rfl (by rw [decide_eq_true rfl]; rfl)) ?_
  simp only [Act.put, zq1, zq2, zq3]
  refine wpList_nil ?_
  refine hK12 _ _ ?_
  clear hK12
  refine wp_cond_false rfl ?_
  refine wp_skip ?_
  refine hK11 _ _ ?_
  clear hK11
  refine wp_seq_k (fun K13 hK13 => ?_)
  refine wp_region_lit ?_
  refine pl M10 (y_move (v := .int .i64 (n : Int)) rfl rfl rfl) ?_
  simp only [Act.put, zq1, zq2, zq3]
  refine pl M10 (y_move (v := .slice (some ⟨ga, 0, none⟩) 256 ca) rfl rfl rfl) ?_
  simp only [Act.put, zq1, zq2, zq3]
  refine pe rfl (fun K hK => ?_)
  refine e_call 29 [.int .i64 (n : Int), .slice (some ⟨ga, 0, none⟩) 256 ca] rfl rfl Try.call29 (unpack_ok n ga 0 ca (D.cur n) _ (lst_row (M10.get 4 rfl)) ⟨by omega, by omega⟩ hca hca2) ?_
  rintro e w14 ⟨vl, rfl, H⟩
  have M14 : Mem w _ w14 [lst 5 1 vl ((unpgL n (D.cur n)).length) (bvs (unpgL n (D.cur n))), blk p 57 (dC (readD D (n : Int)) pg mb qv), blk pg 77 (pagesC (readD D (n : Int)).pages), lst 79 257 qv ((readD D (n : Int)).q.length) (qC (readD D (n : Int)).q), mapq mb ((readD D (n : Int)).q), lst 5 1 (.slice (some ⟨ga, 0, none⟩) 256 ca) 256 (bvs (D.cur n)), blk f 69 (fC V p)] := M10.step H
  refine ⟨_, rfl, ?_⟩
  refine hK.out _ _ ?_
  clear hK K
  simp only [Act.put, zq1, zq2, zq3]
  refine pl M14 (y_move (v := .tuple #[.int .i64 (unpgK n (D.cur n)), vl, .int .i64 (unpgE n (D.cur n))]) rfl rfl rfl) ?_
  simp only [Act.put, zq1, zq2, zq3]
  refine pl M14 (y_ext (v := .int .i64 (unpgK n (D.cur n))) rfl rfl rfl rfl) ?_
  simp only [Act.put, zq1, zq2, zq3]
  refine pl M14 (y_ext (v := vl) rfl rfl rfl rfl) ?_
  simp only [Act.put, zq1, zq2, zq3]
  refine pl M14 (y_ext (v := .int .i64 (unpgE n (D.cur n))) rfl rfl rfl rfl) ?_
  simp only [Act.put, zq1, zq2, zq3]
  refine pl M14 (y_assign (v := .int .i64 (unpgK n (D.cur n))) rfl rfl rfl) ?_
  simp only [Act.put, zq1, zq2, zq3]
  refine pl M14 (y_assign (v := vl) rfl rfl rfl) ?_
  simp only [Act.put, zq1, zq2, zq3]
  refine pl M14 (y_assign (v := .int .i64 (unpgE n (D.cur n))) rfl rfl rfl) ?_
  simp only [Act.put, zq1, zq2, zq3]
  refine wpList_nil ?_
  refine hK13 _ _ ?_
  clear hK13
  refine wp_seq_k (fun K15 hK15 => ?_)
  refine wp_seq_k (fun K16 hK16 => ?_)
  refine wp_region_lit ?_
  refine pl M14 (y_move (v := .int .i64 (unpgE n (D.cur n))) rfl rfl rfl) ?_
  simp only [Act.put, zq1, zq2, zq3]
  rcases Decidable.em (unpgE n (D.cur n) = 0) with h17 | h17
  · refine pl M14 (y_neq (b := false) rfl rfl rfl rfl (by rw [decide_eq_true h17]; rfl)) ?_
    simp only [Act.put, zq1, zq2, zq3]
    refine wpList_nil ?_
    refine hK16 _ _ ?_
    clear hK16
    refine wp_cond_false rfl ?_
    refine wp_skip ?_
    refine hK15 _ _ ?_
    clear hK15
    refine wp_seq_k (fun K18 hK18 => ?_)
    refine wp_region_lit ?_
    refine pl M14 (y_move (v := .int .i64 (unpgK n (D.cur n))) rfl rfl rfl) ?_
    simp only [Act.put, zq1, zq2, zq3]
    refine pl M14 (y_move (v := vl) rfl rfl rfl) ?_
    simp only [Act.put, zq1, zq2, zq3]
    refine pl M14 (y_assign (v := .int .i64 (unpgK n (D.cur n))) rfl rfl rfl) ?_
    simp only [Act.put, zq1, zq2, zq3]
    refine pl M14 (y_assign (v := vl) rfl rfl rfl) ?_
    simp only [Act.put, zq1, zq2, zq3]
    refine pl M14 (y_assign (v := .int .i64 0) rfl rfl rfl) ?_
    simp only [Act.put, zq1, zq2, zq3]
    refine wpList_nil ?_
    refine hK18 _ _ ?_
    clear hK18
    refine wp_ret ?_
    try simp only [Exit.inBlock, Exit.then]
    refine bodyPost_ret (v := .tuple #[.int .i64 (unpgK n (D.cur n)), vl, .int .i64 0]) (res3 rfl rfl rfl rfl) rfl ?_
    have e1 : fReadE D V (n : Int) = 0 := by unfold fReadE; rw [if_neg (fun h => h hL), if_neg (by omega), Int.toNat_natCast, if_neg (fun h => h h17)]
    obtain ⟨e2, e3⟩ := fRead_yes e1
    have e4 : fReadD D V (n : Int) = readD D n := if_neg (by omega)
    rw [e1, e2, e3, e4]
    exact ⟨_, rfl, disk_close (readD_ok hok _) (M14.arr [1, 2, 3, 4, 6, 0] (by decide))⟩
  · refine pl M14 (y_neq (b := true) rfl rfl rfl rfl (by rw [decide_eq_false h17]; rfl)) ?_
    simp only [Act.put, zq1, zq2, zq3]
    refine wpList_nil ?_
    refine hK16 _ _ ?_
    clear hK16
    refine wp_cond_true rfl ?_
    refine wp_seq_k (fun K19 hK19 => ?_)
    refine wp_region_lit ?_
    refine pl M14 (y_assign (v := .int .i64 0) rfl rfl rfl) ?_
    simp only [Act.put, zq1, zq2, zq3]
    refine pl M14 (y_assign (v := .slice none 0 0) rfl rfl rfl) ?_
    simp only [Act.put, zq1, zq2, zq3]
    refine pl M14 (y_assign (v := .int .i64 4) rfl rfl rfl) ?_
    simp only [Act.put, zq1, zq2, zq3]
    refine wpList_nil ?_
    refine hK19 _ _ ?_
    clear hK19
    refine wp_ret ?_
    try simp only [Exit.inBlock, Exit.then]
    refine bodyPost_ret (v := .tuple #[.int .i64 0, .slice none 0 0, .int .i64 4]) (res3 rfl rfl rfl rfl) rfl ?_
    have e1 : fReadE D V (n : Int) = 4 := by unfold fReadE; rw [if_neg (fun h => h hL), if_neg (by omega), Int.toNat_natCast, if_pos h17]
    obtain ⟨e2, e3⟩ := fRead_no e1 (by decide)
    have e4 : fReadD D V (n : Int) = readD D n := if_neg (by omega)
    rw [e1, e2, e3, e4]
    have N := (disk_close (readD_ok hok _) (M14.arr [1, 2, 3, 4, 6] (by decide))).nilst 5 1
    exact ⟨_, rfl, N.arr [1, 2, 0] (by decide)⟩
theorem fread_any {D : DV} {V : FV} {f p pg mb : Nat} {qv : Value} {w : World} (hM : Mem w (foots [disk D p pg mb qv, blk f 69 (fC V p)]) w [disk D p pg mb qv, blk f 69 (fC V p)]) (page : Int) (hV : FOk D V) : Calls Try.prog 12 #[.pointer (some ⟨f, 0, none⟩), .int .i64 page] w fun e w' => ∃ v, e = .returned (.tuple #[.int .i64 (fReadK D V page), v, .int .i64 (fReadE D V page)]) ∧ Mem w (foots [disk D p pg mb qv, blk f 69 (fC V p)]) w' [disk (fReadD D V page) p pg mb qv, blk f 69 (fC V p), lst 5 1 v (fReadL D V page).length (bvs (fReadL D V page))] := by
  by_cases hL : liveE D V = 0
  · rcases Int.lt_or_le page 2 with h1 | h1
    · exact fread_low hM page hL h1
    · rcases Int.lt_or_le page V.next with h2 | h2
      · obtain ⟨n, rfl⟩ := Int.eq_ofNat_of_zero_le (show 0 ≤ page by omega)
        exact fread_ok hM n hL (by omega) h2 hV
      · exact fread_high hM page hL (by omega) h2
  · exact fread_dead hM page hL
end Go.Proofs.Ytdnahagibodnpaa

/- The file: Append. -/
namespace Go.Proofs.Ytdnahagibodnpaa
set_option linter.unusedSectionVars false
open Go Go.RowKit
set_option linter.unusedVariables false
set_option linter.unusedSimpArgs false
theorem pack_okI (kind page : Int) (ao : Option Addr) (n c : Nat) (l : List UInt8) (w : World) (hr : Row w ao n l) (hk : 1 ≤ kind ∧ kind ≤ 3) (hp : 2 ≤ page ∧ page < 4096) (hl : l.length ≤ 246) :
    Calls Try.prog 25 #[.int .i64 kind, .int .i64 page, .slice ao n c] w fun e w' => ∃ g c', e = .returned (.tuple #[.slice (some ⟨g, 0, none⟩) 256 c', .int .i64 0]) ∧ Mem w [] w' [lst 5 1 (.slice (some ⟨g, 0, none⟩) 256 c') 256 (bvs (pageB kind.toNat page.toNat l))] := by
  obtain ⟨k, rfl⟩ := Int.eq_ofNat_of_zero_le (show 0 ≤ kind by omega)
  obtain ⟨p, rfl⟩ := Int.eq_ofNat_of_zero_le (show 0 ≤ page by omega)
  refine (pack_ok k p ao n c l w hr ⟨by omega, by omega⟩ ⟨by omega, by omega⟩ hl).mono ?_
  rintro e w' ⟨v, rfl, h⟩
  obtain ⟨g, c', rfl, _, _⟩ := lst_slice (h.get 0 rfl) (by decide)
  exact ⟨g, c', rfl, h⟩
def appE (D : DV) (V : FV) (kind : Int) (l : List UInt8) : Int := if liveE D V ≠ 0 then liveE D V else if kind < 1 ∨ 3 < kind then 50 else if 246 < l.length then 51 else if (D.pages.length : Int) ≤ V.next then 5 else writeE D V.next (pageB kind.toNat V.next.toNat l)
def appD (D : DV) (V : FV) (kind : Int) (l : List UInt8) : DV := if liveE D V ≠ 0 ∨ kind < 1 ∨ 3 < kind ∨ 246 < l.length ∨ (D.pages.length : Int) ≤ V.next then D else writeD D V.next (pageB kind.toNat V.next.toNat l)
def appN (D : DV) (V : FV) (kind : Int) (l : List UInt8) : Int := if appE D V kind l = 0 then V.next else 0
def appV (D : DV) (V : FV) (kind : Int) (l : List UInt8) : FV := if appE D V kind l = 0 then { V with next := V.next + 1 } else V
theorem app_no {D : DV} {V : FV} {kind e : Int} {l : List UInt8} (h : appE D V kind l = e) (he : e ≠ 0) : appN D V kind l = 0 ∧ appV D V kind l = V := by
  unfold appN appV
  rw [h, if_neg he, if_neg he]
  exact ⟨rfl, rfl⟩
theorem app_yes {D : DV} {V : FV} {kind : Int} {l : List UInt8} (h : appE D V kind l = 0) : appN D V kind l = V.next ∧ appV D V kind l = { V with next := V.next + 1 } := by
  unfold appN appV
  rw [if_pos h, if_pos h]
  exact ⟨rfl, rfl⟩
set_option maxRecDepth 100000 in
set_option maxHeartbeats 4000000 in
theorem app_dead {D : DV} {V : FV} {f p pg mb : Nat} {qv : Value} {w : World} (hM : Mem w (foots [disk D p pg mb qv, blk f 69 (fC V p)]) w [disk D p pg mb qv, blk f 69 (fC V p)]) (kind : Int) (ao : Option Addr) (n c : Nat) (l : List UInt8) (hr : Row w ao n l) (hF : ∀ b o, ao = some ⟨b, o, none⟩ → 0 < n → b ∉ foots [disk D p pg mb qv, blk f 69 (fC V p)]) (hL : liveE D V ≠ 0) : Calls Try.prog 9 #[.pointer (some ⟨f, 0, none⟩), .int .i64 kind, .slice ao n c] w fun e w' => ∃ qv', e = .returned (.tuple #[.int .i64 (appN D V kind l), .int .i64 (appE D V kind l)]) ∧ Mem w (foots [disk D p pg mb qv, blk f 69 (fC V p)]) w' [disk (appD D V kind l) p pg mb qv', blk f 69 (fC (appV D V kind l) p)] := by
  obtain ⟨hok, M⟩ := disk_open hM
  clear hM
  go_enter Try.func9, Try.ntmps9
  refine wp_seq_k (fun K1 hK1 => ?_)
  refine wp_region_lit ?_
  refine pl M (y_assign (v := .int .i64 0) rfl rfl rfl) ?_
  simp only [Act.put, zq1, zq2, zq3]
  refine pl M (y_assign (v := .int .i64 0) rfl rfl rfl) ?_
  simp only [Act.put, zq1, zq2, zq3]
  refine wpList_nil ?_
  refine hK1 _ _ ?_
  clear hK1
  refine wp_seq_k (fun K2 hK2 => ?_)
  refine wp_seq_k (fun K3 hK3 => ?_)
  refine wp_region_lit ?_
  refine pl M (y_move (v := .pointer (some ⟨f, 0, none⟩)) rfl rfl rfl) ?_
  simp only [Act.put, zq1, zq2, zq3]
  have M4 : Mem w _ w [blk p 57 (dC D pg mb qv), blk pg 77 (pagesC D.pages), lst 79 257 qv D.q.length (qC D.q), mapq mb D.q, blk f 69 (fC V p)] := M.arr [0, 1, 2, 3, 4] (by decide)
  clear M
  have hlv : Mem w _ w ([disk D p pg mb (qv), blk f 69 (fC V p)] ++ []) := disk_close hok M4
  refine pe rfl (fun K hK => ?_)
  refine e_call 24 [.pointer (some ⟨f, 0, none⟩)] rfl rfl Try.call24 (live_any (Mem.here (L := [disk D p pg mb (qv), blk f 69 (fC V p)]) (R := []) hlv)) ?_
  rintro e w5 ⟨rfl, H5⟩
  have M5 : Mem w _ w5 [blk p 57 (dC D pg mb qv), blk pg 77 (pagesC D.pages), lst 79 257 qv D.q.length (qC D.q), mapq mb D.q, blk f 69 (fC V p)] := (disk_open (R := [blk f 69 (fC V p)] ++ []) (Mem.frame (Pre := [disk D p pg mb (qv), blk f 69 (fC V p)]) (Post := [disk D p pg mb (qv), blk f 69 (fC V p)]) (R := []) hlv H5)).2
  refine ⟨_, rfl, ?_⟩
  refine hK.out _ _ ?_
  clear hK K
  simp only [Act.put, zq1, zq2, zq3]
  refine pl M5 (y_assign (v := .int .i64 (liveE D V)) rfl rfl rfl) ?_
  simp only [Act.put, zq1, zq2, zq3]
  refine wpList_nil ?_
  refine hK3 _ _ ?_
  clear hK3
  refine wp_seq_k (fun K6 hK6 => ?_)
  refine wp_region_lit ?_
  refine pl M5 (y_move (v := .int .i64 (liveE D V)) rfl rfl rfl) ?_
  simp only [Act.put, zq1, zq2, zq3]
  refine pl M5 (y_neq (b := true) rfl rfl rfl rfl (by rw [decide_eq_false hL]; rfl)) ?_
  simp only [Act.put, zq1, zq2, zq3]
  refine wpList_nil ?_
  refine hK6 _ _ ?_
  clear hK6
  refine wp_cond_true rfl ?_
  refine wp_seq_k (fun K7 hK7 => ?_)
  refine wp_region_lit ?_
  refine pl M5 (y_move (v := .int .i64 (liveE D V)) rfl rfl rfl) ?_
  simp only [Act.put, zq1, zq2, zq3]
  refine pl M5 (y_assign (v := .int .i64 0) rfl rfl rfl) ?_
  simp only [Act.put, zq1, zq2, zq3]
  refine pl M5 (y_assign (v := .int .i64 (liveE D V)) rfl rfl rfl) ?_
  simp only [Act.put, zq1, zq2, zq3]
  refine wpList_nil ?_
  refine hK7 _ _ ?_
  clear hK7
  refine wp_ret ?_
  try simp only [Exit.inBlock, Exit.then]
  refine bodyPost_ret (v := .tuple #[.int .i64 0, .int .i64 (liveE D V)]) (res2 rfl rfl rfl) rfl ?_
  have e1 : appE D V kind l = liveE D V := if_pos hL
  obtain ⟨e2, e3⟩ := app_no e1 hL
  have e4 : appD D V kind l = D := if_pos (Or.inl hL)
  rw [e1, e2, e3, e4]
  exact ⟨_, rfl, (disk_close (D := D) hok (M5.arr [0, 1, 2, 3, 4] (by decide)))⟩
set_option maxRecDepth 100000 in
set_option maxHeartbeats 4000000 in
theorem app_klow {D : DV} {V : FV} {f p pg mb : Nat} {qv : Value} {w : World} (hM : Mem w (foots [disk D p pg mb qv, blk f 69 (fC V p)]) w [disk D p pg mb qv, blk f 69 (fC V p)]) (kind : Int) (ao : Option Addr) (n c : Nat) (l : List UInt8) (hr : Row w ao n l) (hF : ∀ b o, ao = some ⟨b, o, none⟩ → 0 < n → b ∉ foots [disk D p pg mb qv, blk f 69 (fC V p)]) (hL : liveE D V = 0) (hk : kind < 1) : Calls Try.prog 9 #[.pointer (some ⟨f, 0, none⟩), .int .i64 kind, .slice ao n c] w fun e w' => ∃ qv', e = .returned (.tuple #[.int .i64 (appN D V kind l), .int .i64 (appE D V kind l)]) ∧ Mem w (foots [disk D p pg mb qv, blk f 69 (fC V p)]) w' [disk (appD D V kind l) p pg mb qv', blk f 69 (fC (appV D V kind l) p)] := by
  obtain ⟨hok, M⟩ := disk_open hM
  clear hM
  go_enter Try.func9, Try.ntmps9
  refine wp_seq_k (fun K1 hK1 => ?_)
  refine wp_region_lit ?_
  refine pl M (y_assign (v := .int .i64 0) rfl rfl rfl) ?_
  simp only [Act.put, zq1, zq2, zq3]
  refine pl M (y_assign (v := .int .i64 0) rfl rfl rfl) ?_
  simp only [Act.put, zq1, zq2, zq3]
  refine wpList_nil ?_
  refine hK1 _ _ ?_
  clear hK1
  refine wp_seq_k (fun K2 hK2 => ?_)
  refine wp_seq_k (fun K3 hK3 => ?_)
  refine wp_region_lit ?_
  refine pl M (y_move (v := .pointer (some ⟨f, 0, none⟩)) rfl rfl rfl) ?_
  simp only [Act.put, zq1, zq2, zq3]
  have M4 : Mem w _ w [blk p 57 (dC D pg mb qv), blk pg 77 (pagesC D.pages), lst 79 257 qv D.q.length (qC D.q), mapq mb D.q, blk f 69 (fC V p)] := M.arr [0, 1, 2, 3, 4] (by decide)
  clear M
  have hlv : Mem w _ w ([disk D p pg mb (qv), blk f 69 (fC V p)] ++ []) := disk_close hok M4
  refine pe rfl (fun K hK => ?_)
  refine e_call 24 [.pointer (some ⟨f, 0, none⟩)] rfl rfl Try.call24 (live_any (Mem.here (L := [disk D p pg mb (qv), blk f 69 (fC V p)]) (R := []) hlv)) ?_
  rintro e w5 ⟨rfl, H5⟩
  have M5 : Mem w _ w5 [blk p 57 (dC D pg mb qv), blk pg 77 (pagesC D.pages), lst 79 257 qv D.q.length (qC D.q), mapq mb D.q, blk f 69 (fC V p)] := (disk_open (R := [blk f 69 (fC V p)] ++ []) (Mem.frame (Pre := [disk D p pg mb (qv), blk f 69 (fC V p)]) (Post := [disk D p pg mb (qv), blk f 69 (fC V p)]) (R := []) hlv H5)).2
  refine ⟨_, rfl, ?_⟩
  refine hK.out _ _ ?_
  clear hK K
  simp only [Act.put, zq1, zq2, zq3]
  refine pl M5 (y_assign (v := .int .i64 (liveE D V)) rfl rfl rfl) ?_
  simp only [Act.put, zq1, zq2, zq3]
  refine wpList_nil ?_
  refine hK3 _ _ ?_
  clear hK3
  refine wp_seq_k (fun K6 hK6 => ?_)
  refine wp_region_lit ?_
  refine pl M5 (y_move (v := .int .i64 (liveE D V)) rfl rfl rfl) ?_
  simp only [Act.put, zq1, zq2, zq3]
  refine pl M5 (y_neq (b := false) rfl rfl rfl rfl (by rw [decide_eq_true hL]; rfl)) ?_
  simp only [Act.put, zq1, zq2, zq3]
  refine wpList_nil ?_
  refine hK6 _ _ ?_
  clear hK6
  refine wp_cond_false rfl ?_
  refine wp_skip ?_
  refine hK2 _ _ ?_
  clear hK2
  refine wp_seq_k (fun K7 hK7 => ?_)
  refine wp_block ?_
  refine wp_seq_k (fun K8 hK8 => ?_)
  refine wp_region_lit ?_
  refine pl M5 (y_move (v := .int .i64 kind) rfl rfl rfl) ?_
  simp only [Act.put, zq1, zq2, zq3]
  refine pl M5 (y_lss (b := true) rfl rfl rfl rfl (decide_eq_true hk)) ?_
  simp only [Act.put, zq1, zq2, zq3]
  refine pl M5 (y_move (v := .bool true) rfl rfl rfl) ?_
  simp only [Act.put, zq1, zq2, zq3]
  with_reducible refine pskip ?_ ?_
  · rfl
  simp only [Act.put, zq1, zq2, zq3]
  with_reducible refine pskip ?_ ?_
  · rfl
  simp only [Act.put, zq1, zq2, zq3]
  refine pl M5 (y_pickT (v := .bool true) rfl rfl rfl rfl) ?_
  simp only [Act.put, zq1, zq2, zq3]
  refine pl M5 (y_assign (v := .bool true) rfl rfl rfl) ?_
  simp only [Act.put, zq1, zq2, zq3]
  refine wpList_nil ?_
  refine hK8 _ _ ?_
  clear hK8
  refine wp_cond_true rfl ?_
  refine wp_seq_k (fun K9 hK9 => ?_)
  refine wp_region_lit ?_
  refine pl M5 (y_assign (v := .int .i64 0) rfl rfl rfl) ?_
  simp only [Act.put, zq1, zq2, zq3]
  refine pl M5 (y_assign (v := .int .i64 50) rfl rfl rfl) ?_
  simp only [Act.put, zq1, zq2, zq3]
  refine wpList_nil ?_
  refine hK9 _ _ ?_
  clear hK9
  refine wp_ret ?_
  try simp only [Exit.inBlock, Exit.then]
  refine bodyPost_ret (v := .tuple #[.int .i64 0, .int .i64 50]) (res2 rfl rfl rfl) rfl ?_
  have e1 : appE D V kind l = 50 := by unfold appE; rw [if_neg (fun h => h hL), if_pos (by omega)]
  obtain ⟨e2, e3⟩ := app_no e1 (by decide)
  have e4 : appD D V kind l = D := if_pos (by omega)
  rw [e1, e2, e3, e4]
  exact ⟨_, rfl, (disk_close (D := D) hok (M5.arr [0, 1, 2, 3, 4] (by decide)))⟩
set_option maxRecDepth 100000 in
set_option maxHeartbeats 4000000 in
theorem app_khigh {D : DV} {V : FV} {f p pg mb : Nat} {qv : Value} {w : World} (hM : Mem w (foots [disk D p pg mb qv, blk f 69 (fC V p)]) w [disk D p pg mb qv, blk f 69 (fC V p)]) (kind : Int) (ao : Option Addr) (n c : Nat) (l : List UInt8) (hr : Row w ao n l) (hF : ∀ b o, ao = some ⟨b, o, none⟩ → 0 < n → b ∉ foots [disk D p pg mb qv, blk f 69 (fC V p)]) (hL : liveE D V = 0) (hk : 3 < kind) : Calls Try.prog 9 #[.pointer (some ⟨f, 0, none⟩), .int .i64 kind, .slice ao n c] w fun e w' => ∃ qv', e = .returned (.tuple #[.int .i64 (appN D V kind l), .int .i64 (appE D V kind l)]) ∧ Mem w (foots [disk D p pg mb qv, blk f 69 (fC V p)]) w' [disk (appD D V kind l) p pg mb qv', blk f 69 (fC (appV D V kind l) p)] := by
  obtain ⟨hok, M⟩ := disk_open hM
  clear hM
  go_enter Try.func9, Try.ntmps9
  refine wp_seq_k (fun K1 hK1 => ?_)
  refine wp_region_lit ?_
  refine pl M (y_assign (v := .int .i64 0) rfl rfl rfl) ?_
  simp only [Act.put, zq1, zq2, zq3]
  refine pl M (y_assign (v := .int .i64 0) rfl rfl rfl) ?_
  simp only [Act.put, zq1, zq2, zq3]
  refine wpList_nil ?_
  refine hK1 _ _ ?_
  clear hK1
  refine wp_seq_k (fun K2 hK2 => ?_)
  refine wp_seq_k (fun K3 hK3 => ?_)
  refine wp_region_lit ?_
  refine pl M (y_move (v := .pointer (some ⟨f, 0, none⟩)) rfl rfl rfl) ?_
  simp only [Act.put, zq1, zq2, zq3]
  have M4 : Mem w _ w [blk p 57 (dC D pg mb qv), blk pg 77 (pagesC D.pages), lst 79 257 qv D.q.length (qC D.q), mapq mb D.q, blk f 69 (fC V p)] := M.arr [0, 1, 2, 3, 4] (by decide)
  clear M
  have hlv : Mem w _ w ([disk D p pg mb (qv), blk f 69 (fC V p)] ++ []) := disk_close hok M4
  refine pe rfl (fun K hK => ?_)
  refine e_call 24 [.pointer (some ⟨f, 0, none⟩)] rfl rfl Try.call24 (live_any (Mem.here (L := [disk D p pg mb (qv), blk f 69 (fC V p)]) (R := []) hlv)) ?_
  rintro e w5 ⟨rfl, H5⟩
  have M5 : Mem w _ w5 [blk p 57 (dC D pg mb qv), blk pg 77 (pagesC D.pages), lst 79 257 qv D.q.length (qC D.q), mapq mb D.q, blk f 69 (fC V p)] := (disk_open (R := [blk f 69 (fC V p)] ++ []) (Mem.frame (Pre := [disk D p pg mb (qv), blk f 69 (fC V p)]) (Post := [disk D p pg mb (qv), blk f 69 (fC V p)]) (R := []) hlv H5)).2
  refine ⟨_, rfl, ?_⟩
  refine hK.out _ _ ?_
  clear hK K
  simp only [Act.put, zq1, zq2, zq3]
  refine pl M5 (y_assign (v := .int .i64 (liveE D V)) rfl rfl rfl) ?_
  simp only [Act.put, zq1, zq2, zq3]
  refine wpList_nil ?_
  refine hK3 _ _ ?_
  clear hK3
  refine wp_seq_k (fun K6 hK6 => ?_)
  refine wp_region_lit ?_
  refine pl M5 (y_move (v := .int .i64 (liveE D V)) rfl rfl rfl) ?_
  simp only [Act.put, zq1, zq2, zq3]
  refine pl M5 (y_neq (b := false) rfl rfl rfl rfl (by rw [decide_eq_true hL]; rfl)) ?_
  simp only [Act.put, zq1, zq2, zq3]
  refine wpList_nil ?_
  refine hK6 _ _ ?_
  clear hK6
  refine wp_cond_false rfl ?_
  refine wp_skip ?_
  refine hK2 _ _ ?_
  clear hK2
  refine wp_seq_k (fun K7 hK7 => ?_)
  refine wp_block ?_
  refine wp_seq_k (fun K8 hK8 => ?_)
  refine wp_region_lit ?_
  refine pl M5 (y_move (v := .int .i64 kind) rfl rfl rfl) ?_
  simp only [Act.put, zq1, zq2, zq3]
  refine pl M5 (y_lss (b := false) rfl rfl rfl rfl (decide_eq_false (by omega))) ?_
  simp only [Act.put, zq1, zq2, zq3]
  refine pl M5 (y_move (v := .bool false) rfl rfl rfl) ?_
  simp only [Act.put, zq1, zq2, zq3]
  refine pl M5 (y_move (v := .int .i64 kind) rfl rfl rfl) ?_
  simp only [Act.put, zq1, zq2, zq3]
  refine pl M5 (y_gtr (b := true) rfl rfl rfl rfl (decide_eq_true hk)) ?_
  simp only [Act.put, zq1, zq2, zq3]
  refine pl M5 (y_pickF (v := .bool true) rfl rfl rfl rfl) ?_
  simp only [Act.put, zq1, zq2, zq3]
  refine pl M5 (y_assign (v := .bool true) rfl rfl rfl) ?_
  simp only [Act.put, zq1, zq2, zq3]
  refine wpList_nil ?_
  refine hK8 _ _ ?_
  clear hK8
  refine wp_cond_true rfl ?_
  refine wp_seq_k (fun K9 hK9 => ?_)
  refine wp_region_lit ?_
  refine pl M5 (y_assign (v := .int .i64 0) rfl rfl rfl) ?_
  simp only [Act.put, zq1, zq2, zq3]
  refine pl M5 (y_assign (v := .int .i64 50) rfl rfl rfl) ?_
  simp only [Act.put, zq1, zq2, zq3]
  refine wpList_nil ?_
  refine hK9 _ _ ?_
  clear hK9
  refine wp_ret ?_
  try simp only [Exit.inBlock, Exit.then]
  refine bodyPost_ret (v := .tuple #[.int .i64 0, .int .i64 50]) (res2 rfl rfl rfl) rfl ?_
  have e1 : appE D V kind l = 50 := by unfold appE; rw [if_neg (fun h => h hL), if_pos (by omega)]
  obtain ⟨e2, e3⟩ := app_no e1 (by decide)
  have e4 : appD D V kind l = D := if_pos (by omega)
  rw [e1, e2, e3, e4]
  exact ⟨_, rfl, (disk_close (D := D) hok (M5.arr [0, 1, 2, 3, 4] (by decide)))⟩
set_option maxRecDepth 100000 in
set_option maxHeartbeats 4000000 in
theorem app_long {D : DV} {V : FV} {f p pg mb : Nat} {qv : Value} {w : World} (hM : Mem w (foots [disk D p pg mb qv, blk f 69 (fC V p)]) w [disk D p pg mb qv, blk f 69 (fC V p)]) (kind : Int) (ao : Option Addr) (n c : Nat) (l : List UInt8) (hr : Row w ao n l) (hF : ∀ b o, ao = some ⟨b, o, none⟩ → 0 < n → b ∉ foots [disk D p pg mb qv, blk f 69 (fC V p)]) (hL : liveE D V = 0) (hk : 1 ≤ kind ∧ kind ≤ 3) (hn : 246 < n) : Calls Try.prog 9 #[.pointer (some ⟨f, 0, none⟩), .int .i64 kind, .slice ao n c] w fun e w' => ∃ qv', e = .returned (.tuple #[.int .i64 (appN D V kind l), .int .i64 (appE D V kind l)]) ∧ Mem w (foots [disk D p pg mb qv, blk f 69 (fC V p)]) w' [disk (appD D V kind l) p pg mb qv', blk f 69 (fC (appV D V kind l) p)] := by
  obtain ⟨hok, M⟩ := disk_open hM
  clear hM
  go_enter Try.func9, Try.ntmps9
  refine wp_seq_k (fun K1 hK1 => ?_)
  refine wp_region_lit ?_
  refine pl M (y_assign (v := .int .i64 0) rfl rfl rfl) ?_
  simp only [Act.put, zq1, zq2, zq3]
  refine pl M (y_assign (v := .int .i64 0) rfl rfl rfl) ?_
  simp only [Act.put, zq1, zq2, zq3]
  refine wpList_nil ?_
  refine hK1 _ _ ?_
  clear hK1
  refine wp_seq_k (fun K2 hK2 => ?_)
  refine wp_seq_k (fun K3 hK3 => ?_)
  refine wp_region_lit ?_
  refine pl M (y_move (v := .pointer (some ⟨f, 0, none⟩)) rfl rfl rfl) ?_
  simp only [Act.put, zq1, zq2, zq3]
  have M4 : Mem w _ w [blk p 57 (dC D pg mb qv), blk pg 77 (pagesC D.pages), lst 79 257 qv D.q.length (qC D.q), mapq mb D.q, blk f 69 (fC V p)] := M.arr [0, 1, 2, 3, 4] (by decide)
  clear M
  have hlv : Mem w _ w ([disk D p pg mb (qv), blk f 69 (fC V p)] ++ []) := disk_close hok M4
  refine pe rfl (fun K hK => ?_)
  refine e_call 24 [.pointer (some ⟨f, 0, none⟩)] rfl rfl Try.call24 (live_any (Mem.here (L := [disk D p pg mb (qv), blk f 69 (fC V p)]) (R := []) hlv)) ?_
  rintro e w5 ⟨rfl, H5⟩
  have M5 : Mem w _ w5 [blk p 57 (dC D pg mb qv), blk pg 77 (pagesC D.pages), lst 79 257 qv D.q.length (qC D.q), mapq mb D.q, blk f 69 (fC V p)] := (disk_open (R := [blk f 69 (fC V p)] ++ []) (Mem.frame (Pre := [disk D p pg mb (qv), blk f 69 (fC V p)]) (Post := [disk D p pg mb (qv), blk f 69 (fC V p)]) (R := []) hlv H5)).2
  refine ⟨_, rfl, ?_⟩
  refine hK.out _ _ ?_
  clear hK K
  simp only [Act.put, zq1, zq2, zq3]
  refine pl M5 (y_assign (v := .int .i64 (liveE D V)) rfl rfl rfl) ?_
  simp only [Act.put, zq1, zq2, zq3]
  refine wpList_nil ?_
  refine hK3 _ _ ?_
  clear hK3
  refine wp_seq_k (fun K6 hK6 => ?_)
  refine wp_region_lit ?_
  refine pl M5 (y_move (v := .int .i64 (liveE D V)) rfl rfl rfl) ?_
  simp only [Act.put, zq1, zq2, zq3]
  refine pl M5 (y_neq (b := false) rfl rfl rfl rfl (by rw [decide_eq_true hL]; rfl)) ?_
  simp only [Act.put, zq1, zq2, zq3]
  refine wpList_nil ?_
  refine hK6 _ _ ?_
  clear hK6
  refine wp_cond_false rfl ?_
  refine wp_skip ?_
  refine hK2 _ _ ?_
  clear hK2
  refine wp_seq_k (fun K7 hK7 => ?_)
  refine wp_block ?_
  refine wp_seq_k (fun K8 hK8 => ?_)
  refine wp_region_lit ?_
  refine pl M5 (y_move (v := .int .i64 kind) rfl rfl rfl) ?_
  simp only [Act.put, zq1, zq2, zq3]
  refine pl M5 (y_lss (b := false) rfl rfl rfl rfl (decide_eq_false (by omega))) ?_
  simp only [Act.put, zq1, zq2, zq3]
  refine pl M5 (y_move (v := .bool false) rfl rfl rfl) ?_
  simp only [Act.put, zq1, zq2, zq3]
  refine pl M5 (y_move (v := .int .i64 kind) rfl rfl rfl) ?_
  simp only [Act.put, zq1, zq2, zq3]
  refine pl M5 (y_gtr (b := false) rfl rfl rfl rfl (decide_eq_false (by omega))) ?_
  simp only [Act.put, zq1, zq2, zq3]
  refine pl M5 (y_pickF (v := .bool false) rfl rfl rfl rfl) ?_
  simp only [Act.put, zq1, zq2, zq3]
  refine pl M5 (y_assign (v := .bool false) rfl rfl rfl) ?_
  simp only [Act.put, zq1, zq2, zq3]
  refine wpList_nil ?_
  refine hK8 _ _ ?_
  clear hK8
  refine wp_cond_false rfl ?_
  refine wp_seq_k (fun K9 hK9 => ?_)
  refine wp_region_lit ?_
  refine pl M5 (y_move (v := .slice ao n c) rfl rfl rfl) ?_
  simp only [Act.put, zq1, zq2, zq3]
  refine pl M5 (y_len rfl rfl rfl Try.underlying23) ?_
  simp only [Act.put, zq1, zq2, zq3]
  refine pl M5 (y_gtr (b := true) rfl rfl rfl rfl (decide_eq_true (by omega))) ?_
  simp only [Act.put, zq1, zq2, zq3]
  refine pl M5 (y_assign (v := .bool true) rfl rfl rfl) ?_
  simp only [Act.put, zq1, zq2, zq3]
  refine wpList_nil ?_
  refine hK9 _ _ ?_
  clear hK9
  refine wp_cond_true rfl ?_
  refine wp_seq_k (fun K10 hK10 => ?_)
  refine wp_region_lit ?_
  refine pl M5 (y_assign (v := .int .i64 0) rfl rfl rfl) ?_
  simp only [Act.put, zq1, zq2, zq3]
  refine pl M5 (y_assign (v := .int .i64 51) rfl rfl rfl) ?_
  simp only [Act.put, zq1, zq2, zq3]
  refine wpList_nil ?_
  refine hK10 _ _ ?_
  clear hK10
  refine wp_ret ?_
  try simp only [Exit.inBlock, Exit.then]
  refine bodyPost_ret (v := .tuple #[.int .i64 0, .int .i64 51]) (res2 rfl rfl rfl) rfl ?_
  have e1 : appE D V kind l = 51 := by unfold appE; rw [if_neg (fun h => h hL), if_neg (by omega), if_pos (by rw [hr.1]; exact hn)]
  obtain ⟨e2, e3⟩ := app_no e1 (by decide)
  have e4 : appD D V kind l = D := if_pos (Or.inr (Or.inr (Or.inr (Or.inl (by rw [hr.1]; exact hn)))))
  rw [e1, e2, e3, e4]
  exact ⟨_, rfl, (disk_close (D := D) hok (M5.arr [0, 1, 2, 3, 4] (by decide)))⟩
set_option maxRecDepth 100000 in
set_option maxHeartbeats 4000000 in
theorem app_full {D : DV} {V : FV} {f p pg mb : Nat} {qv : Value} {w : World} (hM : Mem w (foots [disk D p pg mb qv, blk f 69 (fC V p)]) w [disk D p pg mb qv, blk f 69 (fC V p)]) (kind : Int) (ao : Option Addr) (n c : Nat) (l : List UInt8) (hr : Row w ao n l) (hF : ∀ b o, ao = some ⟨b, o, none⟩ → 0 < n → b ∉ foots [disk D p pg mb qv, blk f 69 (fC V p)]) (hL : liveE D V = 0) (hk : 1 ≤ kind ∧ kind ≤ 3) (hn : ¬ 246 < n) (hx : (D.pages.length : Int) ≤ V.next) : Calls Try.prog 9 #[.pointer (some ⟨f, 0, none⟩), .int .i64 kind, .slice ao n c] w fun e w' => ∃ qv', e = .returned (.tuple #[.int .i64 (appN D V kind l), .int .i64 (appE D V kind l)]) ∧ Mem w (foots [disk D p pg mb qv, blk f 69 (fC V p)]) w' [disk (appD D V kind l) p pg mb qv', blk f 69 (fC (appV D V kind l) p)] := by
  obtain ⟨hok, M⟩ := disk_open hM
  clear hM
  go_enter Try.func9, Try.ntmps9
  refine wp_seq_k (fun K1 hK1 => ?_)
  refine wp_region_lit ?_
  refine pl M (y_assign (v := .int .i64 0) rfl rfl rfl) ?_
  simp only [Act.put, zq1, zq2, zq3]
  refine pl M (y_assign (v := .int .i64 0) rfl rfl rfl) ?_
  simp only [Act.put, zq1, zq2, zq3]
  refine wpList_nil ?_
  refine hK1 _ _ ?_
  clear hK1
  refine wp_seq_k (fun K2 hK2 => ?_)
  refine wp_seq_k (fun K3 hK3 => ?_)
  refine wp_region_lit ?_
  refine pl M (y_move (v := .pointer (some ⟨f, 0, none⟩)) rfl rfl rfl) ?_
  simp only [Act.put, zq1, zq2, zq3]
  have M4 : Mem w _ w [blk p 57 (dC D pg mb qv), blk pg 77 (pagesC D.pages), lst 79 257 qv D.q.length (qC D.q), mapq mb D.q, blk f 69 (fC V p)] := M.arr [0, 1, 2, 3, 4] (by decide)
  clear M
  have hlv : Mem w _ w ([disk D p pg mb (qv), blk f 69 (fC V p)] ++ []) := disk_close hok M4
  refine pe rfl (fun K hK => ?_)
  refine e_call 24 [.pointer (some ⟨f, 0, none⟩)] rfl rfl Try.call24 (live_any (Mem.here (L := [disk D p pg mb (qv), blk f 69 (fC V p)]) (R := []) hlv)) ?_
  rintro e w5 ⟨rfl, H5⟩
  have M5 : Mem w _ w5 [blk p 57 (dC D pg mb qv), blk pg 77 (pagesC D.pages), lst 79 257 qv D.q.length (qC D.q), mapq mb D.q, blk f 69 (fC V p)] := (disk_open (R := [blk f 69 (fC V p)] ++ []) (Mem.frame (Pre := [disk D p pg mb (qv), blk f 69 (fC V p)]) (Post := [disk D p pg mb (qv), blk f 69 (fC V p)]) (R := []) hlv H5)).2
  refine ⟨_, rfl, ?_⟩
  refine hK.out _ _ ?_
  clear hK K
  simp only [Act.put, zq1, zq2, zq3]
  refine pl M5 (y_assign (v := .int .i64 (liveE D V)) rfl rfl rfl) ?_
  simp only [Act.put, zq1, zq2, zq3]
  refine wpList_nil ?_
  refine hK3 _ _ ?_
  clear hK3
  refine wp_seq_k (fun K6 hK6 => ?_)
  refine wp_region_lit ?_
  refine pl M5 (y_move (v := .int .i64 (liveE D V)) rfl rfl rfl) ?_
  simp only [Act.put, zq1, zq2, zq3]
  refine pl M5 (y_neq (b := false) rfl rfl rfl rfl (by rw [decide_eq_true hL]; rfl)) ?_
  simp only [Act.put, zq1, zq2, zq3]
  refine wpList_nil ?_
  refine hK6 _ _ ?_
  clear hK6
  refine wp_cond_false rfl ?_
  refine wp_skip ?_
  refine hK2 _ _ ?_
  clear hK2
  refine wp_seq_k (fun K7 hK7 => ?_)
  refine wp_block ?_
  refine wp_seq_k (fun K8 hK8 => ?_)
  refine wp_region_lit ?_
  refine pl M5 (y_move (v := .int .i64 kind) rfl rfl rfl) ?_
  simp only [Act.put, zq1, zq2, zq3]
  refine pl M5 (y_lss (b := false) rfl rfl rfl rfl (decide_eq_false (by omega))) ?_
  simp only [Act.put, zq1, zq2, zq3]
  refine pl M5 (y_move (v := .bool false) rfl rfl rfl) ?_
  simp only [Act.put, zq1, zq2, zq3]
  refine pl M5 (y_move (v := .int .i64 kind) rfl rfl rfl) ?_
  simp only [Act.put, zq1, zq2, zq3]
  refine pl M5 (y_gtr (b := false) rfl rfl rfl rfl (decide_eq_false (by omega))) ?_
  simp only [Act.put, zq1, zq2, zq3]
  refine pl M5 (y_pickF (v := .bool false) rfl rfl rfl rfl) ?_
  simp only [Act.put, zq1, zq2, zq3]
  refine pl M5 (y_assign (v := .bool false) rfl rfl rfl) ?_
  simp only [Act.put, zq1, zq2, zq3]
  refine wpList_nil ?_
  refine hK8 _ _ ?_
  clear hK8
  refine wp_cond_false rfl ?_
  refine wp_seq_k (fun K9 hK9 => ?_)
  refine wp_region_lit ?_
  refine pl M5 (y_move (v := .slice ao n c) rfl rfl rfl) ?_
  simp only [Act.put, zq1, zq2, zq3]
  refine pl M5 (y_len rfl rfl rfl Try.underlying23) ?_
  simp only [Act.put, zq1, zq2, zq3]
  refine pl M5 (y_gtr (b := false) rfl rfl rfl rfl (decide_eq_false (by omega))) ?_
  simp only [Act.put, zq1, zq2, zq3]
  refine pl M5 (y_assign (v := .bool false) rfl rfl rfl) ?_
  simp only [Act.put, zq1, zq2, zq3]
  refine wpList_nil ?_
  refine hK9 _ _ ?_
  clear hK9
  refine wp_cond_false rfl ?_
  refine wp_seq_k (fun K10 hK10 => ?_)
  have M11 := M5.drew
  refine held_begin (fun W => Mem w (foots [disk D p pg mb qv, blk f 69 (fC V p)]) W [blk f 69 (fC V p)]) (by kernel_rfl) (M11.arr [4] (by decide)) (fun hS => ?_)
  refine held_take 0 _ rfl (by kernel_rfl) (by kernel_rfl) (by kernel_rfl) (y_move (v := .pointer (some ⟨f, 0, none⟩)) rfl rfl rfl) hS ?_
  simp only [Act.put, zq1, zq2, zq3]
  refine held_take 1 _ rfl (by kernel_rfl) (by kernel_rfl) (by kernel_rfl) (y_nil rfl rfl rfl) hS ?_
  simp only [Act.put, zq1, zq2, zq3]
  refine held_take 2 _ rfl (by kernel_rfl) (by kernel_rfl) (by kernel_rfl) (y_fa (r := 6) rfl rfl rfl Try.underlying69 rfl Try.sizeOf3 rfl) hS ?_
  simp only [Act.put, zq1, zq2, zq3]
  refine held_take 3 _ rfl (by kernel_rfl) (by kernel_rfl) (by kernel_rfl) (y_load (v := .int .i64 V.next) rfl rfl rfl Try.isAgg3 (fun W hW => hW.get 0 rfl) (rfl)) hS ?_
  simp only [Act.put, zq1, zq2, zq3]
  refine held_take 4 _ rfl (by kernel_rfl) (by kernel_rfl) (by kernel_rfl) (y_move (v := .pointer (some ⟨f, 0, none⟩)) rfl rfl rfl) hS ?_
  simp only [Act.put, zq1, zq2, zq3]
  refine held_take 5 _ rfl (by kernel_rfl) (by kernel_rfl) (by kernel_rfl) (y_nil rfl rfl rfl) hS ?_
  simp only [Act.put, zq1, zq2, zq3]
  refine held_take 6 _ rfl (by kernel_rfl) (by kernel_rfl) (by kernel_rfl) (y_fa (r := 0) rfl rfl rfl Try.underlying69 rfl Try.sizeOf24 rfl) hS ?_
  simp only [Act.put, zq1, zq2, zq3]
  refine held_take 7 _ rfl (by kernel_rfl) (by kernel_rfl) (by kernel_rfl) (y_load (v := .pointer (some ⟨p, 0, none⟩)) rfl rfl rfl Try.isAgg24 (fun W hW => hW.get 0 rfl) (rfl)) hS ?_
  simp only [Act.put, zq1, zq2, zq3]
  refine held_step 8 (by kernel_rfl) rfl (by rfl) (fun K hK => ?_)
  refine e_call 17 [.pointer (some ⟨p, 0, none⟩)] rfl rfl Try.call17 (pages_any (Mem.here (L := [disk (D) p pg mb (qv)]) (R := [blk f 69 (fC V p)]) (disk_close (D := D) (R := [blk f 69 (fC V p)]) hok M11)) ) ?_
  rintro e w12 ⟨rfl, H12⟩
  have M12 : Mem w _ w12 [blk p 57 (dC D pg mb qv), blk pg 77 (pagesC D.pages), lst 79 257 qv D.q.length (qC D.q), mapq mb D.q, blk f 69 (fC V p)] := (disk_open (Mem.frame (Pre := [disk (D) p pg mb (qv)]) (Post := [disk (D) p pg mb (qv)]) (R := [blk f 69 (fC V p)]) (disk_close (D := D) (R := [blk f 69 (fC V p)]) hok M11) H12)).2
  refine ⟨_, rfl, ?_⟩
  refine hK.out _ _ (M12.arr [4] (by decide)) (fun hS => ?_)
  clear hK K
  simp only [Act.put, zq1, zq2, zq3]
  refine held_take 9 _ rfl (by kernel_rfl) (by kernel_rfl) (by kernel_rfl) (y_geq (b := true) rfl rfl rfl rfl (decide_eq_true hx)) hS ?_
  simp only [Act.put, zq1, zq2, zq3]
  refine held_take 10 _ rfl (by kernel_rfl) (by kernel_rfl) (by kernel_rfl) (y_assign (v := .bool true) rfl rfl rfl) hS ?_
  simp only [Act.put, zq1, zq2, zq3]
  refine held_done (by kernel_rfl) ?_ _
  refine hK10 _ _ ?_
  clear hK10
  refine wp_cond_true rfl ?_
  refine wp_seq_k (fun K13 hK13 => ?_)
  refine wp_region_lit ?_
  refine pl M12 (y_assign (v := .int .i64 0) rfl rfl rfl) ?_
  simp only [Act.put, zq1, zq2, zq3]
  refine pl M12 (y_assign (v := .int .i64 5) rfl rfl rfl) ?_
  simp only [Act.put, zq1, zq2, zq3]
  refine wpList_nil ?_
  refine hK13 _ _ ?_
  clear hK13
  refine wp_ret ?_
  try simp only [Exit.inBlock, Exit.then]
  refine bodyPost_ret (v := .tuple #[.int .i64 0, .int .i64 5]) (res2 rfl rfl rfl) rfl ?_
  have e1 : appE D V kind l = 5 := by unfold appE; rw [if_neg (fun h => h hL), if_neg (by omega), if_neg (by rw [hr.1]; exact hn), if_pos hx]
  obtain ⟨e2, e3⟩ := app_no e1 (by decide)
  have e4 : appD D V kind l = D := if_pos (Or.inr (Or.inr (Or.inr (Or.inr hx))))
  rw [e1, e2, e3, e4]
  exact ⟨_, rfl, (disk_close (D := D) hok (M12.arr [0, 1, 2, 3, 4] (by decide)))⟩
set_option maxRecDepth 100000 in
set_option maxHeartbeats 4000000 in
theorem app_ok {D : DV} {V : FV} {f p pg mb : Nat} {qv : Value} {w : World} (hM : Mem w (foots [disk D p pg mb qv, blk f 69 (fC V p)]) w [disk D p pg mb qv, blk f 69 (fC V p)]) (kind : Int) (ao : Option Addr) (n c : Nat) (l : List UInt8) (hr : Row w ao n l) (hF : ∀ b o, ao = some ⟨b, o, none⟩ → 0 < n → b ∉ foots [disk D p pg mb qv, blk f 69 (fC V p)]) (hL : liveE D V = 0) (hk : 1 ≤ kind ∧ kind ≤ 3) (hn : ¬ 246 < n) (hx : V.next < (D.pages.length : Int)) (hq : D.q.length ≤ 500000000000) (hV : FOk D V) : Calls Try.prog 9 #[.pointer (some ⟨f, 0, none⟩), .int .i64 kind, .slice ao n c] w fun e w' => ∃ qv', e = .returned (.tuple #[.int .i64 (appN D V kind l), .int .i64 (appE D V kind l)]) ∧ Mem w (foots [disk D p pg mb qv, blk f 69 (fC V p)]) w' [disk (appD D V kind l) p pg mb qv', blk f 69 (fC (appV D V kind l) p)] := by
  obtain ⟨hok, M⟩ := disk_open hM
  clear hM
  have hhi := hok.hi
  have hnl := hr.1
  have hlo := hV.lo
  go_enter Try.func9, Try.ntmps9
  refine wp_seq_k (fun K1 hK1 => ?_)
  refine wp_region_lit ?_
  refine pl M (y_assign (v := .int .i64 0) rfl rfl rfl) ?_
  simp only [Act.put, zq1, zq2, zq3]
  refine pl M (y_assign (v := .int .i64 0) rfl rfl rfl) ?_
  simp only [Act.put, zq1, zq2, zq3]
  refine wpList_nil ?_
  refine hK1 _ _ ?_
  clear hK1
  refine wp_seq_k (fun K2 hK2 => ?_)
  refine wp_seq_k (fun K3 hK3 => ?_)
  refine wp_region_lit ?_
  refine pl M (y_move (v := .pointer (some ⟨f, 0, none⟩)) rfl rfl rfl) ?_
  simp only [Act.put, zq1, zq2, zq3]
  have M4 : Mem w _ w [blk p 57 (dC D pg mb qv), blk pg 77 (pagesC D.pages), lst 79 257 qv D.q.length (qC D.q), mapq mb D.q, blk f 69 (fC V p)] := M.arr [0, 1, 2, 3, 4] (by decide)
  clear M
  have hlv : Mem w _ w ([disk D p pg mb (qv), blk f 69 (fC V p)] ++ []) := disk_close hok M4
  refine pe rfl (fun K hK => ?_)
  refine e_call 24 [.pointer (some ⟨f, 0, none⟩)] rfl rfl Try.call24 (live_any (Mem.here (L := [disk D p pg mb (qv), blk f 69 (fC V p)]) (R := []) hlv)) ?_
  rintro e w5 ⟨rfl, H5⟩
  have M5 : Mem w _ w5 [blk p 57 (dC D pg mb qv), blk pg 77 (pagesC D.pages), lst 79 257 qv D.q.length (qC D.q), mapq mb D.q, blk f 69 (fC V p)] := (disk_open (R := [blk f 69 (fC V p)] ++ []) (Mem.frame (Pre := [disk D p pg mb (qv), blk f 69 (fC V p)]) (Post := [disk D p pg mb (qv), blk f 69 (fC V p)]) (R := []) hlv H5)).2
  refine ⟨_, rfl, ?_⟩
  refine hK.out _ _ ?_
  clear hK K
  simp only [Act.put, zq1, zq2, zq3]
  refine pl M5 (y_assign (v := .int .i64 (liveE D V)) rfl rfl rfl) ?_
  simp only [Act.put, zq1, zq2, zq3]
  refine wpList_nil ?_
  refine hK3 _ _ ?_
  clear hK3
  refine wp_seq_k (fun K6 hK6 => ?_)
  refine wp_region_lit ?_
  refine pl M5 (y_move (v := .int .i64 (liveE D V)) rfl rfl rfl) ?_
  simp only [Act.put, zq1, zq2, zq3]
  refine pl M5 (y_neq (b := false) rfl rfl rfl rfl (by rw [decide_eq_true hL]; rfl)) ?_
  simp only [Act.put, zq1, zq2, zq3]
  refine wpList_nil ?_
  refine hK6 _ _ ?_
  clear hK6
  refine wp_cond_false rfl ?_
  refine wp_skip ?_
  refine hK2 _ _ ?_
  clear hK2
  refine wp_seq_k (fun K7 hK7 => ?_)
  refine wp_block ?_
  refine wp_seq_k (fun K8 hK8 => ?_)
  refine wp_region_lit ?_
  refine pl M5 (y_move (v := .int .i64 kind) rfl rfl rfl) ?_
  simp only [Act.put, zq1, zq2, zq3]
  refine pl M5 (y_lss (b := false) rfl rfl rfl rfl (decide_eq_false (by omega))) ?_
  simp only [Act.put, zq1, zq2, zq3]
  refine pl M5 (y_move (v := .bool false) rfl rfl rfl) ?_
  simp only [Act.put, zq1, zq2, zq3]
  refine pl M5 (y_move (v := .int .i64 kind) rfl rfl rfl) ?_
  simp only [Act.put, zq1, zq2, zq3]
  refine pl M5 (y_gtr (b := false) rfl rfl rfl rfl (decide_eq_false (by omega))) ?_
  simp only [Act.put, zq1, zq2, zq3]
  refine pl M5 (y_pickF (v := .bool false) rfl rfl rfl rfl) ?_
  simp only [Act.put, zq1, zq2, zq3]
  refine pl M5 (y_assign (v := .bool false) rfl rfl rfl) ?_
  simp only [Act.put, zq1, zq2, zq3]
  refine wpList_nil ?_
  refine hK8 _ _ ?_
  clear hK8
  refine wp_cond_false rfl ?_
  refine wp_seq_k (fun K9 hK9 => ?_)
  refine wp_region_lit ?_
  refine pl M5 (y_move (v := .slice ao n c) rfl rfl rfl) ?_
  simp only [Act.put, zq1, zq2, zq3]
  refine pl M5 (y_len rfl rfl rfl Try.underlying23) ?_
  simp only [Act.put, zq1, zq2, zq3]
  refine pl M5 (y_gtr (b := false) rfl rfl rfl rfl (decide_eq_false (by omega))) ?_
  simp only [Act.put, zq1, zq2, zq3]
  refine pl M5 (y_assign (v := .bool false) rfl rfl rfl) ?_
  simp only [Act.put, zq1, zq2, zq3]
  refine wpList_nil ?_
  refine hK9 _ _ ?_
  clear hK9
  refine wp_cond_false rfl ?_
  refine wp_seq_k (fun K10 hK10 => ?_)
  have M11 := M5.drew
  refine held_begin (fun W => Mem w (foots [disk D p pg mb qv, blk f 69 (fC V p)]) W [blk f 69 (fC V p)]) (by kernel_rfl) (M11.arr [4] (by decide)) (fun hS => ?_)
  refine held_take 0 _ rfl (by kernel_rfl) (by kernel_rfl) (by kernel_rfl) (y_move (v := .pointer (some ⟨f, 0, none⟩)) rfl rfl rfl) hS ?_
  simp only [Act.put, zq1, zq2, zq3]
  refine held_take 1 _ rfl (by kernel_rfl) (by kernel_rfl) (by kernel_rfl) (y_nil rfl rfl rfl) hS ?_
  simp only [Act.put, zq1, zq2, zq3]
  refine held_take 2 _ rfl (by kernel_rfl) (by kernel_rfl) (by kernel_rfl) (y_fa (r := 6) rfl rfl rfl Try.underlying69 rfl Try.sizeOf3 rfl) hS ?_
  simp only [Act.put, zq1, zq2, zq3]
  refine held_take 3 _ rfl (by kernel_rfl) (by kernel_rfl) (by kernel_rfl) (y_load (v := .int .i64 V.next) rfl rfl rfl Try.isAgg3 (fun W hW => hW.get 0 rfl) (rfl)) hS ?_
  simp only [Act.put, zq1, zq2, zq3]
  refine held_take 4 _ rfl (by kernel_rfl) (by kernel_rfl) (by kernel_rfl) (y_move (v := .pointer (some ⟨f, 0, none⟩)) rfl rfl rfl) hS ?_
  simp only [Act.put, zq1, zq2, zq3]
  refine held_take 5 _ rfl (by kernel_rfl) (by kernel_rfl) (by kernel_rfl) (y_nil rfl rfl rfl) hS ?_
  simp only [Act.put, zq1, zq2, zq3]
  refine held_take 6 _ rfl (by kernel_rfl) (by kernel_rfl) (by kernel_rfl) (y_fa (r := 0) rfl rfl rfl Try.underlying69 rfl Try.sizeOf24 rfl) hS ?_
  simp only [Act.put, zq1, zq2, zq3]
  refine held_take 7 _ rfl (by kernel_rfl) (by kernel_rfl) (by kernel_rfl) (y_load (v := .pointer (some ⟨p, 0, none⟩)) rfl rfl rfl Try.isAgg24 (fun W hW => hW.get 0 rfl) (rfl)) hS ?_
  simp only [Act.put, zq1, zq2, zq3]
  refine held_step 8 (by kernel_rfl) rfl (by rfl) (fun K hK => ?_)
  refine e_call 17 [.pointer (some ⟨p, 0, none⟩)] rfl rfl Try.call17 (pages_any (Mem.here (L := [disk (D) p pg mb (qv)]) (R := [blk f 69 (fC V p)]) (disk_close (D := D) (R := [blk f 69 (fC V p)]) hok M11)) ) ?_
  rintro e w12 ⟨rfl, H12⟩
  have M12 : Mem w _ w12 [blk p 57 (dC D pg mb qv), blk pg 77 (pagesC D.pages), lst 79 257 qv D.q.length (qC D.q), mapq mb D.q, blk f 69 (fC V p)] := (disk_open (Mem.frame (Pre := [disk (D) p pg mb (qv)]) (Post := [disk (D) p pg mb (qv)]) (R := [blk f 69 (fC V p)]) (disk_close (D := D) (R := [blk f 69 (fC V p)]) hok M11) H12)).2
  refine ⟨_, rfl, ?_⟩
  refine hK.out _ _ (M12.arr [4] (by decide)) (fun hS => ?_)
  clear hK K
  simp only [Act.put, zq1, zq2, zq3]
  refine held_take 9 _ rfl (by kernel_rfl) (by kernel_rfl) (by kernel_rfl) (y_geq (b := false) rfl rfl rfl rfl (decide_eq_false (by omega))) hS ?_
  simp only [Act.put, zq1, zq2, zq3]
  refine held_take 10 _ rfl (by kernel_rfl) (by kernel_rfl) (by kernel_rfl) (y_assign (v := .bool false) rfl rfl rfl) hS ?_
  simp only [Act.put, zq1, zq2, zq3]
  refine held_done (by kernel_rfl) ?_ _
  refine hK10 _ _ ?_
  clear hK10
  refine wp_cond_false rfl ?_
  refine wp_skip ?_
  refine hK7 _ _ ?_
  clear hK7
  refine wp_seq_k (fun K13 hK13 => ?_)
  refine wp_region_lit ?_
  refine pl M12 (y_move (v := .int .i64 kind) rfl rfl rfl) ?_
  simp only [Act.put, zq1, zq2, zq3]
  refine pl M12 (y_move (v := .pointer (some ⟨f, 0, none⟩)) rfl rfl rfl) ?_
  simp only [Act.put, zq1, zq2, zq3]
  refine pl M12 (y_nil rfl rfl rfl) ?_
  simp only [Act.put, zq1, zq2, zq3]
  refine pl M12 (y_fa (r := 6) rfl rfl rfl Try.underlying69 rfl Try.sizeOf3 rfl) ?_
  simp only [Act.put, zq1, zq2, zq3]
  refine pl M12 (y_load (v := .int .i64 V.next) rfl rfl rfl Try.isAgg3 (fun W hW => hW.get 4 rfl) (rfl)) ?_
  simp only [Act.put, zq1, zq2, zq3]
  refine pl M12 (y_move (v := .slice ao n c) rfl rfl rfl) ?_
  simp only [Act.put, zq1, zq2, zq3]
  refine pe rfl (fun K hK => ?_)
  refine e_call 25 [.int .i64 kind, .int .i64 V.next, .slice ao n c] rfl rfl Try.call25 (pack_okI kind V.next ao n c l _ (M12.row hr hF) hk ⟨by omega, by omega⟩ (by omega)) ?_
  rintro e w14 ⟨gp, cp, rfl, H⟩
  have M14 : Mem w _ w14 [lst 5 1 (.slice (some ⟨gp, 0, none⟩) 256 cp) 256 (bvs (pageB kind.toNat V.next.toNat l)), blk p 57 (dC D pg mb qv), blk pg 77 (pagesC D.pages), lst 79 257 qv D.q.length (qC D.q), mapq mb D.q, blk f 69 (fC V p)] := M12.step H
  refine ⟨_, rfl, ?_⟩
  refine hK.out _ _ ?_
  clear hK K
  simp only [Act.put, zq1, zq2, zq3]
  refine pl M14 (y_move (v := .tuple #[.slice (some ⟨gp, 0, none⟩) 256 cp, .int .i64 0]) rfl rfl rfl) ?_
  simp only [Act.put, zq1, zq2, zq3]
  refine pl M14 (y_ext (v := .slice (some ⟨gp, 0, none⟩) 256 cp) rfl rfl rfl rfl) ?_
  simp only [Act.put, zq1, zq2, zq3]
  refine pl M14 (y_ext (v := .int .i64 0) rfl rfl rfl rfl) ?_
  simp only [Act.put, zq1, zq2, zq3]
  refine pl M14 (y_assign (v := .slice (some ⟨gp, 0, none⟩) 256 cp) rfl rfl rfl) ?_
  simp only [Act.put, zq1, zq2, zq3]
  refine pl M14 (y_assign (v := .int .i64 0) rfl rfl rfl) ?_
  simp only [Act.put, zq1, zq2, zq3]
  refine wpList_nil ?_
  refine hK13 _ _ ?_
  clear hK13
  refine wp_seq_k (fun K15 hK15 => ?_)
  refine wp_seq_k (fun K16 hK16 => ?_)
  refine wp_region_lit ?_
  refine pl M14 (y_move (v := .int .i64 0) rfl rfl rfl) ?_
  simp only [Act.put, zq1, zq2, zq3]
  refine pl M14 (y_neq (b := false) rfl rfl rfl rfl (by rw [decide_eq_true rfl]; rfl)) ?_
  simp only [Act.put, zq1, zq2, zq3]
  refine wpList_nil ?_
  refine hK16 _ _ ?_
  clear hK16
  refine wp_cond_false rfl ?_
  refine wp_skip ?_
  refine hK15 _ _ ?_
  clear hK15
  refine wp_seq_k (fun K17 hK17 => ?_)
  refine wp_seq_k (fun K18 hK18 => ?_)
  have M19 := M14.drew
  refine held_begin (fun W => Mem w (foots [disk D p pg mb qv, blk f 69 (fC V p)]) W [blk f 69 (fC V p)]) (by kernel_rfl) (M19.arr [5] (by decide)) (fun hS => ?_)
  refine held_take 0 _ rfl (by kernel_rfl) (by kernel_rfl) (by kernel_rfl) (y_move (v := .pointer (some ⟨f, 0, none⟩)) rfl rfl rfl) hS ?_
  simp only [Act.put, zq1, zq2, zq3]
  refine held_take 1 _ rfl (by kernel_rfl) (by kernel_rfl) (by kernel_rfl) (y_nil rfl rfl rfl) hS ?_
  simp only [Act.put, zq1, zq2, zq3]
  refine held_take 2 _ rfl (by kernel_rfl) (by kernel_rfl) (by kernel_rfl) (y_fa (r := 0) rfl rfl rfl Try.underlying69 rfl Try.sizeOf24 rfl) hS ?_
  simp only [Act.put, zq1, zq2, zq3]
  refine held_take 3 _ rfl (by kernel_rfl) (by kernel_rfl) (by kernel_rfl) (y_load (v := .pointer (some ⟨p, 0, none⟩)) rfl rfl rfl Try.isAgg24 (fun W hW => hW.get 0 rfl) (rfl)) hS ?_
  simp only [Act.put, zq1, zq2, zq3]
  refine held_take 4 _ rfl (by kernel_rfl) (by kernel_rfl) (by kernel_rfl) (y_move (v := .pointer (some ⟨f, 0, none⟩)) rfl rfl rfl) hS ?_
  simp only [Act.put, zq1, zq2, zq3]
  refine held_take 5 _ rfl (by kernel_rfl) (by kernel_rfl) (by kernel_rfl) (y_nil rfl rfl rfl) hS ?_
  simp only [Act.put, zq1, zq2, zq3]
  refine held_take 6 _ rfl (by kernel_rfl) (by kernel_rfl) (by kernel_rfl) (y_fa (r := 6) rfl rfl rfl Try.underlying69 rfl Try.sizeOf3 rfl) hS ?_
  simp only [Act.put, zq1, zq2, zq3]
  refine held_take 7 _ rfl (by kernel_rfl) (by kernel_rfl) (by kernel_rfl) (y_load (v := .int .i64 V.next) rfl rfl rfl Try.isAgg3 (fun W hW => hW.get 0 rfl) (rfl)) hS ?_
  simp only [Act.put, zq1, zq2, zq3]
  refine held_take 8 _ rfl (by kernel_rfl) (by kernel_rfl) (by kernel_rfl) (y_move (v := .slice (some ⟨gp, 0, none⟩) 256 cp) rfl rfl rfl) hS ?_
  simp only [Act.put, zq1, zq2, zq3]
  have M20 : Mem w _ w14.drew [blk p 57 (dC D pg mb qv), blk pg 77 (pagesC D.pages), lst 79 257 qv D.q.length (qC D.q), mapq mb D.q, lst 5 1 (.slice (some ⟨gp, 0, none⟩) 256 cp) 256 (bvs (pageB kind.toNat V.next.toNat l)), blk f 69 (fC V p)] := M19.arr [1, 2, 3, 4, 0, 5] (by decide)
  clear M19
  refine held_step 9 (by kernel_rfl) rfl (by rfl) (fun K hK => ?_)
  have hnd : Mem w _ w14.drew [disk D p pg mb qv, lst 5 1 (.slice (some ⟨gp, 0, none⟩) 256 cp) 256 (bvs (pageB kind.toNat V.next.toNat l)), blk f 69 (fC V p)] := (disk_close (D := D) (R := [lst 5 1 (.slice (some ⟨gp, 0, none⟩) 256 cp) 256 (bvs (pageB kind.toNat V.next.toNat l)), blk f 69 (fC V p)]) hok M20)
  refine e_call 26 [.pointer (some ⟨p, 0, none⟩), .int .i64 V.next, .slice (some ⟨gp, 0, none⟩) 256 cp] rfl rfl Try.call26 (write_any (Mem.here (L := [disk D p pg mb (qv)]) (R := [lst 5 1 (.slice (some ⟨gp, 0, none⟩) 256 cp) 256 (bvs (pageB kind.toNat V.next.toNat l)), blk f 69 (fC V p)]) hnd) V.next (some ⟨gp, 0, none⟩) 256 cp (pageB kind.toNat V.next.toNat l) (lst_row (M20.get 4 rfl)) (fun b o e _ hb => by cases e; exact hnd.apart 0 1 (by decide) rfl rfl (by simp [foots] at hb; exact hb) (by simp [lst, obs, Value.ownBlock])) (by omega) hq) ?_
  rintro e w21 ⟨qv', rfl, H⟩
  have M21 : Mem w _ w21 [disk (writeD D V.next (pageB kind.toNat V.next.toNat l)) p pg mb qv', lst 5 1 (.slice (some ⟨gp, 0, none⟩) 256 cp) 256 (bvs (pageB kind.toNat V.next.toNat l)), blk f 69 (fC V p)] := Mem.frame (Pre := [disk D p pg mb (qv)]) (Post := [disk (writeD D V.next (pageB kind.toNat V.next.toNat l)) p pg mb qv']) (R := [lst 5 1 (.slice (some ⟨gp, 0, none⟩) 256 cp) 256 (bvs (pageB kind.toNat V.next.toNat l)), blk f 69 (fC V p)]) hnd H
  clear H hnd M20
  refine ⟨_, rfl, ?_⟩
  refine hK.out _ _ (M21.arr [2] (by decide)) (fun hS => ?_)
  clear hK K
  simp only [Act.put, zq1, zq2, zq3]
  refine held_take 10 _ rfl (by kernel_rfl) (by kernel_rfl) (by kernel_rfl) (y_assign (v := .int .i64 (writeE D V.next (pageB kind.toNat V.next.toNat l))) rfl rfl rfl) hS ?_
  simp only [Act.put, zq1, zq2, zq3]
  refine held_done (by kernel_rfl) ?_ _
  refine hK18 _ _ ?_
  clear hK18
  refine wp_seq_k (fun K22 hK22 => ?_)
  refine wp_region_lit ?_
  refine pl M21 (y_move (v := .int .i64 (writeE D V.next (pageB kind.toNat V.next.toNat l))) rfl rfl rfl) ?_
  simp only [Act.put, zq1, zq2, zq3]
  rcases Decidable.em (writeE D V.next (pageB kind.toNat V.next.toNat l) = 0) with h23 | h23
  · refine pl M21 (y_neq (b := false) rfl rfl rfl rfl (by rw [decide_eq_true h23]; rfl)) ?_
    simp only [Act.put, zq1, zq2, zq3]
    refine wpList_nil ?_
    refine hK22 _ _ ?_
    clear hK22
    refine wp_cond_false rfl ?_
    refine wp_skip ?_
    refine hK17 _ _ ?_
    clear hK17
    refine wp_seq_k (fun K24 hK24 => ?_)
    refine wp_region_lit ?_
    refine pl M21 (y_move (v := .pointer (some ⟨f, 0, none⟩)) rfl rfl rfl) ?_
    simp only [Act.put, zq1, zq2, zq3]
    refine pl M21 (y_nil rfl rfl rfl) ?_
    simp only [Act.put, zq1, zq2, zq3]
    refine pl M21 (y_fa (r := 6) rfl rfl rfl Try.underlying69 rfl Try.sizeOf3 rfl) ?_
    simp only [Act.put, zq1, zq2, zq3]
    refine pl M21 (y_load (v := .int .i64 V.next) rfl rfl rfl Try.isAgg3 (fun W hW => hW.get 2 rfl) (rfl)) ?_
    simp only [Act.put, zq1, zq2, zq3]
    refine pl M21 (y_add (r := V.next + 1) rfl rfl rfl rfl (rfl) (by omega)) ?_
    simp only [Act.put, zq1, zq2, zq3]
    refine pl M21 (y_nil rfl rfl rfl) ?_
    simp only [Act.put, zq1, zq2, zq3]
    refine pl M21 (y_fa (r := 6) rfl rfl rfl Try.underlying69 rfl Try.sizeOf3 rfl) ?_
    simp only [Act.put, zq1, zq2, zq3]
    refine pe rfl (fun K hK => ?_)
    refine e_store M21 2 (v := .int .i64 (V.next + 1)) rfl rfl rfl rfl rfl rfl Try.sizeOf3 rfl (show (6 : Nat) < 8 by decide) ?_
    intro w25 (M25 : Mem w _ w25 [disk (writeD D V.next (pageB kind.toNat V.next.toNat l)) p pg mb qv', lst 5 1 (.slice (some ⟨gp, 0, none⟩) 256 cp) 256 (bvs (pageB kind.toNat V.next.toNat l)), blk f 69 ([.pointer (some ⟨p, 0, none⟩), .int .i64 V.s.width, .int .i64 V.s.gen, .int .i64 V.s.mark, .int .i64 V.s.head, .int .i64 V.s.pages, .int .i64 (V.next + 1), .int .i64 V.mine])])
    clear M21
    refine hK.out _ _ ?_
    clear hK K
    simp only [Act.put, zq1, zq2, zq3]
    refine wpList_nil ?_
    refine hK24 _ _ ?_
    clear hK24
    refine wp_seq_k (fun K26 hK26 => ?_)
    refine wp_region_lit ?_
    refine pl M25 (y_move (v := .pointer (some ⟨f, 0, none⟩)) rfl rfl rfl) ?_
    simp only [Act.put, zq1, zq2, zq3]
    refine pl M25 (y_nil rfl rfl rfl) ?_
    simp only [Act.put, zq1, zq2, zq3]
    refine pl M25 (y_fa (r := 6) rfl rfl rfl Try.underlying69 rfl Try.sizeOf3 rfl) ?_
    simp only [Act.put, zq1, zq2, zq3]
    refine pl M25 (y_load (v := .int .i64 (V.next + 1)) rfl rfl rfl Try.isAgg3 (fun W hW => hW.get 2 rfl) (rfl)) ?_
    simp only [Act.put, zq1, zq2, zq3]
    refine pl M25 (y_sub (r := V.next) rfl rfl rfl rfl (by omega) (by omega)) ?_
    simp only [Act.put, zq1, zq2, zq3]
    refine pl M25 (y_assign (v := .int .i64 V.next) rfl rfl rfl) ?_
    simp only [Act.put, zq1, zq2, zq3]
    refine pl M25 (y_assign (v := .int .i64 0) rfl rfl rfl) ?_
    simp only [Act.put, zq1, zq2, zq3]
    refine wpList_nil ?_
    refine hK26 _ _ ?_
    clear hK26
    refine wp_ret ?_
    try simp only [Exit.inBlock, Exit.then]
    refine bodyPost_ret (v := .tuple #[.int .i64 V.next, .int .i64 0]) (res2 rfl rfl rfl) rfl ?_
    have e1 : appE D V kind l = writeE D V.next (pageB kind.toNat V.next.toNat l) := by unfold appE; rw [if_neg (fun h => h hL), if_neg (by omega), if_neg (by omega), if_neg (by omega)]
    have e4 : appD D V kind l = writeD D V.next (pageB kind.toNat V.next.toNat l) := if_neg (by omega)
    rw [h23] at e1
    obtain ⟨e2, e3⟩ := app_yes e1
    rw [e1, e2, e3, e4]
    exact ⟨_, rfl, M25.arr [0, 2] (by decide)⟩
  · refine pl M21 (y_neq (b := true) rfl rfl rfl rfl (by rw [decide_eq_false h23]; rfl)) ?_
    simp only [Act.put, zq1, zq2, zq3]
    refine wpList_nil ?_
    refine hK22 _ _ ?_
    clear hK22
    refine wp_cond_true rfl ?_
    refine wp_seq_k (fun K27 hK27 => ?_)
    refine wp_region_lit ?_
    refine pl M21 (y_move (v := .int .i64 (writeE D V.next (pageB kind.toNat V.next.toNat l))) rfl rfl rfl) ?_
    simp only [Act.put, zq1, zq2, zq3]
    refine pl M21 (y_assign (v := .int .i64 0) rfl rfl rfl) ?_
    simp only [Act.put, zq1, zq2, zq3]
    refine pl M21 (y_assign (v := .int .i64 (writeE D V.next (pageB kind.toNat V.next.toNat l))) rfl rfl rfl) ?_
    simp only [Act.put, zq1, zq2, zq3]
    refine wpList_nil ?_
    refine hK27 _ _ ?_
    clear hK27
    refine wp_ret ?_
    try simp only [Exit.inBlock, Exit.then]
    refine bodyPost_ret (v := .tuple #[.int .i64 0, .int .i64 (writeE D V.next (pageB kind.toNat V.next.toNat l))]) (res2 rfl rfl rfl) rfl ?_
    have e1 : appE D V kind l = writeE D V.next (pageB kind.toNat V.next.toNat l) := by unfold appE; rw [if_neg (fun h => h hL), if_neg (by omega), if_neg (by omega), if_neg (by omega)]
    have e4 : appD D V kind l = writeD D V.next (pageB kind.toNat V.next.toNat l) := if_neg (by omega)
    obtain ⟨e2, e3⟩ := app_no e1 h23
    rw [e1, e2, e3, e4]
    exact ⟨_, rfl, M21.arr [0, 2] (by decide)⟩
theorem app_any {D : DV} {V : FV} {f p pg mb : Nat} {qv : Value} {w : World} (hM : Mem w (foots [disk D p pg mb qv, blk f 69 (fC V p)]) w [disk D p pg mb qv, blk f 69 (fC V p)]) (kind : Int) (ao : Option Addr) (n c : Nat) (l : List UInt8) (hr : Row w ao n l) (hF : ∀ b o, ao = some ⟨b, o, none⟩ → 0 < n → b ∉ foots [disk D p pg mb qv, blk f 69 (fC V p)]) (hq : D.q.length ≤ 500000000000) (hV : FOk D V) : Calls Try.prog 9 #[.pointer (some ⟨f, 0, none⟩), .int .i64 kind, .slice ao n c] w fun e w' => ∃ qv', e = .returned (.tuple #[.int .i64 (appN D V kind l), .int .i64 (appE D V kind l)]) ∧ Mem w (foots [disk D p pg mb qv, blk f 69 (fC V p)]) w' [disk (appD D V kind l) p pg mb qv', blk f 69 (fC (appV D V kind l) p)] := by
  by_cases hL : liveE D V = 0
  · rcases Int.lt_or_le kind 1 with h1 | h1
    · exact app_klow hM kind ao n c l hr hF hL h1
    · rcases Int.lt_or_le 3 kind with h2 | h2
      · exact app_khigh hM kind ao n c l hr hF hL h2
      · by_cases hn : 246 < n
        · exact app_long hM kind ao n c l hr hF hL ⟨h1, h2⟩ hn
        · rcases Int.lt_or_le V.next (D.pages.length : Int) with h3 | h3
          · exact app_ok hM kind ao n c l hr hF hL ⟨h1, h2⟩ hn h3 hq hV
          · exact app_full hM kind ao n c l hr hF hL ⟨h1, h2⟩ hn h3
  · exact app_dead hM kind ao n c l hr hF hL
end Go.Proofs.Ytdnahagibodnpaa

/- The file: Publish. -/
namespace Go.Proofs.Ytdnahagibodnpaa
set_option linter.unusedSectionVars false
open Go Go.RowKit
set_option linter.unusedVariables false
set_option linter.unusedSimpArgs false
def pubS (V : FV) (head : Int) : SupV := (⟨V.s.width, V.s.gen + 1, V.next, head, V.s.pages⟩ : SupV)
def pubR (D : DV) (V : FV) (head : Int) : DV × Int := if liveE D V ≠ 0 then (D, liveE D V) else if head ≠ 0 ∧ (head < 2 ∨ V.next ≤ head) then (D, 41) else if 1099511627776 ≤ V.s.gen then (D, 5) else runS [yS, wS (pubS V head), yS] D
def pubV (D : DV) (V : FV) (head : Int) : FV := if (pubR D V head).2 = 0 then { V with s := pubS V head } else V
theorem pub_no {D : DV} {V : FV} {head e : Int} {D' : DV} (h : pubR D V head = (D', e)) (he : e ≠ 0) : pubV D V head = V := by
  unfold pubV
  rw [h, if_neg he]
theorem pub_validS {D : DV} {V : FV} {head : Int} (hV : FOk D V) (hg : V.s.gen < 1099511627776) (hh : head = 0 ∨ (2 ≤ head ∧ head < V.next)) : ValidS (pubS V head) :=
  ⟨hV.valid.1, hV.valid.2.1, by have := hV.valid.2.2.1; show 0 ≤ V.s.gen + 1; omega, by show V.s.gen + 1 ≤ _; omega, hV.valid.2.2.2.2.1, hV.valid.2.2.2.2.2.1, hV.lo, hV.hi, hh⟩
set_option maxRecDepth 100000 in
set_option maxHeartbeats 4000000 in
theorem pub_dead {D : DV} {V : FV} {f p pg mb : Nat} {qv : Value} {w : World} (hM : Mem w (foots [disk D p pg mb qv, blk f 69 (fC V p)]) w [disk D p pg mb qv, blk f 69 (fC V p)]) (head : Int) (hL : liveE D V ≠ 0) : Calls Try.prog 10 #[.pointer (some ⟨f, 0, none⟩), .int .i64 head] w fun e w' => ∃ qv', e = .returned (.int .i64 (pubR D V head).2) ∧ Mem w (foots [disk D p pg mb qv, blk f 69 (fC V p)]) w' [disk (pubR D V head).1 p pg mb qv', blk f 69 (fC (pubV D V head) p)] := by
  obtain ⟨hok, M⟩ := disk_open hM
  clear hM
  go_enter Try.func10, Try.ntmps10
  refine wp_seq_k (fun K1 hK1 => ?_)
  refine wp_region_lit ?_
  refine pl M (y_assign (v := .int .i64 0) rfl rfl rfl) ?_
  simp only [Act.put, zq1, zq2, zq3]
  refine wpList_nil ?_
  refine hK1 _ _ ?_
  clear hK1
  refine wp_seq_k (fun K2 hK2 => ?_)
  refine wp_seq_k (fun K3 hK3 => ?_)
  refine wp_region_lit ?_
  refine pl M (y_move (v := .pointer (some ⟨f, 0, none⟩)) rfl rfl rfl) ?_
  simp only [Act.put, zq1, zq2, zq3]
  have M4 : Mem w _ w [blk p 57 (dC D pg mb qv), blk pg 77 (pagesC D.pages), lst 79 257 qv D.q.length (qC D.q), mapq mb D.q, blk f 69 (fC V p)] := M.arr [0, 1, 2, 3, 4] (by decide)
  clear M
  have hlv : Mem w _ w ([disk D p pg mb (qv), blk f 69 (fC V p)] ++ []) := disk_close hok M4
  refine pe rfl (fun K hK => ?_)
  refine e_call 24 [.pointer (some ⟨f, 0, none⟩)] rfl rfl Try.call24 (live_any (Mem.here (L := [disk D p pg mb (qv), blk f 69 (fC V p)]) (R := []) hlv)) ?_
  rintro e w5 ⟨rfl, H5⟩
  have M5 : Mem w _ w5 [blk p 57 (dC D pg mb qv), blk pg 77 (pagesC D.pages), lst 79 257 qv D.q.length (qC D.q), mapq mb D.q, blk f 69 (fC V p)] := (disk_open (R := [blk f 69 (fC V p)] ++ []) (Mem.frame (Pre := [disk D p pg mb (qv), blk f 69 (fC V p)]) (Post := [disk D p pg mb (qv), blk f 69 (fC V p)]) (R := []) hlv H5)).2
  refine ⟨_, rfl, ?_⟩
  refine hK.out _ _ ?_
  clear hK K
  simp only [Act.put, zq1, zq2, zq3]
  refine pl M5 (y_assign (v := .int .i64 (liveE D V)) rfl rfl rfl) ?_
  simp only [Act.put, zq1, zq2, zq3]
  refine wpList_nil ?_
  refine hK3 _ _ ?_
  clear hK3
  refine wp_seq_k (fun K6 hK6 => ?_)
  refine wp_region_lit ?_
  refine pl M5 (y_move (v := .int .i64 (liveE D V)) rfl rfl rfl) ?_
  simp only [Act.put, zq1, zq2, zq3]
  refine pl M5 (y_neq (b := true) rfl rfl rfl rfl (by rw [decide_eq_false hL]; rfl)) ?_
  simp only [Act.put, zq1, zq2, zq3]
  refine wpList_nil ?_
  refine hK6 _ _ ?_
  clear hK6
  refine wp_cond_true rfl ?_
  refine wp_seq_k (fun K7 hK7 => ?_)
  refine wp_region_lit ?_
  refine pl M5 (y_move (v := .int .i64 (liveE D V)) rfl rfl rfl) ?_
  simp only [Act.put, zq1, zq2, zq3]
  refine pl M5 (y_assign (v := .int .i64 (liveE D V)) rfl rfl rfl) ?_
  simp only [Act.put, zq1, zq2, zq3]
  refine wpList_nil ?_
  refine hK7 _ _ ?_
  clear hK7
  refine wp_ret ?_
  try simp only [Exit.inBlock, Exit.then]
  refine bodyPost_ret (v := .int .i64 (liveE D V)) (res1 rfl rfl) rfl ?_
  have e1 : pubR D V head = (D, liveE D V) := if_pos hL
  have e2 := pub_no e1 hL
  rw [e2, e1]
  exact ⟨_, rfl, (disk_close (D := D) hok (M5.arr [0, 1, 2, 3, 4] (by decide)))⟩
set_option maxRecDepth 100000 in
set_option maxHeartbeats 4000000 in
theorem pub_low {D : DV} {V : FV} {f p pg mb : Nat} {qv : Value} {w : World} (hM : Mem w (foots [disk D p pg mb qv, blk f 69 (fC V p)]) w [disk D p pg mb qv, blk f 69 (fC V p)]) (head : Int) (hL : liveE D V = 0) (h0 : head ≠ 0) (h1 : head < 2) : Calls Try.prog 10 #[.pointer (some ⟨f, 0, none⟩), .int .i64 head] w fun e w' => ∃ qv', e = .returned (.int .i64 (pubR D V head).2) ∧ Mem w (foots [disk D p pg mb qv, blk f 69 (fC V p)]) w' [disk (pubR D V head).1 p pg mb qv', blk f 69 (fC (pubV D V head) p)] := by
  obtain ⟨hok, M⟩ := disk_open hM
  clear hM
  go_enter Try.func10, Try.ntmps10
  refine wp_seq_k (fun K1 hK1 => ?_)
  refine wp_region_lit ?_
  refine pl M (y_assign (v := .int .i64 0) rfl rfl rfl) ?_
  simp only [Act.put, zq1, zq2, zq3]
  refine wpList_nil ?_
  refine hK1 _ _ ?_
  clear hK1
  refine wp_seq_k (fun K2 hK2 => ?_)
  refine wp_seq_k (fun K3 hK3 => ?_)
  refine wp_region_lit ?_
  refine pl M (y_move (v := .pointer (some ⟨f, 0, none⟩)) rfl rfl rfl) ?_
  simp only [Act.put, zq1, zq2, zq3]
  have M4 : Mem w _ w [blk p 57 (dC D pg mb qv), blk pg 77 (pagesC D.pages), lst 79 257 qv D.q.length (qC D.q), mapq mb D.q, blk f 69 (fC V p)] := M.arr [0, 1, 2, 3, 4] (by decide)
  clear M
  have hlv : Mem w _ w ([disk D p pg mb (qv), blk f 69 (fC V p)] ++ []) := disk_close hok M4
  refine pe rfl (fun K hK => ?_)
  refine e_call 24 [.pointer (some ⟨f, 0, none⟩)] rfl rfl Try.call24 (live_any (Mem.here (L := [disk D p pg mb (qv), blk f 69 (fC V p)]) (R := []) hlv)) ?_
  rintro e w5 ⟨rfl, H5⟩
  have M5 : Mem w _ w5 [blk p 57 (dC D pg mb qv), blk pg 77 (pagesC D.pages), lst 79 257 qv D.q.length (qC D.q), mapq mb D.q, blk f 69 (fC V p)] := (disk_open (R := [blk f 69 (fC V p)] ++ []) (Mem.frame (Pre := [disk D p pg mb (qv), blk f 69 (fC V p)]) (Post := [disk D p pg mb (qv), blk f 69 (fC V p)]) (R := []) hlv H5)).2
  refine ⟨_, rfl, ?_⟩
  refine hK.out _ _ ?_
  clear hK K
  simp only [Act.put, zq1, zq2, zq3]
  refine pl M5 (y_assign (v := .int .i64 (liveE D V)) rfl rfl rfl) ?_
  simp only [Act.put, zq1, zq2, zq3]
  refine wpList_nil ?_
  refine hK3 _ _ ?_
  clear hK3
  refine wp_seq_k (fun K6 hK6 => ?_)
  refine wp_region_lit ?_
  refine pl M5 (y_move (v := .int .i64 (liveE D V)) rfl rfl rfl) ?_
  simp only [Act.put, zq1, zq2, zq3]
  refine pl M5 (y_neq (b := false) rfl rfl rfl rfl (by rw [decide_eq_true hL]; rfl)) ?_
  simp only [Act.put, zq1, zq2, zq3]
  refine wpList_nil ?_
  refine hK6 _ _ ?_
  clear hK6
  refine wp_cond_false rfl ?_
  refine wp_skip ?_
  refine hK2 _ _ ?_
  clear hK2
  refine wp_seq_k (fun K7 hK7 => ?_)
  refine wp_seq_k (fun K8 hK8 => ?_)
  refine wp_region_lit ?_
  refine pl M5 (y_move (v := .int .i64 head) rfl rfl rfl) ?_
  simp only [Act.put, zq1, zq2, zq3]
  refine pl M5 (y_neq (b := true) rfl rfl rfl rfl (by rw [decide_eq_false h0]; rfl)) ?_
  simp only [Act.put, zq1, zq2, zq3]
  refine pl M5 (y_move (v := .bool true) rfl rfl rfl) ?_
  simp only [Act.put, zq1, zq2, zq3]
  refine pl M5 (y_move (v := .int .i64 head) rfl rfl rfl) ?_
  simp only [Act.put, zq1, zq2, zq3]
  refine pl M5 (y_lss (b := true) rfl rfl rfl rfl (decide_eq_true h1)) ?_
  simp only [Act.put, zq1, zq2, zq3]
  refine pl M5 (y_move (v := .bool true) rfl rfl rfl) ?_
  simp only [Act.put, zq1, zq2, zq3]
  with_reducible refine pskip ?_ ?_
  · rfl
  simp only [Act.put, zq1, zq2, zq3]
  with_reducible refine pskip ?_ ?_
  · rfl
  simp only [Act.put, zq1, zq2, zq3]
  with_reducible refine pskip ?_ ?_
  · rfl
  simp only [Act.put, zq1, zq2, zq3]
  with_reducible refine pskip ?_ ?_
  · rfl
  simp only [Act.put, zq1, zq2, zq3]
  with_reducible refine pskip ?_ ?_
  · rfl
  simp only [Act.put, zq1, zq2, zq3]
  with_reducible refine pskip ?_ ?_
  · rfl
  simp only [Act.put, zq1, zq2, zq3]
  refine pl M5 (y_pickT (v := .bool true) rfl rfl rfl rfl) ?_
  simp only [Act.put, zq1, zq2, zq3]
  refine pl M5 (y_pickT (v := .bool true) rfl rfl rfl rfl) ?_
  simp only [Act.put, zq1, zq2, zq3]
  refine wpList_nil ?_
  refine hK8 _ _ ?_
  clear hK8
  refine wp_cond_true rfl ?_
  refine wp_seq_k (fun K9 hK9 => ?_)
  refine wp_region_lit ?_
  refine pl M5 (y_assign (v := .int .i64 41) rfl rfl rfl) ?_
  simp only [Act.put, zq1, zq2, zq3]
  refine wpList_nil ?_
  refine hK9 _ _ ?_
  clear hK9
  refine wp_ret ?_
  try simp only [Exit.inBlock, Exit.then]
  refine bodyPost_ret (v := .int .i64 41) (res1 rfl rfl) rfl ?_
  have e1 : pubR D V head = (D, 41) := by unfold pubR; rw [if_neg (fun h => h hL), if_pos (by omega)]
  have e2 := pub_no e1 (by decide)
  rw [e2, e1]
  exact ⟨_, rfl, (disk_close (D := D) hok (M5.arr [0, 1, 2, 3, 4] (by decide)))⟩
set_option maxRecDepth 100000 in
set_option maxHeartbeats 4000000 in
theorem pub_high {D : DV} {V : FV} {f p pg mb : Nat} {qv : Value} {w : World} (hM : Mem w (foots [disk D p pg mb qv, blk f 69 (fC V p)]) w [disk D p pg mb qv, blk f 69 (fC V p)]) (head : Int) (hL : liveE D V = 0) (h0 : head ≠ 0) (h1 : ¬ head < 2) (h2 : V.next ≤ head) : Calls Try.prog 10 #[.pointer (some ⟨f, 0, none⟩), .int .i64 head] w fun e w' => ∃ qv', e = .returned (.int .i64 (pubR D V head).2) ∧ Mem w (foots [disk D p pg mb qv, blk f 69 (fC V p)]) w' [disk (pubR D V head).1 p pg mb qv', blk f 69 (fC (pubV D V head) p)] := by
  obtain ⟨hok, M⟩ := disk_open hM
  clear hM
  go_enter Try.func10, Try.ntmps10
  refine wp_seq_k (fun K1 hK1 => ?_)
  refine wp_region_lit ?_
  refine pl M (y_assign (v := .int .i64 0) rfl rfl rfl) ?_
  simp only [Act.put, zq1, zq2, zq3]
  refine wpList_nil ?_
  refine hK1 _ _ ?_
  clear hK1
  refine wp_seq_k (fun K2 hK2 => ?_)
  refine wp_seq_k (fun K3 hK3 => ?_)
  refine wp_region_lit ?_
  refine pl M (y_move (v := .pointer (some ⟨f, 0, none⟩)) rfl rfl rfl) ?_
  simp only [Act.put, zq1, zq2, zq3]
  have M4 : Mem w _ w [blk p 57 (dC D pg mb qv), blk pg 77 (pagesC D.pages), lst 79 257 qv D.q.length (qC D.q), mapq mb D.q, blk f 69 (fC V p)] := M.arr [0, 1, 2, 3, 4] (by decide)
  clear M
  have hlv : Mem w _ w ([disk D p pg mb (qv), blk f 69 (fC V p)] ++ []) := disk_close hok M4
  refine pe rfl (fun K hK => ?_)
  refine e_call 24 [.pointer (some ⟨f, 0, none⟩)] rfl rfl Try.call24 (live_any (Mem.here (L := [disk D p pg mb (qv), blk f 69 (fC V p)]) (R := []) hlv)) ?_
  rintro e w5 ⟨rfl, H5⟩
  have M5 : Mem w _ w5 [blk p 57 (dC D pg mb qv), blk pg 77 (pagesC D.pages), lst 79 257 qv D.q.length (qC D.q), mapq mb D.q, blk f 69 (fC V p)] := (disk_open (R := [blk f 69 (fC V p)] ++ []) (Mem.frame (Pre := [disk D p pg mb (qv), blk f 69 (fC V p)]) (Post := [disk D p pg mb (qv), blk f 69 (fC V p)]) (R := []) hlv H5)).2
  refine ⟨_, rfl, ?_⟩
  refine hK.out _ _ ?_
  clear hK K
  simp only [Act.put, zq1, zq2, zq3]
  refine pl M5 (y_assign (v := .int .i64 (liveE D V)) rfl rfl rfl) ?_
  simp only [Act.put, zq1, zq2, zq3]
  refine wpList_nil ?_
  refine hK3 _ _ ?_
  clear hK3
  refine wp_seq_k (fun K6 hK6 => ?_)
  refine wp_region_lit ?_
  refine pl M5 (y_move (v := .int .i64 (liveE D V)) rfl rfl rfl) ?_
  simp only [Act.put, zq1, zq2, zq3]
  refine pl M5 (y_neq (b := false) rfl rfl rfl rfl (by rw [decide_eq_true hL]; rfl)) ?_
  simp only [Act.put, zq1, zq2, zq3]
  refine wpList_nil ?_
  refine hK6 _ _ ?_
  clear hK6
  refine wp_cond_false rfl ?_
  refine wp_skip ?_
  refine hK2 _ _ ?_
  clear hK2
  refine wp_seq_k (fun K7 hK7 => ?_)
  refine wp_seq_k (fun K8 hK8 => ?_)
  refine wp_region_lit ?_
  refine pl M5 (y_move (v := .int .i64 head) rfl rfl rfl) ?_
  simp only [Act.put, zq1, zq2, zq3]
  refine pl M5 (y_neq (b := true) rfl rfl rfl rfl (by rw [decide_eq_false h0]; rfl)) ?_
  simp only [Act.put, zq1, zq2, zq3]
  refine pl M5 (y_move (v := .bool true) rfl rfl rfl) ?_
  simp only [Act.put, zq1, zq2, zq3]
  refine pl M5 (y_move (v := .int .i64 head) rfl rfl rfl) ?_
  simp only [Act.put, zq1, zq2, zq3]
  refine pl M5 (y_lss (b := false) rfl rfl rfl rfl (decide_eq_false h1)) ?_
  simp only [Act.put, zq1, zq2, zq3]
  refine pl M5 (y_move (v := .bool false) rfl rfl rfl) ?_
  simp only [Act.put, zq1, zq2, zq3]
  refine pl M5 (y_move (v := .int .i64 head) rfl rfl rfl) ?_
  simp only [Act.put, zq1, zq2, zq3]
  refine pl M5 (y_move (v := .pointer (some ⟨f, 0, none⟩)) rfl rfl rfl) ?_
  simp only [Act.put, zq1, zq2, zq3]
  refine pl M5 (y_nil rfl rfl rfl) ?_
  simp only [Act.put, zq1, zq2, zq3]
  refine pl M5 (y_fa (r := 6) rfl rfl rfl Try.underlying69 rfl Try.sizeOf3 rfl) ?_
  simp only [Act.put, zq1, zq2, zq3]
  refine pl M5 (y_load (v := .int .i64 V.next) rfl rfl rfl Try.isAgg3 (fun W hW => hW.get 4 rfl) (rfl)) ?_
  simp only [Act.put, zq1, zq2, zq3]
  refine pl M5 (y_geq (b := true) rfl rfl rfl rfl (decide_eq_true h2)) ?_
  simp only [Act.put, zq1, zq2, zq3]
  refine pl M5 (y_pickF (v := .bool true) rfl rfl rfl rfl) ?_
  simp only [Act.put, zq1, zq2, zq3]
  refine pl M5 (y_pickT (v := .bool true) rfl rfl rfl rfl) ?_
  simp only [Act.put, zq1, zq2, zq3]
  refine wpList_nil ?_
  refine hK8 _ _ ?_
  clear hK8
  refine wp_cond_true rfl ?_
  refine wp_seq_k (fun K9 hK9 => ?_)
  refine wp_region_lit ?_
  refine pl M5 (y_assign (v := .int .i64 41) rfl rfl rfl) ?_
  simp only [Act.put, zq1, zq2, zq3]
  refine wpList_nil ?_
  refine hK9 _ _ ?_
  clear hK9
  refine wp_ret ?_
  try simp only [Exit.inBlock, Exit.then]
  refine bodyPost_ret (v := .int .i64 41) (res1 rfl rfl) rfl ?_
  have e1 : pubR D V head = (D, 41) := by unfold pubR; rw [if_neg (fun h => h hL), if_pos (by omega)]
  have e2 := pub_no e1 (by decide)
  rw [e2, e1]
  exact ⟨_, rfl, (disk_close (D := D) hok (M5.arr [0, 1, 2, 3, 4] (by decide)))⟩
set_option maxRecDepth 100000 in
set_option maxHeartbeats 4000000 in
theorem pub_full_z {D : DV} {V : FV} {f p pg mb : Nat} {qv : Value} {w : World} (hM : Mem w (foots [disk D p pg mb qv, blk f 69 (fC V p)]) w [disk D p pg mb qv, blk f 69 (fC V p)]) (head : Int) (hL : liveE D V = 0) (h0 : head = 0) (hg : 1099511627776 ≤ V.s.gen) : Calls Try.prog 10 #[.pointer (some ⟨f, 0, none⟩), .int .i64 head] w fun e w' => ∃ qv', e = .returned (.int .i64 (pubR D V head).2) ∧ Mem w (foots [disk D p pg mb qv, blk f 69 (fC V p)]) w' [disk (pubR D V head).1 p pg mb qv', blk f 69 (fC (pubV D V head) p)] := by
  obtain ⟨hok, M⟩ := disk_open hM
  clear hM
  go_enter Try.func10, Try.ntmps10
  refine wp_seq_k (fun K1 hK1 => ?_)
  refine wp_region_lit ?_
  refine pl M (y_assign (v := .int .i64 0) rfl rfl rfl) ?_
  simp only [Act.put, zq1, zq2, zq3]
  refine wpList_nil ?_
  refine hK1 _ _ ?_
  clear hK1
  refine wp_seq_k (fun K2 hK2 => ?_)
  refine wp_seq_k (fun K3 hK3 => ?_)
  refine wp_region_lit ?_
  refine pl M (y_move (v := .pointer (some ⟨f, 0, none⟩)) rfl rfl rfl) ?_
  simp only [Act.put, zq1, zq2, zq3]
  have M4 : Mem w _ w [blk p 57 (dC D pg mb qv), blk pg 77 (pagesC D.pages), lst 79 257 qv D.q.length (qC D.q), mapq mb D.q, blk f 69 (fC V p)] := M.arr [0, 1, 2, 3, 4] (by decide)
  clear M
  have hlv : Mem w _ w ([disk D p pg mb (qv), blk f 69 (fC V p)] ++ []) := disk_close hok M4
  refine pe rfl (fun K hK => ?_)
  refine e_call 24 [.pointer (some ⟨f, 0, none⟩)] rfl rfl Try.call24 (live_any (Mem.here (L := [disk D p pg mb (qv), blk f 69 (fC V p)]) (R := []) hlv)) ?_
  rintro e w5 ⟨rfl, H5⟩
  have M5 : Mem w _ w5 [blk p 57 (dC D pg mb qv), blk pg 77 (pagesC D.pages), lst 79 257 qv D.q.length (qC D.q), mapq mb D.q, blk f 69 (fC V p)] := (disk_open (R := [blk f 69 (fC V p)] ++ []) (Mem.frame (Pre := [disk D p pg mb (qv), blk f 69 (fC V p)]) (Post := [disk D p pg mb (qv), blk f 69 (fC V p)]) (R := []) hlv H5)).2
  refine ⟨_, rfl, ?_⟩
  refine hK.out _ _ ?_
  clear hK K
  simp only [Act.put, zq1, zq2, zq3]
  refine pl M5 (y_assign (v := .int .i64 (liveE D V)) rfl rfl rfl) ?_
  simp only [Act.put, zq1, zq2, zq3]
  refine wpList_nil ?_
  refine hK3 _ _ ?_
  clear hK3
  refine wp_seq_k (fun K6 hK6 => ?_)
  refine wp_region_lit ?_
  refine pl M5 (y_move (v := .int .i64 (liveE D V)) rfl rfl rfl) ?_
  simp only [Act.put, zq1, zq2, zq3]
  refine pl M5 (y_neq (b := false) rfl rfl rfl rfl (by rw [decide_eq_true hL]; rfl)) ?_
  simp only [Act.put, zq1, zq2, zq3]
  refine wpList_nil ?_
  refine hK6 _ _ ?_
  clear hK6
  refine wp_cond_false rfl ?_
  refine wp_skip ?_
  refine hK2 _ _ ?_
  clear hK2
  refine wp_seq_k (fun K7 hK7 => ?_)
  refine wp_seq_k (fun K8 hK8 => ?_)
  refine wp_region_lit ?_
  refine pl M5 (y_move (v := .int .i64 head) rfl rfl rfl) ?_
  simp only [Act.put, zq1, zq2, zq3]
  refine pl M5 (y_neq (b := false) rfl rfl rfl rfl (by rw [decide_eq_true h0]; rfl)) ?_
  simp only [Act.put, zq1, zq2, zq3]
  refine pl M5 (y_move (v := .bool false) rfl rfl rfl) ?_
  simp only [Act.put, zq1, zq2, zq3]
  with_reducible refine pskip ?_ ?_
  · rfl
  simp only [Act.put, zq1, zq2, zq3]
  with_reducible refine pskip ?_ ?_
  · rfl
  simp only [Act.put, zq1, zq2, zq3]
  with_reducible refine pskip ?_ ?_
  · rfl
  simp only [Act.put, zq1, zq2, zq3]
  with_reducible refine pskip ?_ ?_
  · rfl
  simp only [Act.put, zq1, zq2, zq3]
  with_reducible refine pskip ?_ ?_
  · rfl
  simp only [Act.put, zq1, zq2, zq3]
  with_reducible refine pskip ?_ ?_
  · rfl
  simp only [Act.put, zq1, zq2, zq3]
  with_reducible refine pskip ?_ ?_
  · rfl
  simp only [Act.put, zq1, zq2, zq3]
  with_reducible refine pskip ?_ ?_
  · rfl
  simp only [Act.put, zq1, zq2, zq3]
  with_reducible refine pskip ?_ ?_
  · rfl
  simp only [Act.put, zq1, zq2, zq3]
  with_reducible refine pskip ?_ ?_
  · rfl
  simp only [Act.put, zq1, zq2, zq3]
  refine pl M5 (y_pickF (v := .bool false) rfl rfl rfl rfl) ?_
  simp only [Act.put, zq1, zq2, zq3]
  refine wpList_nil ?_
  refine hK8 _ _ ?_
  clear hK8
  refine wp_cond_false rfl ?_
  refine wp_skip ?_
  refine hK7 _ _ ?_
  clear hK7
  refine wp_seq_k (fun K9 hK9 => ?_)
  refine wp_seq_k (fun K10 hK10 => ?_)
  refine wp_region_lit ?_
  refine pl M5 (y_move (v := .pointer (some ⟨f, 0, none⟩)) rfl rfl rfl) ?_
  simp only [Act.put, zq1, zq2, zq3]
  refine pl M5 (y_nil rfl rfl rfl) ?_
  simp only [Act.put, zq1, zq2, zq3]
  refine pl M5 (y_fa (r := 1) rfl rfl rfl Try.underlying69 rfl Try.sizeOf60 rfl) ?_
  simp only [Act.put, zq1, zq2, zq3]
  refine pl M5 (y_fa (r := 2) rfl rfl rfl Try.underlying60 rfl Try.sizeOf3 rfl) ?_
  simp only [Act.put, zq1, zq2, zq3]
  refine pl M5 (y_load (v := .int .i64 V.s.gen) rfl rfl rfl Try.isAgg3 (fun W hW => hW.get 4 rfl) (rfl)) ?_
  simp only [Act.put, zq1, zq2, zq3]
  refine pl M5 (y_geq (b := true) rfl rfl rfl rfl (decide_eq_true hg)) ?_
  simp only [Act.put, zq1, zq2, zq3]
  refine wpList_nil ?_
  refine hK10 _ _ ?_
  clear hK10
  refine wp_cond_true rfl ?_
  refine wp_seq_k (fun K11 hK11 => ?_)
  refine wp_region_lit ?_
  refine pl M5 (y_assign (v := .int .i64 5) rfl rfl rfl) ?_
  simp only [Act.put, zq1, zq2, zq3]
  refine wpList_nil ?_
  refine hK11 _ _ ?_
  clear hK11
  refine wp_ret ?_
  try simp only [Exit.inBlock, Exit.then]
  refine bodyPost_ret (v := .int .i64 5) (res1 rfl rfl) rfl ?_
  have e1 : pubR D V head = (D, 5) := by unfold pubR; rw [if_neg (fun h => h hL), if_neg (by omega), if_pos hg]
  have e2 := pub_no e1 (by decide)
  rw [e2, e1]
  exact ⟨_, rfl, (disk_close (D := D) hok (M5.arr [0, 1, 2, 3, 4] (by decide)))⟩
set_option maxRecDepth 100000 in
set_option maxHeartbeats 4000000 in
theorem pub_ok_z {D : DV} {V : FV} {f p pg mb : Nat} {qv : Value} {w : World} (hM : Mem w (foots [disk D p pg mb qv, blk f 69 (fC V p)]) w [disk D p pg mb qv, blk f 69 (fC V p)]) (head : Int) (hL : liveE D V = 0) (h0 : head = 0) (hg : ¬ 1099511627776 ≤ V.s.gen) (hq : D.q.length ≤ 400000000000) (hV : FOk D V) : Calls Try.prog 10 #[.pointer (some ⟨f, 0, none⟩), .int .i64 head] w fun e w' => ∃ qv', e = .returned (.int .i64 (pubR D V head).2) ∧ Mem w (foots [disk D p pg mb qv, blk f 69 (fC V p)]) w' [disk (pubR D V head).1 p pg mb qv', blk f 69 (fC (pubV D V head) p)] := by
  obtain ⟨hok, M⟩ := disk_open hM
  clear hM
  have hv1 : ValidS (pubS V head) := pub_validS hV (by omega) (by omega)
  have hgl := hV.valid.2.2.1
  go_enter Try.func10, Try.ntmps10
  refine wp_seq_k (fun K1 hK1 => ?_)
  refine wp_region_lit ?_
  refine pl M (y_assign (v := .int .i64 0) rfl rfl rfl) ?_
  simp only [Act.put, zq1, zq2, zq3]
  refine wpList_nil ?_
  refine hK1 _ _ ?_
  clear hK1
  refine wp_seq_k (fun K2 hK2 => ?_)
  refine wp_seq_k (fun K3 hK3 => ?_)
  refine wp_region_lit ?_
  refine pl M (y_move (v := .pointer (some ⟨f, 0, none⟩)) rfl rfl rfl) ?_
  simp only [Act.put, zq1, zq2, zq3]
  have M4 : Mem w _ w [blk p 57 (dC D pg mb qv), blk pg 77 (pagesC D.pages), lst 79 257 qv D.q.length (qC D.q), mapq mb D.q, blk f 69 (fC V p)] := M.arr [0, 1, 2, 3, 4] (by decide)
  clear M
  have hlv : Mem w _ w ([disk D p pg mb (qv), blk f 69 (fC V p)] ++ []) := disk_close hok M4
  refine pe rfl (fun K hK => ?_)
  refine e_call 24 [.pointer (some ⟨f, 0, none⟩)] rfl rfl Try.call24 (live_any (Mem.here (L := [disk D p pg mb (qv), blk f 69 (fC V p)]) (R := []) hlv)) ?_
  rintro e w5 ⟨rfl, H5⟩
  have M5 : Mem w _ w5 [blk p 57 (dC D pg mb qv), blk pg 77 (pagesC D.pages), lst 79 257 qv D.q.length (qC D.q), mapq mb D.q, blk f 69 (fC V p)] := (disk_open (R := [blk f 69 (fC V p)] ++ []) (Mem.frame (Pre := [disk D p pg mb (qv), blk f 69 (fC V p)]) (Post := [disk D p pg mb (qv), blk f 69 (fC V p)]) (R := []) hlv H5)).2
  refine ⟨_, rfl, ?_⟩
  refine hK.out _ _ ?_
  clear hK K
  simp only [Act.put, zq1, zq2, zq3]
  refine pl M5 (y_assign (v := .int .i64 (liveE D V)) rfl rfl rfl) ?_
  simp only [Act.put, zq1, zq2, zq3]
  refine wpList_nil ?_
  refine hK3 _ _ ?_
  clear hK3
  refine wp_seq_k (fun K6 hK6 => ?_)
  refine wp_region_lit ?_
  refine pl M5 (y_move (v := .int .i64 (liveE D V)) rfl rfl rfl) ?_
  simp only [Act.put, zq1, zq2, zq3]
  refine pl M5 (y_neq (b := false) rfl rfl rfl rfl (by rw [decide_eq_true hL]; rfl)) ?_
  simp only [Act.put, zq1, zq2, zq3]
  refine wpList_nil ?_
  refine hK6 _ _ ?_
  clear hK6
  refine wp_cond_false rfl ?_
  refine wp_skip ?_
  refine hK2 _ _ ?_
  clear hK2
  refine wp_seq_k (fun K7 hK7 => ?_)
  refine wp_seq_k (fun K8 hK8 => ?_)
  refine wp_region_lit ?_
  refine pl M5 (y_move (v := .int .i64 head) rfl rfl rfl) ?_
  simp only [Act.put, zq1, zq2, zq3]
  refine pl M5 (y_neq (b := false) rfl rfl rfl rfl (by rw [decide_eq_true h0]; rfl)) ?_
  simp only [Act.put, zq1, zq2, zq3]
  refine pl M5 (y_move (v := .bool false) rfl rfl rfl) ?_
  simp only [Act.put, zq1, zq2, zq3]
  with_reducible refine pskip ?_ ?_
  · rfl
  simp only [Act.put, zq1, zq2, zq3]
  with_reducible refine pskip ?_ ?_
  · rfl
  simp only [Act.put, zq1, zq2, zq3]
  with_reducible refine pskip ?_ ?_
  · rfl
  simp only [Act.put, zq1, zq2, zq3]
  with_reducible refine pskip ?_ ?_
  · rfl
  simp only [Act.put, zq1, zq2, zq3]
  with_reducible refine pskip ?_ ?_
  · rfl
  simp only [Act.put, zq1, zq2, zq3]
  with_reducible refine pskip ?_ ?_
  · rfl
  simp only [Act.put, zq1, zq2, zq3]
  with_reducible refine pskip ?_ ?_
  · rfl
  simp only [Act.put, zq1, zq2, zq3]
  with_reducible refine pskip ?_ ?_
  · rfl
  simp only [Act.put, zq1, zq2, zq3]
  with_reducible refine pskip ?_ ?_
  · rfl
  simp only [Act.put, zq1, zq2, zq3]
  with_reducible refine pskip ?_ ?_
  · rfl
  simp only [Act.put, zq1, zq2, zq3]
  refine pl M5 (y_pickF (v := .bool false) rfl rfl rfl rfl) ?_
  simp only [Act.put, zq1, zq2, zq3]
  refine wpList_nil ?_
  refine hK8 _ _ ?_
  clear hK8
  refine wp_cond_false rfl ?_
  refine wp_skip ?_
  refine hK7 _ _ ?_
  clear hK7
  refine wp_seq_k (fun K9 hK9 => ?_)
  refine wp_seq_k (fun K10 hK10 => ?_)
  refine wp_region_lit ?_
  refine pl M5 (y_move (v := .pointer (some ⟨f, 0, none⟩)) rfl rfl rfl) ?_
  simp only [Act.put, zq1, zq2, zq3]
  refine pl M5 (y_nil rfl rfl rfl) ?_
  simp only [Act.put, zq1, zq2, zq3]
  refine pl M5 (y_fa (r := 1) rfl rfl rfl Try.underlying69 rfl Try.sizeOf60 rfl) ?_
  simp only [Act.put, zq1, zq2, zq3]
  refine pl M5 (y_fa (r := 2) rfl rfl rfl Try.underlying60 rfl Try.sizeOf3 rfl) ?_
  simp only [Act.put, zq1, zq2, zq3]
  refine pl M5 (y_load (v := .int .i64 V.s.gen) rfl rfl rfl Try.isAgg3 (fun W hW => hW.get 4 rfl) (rfl)) ?_
  simp only [Act.put, zq1, zq2, zq3]
  refine pl M5 (y_geq (b := false) rfl rfl rfl rfl (decide_eq_false (by omega))) ?_
  simp only [Act.put, zq1, zq2, zq3]
  refine wpList_nil ?_
  refine hK10 _ _ ?_
  clear hK10
  refine wp_cond_false rfl ?_
  refine wp_skip ?_
  refine hK9 _ _ ?_
  clear hK9
  refine wp_seq_k (fun K11 hK11 => ?_)
  refine wp_region_lit ?_
  refine pl M5 (y_move (v := .pointer (some ⟨f, 0, none⟩)) rfl rfl rfl) ?_
  simp only [Act.put, zq1, zq2, zq3]
  refine pl M5 (y_nil rfl rfl rfl) ?_
  simp only [Act.put, zq1, zq2, zq3]
  refine pl M5 (y_fa (r := 1) rfl rfl rfl Try.underlying69 rfl Try.sizeOf60 rfl) ?_
  simp only [Act.put, zq1, zq2, zq3]
  refine pl M5 (y_loadb (cs := (supC V.s)) rfl rfl rfl Try.underlying60 rfl (size_sup _) (fun W hW => hW.get 4 rfl) (rfl)) ?_
  simp only [Act.put, zq1, zq2, zq3]
  refine pe rfl (fun K hK => ?_)
  refine e_alloc M5 (supC noSup) rfl zero_sup ?_
  intro g6 w12 (M12 : Mem w _ w12 [blk g6 60 (supC noSup), blk p 57 (dC D pg mb qv), blk pg 77 (pagesC D.pages), lst 79 257 qv D.q.length (qC D.q), mapq mb D.q, blk f 69 (fC V p)])
  clear M5
  refine hK.out _ _ ?_
  clear hK K
  simp only [Act.put, zq1, zq2, zq3]
  refine pe rfl (fun K hK => ?_)
  refine e_storew M12 0 (cs := (supC V.s)) rfl rfl rfl rfl (size_sup _) (sup_all _) rfl (rfl) ?_
  intro w13 (M13 : Mem w _ w13 [blk g6 60 (supC V.s), blk p 57 (dC D pg mb qv), blk pg 77 (pagesC D.pages), lst 79 257 qv D.q.length (qC D.q), mapq mb D.q, blk f 69 (fC V p)])
  clear M12
  refine hK.out _ _ ?_
  clear hK K
  simp only [Act.put, zq1, zq2, zq3]
  refine wpList_nil ?_
  refine hK11 _ _ ?_
  clear hK11
  refine wp_seq_k (fun K14 hK14 => ?_)
  refine wp_region_lit ?_
  refine pl M13 (y_fa (r := 1) rfl rfl rfl Try.underlying60 rfl Try.sizeOf3 rfl) ?_
  simp only [Act.put, zq1, zq2, zq3]
  refine pl M13 (y_load (v := .int .i64 V.s.gen) rfl rfl rfl Try.isAgg3 (fun W hW => hW.get 0 rfl) (rfl)) ?_
  simp only [Act.put, zq1, zq2, zq3]
  refine pl M13 (y_add (r := V.s.gen + 1) rfl rfl rfl rfl (rfl) (by omega)) ?_
  simp only [Act.put, zq1, zq2, zq3]
  refine pl M13 (y_fa (r := 1) rfl rfl rfl Try.underlying60 rfl Try.sizeOf3 rfl) ?_
  simp only [Act.put, zq1, zq2, zq3]
  refine pe rfl (fun K hK => ?_)
  refine e_store M13 0 (v := .int .i64 (V.s.gen + 1)) rfl rfl rfl rfl rfl rfl Try.sizeOf3 rfl (show (1 : Nat) < 5 by decide) ?_
  intro w15 (M15 : Mem w _ w15 [blk g6 60 ([.int .i64 V.s.width, .int .i64 (V.s.gen + 1), .int .i64 V.s.mark, .int .i64 V.s.head, .int .i64 V.s.pages]), blk p 57 (dC D pg mb qv), blk pg 77 (pagesC D.pages), lst 79 257 qv D.q.length (qC D.q), mapq mb D.q, blk f 69 (fC V p)])
  clear M13
  refine hK.out _ _ ?_
  clear hK K
  simp only [Act.put, zq1, zq2, zq3]
  refine wpList_nil ?_
  refine hK14 _ _ ?_
  clear hK14
  refine wp_seq_k (fun K16 hK16 => ?_)
  refine wp_region_lit ?_
  refine pl M15 (y_move (v := .pointer (some ⟨f, 0, none⟩)) rfl rfl rfl) ?_
  simp only [Act.put, zq1, zq2, zq3]
  refine pl M15 (y_nil rfl rfl rfl) ?_
  simp only [Act.put, zq1, zq2, zq3]
  refine pl M15 (y_fa (r := 6) rfl rfl rfl Try.underlying69 rfl Try.sizeOf3 rfl) ?_
  simp only [Act.put, zq1, zq2, zq3]
  refine pl M15 (y_load (v := .int .i64 V.next) rfl rfl rfl Try.isAgg3 (fun W hW => hW.get 5 rfl) (rfl)) ?_
  simp only [Act.put, zq1, zq2, zq3]
  refine pl M15 (y_move (v := .int .i64 head) rfl rfl rfl) ?_
  simp only [Act.put, zq1, zq2, zq3]
  refine pl M15 (y_fa (r := 2) rfl rfl rfl Try.underlying60 rfl Try.sizeOf3 rfl) ?_
  simp only [Act.put, zq1, zq2, zq3]
  refine pe rfl (fun K hK => ?_)
  refine e_store M15 0 (v := .int .i64 V.next) rfl rfl rfl rfl rfl rfl Try.sizeOf3 rfl (show (2 : Nat) < 5 by decide) ?_
  intro w17 (M17 : Mem w _ w17 [blk g6 60 ([.int .i64 V.s.width, .int .i64 (V.s.gen + 1), .int .i64 V.next, .int .i64 V.s.head, .int .i64 V.s.pages]), blk p 57 (dC D pg mb qv), blk pg 77 (pagesC D.pages), lst 79 257 qv D.q.length (qC D.q), mapq mb D.q, blk f 69 (fC V p)])
  clear M15
  refine hK.out _ _ ?_
  clear hK K
  simp only [Act.put, zq1, zq2, zq3]
  refine pl M17 (y_fa (r := 3) rfl rfl rfl Try.underlying60 rfl Try.sizeOf3 rfl) ?_
  simp only [Act.put, zq1, zq2, zq3]
  refine pe rfl (fun K hK => ?_)
  refine e_store M17 0 (v := .int .i64 head) rfl rfl rfl rfl rfl rfl Try.sizeOf3 rfl (show (3 : Nat) < 5 by decide) ?_
  intro w18 (M18 : Mem w _ w18 [blk g6 60 (supC (pubS V head)), blk p 57 (dC D pg mb qv), blk pg 77 (pagesC D.pages), lst 79 257 qv D.q.length (qC D.q), mapq mb D.q, blk f 69 (fC V p)])
  clear M17
  refine hK.out _ _ ?_
  clear hK K
  simp only [Act.put, zq1, zq2, zq3]
  refine wpList_nil ?_
  refine hK16 _ _ ?_
  clear hK16
  refine wp_seq_k (fun K19 hK19 => ?_)
  refine wp_seq_k (fun K20 hK20 => ?_)
  have M21 := M18.drew
  refine held_begin (fun W => Mem w (foots [disk D p pg mb qv, blk f 69 (fC V p)]) W [blk g6 60 (supC (pubS V head)), blk f 69 (fC V p)]) (by kernel_rfl) (M21.arr [0, 5] (by decide)) (fun hS => ?_)
  refine held_take 0 _ rfl (by kernel_rfl) (by kernel_rfl) (by kernel_rfl) (y_move (v := .pointer (some ⟨f, 0, none⟩)) rfl rfl rfl) hS ?_
  simp only [Act.put, zq1, zq2, zq3]
  refine held_take 1 _ rfl (by kernel_rfl) (by kernel_rfl) (by kernel_rfl) (y_nil rfl rfl rfl) hS ?_
  simp only [Act.put, zq1, zq2, zq3]
  refine held_take 2 _ rfl (by kernel_rfl) (by kernel_rfl) (by kernel_rfl) (y_fa (r := 0) rfl rfl rfl Try.underlying69 rfl Try.sizeOf24 rfl) hS ?_
  simp only [Act.put, zq1, zq2, zq3]
  refine held_take 3 _ rfl (by kernel_rfl) (by kernel_rfl) (by kernel_rfl) (y_load (v := .pointer (some ⟨p, 0, none⟩)) rfl rfl rfl Try.isAgg24 (fun W hW => hW.get 1 rfl) (rfl)) hS ?_
  simp only [Act.put, zq1, zq2, zq3]
  refine held_take 4 _ rfl (by kernel_rfl) (by kernel_rfl) (by kernel_rfl) (y_func (fv := [.pointer (some ⟨p, 0, none⟩)]) (cv := []) rfl rfl rfl rfl) hS ?_
  simp only [Act.put, zq1, zq2, zq3]
  refine held_take 5 _ rfl (by kernel_rfl) (by kernel_rfl) (by kernel_rfl) (y_move (v := .pointer (some ⟨f, 0, none⟩)) rfl rfl rfl) hS ?_
  simp only [Act.put, zq1, zq2, zq3]
  refine held_take 6 _ rfl (by kernel_rfl) (by kernel_rfl) (by kernel_rfl) (y_nil rfl rfl rfl) hS ?_
  simp only [Act.put, zq1, zq2, zq3]
  refine held_take 7 _ rfl (by kernel_rfl) (by kernel_rfl) (by kernel_rfl) (y_fa (r := 0) rfl rfl rfl Try.underlying69 rfl Try.sizeOf24 rfl) hS ?_
  simp only [Act.put, zq1, zq2, zq3]
  refine held_take 8 _ rfl (by kernel_rfl) (by kernel_rfl) (by kernel_rfl) (y_load (v := .pointer (some ⟨p, 0, none⟩)) rfl rfl rfl Try.isAgg24 (fun W hW => hW.get 1 rfl) (rfl)) hS ?_
  simp only [Act.put, zq1, zq2, zq3]
  refine held_take 9 _ rfl (by kernel_rfl) (by kernel_rfl) (by kernel_rfl) (y_loadb (cs := (supC (pubS V head))) rfl rfl rfl Try.underlying60 rfl (size_sup _) (fun W hW => hW.get 0 rfl) (List.take_of_length_le (Nat.le_refl _))) hS ?_
  simp only [Act.put, zq1, zq2, zq3]
  refine held_take 11 _ rfl (by kernel_rfl) (by kernel_rfl) (by kernel_rfl) (y_move (v := .pointer (some ⟨f, 0, none⟩)) rfl rfl rfl) hS ?_
  simp only [Act.put, zq1, zq2, zq3]
  refine held_take 12 _ rfl (by kernel_rfl) (by kernel_rfl) (by kernel_rfl) (y_nil rfl rfl rfl) hS ?_
  simp only [Act.put, zq1, zq2, zq3]
  refine held_take 13 _ rfl (by kernel_rfl) (by kernel_rfl) (by kernel_rfl) (y_fa (r := 0) rfl rfl rfl Try.underlying69 rfl Try.sizeOf24 rfl) hS ?_
  simp only [Act.put, zq1, zq2, zq3]
  refine held_take 14 _ rfl (by kernel_rfl) (by kernel_rfl) (by kernel_rfl) (y_load (v := .pointer (some ⟨p, 0, none⟩)) rfl rfl rfl Try.isAgg24 (fun W hW => hW.get 1 rfl) (rfl)) hS ?_
  simp only [Act.put, zq1, zq2, zq3]
  refine held_take 15 _ rfl (by kernel_rfl) (by kernel_rfl) (by kernel_rfl) (y_func (fv := [.pointer (some ⟨p, 0, none⟩)]) (cv := []) rfl rfl rfl rfl) hS ?_
  simp only [Act.put, zq1, zq2, zq3]
  refine held_step 10 (by kernel_rfl) rfl (by rfl) (fun K hK => ?_)
  refine e_call 19 [.pointer (some ⟨p, 0, none⟩), .agg ((supC (pubS V head))).toArray] rfl rfl Try.call19 (lay_any p (pubS V head) _) ?_
  rintro e w22 ⟨gs1, gd1, rfl, H⟩
  have M22 : Mem w _ w22 [blk gs1 60 (supC (pubS V head)), blk gd1 24 ([.pointer (some ⟨p, 0, none⟩)]), blk g6 60 (supC (pubS V head)), blk p 57 (dC D pg mb qv), blk pg 77 (pagesC D.pages), lst 79 257 qv D.q.length (qC D.q), mapq mb D.q, blk f 69 (fC V p)] := M21.step H
  refine ⟨_, rfl, ?_⟩
  refine hK.out _ _ (M22.arr [2, 7] (by decide)) (fun hS => ?_)
  clear hK K
  simp only [Act.put, zq1, zq2, zq3]
  refine held_step 16 (by kernel_rfl) rfl (by rfl) (fun K hK => ?_)
  refine e_bslice M22 ([.func (.func 20) #[.pointer (some ⟨p, 0, none⟩)] #[], .func (.func 34) #[] #[.pointer (some ⟨gs1, 0, none⟩), .pointer (some ⟨gd1, 0, none⟩)], .func (.func 20) #[.pointer (some ⟨p, 0, none⟩)] #[]]) (pv := [(0, .func (.func 20) #[.pointer (some ⟨p, 0, none⟩)] #[]), (1, .func (.func 34) #[] #[.pointer (some ⟨gs1, 0, none⟩), .pointer (some ⟨gd1, 0, none⟩)]), (2, .func (.func 20) #[.pointer (some ⟨p, 0, none⟩)] #[])]) rfl rfl Try.underlying86 Try.sizeOf66 Try.zeroValue66 (by decide) (by kernel_rfl) ?_
  intro g23 w24 (M24 : Mem w _ w24 [blk g23 66 ([.func (.func 20) #[.pointer (some ⟨p, 0, none⟩)] #[], .func (.func 34) #[] #[.pointer (some ⟨gs1, 0, none⟩), .pointer (some ⟨gd1, 0, none⟩)], .func (.func 20) #[.pointer (some ⟨p, 0, none⟩)] #[]]), blk gs1 60 (supC (pubS V head)), blk gd1 24 ([.pointer (some ⟨p, 0, none⟩)]), blk g6 60 (supC (pubS V head)), blk p 57 (dC D pg mb qv), blk pg 77 (pagesC D.pages), lst 79 257 qv D.q.length (qC D.q), mapq mb D.q, blk f 69 (fC V p)])
  clear M22
  refine hK.out _ _ (M24.arr [3, 8] (by decide)) (fun hS => ?_)
  clear hK K
  simp only [Act.put, zq1, zq2, zq3]
  have M25 : Mem w _ w24 [blk p 57 (dC D pg mb qv), blk pg 77 (pagesC D.pages), lst 79 257 qv D.q.length (qC D.q), mapq mb D.q, blk g23 66 ([.func (.func 20) #[.pointer (some ⟨p, 0, none⟩)] #[], .func (.func 34) #[] #[.pointer (some ⟨gs1, 0, none⟩), .pointer (some ⟨gd1, 0, none⟩)], .func (.func 20) #[.pointer (some ⟨p, 0, none⟩)] #[]]), blk gs1 60 (supC (pubS V head)), blk gd1 24 ([.pointer (some ⟨p, 0, none⟩)]), blk g6 60 (supC (pubS V head)), blk f 69 (fC V p)] := M24.arr [4, 5, 6, 7, 0, 1, 2, 3, 8] (by decide)
  clear M24
  refine held_step 17 (by kernel_rfl) rfl (by rfl) (fun K hK => ?_)
  have hino := fun (W0 : World) (qv0 : Value) (hM0 : Mem w (foots [disk D p pg mb qv, blk f 69 (fC V p)]) W0 (disk (D) p pg mb qv0 :: [blk g23 66 ([.func (.func 20) #[.pointer (some ⟨p, 0, none⟩)] #[], .func (.func 34) #[] #[.pointer (some ⟨gs1, 0, none⟩), .pointer (some ⟨gd1, 0, none⟩)], .func (.func 20) #[.pointer (some ⟨p, 0, none⟩)] #[]]), blk gs1 60 (supC (pubS V head)), blk gd1 24 ([.pointer (some ⟨p, 0, none⟩)]), blk g6 60 (supC (pubS V head)), blk f 69 (fC V p)])) => disk_steps (p := p) (pg := pg) (mb := mb) (gt := g23) (X := [blk g23 66 ([.func (.func 20) #[.pointer (some ⟨p, 0, none⟩)] #[], .func (.func 34) #[] #[.pointer (some ⟨gs1, 0, none⟩), .pointer (some ⟨gd1, 0, none⟩)], .func (.func 20) #[.pointer (some ⟨p, 0, none⟩)] #[]]), blk gs1 60 (supC (pubS V head)), blk gd1 24 ([.pointer (some ⟨p, 0, none⟩)]), blk g6 60 (supC (pubS V head)), blk f 69 (fC V p)]) [(⟨20, [.pointer (some ⟨p, 0, none⟩)], []⟩ : Stp), (⟨34, [], [.pointer (some ⟨gs1, 0, none⟩), .pointer (some ⟨gd1, 0, none⟩)]⟩ : Stp), (⟨20, [.pointer (some ⟨p, 0, none⟩)], []⟩ : Stp)] [yS, wS (pubS V head), yS] rfl (by simp)
    (fun W hX i x hx => by
      have hb : (blk g23 66 ([.func (.func 20) #[.pointer (some ⟨p, 0, none⟩)] #[], .func (.func 34) #[] #[.pointer (some ⟨gs1, 0, none⟩), .pointer (some ⟨gd1, 0, none⟩)], .func (.func 20) #[.pointer (some ⟨p, 0, none⟩)] #[]])).holds W := hX _ (List.mem_of_getElem? (i := 0) rfl)
      match i, hx with
      | 0, hx => cases hx; exact cell_of_blk hb rfl
      | 1, hx => cases hx; exact cell_of_blk hb rfl
      | 2, hx => cases hx; exact cell_of_blk hb rfl
      | i + 3, hx => simp at hx)
    (fun x hx ar w => by
      simp only [List.mem_cons, List.not_mem_nil, or_false] at hx
      rcases hx with rfl | rfl | rfl
      · exact Try.call20 ar w
      · exact Try.call34 ar w
      · exact Try.call20 ar w
      )
    (fun i x f hx hf E qvx W hE hM => by
    match i, hx, hf with
    | 0, hx, hf =>
      cases hx; cases hf; exact sync_each E qvx W hM
    | 1, hx, hf =>
      cases hx; cases hf
      have h2 : Mem w _ W (disk E p pg mb qvx :: blk gs1 60 (supC (pubS V head)) :: blk gd1 24 [.pointer (some ⟨p, 0, none⟩)] :: [blk g23 66 ([.func (.func 20) #[.pointer (some ⟨p, 0, none⟩)] #[], .func (.func 34) #[] #[.pointer (some ⟨gs1, 0, none⟩), .pointer (some ⟨gd1, 0, none⟩)], .func (.func 20) #[.pointer (some ⟨p, 0, none⟩)] #[]]), blk g6 60 (supC (pubS V head)), blk f 69 (fC V p)]) := hM.arr [0, 2, 3, 1, 4, 5] (by decide)
      refine (laid_each (X := [blk g23 66 ([.func (.func 20) #[.pointer (some ⟨p, 0, none⟩)] #[], .func (.func 34) #[] #[.pointer (some ⟨gs1, 0, none⟩), .pointer (some ⟨gd1, 0, none⟩)], .func (.func 20) #[.pointer (some ⟨p, 0, none⟩)] #[]]), blk g6 60 (supC (pubS V head)), blk f 69 (fC V p)]) hv1 E qvx W hE h2).mono ?_
      rintro e w' ⟨qv', rfl, h3⟩
      exact ⟨qv', rfl, h3.arr [0, 3, 1, 2, 4, 5] (by decide)⟩
    | 2, hx, hf =>
      cases hx; cases hf; exact sync_each E qvx W hM
    | i + 3, hx, hf => simp at hx)
    (fun f hf E => by
      simp only [List.mem_cons, List.not_mem_nil, or_false] at hf
      rcases hf with rfl | rfl | rfl
      · exact yS_q E
      · exact wS_q _ E
      · exact yS_q E
      ) (qv := qv0) hq hM0
  refine e_call 18 [.slice (some ⟨g23, 0, none⟩) 3 3] rfl rfl Try.call18 (hino _ _ (disk_close (D := D) (R := [blk g23 66 ([.func (.func 20) #[.pointer (some ⟨p, 0, none⟩)] #[], .func (.func 34) #[] #[.pointer (some ⟨gs1, 0, none⟩), .pointer (some ⟨gd1, 0, none⟩)], .func (.func 20) #[.pointer (some ⟨p, 0, none⟩)] #[]]), blk gs1 60 (supC (pubS V head)), blk gd1 24 ([.pointer (some ⟨p, 0, none⟩)]), blk g6 60 (supC (pubS V head)), blk f 69 (fC V p)]) hok M25)) ?_
  rintro e w26 ⟨qv', rfl, H⟩
  have M26 : Mem w _ w26 [disk (runS [yS, wS (pubS V head), yS] (D)).1 p pg mb qv', blk g23 66 ([.func (.func 20) #[.pointer (some ⟨p, 0, none⟩)] #[], .func (.func 34) #[] #[.pointer (some ⟨gs1, 0, none⟩), .pointer (some ⟨gd1, 0, none⟩)], .func (.func 20) #[.pointer (some ⟨p, 0, none⟩)] #[]]), blk gs1 60 (supC (pubS V head)), blk gd1 24 ([.pointer (some ⟨p, 0, none⟩)]), blk g6 60 (supC (pubS V head)), blk f 69 (fC V p)] := H
  clear H hino M25
  refine ⟨_, rfl, ?_⟩
  refine hK.out _ _ (M26.arr [4, 5] (by decide)) (fun hS => ?_)
  clear hK K
  simp only [Act.put, zq1, zq2, zq3]
  refine held_take 18 _ rfl (by kernel_rfl) (by kernel_rfl) (by kernel_rfl) (y_assign (v := .int .i64 ((runS [yS, wS (pubS V head), yS] (D)).2)) rfl rfl rfl) hS ?_
  simp only [Act.put, zq1, zq2, zq3]
  refine held_done (by kernel_rfl) ?_ _
  refine hK20 _ _ ?_
  clear hK20
  refine wp_seq_k (fun K27 hK27 => ?_)
  refine wp_region_lit ?_
  refine pl M26 (y_move (v := .int .i64 ((runS [yS, wS (pubS V head), yS] (D)).2)) rfl rfl rfl) ?_
  simp only [Act.put, zq1, zq2, zq3]
  rcases Decidable.em ((runS [yS, wS (pubS V head), yS] (D)).2 = 0) with h28 | h28
  · refine pl M26 (y_neq (b := false) rfl rfl rfl rfl (by rw [decide_eq_true h28]; rfl)) ?_
    simp only [Act.put, zq1, zq2, zq3]
    refine wpList_nil ?_
    refine hK27 _ _ ?_
    clear hK27
    refine wp_cond_false rfl ?_
    refine wp_skip ?_
    refine hK19 _ _ ?_
    clear hK19
    refine wp_seq_k (fun K29 hK29 => ?_)
    refine wp_region_lit ?_
    refine pl M26 (y_move (v := .pointer (some ⟨f, 0, none⟩)) rfl rfl rfl) ?_
    simp only [Act.put, zq1, zq2, zq3]
    refine pl M26 (y_loadb (cs := (supC (pubS V head))) rfl rfl rfl Try.underlying60 rfl (size_sup _) (fun W hW => hW.get 4 rfl) (List.take_of_length_le (Nat.le_refl _))) ?_
    simp only [Act.put, zq1, zq2, zq3]
    refine pl M26 (y_nil rfl rfl rfl) ?_
    simp only [Act.put, zq1, zq2, zq3]
    refine pl M26 (y_fa (r := 1) rfl rfl rfl Try.underlying69 rfl Try.sizeOf60 rfl) ?_
    simp only [Act.put, zq1, zq2, zq3]
    refine pe rfl (fun K hK => ?_)
    refine e_storer M26 5 (cs := (supC (pubS V head))) rfl rfl rfl rfl (size_sup _) (sup_all _) rfl (by show 1 + 5 ≤ 8; decide) ?_
    intro w30 M30
    replace M30 : Mem w (foots [disk D p pg mb qv, blk f 69 (fC V p)]) w30 [disk (runS [yS, wS (pubS V head), yS] (D)).1 p pg mb qv', blk g23 66 ([.func (.func 20) #[.pointer (some ⟨p, 0, none⟩)] #[], .func (.func 34) #[] #[.pointer (some ⟨gs1, 0, none⟩), .pointer (some ⟨gd1, 0, none⟩)], .func (.func 20) #[.pointer (some ⟨p, 0, none⟩)] #[]]), blk gs1 60 (supC (pubS V head)), blk gd1 24 ([.pointer (some ⟨p, 0, none⟩)]), blk g6 60 (supC (pubS V head)), blk f 69 (fC { V with s := pubS V head } p)] := M30
    clear M26
    refine hK.out _ _ ?_
    clear hK K
    simp only [Act.put, zq1, zq2, zq3]
    refine wpList_nil ?_
    refine hK29 _ _ ?_
    clear hK29
    refine wp_seq_k (fun K31 hK31 => ?_)
    refine wp_region_lit ?_
    refine pl M30 (y_assign (v := .int .i64 0) rfl rfl rfl) ?_
    simp only [Act.put, zq1, zq2, zq3]
    refine wpList_nil ?_
    refine hK31 _ _ ?_
    clear hK31
    refine wp_ret ?_
    try simp only [Exit.inBlock, Exit.then]
    refine bodyPost_ret (v := .int .i64 0) (res1 rfl rfl) rfl ?_
    have e1 : pubR D V head = runS [yS, wS (pubS V head), yS] D := by unfold pubR; rw [if_neg (fun h => h hL), if_neg (by omega), if_neg (by omega)]
    have e2 : pubV D V head = { V with s := pubS V head } := if_pos (by rw [e1]; exact h28)
    rw [e2, e1, h28]
    exact ⟨_, rfl, M30.arr [0, 5] (by decide)⟩
  · refine pl M26 (y_neq (b := true) rfl rfl rfl rfl (by rw [decide_eq_false h28]; rfl)) ?_
    simp only [Act.put, zq1, zq2, zq3]
    refine wpList_nil ?_
    refine hK27 _ _ ?_
    clear hK27
    refine wp_cond_true rfl ?_
    refine wp_seq_k (fun K32 hK32 => ?_)
    refine wp_region_lit ?_
    refine pl M26 (y_move (v := .int .i64 ((runS [yS, wS (pubS V head), yS] (D)).2)) rfl rfl rfl) ?_
    simp only [Act.put, zq1, zq2, zq3]
    refine pl M26 (y_assign (v := .int .i64 ((runS [yS, wS (pubS V head), yS] (D)).2)) rfl rfl rfl) ?_
    simp only [Act.put, zq1, zq2, zq3]
    refine wpList_nil ?_
    refine hK32 _ _ ?_
    clear hK32
    refine wp_ret ?_
    try simp only [Exit.inBlock, Exit.then]
    refine bodyPost_ret (v := .int .i64 ((runS [yS, wS (pubS V head), yS] (D)).2)) (res1 rfl rfl) rfl ?_
    have e1 : pubR D V head = runS [yS, wS (pubS V head), yS] D := by unfold pubR; rw [if_neg (fun h => h hL), if_neg (by omega), if_neg (by omega)]
    have e2 : pubV D V head = V := if_neg (by rw [e1]; exact h28)
    rw [e2, e1]
    exact ⟨_, rfl, M26.arr [0, 5] (by decide)⟩
set_option maxRecDepth 100000 in
set_option maxHeartbeats 4000000 in
theorem pub_full_h {D : DV} {V : FV} {f p pg mb : Nat} {qv : Value} {w : World} (hM : Mem w (foots [disk D p pg mb qv, blk f 69 (fC V p)]) w [disk D p pg mb qv, blk f 69 (fC V p)]) (head : Int) (hL : liveE D V = 0) (h0 : head ≠ 0) (h1 : ¬ head < 2) (h2 : ¬ V.next ≤ head) (hg : 1099511627776 ≤ V.s.gen) : Calls Try.prog 10 #[.pointer (some ⟨f, 0, none⟩), .int .i64 head] w fun e w' => ∃ qv', e = .returned (.int .i64 (pubR D V head).2) ∧ Mem w (foots [disk D p pg mb qv, blk f 69 (fC V p)]) w' [disk (pubR D V head).1 p pg mb qv', blk f 69 (fC (pubV D V head) p)] := by
  obtain ⟨hok, M⟩ := disk_open hM
  clear hM
  go_enter Try.func10, Try.ntmps10
  refine wp_seq_k (fun K1 hK1 => ?_)
  refine wp_region_lit ?_
  refine pl M (y_assign (v := .int .i64 0) rfl rfl rfl) ?_
  simp only [Act.put, zq1, zq2, zq3]
  refine wpList_nil ?_
  refine hK1 _ _ ?_
  clear hK1
  refine wp_seq_k (fun K2 hK2 => ?_)
  refine wp_seq_k (fun K3 hK3 => ?_)
  refine wp_region_lit ?_
  refine pl M (y_move (v := .pointer (some ⟨f, 0, none⟩)) rfl rfl rfl) ?_
  simp only [Act.put, zq1, zq2, zq3]
  have M4 : Mem w _ w [blk p 57 (dC D pg mb qv), blk pg 77 (pagesC D.pages), lst 79 257 qv D.q.length (qC D.q), mapq mb D.q, blk f 69 (fC V p)] := M.arr [0, 1, 2, 3, 4] (by decide)
  clear M
  have hlv : Mem w _ w ([disk D p pg mb (qv), blk f 69 (fC V p)] ++ []) := disk_close hok M4
  refine pe rfl (fun K hK => ?_)
  refine e_call 24 [.pointer (some ⟨f, 0, none⟩)] rfl rfl Try.call24 (live_any (Mem.here (L := [disk D p pg mb (qv), blk f 69 (fC V p)]) (R := []) hlv)) ?_
  rintro e w5 ⟨rfl, H5⟩
  have M5 : Mem w _ w5 [blk p 57 (dC D pg mb qv), blk pg 77 (pagesC D.pages), lst 79 257 qv D.q.length (qC D.q), mapq mb D.q, blk f 69 (fC V p)] := (disk_open (R := [blk f 69 (fC V p)] ++ []) (Mem.frame (Pre := [disk D p pg mb (qv), blk f 69 (fC V p)]) (Post := [disk D p pg mb (qv), blk f 69 (fC V p)]) (R := []) hlv H5)).2
  refine ⟨_, rfl, ?_⟩
  refine hK.out _ _ ?_
  clear hK K
  simp only [Act.put, zq1, zq2, zq3]
  refine pl M5 (y_assign (v := .int .i64 (liveE D V)) rfl rfl rfl) ?_
  simp only [Act.put, zq1, zq2, zq3]
  refine wpList_nil ?_
  refine hK3 _ _ ?_
  clear hK3
  refine wp_seq_k (fun K6 hK6 => ?_)
  refine wp_region_lit ?_
  refine pl M5 (y_move (v := .int .i64 (liveE D V)) rfl rfl rfl) ?_
  simp only [Act.put, zq1, zq2, zq3]
  refine pl M5 (y_neq (b := false) rfl rfl rfl rfl (by rw [decide_eq_true hL]; rfl)) ?_
  simp only [Act.put, zq1, zq2, zq3]
  refine wpList_nil ?_
  refine hK6 _ _ ?_
  clear hK6
  refine wp_cond_false rfl ?_
  refine wp_skip ?_
  refine hK2 _ _ ?_
  clear hK2
  refine wp_seq_k (fun K7 hK7 => ?_)
  refine wp_seq_k (fun K8 hK8 => ?_)
  refine wp_region_lit ?_
  refine pl M5 (y_move (v := .int .i64 head) rfl rfl rfl) ?_
  simp only [Act.put, zq1, zq2, zq3]
  refine pl M5 (y_neq (b := true) rfl rfl rfl rfl (by rw [decide_eq_false h0]; rfl)) ?_
  simp only [Act.put, zq1, zq2, zq3]
  refine pl M5 (y_move (v := .bool true) rfl rfl rfl) ?_
  simp only [Act.put, zq1, zq2, zq3]
  refine pl M5 (y_move (v := .int .i64 head) rfl rfl rfl) ?_
  simp only [Act.put, zq1, zq2, zq3]
  refine pl M5 (y_lss (b := false) rfl rfl rfl rfl (decide_eq_false h1)) ?_
  simp only [Act.put, zq1, zq2, zq3]
  refine pl M5 (y_move (v := .bool false) rfl rfl rfl) ?_
  simp only [Act.put, zq1, zq2, zq3]
  refine pl M5 (y_move (v := .int .i64 head) rfl rfl rfl) ?_
  simp only [Act.put, zq1, zq2, zq3]
  refine pl M5 (y_move (v := .pointer (some ⟨f, 0, none⟩)) rfl rfl rfl) ?_
  simp only [Act.put, zq1, zq2, zq3]
  refine pl M5 (y_nil rfl rfl rfl) ?_
  simp only [Act.put, zq1, zq2, zq3]
  refine pl M5 (y_fa (r := 6) rfl rfl rfl Try.underlying69 rfl Try.sizeOf3 rfl) ?_
  simp only [Act.put, zq1, zq2, zq3]
  refine pl M5 (y_load (v := .int .i64 V.next) rfl rfl rfl Try.isAgg3 (fun W hW => hW.get 4 rfl) (rfl)) ?_
  simp only [Act.put, zq1, zq2, zq3]
  refine pl M5 (y_geq (b := false) rfl rfl rfl rfl (decide_eq_false h2)) ?_
  simp only [Act.put, zq1, zq2, zq3]
  refine pl M5 (y_pickF (v := .bool false) rfl rfl rfl rfl) ?_
  simp only [Act.put, zq1, zq2, zq3]
  refine pl M5 (y_pickT (v := .bool false) rfl rfl rfl rfl) ?_
  simp only [Act.put, zq1, zq2, zq3]
  refine wpList_nil ?_
  refine hK8 _ _ ?_
  clear hK8
  refine wp_cond_false rfl ?_
  refine wp_skip ?_
  refine hK7 _ _ ?_
  clear hK7
  refine wp_seq_k (fun K9 hK9 => ?_)
  refine wp_seq_k (fun K10 hK10 => ?_)
  refine wp_region_lit ?_
  refine pl M5 (y_move (v := .pointer (some ⟨f, 0, none⟩)) rfl rfl rfl) ?_
  simp only [Act.put, zq1, zq2, zq3]
  refine pl M5 (y_nil rfl rfl rfl) ?_
  simp only [Act.put, zq1, zq2, zq3]
  refine pl M5 (y_fa (r := 1) rfl rfl rfl Try.underlying69 rfl Try.sizeOf60 rfl) ?_
  simp only [Act.put, zq1, zq2, zq3]
  refine pl M5 (y_fa (r := 2) rfl rfl rfl Try.underlying60 rfl Try.sizeOf3 rfl) ?_
  simp only [Act.put, zq1, zq2, zq3]
  refine pl M5 (y_load (v := .int .i64 V.s.gen) rfl rfl rfl Try.isAgg3 (fun W hW => hW.get 4 rfl) (rfl)) ?_
  simp only [Act.put, zq1, zq2, zq3]
  refine pl M5 (y_geq (b := true) rfl rfl rfl rfl (decide_eq_true hg)) ?_
  simp only [Act.put, zq1, zq2, zq3]
  refine wpList_nil ?_
  refine hK10 _ _ ?_
  clear hK10
  refine wp_cond_true rfl ?_
  refine wp_seq_k (fun K11 hK11 => ?_)
  refine wp_region_lit ?_
  refine pl M5 (y_assign (v := .int .i64 5) rfl rfl rfl) ?_
  simp only [Act.put, zq1, zq2, zq3]
  refine wpList_nil ?_
  refine hK11 _ _ ?_
  clear hK11
  refine wp_ret ?_
  try simp only [Exit.inBlock, Exit.then]
  refine bodyPost_ret (v := .int .i64 5) (res1 rfl rfl) rfl ?_
  have e1 : pubR D V head = (D, 5) := by unfold pubR; rw [if_neg (fun h => h hL), if_neg (by omega), if_pos hg]
  have e2 := pub_no e1 (by decide)
  rw [e2, e1]
  exact ⟨_, rfl, (disk_close (D := D) hok (M5.arr [0, 1, 2, 3, 4] (by decide)))⟩
set_option maxRecDepth 100000 in
set_option maxHeartbeats 4000000 in
theorem pub_ok_h {D : DV} {V : FV} {f p pg mb : Nat} {qv : Value} {w : World} (hM : Mem w (foots [disk D p pg mb qv, blk f 69 (fC V p)]) w [disk D p pg mb qv, blk f 69 (fC V p)]) (head : Int) (hL : liveE D V = 0) (h0 : head ≠ 0) (h1 : ¬ head < 2) (h2 : ¬ V.next ≤ head) (hg : ¬ 1099511627776 ≤ V.s.gen) (hq : D.q.length ≤ 400000000000) (hV : FOk D V) : Calls Try.prog 10 #[.pointer (some ⟨f, 0, none⟩), .int .i64 head] w fun e w' => ∃ qv', e = .returned (.int .i64 (pubR D V head).2) ∧ Mem w (foots [disk D p pg mb qv, blk f 69 (fC V p)]) w' [disk (pubR D V head).1 p pg mb qv', blk f 69 (fC (pubV D V head) p)] := by
  obtain ⟨hok, M⟩ := disk_open hM
  clear hM
  have hv1 : ValidS (pubS V head) := pub_validS hV (by omega) (by omega)
  have hgl := hV.valid.2.2.1
  go_enter Try.func10, Try.ntmps10
  refine wp_seq_k (fun K1 hK1 => ?_)
  refine wp_region_lit ?_
  refine pl M (y_assign (v := .int .i64 0) rfl rfl rfl) ?_
  simp only [Act.put, zq1, zq2, zq3]
  refine wpList_nil ?_
  refine hK1 _ _ ?_
  clear hK1
  refine wp_seq_k (fun K2 hK2 => ?_)
  refine wp_seq_k (fun K3 hK3 => ?_)
  refine wp_region_lit ?_
  refine pl M (y_move (v := .pointer (some ⟨f, 0, none⟩)) rfl rfl rfl) ?_
  simp only [Act.put, zq1, zq2, zq3]
  have M4 : Mem w _ w [blk p 57 (dC D pg mb qv), blk pg 77 (pagesC D.pages), lst 79 257 qv D.q.length (qC D.q), mapq mb D.q, blk f 69 (fC V p)] := M.arr [0, 1, 2, 3, 4] (by decide)
  clear M
  have hlv : Mem w _ w ([disk D p pg mb (qv), blk f 69 (fC V p)] ++ []) := disk_close hok M4
  refine pe rfl (fun K hK => ?_)
  refine e_call 24 [.pointer (some ⟨f, 0, none⟩)] rfl rfl Try.call24 (live_any (Mem.here (L := [disk D p pg mb (qv), blk f 69 (fC V p)]) (R := []) hlv)) ?_
  rintro e w5 ⟨rfl, H5⟩
  have M5 : Mem w _ w5 [blk p 57 (dC D pg mb qv), blk pg 77 (pagesC D.pages), lst 79 257 qv D.q.length (qC D.q), mapq mb D.q, blk f 69 (fC V p)] := (disk_open (R := [blk f 69 (fC V p)] ++ []) (Mem.frame (Pre := [disk D p pg mb (qv), blk f 69 (fC V p)]) (Post := [disk D p pg mb (qv), blk f 69 (fC V p)]) (R := []) hlv H5)).2
  refine ⟨_, rfl, ?_⟩
  refine hK.out _ _ ?_
  clear hK K
  simp only [Act.put, zq1, zq2, zq3]
  refine pl M5 (y_assign (v := .int .i64 (liveE D V)) rfl rfl rfl) ?_
  simp only [Act.put, zq1, zq2, zq3]
  refine wpList_nil ?_
  refine hK3 _ _ ?_
  clear hK3
  refine wp_seq_k (fun K6 hK6 => ?_)
  refine wp_region_lit ?_
  refine pl M5 (y_move (v := .int .i64 (liveE D V)) rfl rfl rfl) ?_
  simp only [Act.put, zq1, zq2, zq3]
  refine pl M5 (y_neq (b := false) rfl rfl rfl rfl (by rw [decide_eq_true hL]; rfl)) ?_
  simp only [Act.put, zq1, zq2, zq3]
  refine wpList_nil ?_
  refine hK6 _ _ ?_
  clear hK6
  refine wp_cond_false rfl ?_
  refine wp_skip ?_
  refine hK2 _ _ ?_
  clear hK2
  refine wp_seq_k (fun K7 hK7 => ?_)
  refine wp_seq_k (fun K8 hK8 => ?_)
  refine wp_region_lit ?_
  refine pl M5 (y_move (v := .int .i64 head) rfl rfl rfl) ?_
  simp only [Act.put, zq1, zq2, zq3]
  refine pl M5 (y_neq (b := true) rfl rfl rfl rfl (by rw [decide_eq_false h0]; rfl)) ?_
  simp only [Act.put, zq1, zq2, zq3]
  refine pl M5 (y_move (v := .bool true) rfl rfl rfl) ?_
  simp only [Act.put, zq1, zq2, zq3]
  refine pl M5 (y_move (v := .int .i64 head) rfl rfl rfl) ?_
  simp only [Act.put, zq1, zq2, zq3]
  refine pl M5 (y_lss (b := false) rfl rfl rfl rfl (decide_eq_false h1)) ?_
  simp only [Act.put, zq1, zq2, zq3]
  refine pl M5 (y_move (v := .bool false) rfl rfl rfl) ?_
  simp only [Act.put, zq1, zq2, zq3]
  refine pl M5 (y_move (v := .int .i64 head) rfl rfl rfl) ?_
  simp only [Act.put, zq1, zq2, zq3]
  refine pl M5 (y_move (v := .pointer (some ⟨f, 0, none⟩)) rfl rfl rfl) ?_
  simp only [Act.put, zq1, zq2, zq3]
  refine pl M5 (y_nil rfl rfl rfl) ?_
  simp only [Act.put, zq1, zq2, zq3]
  refine pl M5 (y_fa (r := 6) rfl rfl rfl Try.underlying69 rfl Try.sizeOf3 rfl) ?_
  simp only [Act.put, zq1, zq2, zq3]
  refine pl M5 (y_load (v := .int .i64 V.next) rfl rfl rfl Try.isAgg3 (fun W hW => hW.get 4 rfl) (rfl)) ?_
  simp only [Act.put, zq1, zq2, zq3]
  refine pl M5 (y_geq (b := false) rfl rfl rfl rfl (decide_eq_false h2)) ?_
  simp only [Act.put, zq1, zq2, zq3]
  refine pl M5 (y_pickF (v := .bool false) rfl rfl rfl rfl) ?_
  simp only [Act.put, zq1, zq2, zq3]
  refine pl M5 (y_pickT (v := .bool false) rfl rfl rfl rfl) ?_
  simp only [Act.put, zq1, zq2, zq3]
  refine wpList_nil ?_
  refine hK8 _ _ ?_
  clear hK8
  refine wp_cond_false rfl ?_
  refine wp_skip ?_
  refine hK7 _ _ ?_
  clear hK7
  refine wp_seq_k (fun K9 hK9 => ?_)
  refine wp_seq_k (fun K10 hK10 => ?_)
  refine wp_region_lit ?_
  refine pl M5 (y_move (v := .pointer (some ⟨f, 0, none⟩)) rfl rfl rfl) ?_
  simp only [Act.put, zq1, zq2, zq3]
  refine pl M5 (y_nil rfl rfl rfl) ?_
  simp only [Act.put, zq1, zq2, zq3]
  refine pl M5 (y_fa (r := 1) rfl rfl rfl Try.underlying69 rfl Try.sizeOf60 rfl) ?_
  simp only [Act.put, zq1, zq2, zq3]
  refine pl M5 (y_fa (r := 2) rfl rfl rfl Try.underlying60 rfl Try.sizeOf3 rfl) ?_
  simp only [Act.put, zq1, zq2, zq3]
  refine pl M5 (y_load (v := .int .i64 V.s.gen) rfl rfl rfl Try.isAgg3 (fun W hW => hW.get 4 rfl) (rfl)) ?_
  simp only [Act.put, zq1, zq2, zq3]
  refine pl M5 (y_geq (b := false) rfl rfl rfl rfl (decide_eq_false (by omega))) ?_
  simp only [Act.put, zq1, zq2, zq3]
  refine wpList_nil ?_
  refine hK10 _ _ ?_
  clear hK10
  refine wp_cond_false rfl ?_
  refine wp_skip ?_
  refine hK9 _ _ ?_
  clear hK9
  refine wp_seq_k (fun K11 hK11 => ?_)
  refine wp_region_lit ?_
  refine pl M5 (y_move (v := .pointer (some ⟨f, 0, none⟩)) rfl rfl rfl) ?_
  simp only [Act.put, zq1, zq2, zq3]
  refine pl M5 (y_nil rfl rfl rfl) ?_
  simp only [Act.put, zq1, zq2, zq3]
  refine pl M5 (y_fa (r := 1) rfl rfl rfl Try.underlying69 rfl Try.sizeOf60 rfl) ?_
  simp only [Act.put, zq1, zq2, zq3]
  refine pl M5 (y_loadb (cs := (supC V.s)) rfl rfl rfl Try.underlying60 rfl (size_sup _) (fun W hW => hW.get 4 rfl) (rfl)) ?_
  simp only [Act.put, zq1, zq2, zq3]
  refine pe rfl (fun K hK => ?_)
  refine e_alloc M5 (supC noSup) rfl zero_sup ?_
  intro g6 w12 (M12 : Mem w _ w12 [blk g6 60 (supC noSup), blk p 57 (dC D pg mb qv), blk pg 77 (pagesC D.pages), lst 79 257 qv D.q.length (qC D.q), mapq mb D.q, blk f 69 (fC V p)])
  clear M5
  refine hK.out _ _ ?_
  clear hK K
  simp only [Act.put, zq1, zq2, zq3]
  refine pe rfl (fun K hK => ?_)
  refine e_storew M12 0 (cs := (supC V.s)) rfl rfl rfl rfl (size_sup _) (sup_all _) rfl (rfl) ?_
  intro w13 (M13 : Mem w _ w13 [blk g6 60 (supC V.s), blk p 57 (dC D pg mb qv), blk pg 77 (pagesC D.pages), lst 79 257 qv D.q.length (qC D.q), mapq mb D.q, blk f 69 (fC V p)])
  clear M12
  refine hK.out _ _ ?_
  clear hK K
  simp only [Act.put, zq1, zq2, zq3]
  refine wpList_nil ?_
  refine hK11 _ _ ?_
  clear hK11
  refine wp_seq_k (fun K14 hK14 => ?_)
  refine wp_region_lit ?_
  refine pl M13 (y_fa (r := 1) rfl rfl rfl Try.underlying60 rfl Try.sizeOf3 rfl) ?_
  simp only [Act.put, zq1, zq2, zq3]
  refine pl M13 (y_load (v := .int .i64 V.s.gen) rfl rfl rfl Try.isAgg3 (fun W hW => hW.get 0 rfl) (rfl)) ?_
  simp only [Act.put, zq1, zq2, zq3]
  refine pl M13 (y_add (r := V.s.gen + 1) rfl rfl rfl rfl (rfl) (by omega)) ?_
  simp only [Act.put, zq1, zq2, zq3]
  refine pl M13 (y_fa (r := 1) rfl rfl rfl Try.underlying60 rfl Try.sizeOf3 rfl) ?_
  simp only [Act.put, zq1, zq2, zq3]
  refine pe rfl (fun K hK => ?_)
  refine e_store M13 0 (v := .int .i64 (V.s.gen + 1)) rfl rfl rfl rfl rfl rfl Try.sizeOf3 rfl (show (1 : Nat) < 5 by decide) ?_
  intro w15 (M15 : Mem w _ w15 [blk g6 60 ([.int .i64 V.s.width, .int .i64 (V.s.gen + 1), .int .i64 V.s.mark, .int .i64 V.s.head, .int .i64 V.s.pages]), blk p 57 (dC D pg mb qv), blk pg 77 (pagesC D.pages), lst 79 257 qv D.q.length (qC D.q), mapq mb D.q, blk f 69 (fC V p)])
  clear M13
  refine hK.out _ _ ?_
  clear hK K
  simp only [Act.put, zq1, zq2, zq3]
  refine wpList_nil ?_
  refine hK14 _ _ ?_
  clear hK14
  refine wp_seq_k (fun K16 hK16 => ?_)
  refine wp_region_lit ?_
  refine pl M15 (y_move (v := .pointer (some ⟨f, 0, none⟩)) rfl rfl rfl) ?_
  simp only [Act.put, zq1, zq2, zq3]
  refine pl M15 (y_nil rfl rfl rfl) ?_
  simp only [Act.put, zq1, zq2, zq3]
  refine pl M15 (y_fa (r := 6) rfl rfl rfl Try.underlying69 rfl Try.sizeOf3 rfl) ?_
  simp only [Act.put, zq1, zq2, zq3]
  refine pl M15 (y_load (v := .int .i64 V.next) rfl rfl rfl Try.isAgg3 (fun W hW => hW.get 5 rfl) (rfl)) ?_
  simp only [Act.put, zq1, zq2, zq3]
  refine pl M15 (y_move (v := .int .i64 head) rfl rfl rfl) ?_
  simp only [Act.put, zq1, zq2, zq3]
  refine pl M15 (y_fa (r := 2) rfl rfl rfl Try.underlying60 rfl Try.sizeOf3 rfl) ?_
  simp only [Act.put, zq1, zq2, zq3]
  refine pe rfl (fun K hK => ?_)
  refine e_store M15 0 (v := .int .i64 V.next) rfl rfl rfl rfl rfl rfl Try.sizeOf3 rfl (show (2 : Nat) < 5 by decide) ?_
  intro w17 (M17 : Mem w _ w17 [blk g6 60 ([.int .i64 V.s.width, .int .i64 (V.s.gen + 1), .int .i64 V.next, .int .i64 V.s.head, .int .i64 V.s.pages]), blk p 57 (dC D pg mb qv), blk pg 77 (pagesC D.pages), lst 79 257 qv D.q.length (qC D.q), mapq mb D.q, blk f 69 (fC V p)])
  clear M15
  refine hK.out _ _ ?_
  clear hK K
  simp only [Act.put, zq1, zq2, zq3]
  refine pl M17 (y_fa (r := 3) rfl rfl rfl Try.underlying60 rfl Try.sizeOf3 rfl) ?_
  simp only [Act.put, zq1, zq2, zq3]
  refine pe rfl (fun K hK => ?_)
  refine e_store M17 0 (v := .int .i64 head) rfl rfl rfl rfl rfl rfl Try.sizeOf3 rfl (show (3 : Nat) < 5 by decide) ?_
  intro w18 (M18 : Mem w _ w18 [blk g6 60 (supC (pubS V head)), blk p 57 (dC D pg mb qv), blk pg 77 (pagesC D.pages), lst 79 257 qv D.q.length (qC D.q), mapq mb D.q, blk f 69 (fC V p)])
  clear M17
  refine hK.out _ _ ?_
  clear hK K
  simp only [Act.put, zq1, zq2, zq3]
  refine wpList_nil ?_
  refine hK16 _ _ ?_
  clear hK16
  refine wp_seq_k (fun K19 hK19 => ?_)
  refine wp_seq_k (fun K20 hK20 => ?_)
  have M21 := M18.drew
  refine held_begin (fun W => Mem w (foots [disk D p pg mb qv, blk f 69 (fC V p)]) W [blk g6 60 (supC (pubS V head)), blk f 69 (fC V p)]) (by kernel_rfl) (M21.arr [0, 5] (by decide)) (fun hS => ?_)
  refine held_take 0 _ rfl (by kernel_rfl) (by kernel_rfl) (by kernel_rfl) (y_move (v := .pointer (some ⟨f, 0, none⟩)) rfl rfl rfl) hS ?_
  simp only [Act.put, zq1, zq2, zq3]
  refine held_take 1 _ rfl (by kernel_rfl) (by kernel_rfl) (by kernel_rfl) (y_nil rfl rfl rfl) hS ?_
  simp only [Act.put, zq1, zq2, zq3]
  refine held_take 2 _ rfl (by kernel_rfl) (by kernel_rfl) (by kernel_rfl) (y_fa (r := 0) rfl rfl rfl Try.underlying69 rfl Try.sizeOf24 rfl) hS ?_
  simp only [Act.put, zq1, zq2, zq3]
  refine held_take 3 _ rfl (by kernel_rfl) (by kernel_rfl) (by kernel_rfl) (y_load (v := .pointer (some ⟨p, 0, none⟩)) rfl rfl rfl Try.isAgg24 (fun W hW => hW.get 1 rfl) (rfl)) hS ?_
  simp only [Act.put, zq1, zq2, zq3]
  refine held_take 4 _ rfl (by kernel_rfl) (by kernel_rfl) (by kernel_rfl) (y_func (fv := [.pointer (some ⟨p, 0, none⟩)]) (cv := []) rfl rfl rfl rfl) hS ?_
  simp only [Act.put, zq1, zq2, zq3]
  refine held_take 5 _ rfl (by kernel_rfl) (by kernel_rfl) (by kernel_rfl) (y_move (v := .pointer (some ⟨f, 0, none⟩)) rfl rfl rfl) hS ?_
  simp only [Act.put, zq1, zq2, zq3]
  refine held_take 6 _ rfl (by kernel_rfl) (by kernel_rfl) (by kernel_rfl) (y_nil rfl rfl rfl) hS ?_
  simp only [Act.put, zq1, zq2, zq3]
  refine held_take 7 _ rfl (by kernel_rfl) (by kernel_rfl) (by kernel_rfl) (y_fa (r := 0) rfl rfl rfl Try.underlying69 rfl Try.sizeOf24 rfl) hS ?_
  simp only [Act.put, zq1, zq2, zq3]
  refine held_take 8 _ rfl (by kernel_rfl) (by kernel_rfl) (by kernel_rfl) (y_load (v := .pointer (some ⟨p, 0, none⟩)) rfl rfl rfl Try.isAgg24 (fun W hW => hW.get 1 rfl) (rfl)) hS ?_
  simp only [Act.put, zq1, zq2, zq3]
  refine held_take 9 _ rfl (by kernel_rfl) (by kernel_rfl) (by kernel_rfl) (y_loadb (cs := (supC (pubS V head))) rfl rfl rfl Try.underlying60 rfl (size_sup _) (fun W hW => hW.get 0 rfl) (List.take_of_length_le (Nat.le_refl _))) hS ?_
  simp only [Act.put, zq1, zq2, zq3]
  refine held_take 11 _ rfl (by kernel_rfl) (by kernel_rfl) (by kernel_rfl) (y_move (v := .pointer (some ⟨f, 0, none⟩)) rfl rfl rfl) hS ?_
  simp only [Act.put, zq1, zq2, zq3]
  refine held_take 12 _ rfl (by kernel_rfl) (by kernel_rfl) (by kernel_rfl) (y_nil rfl rfl rfl) hS ?_
  simp only [Act.put, zq1, zq2, zq3]
  refine held_take 13 _ rfl (by kernel_rfl) (by kernel_rfl) (by kernel_rfl) (y_fa (r := 0) rfl rfl rfl Try.underlying69 rfl Try.sizeOf24 rfl) hS ?_
  simp only [Act.put, zq1, zq2, zq3]
  refine held_take 14 _ rfl (by kernel_rfl) (by kernel_rfl) (by kernel_rfl) (y_load (v := .pointer (some ⟨p, 0, none⟩)) rfl rfl rfl Try.isAgg24 (fun W hW => hW.get 1 rfl) (rfl)) hS ?_
  simp only [Act.put, zq1, zq2, zq3]
  refine held_take 15 _ rfl (by kernel_rfl) (by kernel_rfl) (by kernel_rfl) (y_func (fv := [.pointer (some ⟨p, 0, none⟩)]) (cv := []) rfl rfl rfl rfl) hS ?_
  simp only [Act.put, zq1, zq2, zq3]
  refine held_step 10 (by kernel_rfl) rfl (by rfl) (fun K hK => ?_)
  refine e_call 19 [.pointer (some ⟨p, 0, none⟩), .agg ((supC (pubS V head))).toArray] rfl rfl Try.call19 (lay_any p (pubS V head) _) ?_
  rintro e w22 ⟨gs1, gd1, rfl, H⟩
  have M22 : Mem w _ w22 [blk gs1 60 (supC (pubS V head)), blk gd1 24 ([.pointer (some ⟨p, 0, none⟩)]), blk g6 60 (supC (pubS V head)), blk p 57 (dC D pg mb qv), blk pg 77 (pagesC D.pages), lst 79 257 qv D.q.length (qC D.q), mapq mb D.q, blk f 69 (fC V p)] := M21.step H
  refine ⟨_, rfl, ?_⟩
  refine hK.out _ _ (M22.arr [2, 7] (by decide)) (fun hS => ?_)
  clear hK K
  simp only [Act.put, zq1, zq2, zq3]
  refine held_step 16 (by kernel_rfl) rfl (by rfl) (fun K hK => ?_)
  refine e_bslice M22 ([.func (.func 20) #[.pointer (some ⟨p, 0, none⟩)] #[], .func (.func 34) #[] #[.pointer (some ⟨gs1, 0, none⟩), .pointer (some ⟨gd1, 0, none⟩)], .func (.func 20) #[.pointer (some ⟨p, 0, none⟩)] #[]]) (pv := [(0, .func (.func 20) #[.pointer (some ⟨p, 0, none⟩)] #[]), (1, .func (.func 34) #[] #[.pointer (some ⟨gs1, 0, none⟩), .pointer (some ⟨gd1, 0, none⟩)]), (2, .func (.func 20) #[.pointer (some ⟨p, 0, none⟩)] #[])]) rfl rfl Try.underlying86 Try.sizeOf66 Try.zeroValue66 (by decide) (by kernel_rfl) ?_
  intro g23 w24 (M24 : Mem w _ w24 [blk g23 66 ([.func (.func 20) #[.pointer (some ⟨p, 0, none⟩)] #[], .func (.func 34) #[] #[.pointer (some ⟨gs1, 0, none⟩), .pointer (some ⟨gd1, 0, none⟩)], .func (.func 20) #[.pointer (some ⟨p, 0, none⟩)] #[]]), blk gs1 60 (supC (pubS V head)), blk gd1 24 ([.pointer (some ⟨p, 0, none⟩)]), blk g6 60 (supC (pubS V head)), blk p 57 (dC D pg mb qv), blk pg 77 (pagesC D.pages), lst 79 257 qv D.q.length (qC D.q), mapq mb D.q, blk f 69 (fC V p)])
  clear M22
  refine hK.out _ _ (M24.arr [3, 8] (by decide)) (fun hS => ?_)
  clear hK K
  simp only [Act.put, zq1, zq2, zq3]
  have M25 : Mem w _ w24 [blk p 57 (dC D pg mb qv), blk pg 77 (pagesC D.pages), lst 79 257 qv D.q.length (qC D.q), mapq mb D.q, blk g23 66 ([.func (.func 20) #[.pointer (some ⟨p, 0, none⟩)] #[], .func (.func 34) #[] #[.pointer (some ⟨gs1, 0, none⟩), .pointer (some ⟨gd1, 0, none⟩)], .func (.func 20) #[.pointer (some ⟨p, 0, none⟩)] #[]]), blk gs1 60 (supC (pubS V head)), blk gd1 24 ([.pointer (some ⟨p, 0, none⟩)]), blk g6 60 (supC (pubS V head)), blk f 69 (fC V p)] := M24.arr [4, 5, 6, 7, 0, 1, 2, 3, 8] (by decide)
  clear M24
  refine held_step 17 (by kernel_rfl) rfl (by rfl) (fun K hK => ?_)
  have hino := fun (W0 : World) (qv0 : Value) (hM0 : Mem w (foots [disk D p pg mb qv, blk f 69 (fC V p)]) W0 (disk (D) p pg mb qv0 :: [blk g23 66 ([.func (.func 20) #[.pointer (some ⟨p, 0, none⟩)] #[], .func (.func 34) #[] #[.pointer (some ⟨gs1, 0, none⟩), .pointer (some ⟨gd1, 0, none⟩)], .func (.func 20) #[.pointer (some ⟨p, 0, none⟩)] #[]]), blk gs1 60 (supC (pubS V head)), blk gd1 24 ([.pointer (some ⟨p, 0, none⟩)]), blk g6 60 (supC (pubS V head)), blk f 69 (fC V p)])) => disk_steps (p := p) (pg := pg) (mb := mb) (gt := g23) (X := [blk g23 66 ([.func (.func 20) #[.pointer (some ⟨p, 0, none⟩)] #[], .func (.func 34) #[] #[.pointer (some ⟨gs1, 0, none⟩), .pointer (some ⟨gd1, 0, none⟩)], .func (.func 20) #[.pointer (some ⟨p, 0, none⟩)] #[]]), blk gs1 60 (supC (pubS V head)), blk gd1 24 ([.pointer (some ⟨p, 0, none⟩)]), blk g6 60 (supC (pubS V head)), blk f 69 (fC V p)]) [(⟨20, [.pointer (some ⟨p, 0, none⟩)], []⟩ : Stp), (⟨34, [], [.pointer (some ⟨gs1, 0, none⟩), .pointer (some ⟨gd1, 0, none⟩)]⟩ : Stp), (⟨20, [.pointer (some ⟨p, 0, none⟩)], []⟩ : Stp)] [yS, wS (pubS V head), yS] rfl (by simp)
    (fun W hX i x hx => by
      have hb : (blk g23 66 ([.func (.func 20) #[.pointer (some ⟨p, 0, none⟩)] #[], .func (.func 34) #[] #[.pointer (some ⟨gs1, 0, none⟩), .pointer (some ⟨gd1, 0, none⟩)], .func (.func 20) #[.pointer (some ⟨p, 0, none⟩)] #[]])).holds W := hX _ (List.mem_of_getElem? (i := 0) rfl)
      match i, hx with
      | 0, hx => cases hx; exact cell_of_blk hb rfl
      | 1, hx => cases hx; exact cell_of_blk hb rfl
      | 2, hx => cases hx; exact cell_of_blk hb rfl
      | i + 3, hx => simp at hx)
    (fun x hx ar w => by
      simp only [List.mem_cons, List.not_mem_nil, or_false] at hx
      rcases hx with rfl | rfl | rfl
      · exact Try.call20 ar w
      · exact Try.call34 ar w
      · exact Try.call20 ar w
      )
    (fun i x f hx hf E qvx W hE hM => by
    match i, hx, hf with
    | 0, hx, hf =>
      cases hx; cases hf; exact sync_each E qvx W hM
    | 1, hx, hf =>
      cases hx; cases hf
      have h2 : Mem w _ W (disk E p pg mb qvx :: blk gs1 60 (supC (pubS V head)) :: blk gd1 24 [.pointer (some ⟨p, 0, none⟩)] :: [blk g23 66 ([.func (.func 20) #[.pointer (some ⟨p, 0, none⟩)] #[], .func (.func 34) #[] #[.pointer (some ⟨gs1, 0, none⟩), .pointer (some ⟨gd1, 0, none⟩)], .func (.func 20) #[.pointer (some ⟨p, 0, none⟩)] #[]]), blk g6 60 (supC (pubS V head)), blk f 69 (fC V p)]) := hM.arr [0, 2, 3, 1, 4, 5] (by decide)
      refine (laid_each (X := [blk g23 66 ([.func (.func 20) #[.pointer (some ⟨p, 0, none⟩)] #[], .func (.func 34) #[] #[.pointer (some ⟨gs1, 0, none⟩), .pointer (some ⟨gd1, 0, none⟩)], .func (.func 20) #[.pointer (some ⟨p, 0, none⟩)] #[]]), blk g6 60 (supC (pubS V head)), blk f 69 (fC V p)]) hv1 E qvx W hE h2).mono ?_
      rintro e w' ⟨qv', rfl, h3⟩
      exact ⟨qv', rfl, h3.arr [0, 3, 1, 2, 4, 5] (by decide)⟩
    | 2, hx, hf =>
      cases hx; cases hf; exact sync_each E qvx W hM
    | i + 3, hx, hf => simp at hx)
    (fun f hf E => by
      simp only [List.mem_cons, List.not_mem_nil, or_false] at hf
      rcases hf with rfl | rfl | rfl
      · exact yS_q E
      · exact wS_q _ E
      · exact yS_q E
      ) (qv := qv0) hq hM0
  refine e_call 18 [.slice (some ⟨g23, 0, none⟩) 3 3] rfl rfl Try.call18 (hino _ _ (disk_close (D := D) (R := [blk g23 66 ([.func (.func 20) #[.pointer (some ⟨p, 0, none⟩)] #[], .func (.func 34) #[] #[.pointer (some ⟨gs1, 0, none⟩), .pointer (some ⟨gd1, 0, none⟩)], .func (.func 20) #[.pointer (some ⟨p, 0, none⟩)] #[]]), blk gs1 60 (supC (pubS V head)), blk gd1 24 ([.pointer (some ⟨p, 0, none⟩)]), blk g6 60 (supC (pubS V head)), blk f 69 (fC V p)]) hok M25)) ?_
  rintro e w26 ⟨qv', rfl, H⟩
  have M26 : Mem w _ w26 [disk (runS [yS, wS (pubS V head), yS] (D)).1 p pg mb qv', blk g23 66 ([.func (.func 20) #[.pointer (some ⟨p, 0, none⟩)] #[], .func (.func 34) #[] #[.pointer (some ⟨gs1, 0, none⟩), .pointer (some ⟨gd1, 0, none⟩)], .func (.func 20) #[.pointer (some ⟨p, 0, none⟩)] #[]]), blk gs1 60 (supC (pubS V head)), blk gd1 24 ([.pointer (some ⟨p, 0, none⟩)]), blk g6 60 (supC (pubS V head)), blk f 69 (fC V p)] := H
  clear H hino M25
  refine ⟨_, rfl, ?_⟩
  refine hK.out _ _ (M26.arr [4, 5] (by decide)) (fun hS => ?_)
  clear hK K
  simp only [Act.put, zq1, zq2, zq3]
  refine held_take 18 _ rfl (by kernel_rfl) (by kernel_rfl) (by kernel_rfl) (y_assign (v := .int .i64 ((runS [yS, wS (pubS V head), yS] (D)).2)) rfl rfl rfl) hS ?_
  simp only [Act.put, zq1, zq2, zq3]
  refine held_done (by kernel_rfl) ?_ _
  refine hK20 _ _ ?_
  clear hK20
  refine wp_seq_k (fun K27 hK27 => ?_)
  refine wp_region_lit ?_
  refine pl M26 (y_move (v := .int .i64 ((runS [yS, wS (pubS V head), yS] (D)).2)) rfl rfl rfl) ?_
  simp only [Act.put, zq1, zq2, zq3]
  rcases Decidable.em ((runS [yS, wS (pubS V head), yS] (D)).2 = 0) with h28 | h28
  · refine pl M26 (y_neq (b := false) rfl rfl rfl rfl (by rw [decide_eq_true h28]; rfl)) ?_
    simp only [Act.put, zq1, zq2, zq3]
    refine wpList_nil ?_
    refine hK27 _ _ ?_
    clear hK27
    refine wp_cond_false rfl ?_
    refine wp_skip ?_
    refine hK19 _ _ ?_
    clear hK19
    refine wp_seq_k (fun K29 hK29 => ?_)
    refine wp_region_lit ?_
    refine pl M26 (y_move (v := .pointer (some ⟨f, 0, none⟩)) rfl rfl rfl) ?_
    simp only [Act.put, zq1, zq2, zq3]
    refine pl M26 (y_loadb (cs := (supC (pubS V head))) rfl rfl rfl Try.underlying60 rfl (size_sup _) (fun W hW => hW.get 4 rfl) (List.take_of_length_le (Nat.le_refl _))) ?_
    simp only [Act.put, zq1, zq2, zq3]
    refine pl M26 (y_nil rfl rfl rfl) ?_
    simp only [Act.put, zq1, zq2, zq3]
    refine pl M26 (y_fa (r := 1) rfl rfl rfl Try.underlying69 rfl Try.sizeOf60 rfl) ?_
    simp only [Act.put, zq1, zq2, zq3]
    refine pe rfl (fun K hK => ?_)
    refine e_storer M26 5 (cs := (supC (pubS V head))) rfl rfl rfl rfl (size_sup _) (sup_all _) rfl (by show 1 + 5 ≤ 8; decide) ?_
    intro w30 M30
    replace M30 : Mem w (foots [disk D p pg mb qv, blk f 69 (fC V p)]) w30 [disk (runS [yS, wS (pubS V head), yS] (D)).1 p pg mb qv', blk g23 66 ([.func (.func 20) #[.pointer (some ⟨p, 0, none⟩)] #[], .func (.func 34) #[] #[.pointer (some ⟨gs1, 0, none⟩), .pointer (some ⟨gd1, 0, none⟩)], .func (.func 20) #[.pointer (some ⟨p, 0, none⟩)] #[]]), blk gs1 60 (supC (pubS V head)), blk gd1 24 ([.pointer (some ⟨p, 0, none⟩)]), blk g6 60 (supC (pubS V head)), blk f 69 (fC { V with s := pubS V head } p)] := M30
    clear M26
    refine hK.out _ _ ?_
    clear hK K
    simp only [Act.put, zq1, zq2, zq3]
    refine wpList_nil ?_
    refine hK29 _ _ ?_
    clear hK29
    refine wp_seq_k (fun K31 hK31 => ?_)
    refine wp_region_lit ?_
    refine pl M30 (y_assign (v := .int .i64 0) rfl rfl rfl) ?_
    simp only [Act.put, zq1, zq2, zq3]
    refine wpList_nil ?_
    refine hK31 _ _ ?_
    clear hK31
    refine wp_ret ?_
    try simp only [Exit.inBlock, Exit.then]
    refine bodyPost_ret (v := .int .i64 0) (res1 rfl rfl) rfl ?_
    have e1 : pubR D V head = runS [yS, wS (pubS V head), yS] D := by unfold pubR; rw [if_neg (fun h => h hL), if_neg (by omega), if_neg (by omega)]
    have e2 : pubV D V head = { V with s := pubS V head } := if_pos (by rw [e1]; exact h28)
    rw [e2, e1, h28]
    exact ⟨_, rfl, M30.arr [0, 5] (by decide)⟩
  · refine pl M26 (y_neq (b := true) rfl rfl rfl rfl (by rw [decide_eq_false h28]; rfl)) ?_
    simp only [Act.put, zq1, zq2, zq3]
    refine wpList_nil ?_
    refine hK27 _ _ ?_
    clear hK27
    refine wp_cond_true rfl ?_
    refine wp_seq_k (fun K32 hK32 => ?_)
    refine wp_region_lit ?_
    refine pl M26 (y_move (v := .int .i64 ((runS [yS, wS (pubS V head), yS] (D)).2)) rfl rfl rfl) ?_
    simp only [Act.put, zq1, zq2, zq3]
    refine pl M26 (y_assign (v := .int .i64 ((runS [yS, wS (pubS V head), yS] (D)).2)) rfl rfl rfl) ?_
    simp only [Act.put, zq1, zq2, zq3]
    refine wpList_nil ?_
    refine hK32 _ _ ?_
    clear hK32
    refine wp_ret ?_
    try simp only [Exit.inBlock, Exit.then]
    refine bodyPost_ret (v := .int .i64 ((runS [yS, wS (pubS V head), yS] (D)).2)) (res1 rfl rfl) rfl ?_
    have e1 : pubR D V head = runS [yS, wS (pubS V head), yS] D := by unfold pubR; rw [if_neg (fun h => h hL), if_neg (by omega), if_neg (by omega)]
    have e2 : pubV D V head = V := if_neg (by rw [e1]; exact h28)
    rw [e2, e1]
    exact ⟨_, rfl, M26.arr [0, 5] (by decide)⟩
theorem pub_any {D : DV} {V : FV} {f p pg mb : Nat} {qv : Value} {w : World} (hM : Mem w (foots [disk D p pg mb qv, blk f 69 (fC V p)]) w [disk D p pg mb qv, blk f 69 (fC V p)]) (head : Int) (hq : D.q.length ≤ 400000000000) (hV : FOk D V) : Calls Try.prog 10 #[.pointer (some ⟨f, 0, none⟩), .int .i64 head] w fun e w' => ∃ qv', e = .returned (.int .i64 (pubR D V head).2) ∧ Mem w (foots [disk D p pg mb qv, blk f 69 (fC V p)]) w' [disk (pubR D V head).1 p pg mb qv', blk f 69 (fC (pubV D V head) p)] := by
  by_cases hL : liveE D V = 0
  · by_cases h0 : head = 0
    · by_cases hg : 1099511627776 ≤ V.s.gen
      · exact pub_full_z hM head hL h0 hg
      · exact pub_ok_z hM head hL h0 hg hq hV
    · by_cases h1 : head < 2
      · exact pub_low hM head hL h0 h1
      · by_cases h2 : V.next ≤ head
        · exact pub_high hM head hL h0 h1 h2
        · by_cases hg : 1099511627776 ≤ V.s.gen
          · exact pub_full_h hM head hL h0 h1 h2 hg
          · exact pub_ok_h hM head hL h0 h1 h2 hg hq hV
  · exact pub_dead hM head hL
end Go.Proofs.Ytdnahagibodnpaa
