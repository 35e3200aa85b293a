/- Texts joined: Disk2, Disk3, Disk4, Disk5. -/
import Derived.Test.YtmmkgkbjneebkaaSF06
/- The program's disk: the small walks. -/
namespace Go.Proofs.Ytmmkgkbjneebkaa
set_option linter.unusedSectionVars false
open Go Go.RowKit
set_option linter.unusedVariables false
set_option linter.unusedSimpArgs false
theorem act_ok {D : DV} (h : DOk D) (h0 : ¬ D.armed = 0) : DOk { D with armed := D.armed - 1, dead := decide (D.armed - 1 = 0) } := ⟨h.lo, h.hi, h.len, h.qs, ⟨by have := h.arm; show 0 ≤ D.armed - 1; omega, by have := h.arm; show D.armed - 1 ≤ _; omega⟩, h.ep⟩
set_option maxRecDepth 100000 in
set_option maxHeartbeats 4000000 in
theorem act_any {D : DV} {p pg mb : Nat} {qv : Value} {w : World} (hM : Mem w (foots [disk D p pg mb qv]) w [disk D p pg mb qv])  : Calls Try.prog 96 #[.pointer (some ⟨p, 0, none⟩)] w fun e w' => e = .returned (.int .i64 (actE D)) ∧ Mem w (foots [disk D p pg mb qv]) w' [disk (actD D) p pg mb qv] := by
  obtain ⟨hok, M⟩ := disk_open hM
  clear hM
  have ha := hok.arm
  go_enter Try.func96, Try.ntmps96
  refine wp_seq_k (fun K1 hK1 => ?_)
  refine wp_region_lit ?_
  refine pl M (y_assign (v := .int .i64 0) rfl rfl rfl) ?_
  simp only [Act.put, zq1, zq2, zq3]
  refine wpList_nil ?_
  refine hK1 _ _ ?_
  clear hK1
  refine wp_seq_k (fun K2 hK2 => ?_)
  refine wp_seq_k (fun K3 hK3 => ?_)
  refine wp_region_lit ?_
  refine pl M (y_move (v := .pointer (some ⟨p, 0, none⟩)) rfl rfl rfl) ?_
  simp only [Act.put, zq1, zq2, zq3]
  refine pl M (y_nil rfl rfl rfl) ?_
  simp only [Act.put, zq1, zq2, zq3]
  refine pl M (y_fa (r := 7) rfl rfl rfl Try.underlying76 rfl Try.sizeOf3 rfl) ?_
  simp only [Act.put, zq1, zq2, zq3]
  refine pl M (y_load (v := .int .i64 D.armed) rfl rfl rfl Try.isAgg3 (fun W hW => hW.get 0 rfl) (rfl)) ?_
  simp only [Act.put, zq1, zq2, zq3]
  rcases Decidable.em (D.armed = 0) with h4 | h4
  · refine pl M (y_eql (b := true) rfl rfl rfl rfl (decide_eq_true h4)) ?_
    simp only [Act.put, zq1, zq2, zq3]
    refine wpList_nil ?_
    refine hK3 _ _ ?_
    clear hK3
    refine wp_cond_true rfl ?_
    refine wp_seq_k (fun K5 hK5 => ?_)
    refine wp_region_lit ?_
    refine pl M (y_assign (v := .int .i64 0) rfl rfl rfl) ?_
    simp only [Act.put, zq1, zq2, zq3]
    refine wpList_nil ?_
    refine hK5 _ _ ?_
    clear hK5
    refine wp_ret ?_
    try simp only [Exit.inBlock, Exit.then]
    refine bodyPost_ret (v := .int .i64 0) (res1 rfl rfl) rfl ?_
    have e1 : actD D = D := by unfold actD; rw [if_pos h4]
    have e2 : actE D = 0 := by unfold actE; rw [if_neg (by omega)]
    rw [e1, e2]
    exact ⟨rfl, disk_close hok M⟩
  · refine pl M (y_eql (b := false) rfl rfl rfl rfl (decide_eq_false h4)) ?_
    simp only [Act.put, zq1, zq2, zq3]
    refine wpList_nil ?_
    refine hK3 _ _ ?_
    clear hK3
    refine wp_cond_false rfl ?_
    refine wp_skip ?_
    refine hK2 _ _ ?_
    clear hK2
    refine wp_seq_k (fun K6 hK6 => ?_)
    refine wp_region_lit ?_
    refine pl M (y_move (v := .pointer (some ⟨p, 0, none⟩)) rfl rfl rfl) ?_
    simp only [Act.put, zq1, zq2, zq3]
    refine pl M (y_nil rfl rfl rfl) ?_
    simp only [Act.put, zq1, zq2, zq3]
    refine pl M (y_fa (r := 7) rfl rfl rfl Try.underlying76 rfl Try.sizeOf3 rfl) ?_
    simp only [Act.put, zq1, zq2, zq3]
    refine pl M (y_load (v := .int .i64 D.armed) rfl rfl rfl Try.isAgg3 (fun W hW => hW.get 0 rfl) (rfl)) ?_
    simp only [Act.put, zq1, zq2, zq3]
    refine pl M (y_sub (r := D.armed - 1) rfl rfl rfl rfl (rfl) (by omega)) ?_
    simp only [Act.put, zq1, zq2, zq3]
    refine pl M (y_nil rfl rfl rfl) ?_
    simp only [Act.put, zq1, zq2, zq3]
    refine pl M (y_fa (r := 7) rfl rfl rfl Try.underlying76 rfl Try.sizeOf3 rfl) ?_
    simp only [Act.put, zq1, zq2, zq3]
    refine pe rfl (fun K hK => ?_)
    refine e_store M 0 (v := .int .i64 (D.armed - 1)) rfl rfl rfl rfl rfl rfl Try.sizeOf3 rfl (show (7 : Nat) < 10 by decide) ?_
    intro w7 (M7 : Mem w _ w7 [blk p 76 ([.int .i64 D.reads, .int .i64 D.writes, .int .i64 D.syncs, .int .i64 (D.q.length : Int), .slice (some ⟨pg, 0, none⟩) D.pages.length D.pages.length, qv, .map (some mb), .int .i64 (D.armed - 1), .bool D.dead, .int .i64 D.epoch]), blk pg 127 (pagesC D.pages), lst 129 257 qv D.q.length (qC D.q), mapq mb D.q])
    clear M
    refine hK.out _ _ ?_
    clear hK K
    simp only [Act.put, zq1, zq2, zq3]
    refine wpList_nil ?_
    refine hK6 _ _ ?_
    clear hK6
    refine wp_seq_k (fun K8 hK8 => ?_)
    refine wp_region_lit ?_
    refine pl M7 (y_move (v := .pointer (some ⟨p, 0, none⟩)) rfl rfl rfl) ?_
    simp only [Act.put, zq1, zq2, zq3]
    refine pl M7 (y_move (v := .pointer (some ⟨p, 0, none⟩)) rfl rfl rfl) ?_
    simp only [Act.put, zq1, zq2, zq3]
    refine pl M7 (y_nil rfl rfl rfl) ?_
    simp only [Act.put, zq1, zq2, zq3]
    refine pl M7 (y_fa (r := 7) rfl rfl rfl Try.underlying76 rfl Try.sizeOf3 rfl) ?_
    simp only [Act.put, zq1, zq2, zq3]
    refine pl M7 (y_load (v := .int .i64 (D.armed - 1)) rfl rfl rfl Try.isAgg3 (fun W hW => hW.get 0 rfl) (rfl)) ?_
    simp only [Act.put, zq1, zq2, zq3]
    refine pl M7 (y_eql rfl rfl rfl rfl rfl) ?_
    simp only [Act.put, zq1, zq2, zq3]
    refine pl M7 (y_nil rfl rfl rfl) ?_
    simp only [Act.put, zq1, zq2, zq3]
    refine pl M7 (y_fa (r := 8) rfl rfl rfl Try.underlying76 rfl Try.sizeOf4 rfl) ?_
    simp only [Act.put, zq1, zq2, zq3]
    refine pe rfl (fun K hK => ?_)
    refine e_store M7 0 (v := .bool (decide (D.armed - 1 = 0))) rfl rfl rfl rfl rfl rfl Try.sizeOf4 rfl (show (8 : Nat) < 10 by decide) ?_
    intro w9 (M9 : Mem w _ w9 [blk p 76 ([.int .i64 D.reads, .int .i64 D.writes, .int .i64 D.syncs, .int .i64 (D.q.length : Int), .slice (some ⟨pg, 0, none⟩) D.pages.length D.pages.length, qv, .map (some mb), .int .i64 (D.armed - 1), .bool (decide (D.armed - 1 = 0)), .int .i64 D.epoch]), blk pg 127 (pagesC D.pages), lst 129 257 qv D.q.length (qC D.q), mapq mb D.q])
    clear M7
    refine hK.out _ _ ?_
    clear hK K
    simp only [Act.put, zq1, zq2, zq3]
    refine wpList_nil ?_
    refine hK8 _ _ ?_
    clear hK8
    refine wp_seq_k (fun K10 hK10 => ?_)
    refine wp_seq_k (fun K11 hK11 => ?_)
    refine wp_region_lit ?_
    refine pl M9 (y_move (v := .pointer (some ⟨p, 0, none⟩)) rfl rfl rfl) ?_
    simp only [Act.put, zq1, zq2, zq3]
    refine pl M9 (y_nil rfl rfl rfl) ?_
    simp only [Act.put, zq1, zq2, zq3]
    refine pl M9 (y_fa (r := 8) rfl rfl rfl Try.underlying76 rfl Try.sizeOf4 rfl) ?_
    simp only [Act.put, zq1, zq2, zq3]
    rcases Bool.eq_false_or_eq_true (decide (D.armed - 1 = 0)) with h12 | h12
    · refine pl M9 (y_load (v := .bool true) rfl rfl rfl Try.isAgg4 (fun W hW => hW.get 0 rfl) (congrArg (fun b => some (Value.bool b)) h12)) ?_
      simp only [Act.put, zq1, zq2, zq3]
      refine wpList_nil ?_
      refine hK11 _ _ ?_
      clear hK11
      refine wp_cond_true rfl ?_
      refine wp_seq_k (fun K13 hK13 => ?_)
      refine wp_region_lit ?_
      refine pl M9 (y_assign (v := .int .i64 2) rfl rfl rfl) ?_
      simp only [Act.put, zq1, zq2, zq3]
      refine wpList_nil ?_
      refine hK13 _ _ ?_
      clear hK13
      refine wp_ret ?_
      try simp only [Exit.inBlock, Exit.then]
      refine bodyPost_ret (v := .int .i64 2) (res1 rfl rfl) rfl ?_
      have e0 := of_decide_eq_true h12
      have e1 : actD D = { D with armed := D.armed - 1, dead := decide (D.armed - 1 = 0) } := by
        unfold actD; rw [if_neg h4]; congr 1; exact decide_eq_decide.2 (by omega)
      have e2 : actE D = 2 := by unfold actE; rw [if_pos (by omega)]
      rw [e1, e2]
      exact ⟨rfl, disk_close (act_ok hok h4) M9⟩
    · refine pl M9 (y_load (v := .bool false) rfl rfl rfl Try.isAgg4 (fun W hW => hW.get 0 rfl) (congrArg (fun b => some (Value.bool b)) h12)) ?_
      simp only [Act.put, zq1, zq2, zq3]
      refine wpList_nil ?_
      refine hK11 _ _ ?_
      clear hK11
      refine wp_cond_false rfl ?_
      refine wp_skip ?_
      refine hK10 _ _ ?_
      clear hK10
      refine wp_seq_k (fun K14 hK14 => ?_)
      refine wp_region_lit ?_
      refine pl M9 (y_assign (v := .int .i64 0) rfl rfl rfl) ?_
      simp only [Act.put, zq1, zq2, zq3]
      refine wpList_nil ?_
      refine hK14 _ _ ?_
      clear hK14
      refine wp_ret ?_
      try simp only [Exit.inBlock, Exit.then]
      refine bodyPost_ret (v := .int .i64 0) (res1 rfl rfl) rfl ?_
      have e0 := of_decide_eq_false h12
      have e1 : actD D = { D with armed := D.armed - 1, dead := decide (D.armed - 1 = 0) } := by
        unfold actD; rw [if_neg h4]; congr 1; exact decide_eq_decide.2 (by omega)
      have e2 : actE D = 0 := by unfold actE; rw [if_neg (by omega)]
      rw [e1, e2]
      exact ⟨rfl, disk_close (act_ok hok h4) M9⟩
set_option maxRecDepth 100000 in
set_option maxHeartbeats 4000000 in
theorem has_any {D : DV} {p pg mb : Nat} {qv : Value} {w : World} (hM : Mem w (foots [disk D p pg mb qv]) w [disk D p pg mb qv]) (page : Int) : Calls Try.prog 93 #[.pointer (some ⟨p, 0, none⟩), .int .i64 page] w fun e w' => e = .returned (.bool (decide (D.has page))) ∧ Mem w (foots [disk D p pg mb qv]) w' [disk (D) p pg mb qv] := by
  obtain ⟨hok, M⟩ := disk_open hM
  clear hM
  go_enter Try.func93, Try.ntmps93
  refine wp_seq_k (fun K1 hK1 => ?_)
  refine wp_region_lit ?_
  refine pl M (y_assign (v := .bool false) rfl rfl rfl) ?_
  simp only [Act.put, zq1, zq2, zq3]
  refine wpList_nil ?_
  refine hK1 _ _ ?_
  clear hK1
  refine wp_seq_k (fun K2 hK2 => ?_)
  refine wp_region_lit ?_
  refine pl M (y_move (v := .int .i64 page) rfl rfl rfl) ?_
  simp only [Act.put, zq1, zq2, zq3]
  rcases Decidable.em ((0 : Int) ≤ page) with h3 | h3
  · refine pl M (y_geq (b := true) rfl rfl rfl rfl (decide_eq_true h3)) ?_
    simp only [Act.put, zq1, zq2, zq3]
    refine pl M (y_move (v := .bool true) rfl rfl rfl) ?_
    simp only [Act.put, zq1, zq2, zq3]
    refine pl M (y_move (v := .int .i64 page) rfl rfl rfl) ?_
    simp only [Act.put, zq1, zq2, zq3]
    refine pl M (y_move (v := .pointer (some ⟨p, 0, none⟩)) rfl rfl rfl) ?_
    simp only [Act.put, zq1, zq2, zq3]
    refine pl M (y_nil rfl rfl rfl) ?_
    simp only [Act.put, zq1, zq2, zq3]
    refine pl M (y_fa (r := 4) rfl rfl rfl Try.underlying76 rfl Try.sizeOf72 rfl) ?_
    simp only [Act.put, zq1, zq2, zq3]
    refine pl M (y_load (v := .slice (some ⟨pg, 0, none⟩) D.pages.length D.pages.length) rfl rfl rfl Try.isAgg72 (fun W hW => hW.get 0 rfl) (rfl)) ?_
    simp only [Act.put, zq1, zq2, zq3]
    refine pl M (y_len rfl rfl rfl Try.underlying72) ?_
    simp only [Act.put, zq1, zq2, zq3]
    refine pl M (y_lss rfl rfl rfl rfl rfl) ?_
    simp only [Act.put, zq1, zq2, zq3]
    refine pl M (y_pickT (v := .bool (decide (page < (D.pages.length : Int)))) rfl rfl rfl rfl) ?_
    simp only [Act.put, zq1, zq2, zq3]
    refine pl M (y_assign (v := .bool (decide (page < (D.pages.length : Int)))) rfl rfl rfl) ?_
    simp only [Act.put, zq1, zq2, zq3]
    refine wpList_nil ?_
    refine hK2 _ _ ?_
    clear hK2
    refine wp_ret ?_
    try simp only [Exit.inBlock, Exit.then]
    refine bodyPost_ret (v := .bool (decide (page < (D.pages.length : Int)))) (res1 rfl rfl) rfl ?_
    have e : decide (page < (D.pages.length : Int)) = decide (D.has page) := decide_eq_decide.2 ⟨fun h => ⟨h3, h⟩, fun h => h.2⟩
    rw [e]
    exact ⟨rfl, disk_close hok M⟩
  · refine pl M (y_geq (b := false) rfl rfl rfl rfl (decide_eq_false h3)) ?_
    simp only [Act.put, zq1, zq2, zq3]
    refine pl M (y_move (v := .bool false) rfl rfl rfl) ?_
    simp only [Act.put, zq1, zq2, zq3]
    with_reducible refine pskip ?_ ?_
    · rfl
    simp only [Act.put, zq1, zq2, zq3]
    with_reducible refine pskip ?_ ?_
    · rfl
    simp only [Act.put, zq1, zq2, zq3]
    with_reducible refine pskip ?_ ?_
    · rfl
    simp only [Act.put, zq1, zq2, zq3]
    with_reducible refine pskip ?_ ?_
    · rfl
    simp only [Act.put, zq1, zq2, zq3]
    with_reducible refine pskip ?_ ?_
    · rfl
    simp only [Act.put, zq1, zq2, zq3]
    with_reducible refine pskip ?_ ?_
    · rfl
    simp only [Act.put, zq1, zq2, zq3]
    with_reducible refine pskip ?_ ?_
    · rfl
    simp only [Act.put, zq1, zq2, zq3]
    refine pl M (y_pickF (v := .bool false) rfl rfl rfl rfl) ?_
    simp only [Act.put, zq1, zq2, zq3]
    refine pl M (y_assign (v := .bool false) rfl rfl rfl) ?_
    simp only [Act.put, zq1, zq2, zq3]
    refine wpList_nil ?_
    refine hK2 _ _ ?_
    clear hK2
    refine wp_ret ?_
    try simp only [Exit.inBlock, Exit.then]
    refine bodyPost_ret (v := .bool false) (res1 rfl rfl) rfl ?_
    have e : decide (D.has page) = false := decide_eq_false fun h => h3 h.1
    rw [e]
    exact ⟨rfl, disk_close hok M⟩
set_option maxRecDepth 100000 in
set_option maxHeartbeats 4000000 in
theorem claim_any {D : DV} {p pg mb : Nat} {qv : Value} {w : World} (hM : Mem w (foots [disk D p pg mb qv]) w [disk D p pg mb qv])  : Calls Try.prog 48 #[.pointer (some ⟨p, 0, none⟩)] w fun e w' => e = .returned (.int .i64 (claimD D).epoch) ∧ Mem w (foots [disk D p pg mb qv]) w' [disk (claimD D) p pg mb qv] := by
  obtain ⟨hok, M⟩ := disk_open hM
  clear hM
  go_enter Try.func48, Try.ntmps48
  refine wp_seq_k (fun K1 hK1 => ?_)
  refine wp_region_lit ?_
  refine pl M (y_assign (v := .int .i64 0) rfl rfl rfl) ?_
  simp only [Act.put, zq1, zq2, zq3]
  refine wpList_nil ?_
  refine hK1 _ _ ?_
  clear hK1
  refine wp_seq_k (fun K2 hK2 => ?_)
  refine wp_region_lit ?_
  refine pl M (y_move (v := .pointer (some ⟨p, 0, none⟩)) rfl rfl rfl) ?_
  simp only [Act.put, zq1, zq2, zq3]
  refine pl M (y_nil rfl rfl rfl) ?_
  simp only [Act.put, zq1, zq2, zq3]
  refine pl M (y_fa (r := 9) rfl rfl rfl Try.underlying76 rfl Try.sizeOf3 rfl) ?_
  simp only [Act.put, zq1, zq2, zq3]
  refine pl M (y_load (v := .int .i64 D.epoch) rfl rfl rfl Try.isAgg3 (fun W hW => hW.get 0 rfl) (rfl)) ?_
  simp only [Act.put, zq1, zq2, zq3]
  refine pl M (y_addw rfl rfl rfl rfl) ?_
  simp only [Act.put, zq1, zq2, zq3]
  refine pl M (y_nil rfl rfl rfl) ?_
  simp only [Act.put, zq1, zq2, zq3]
  refine pl M (y_fa (r := 9) rfl rfl rfl Try.underlying76 rfl Try.sizeOf3 rfl) ?_
  simp only [Act.put, zq1, zq2, zq3]
  refine pe rfl (fun K hK => ?_)
  refine e_store M 0 (v := .int .i64 (wrap64 (D.epoch + 1))) rfl rfl rfl rfl rfl rfl Try.sizeOf3 rfl (show (9 : Nat) < 10 by decide) ?_
  intro w3 (M3 : Mem w _ w3 [blk p 76 ([.int .i64 D.reads, .int .i64 D.writes, .int .i64 D.syncs, .int .i64 (D.q.length : Int), .slice (some ⟨pg, 0, none⟩) D.pages.length D.pages.length, qv, .map (some mb), .int .i64 D.armed, .bool D.dead, .int .i64 (wrap64 (D.epoch + 1))]), blk pg 127 (pagesC D.pages), lst 129 257 qv D.q.length (qC D.q), mapq mb D.q])
  clear M
  refine hK.out _ _ ?_
  clear hK K
  simp only [Act.put, zq1, zq2, zq3]
  refine wpList_nil ?_
  refine hK2 _ _ ?_
  clear hK2
  refine wp_seq_k (fun K4 hK4 => ?_)
  refine wp_region_lit ?_
  refine pl M3 (y_move (v := .pointer (some ⟨p, 0, none⟩)) rfl rfl rfl) ?_
  simp only [Act.put, zq1, zq2, zq3]
  refine pl M3 (y_nil rfl rfl rfl) ?_
  simp only [Act.put, zq1, zq2, zq3]
  refine pl M3 (y_fa (r := 9) rfl rfl rfl Try.underlying76 rfl Try.sizeOf3 rfl) ?_
  simp only [Act.put, zq1, zq2, zq3]
  refine pl M3 (y_load (v := .int .i64 (wrap64 (D.epoch + 1))) rfl rfl rfl Try.isAgg3 (fun W hW => hW.get 0 rfl) (rfl)) ?_
  simp only [Act.put, zq1, zq2, zq3]
  refine pl M3 (y_assign (v := .int .i64 (wrap64 (D.epoch + 1))) rfl rfl rfl) ?_
  simp only [Act.put, zq1, zq2, zq3]
  refine wpList_nil ?_
  refine hK4 _ _ ?_
  clear hK4
  refine wp_ret ?_
  try simp only [Exit.inBlock, Exit.then]
  refine bodyPost_ret (v := .int .i64 (wrap64 (D.epoch + 1))) (res1 rfl rfl) rfl ?_
  exact ⟨rfl, disk_close ⟨hok.lo, hok.hi, hok.len, hok.qs, hok.arm, inI_wrap _⟩ M3⟩
set_option maxRecDepth 100000 in
set_option maxHeartbeats 4000000 in
theorem epoch_any {D : DV} {p pg mb : Nat} {qv : Value} {w : World} (hM : Mem w (foots [disk D p pg mb qv]) w [disk D p pg mb qv])  : Calls Try.prog 79 #[.pointer (some ⟨p, 0, none⟩)] w fun e w' => e = .returned (.int .i64 D.epoch) ∧ Mem w (foots [disk D p pg mb qv]) w' [disk (D) p pg mb qv] := by
  obtain ⟨hok, M⟩ := disk_open hM
  clear hM
  go_enter Try.func79, Try.ntmps79
  refine wp_seq_k (fun K1 hK1 => ?_)
  refine wp_region_lit ?_
  refine pl M (y_assign (v := .int .i64 0) rfl rfl rfl) ?_
  simp only [Act.put, zq1, zq2, zq3]
  refine wpList_nil ?_
  refine hK1 _ _ ?_
  clear hK1
  refine wp_seq_k (fun K2 hK2 => ?_)
  refine wp_region_lit ?_
  refine pl M (y_move (v := .pointer (some ⟨p, 0, none⟩)) rfl rfl rfl) ?_
  simp only [Act.put, zq1, zq2, zq3]
  refine pl M (y_nil rfl rfl rfl) ?_
  simp only [Act.put, zq1, zq2, zq3]
  refine pl M (y_fa (r := 9) rfl rfl rfl Try.underlying76 rfl Try.sizeOf3 rfl) ?_
  simp only [Act.put, zq1, zq2, zq3]
  refine pl M (y_load (v := .int .i64 D.epoch) rfl rfl rfl Try.isAgg3 (fun W hW => hW.get 0 rfl) (rfl)) ?_
  simp only [Act.put, zq1, zq2, zq3]
  refine pl M (y_assign (v := .int .i64 D.epoch) rfl rfl rfl) ?_
  simp only [Act.put, zq1, zq2, zq3]
  refine wpList_nil ?_
  refine hK2 _ _ ?_
  clear hK2
  refine wp_ret ?_
  try simp only [Exit.inBlock, Exit.then]
  refine bodyPost_ret (v := .int .i64 D.epoch) (res1 rfl rfl) rfl ?_
  exact ⟨rfl, disk_close hok M⟩
set_option maxRecDepth 100000 in
set_option maxHeartbeats 4000000 in
theorem power_any {D : DV} {p pg mb : Nat} {qv : Value} {w : World} (hM : Mem w (foots [disk D p pg mb qv]) w [disk D p pg mb qv])  : Calls Try.prog 72 #[.pointer (some ⟨p, 0, none⟩)] w fun e w' => e = .returned (.bool (!D.dead)) ∧ Mem w (foots [disk D p pg mb qv]) w' [disk (D) p pg mb qv] := by
  obtain ⟨hok, M⟩ := disk_open hM
  clear hM
  go_enter Try.func72, Try.ntmps72
  refine wp_seq_k (fun K1 hK1 => ?_)
  refine wp_region_lit ?_
  refine pl M (y_assign (v := .bool false) rfl rfl rfl) ?_
  simp only [Act.put, zq1, zq2, zq3]
  refine wpList_nil ?_
  refine hK1 _ _ ?_
  clear hK1
  refine wp_seq_k (fun K2 hK2 => ?_)
  refine wp_region_lit ?_
  refine pl M (y_move (v := .pointer (some ⟨p, 0, none⟩)) rfl rfl rfl) ?_
  simp only [Act.put, zq1, zq2, zq3]
  refine pl M (y_nil rfl rfl rfl) ?_
  simp only [Act.put, zq1, zq2, zq3]
  refine pl M (y_fa (r := 8) rfl rfl rfl Try.underlying76 rfl Try.sizeOf4 rfl) ?_
  simp only [Act.put, zq1, zq2, zq3]
  refine pl M (y_load (v := .bool D.dead) rfl rfl rfl Try.isAgg4 (fun W hW => hW.get 0 rfl) (rfl)) ?_
  simp only [Act.put, zq1, zq2, zq3]
  refine pl M (y_not rfl rfl rfl rfl) ?_
  simp only [Act.put, zq1, zq2, zq3]
  refine pl M (y_assign (v := .bool (!D.dead)) rfl rfl rfl) ?_
  simp only [Act.put, zq1, zq2, zq3]
  refine wpList_nil ?_
  refine hK2 _ _ ?_
  clear hK2
  refine wp_ret ?_
  try simp only [Exit.inBlock, Exit.then]
  refine bodyPost_ret (v := .bool (!D.dead)) (res1 rfl rfl) rfl ?_
  exact ⟨rfl, disk_close hok M⟩
set_option maxRecDepth 100000 in
set_option maxHeartbeats 4000000 in
theorem pages_any {D : DV} {p pg mb : Nat} {qv : Value} {w : World} (hM : Mem w (foots [disk D p pg mb qv]) w [disk D p pg mb qv])  : Calls Try.prog 47 #[.pointer (some ⟨p, 0, none⟩)] w fun e w' => e = .returned (.int .i64 (D.pages.length : Int)) ∧ Mem w (foots [disk D p pg mb qv]) w' [disk (D) p pg mb qv] := by
  obtain ⟨hok, M⟩ := disk_open hM
  clear hM
  go_enter Try.func47, Try.ntmps47
  refine wp_seq_k (fun K1 hK1 => ?_)
  refine wp_region_lit ?_
  refine pl M (y_assign (v := .int .i64 0) rfl rfl rfl) ?_
  simp only [Act.put, zq1, zq2, zq3]
  refine wpList_nil ?_
  refine hK1 _ _ ?_
  clear hK1
  refine wp_seq_k (fun K2 hK2 => ?_)
  refine wp_region_lit ?_
  refine pl M (y_move (v := .pointer (some ⟨p, 0, none⟩)) rfl rfl rfl) ?_
  simp only [Act.put, zq1, zq2, zq3]
  refine pl M (y_nil rfl rfl rfl) ?_
  simp only [Act.put, zq1, zq2, zq3]
  refine pl M (y_fa (r := 4) rfl rfl rfl Try.underlying76 rfl Try.sizeOf72 rfl) ?_
  simp only [Act.put, zq1, zq2, zq3]
  refine pl M (y_load (v := .slice (some ⟨pg, 0, none⟩) D.pages.length D.pages.length) rfl rfl rfl Try.isAgg72 (fun W hW => hW.get 0 rfl) (rfl)) ?_
  simp only [Act.put, zq1, zq2, zq3]
  refine pl M (y_len rfl rfl rfl Try.underlying72) ?_
  simp only [Act.put, zq1, zq2, zq3]
  refine pl M (y_assign (v := .int .i64 (D.pages.length : Int)) rfl rfl rfl) ?_
  simp only [Act.put, zq1, zq2, zq3]
  refine wpList_nil ?_
  refine hK2 _ _ ?_
  clear hK2
  refine wp_ret ?_
  try simp only [Exit.inBlock, Exit.then]
  refine bodyPost_ret (v := .int .i64 (D.pages.length : Int)) (res1 rfl rfl) rfl ?_
  exact ⟨rfl, disk_close hok M⟩
end Go.Proofs.Ytmmkgkbjneebkaa

/- The program's disk: Read. -/
namespace Go.Proofs.Ytmmkgkbjneebkaa
set_option linter.unusedSectionVars false
open Go Go.RowKit
set_option linter.unusedVariables false
set_option linter.unusedSimpArgs false
set_option maxRecDepth 100000 in
set_option maxHeartbeats 4000000 in
theorem read_dead {D : DV} {p pg mb : Nat} {qv : Value} {w : World} (hM : Mem w (foots [disk D p pg mb qv]) w [disk D p pg mb qv]) (page : Int) (hd : D.dead = true) : Calls Try.prog 77 #[.pointer (some ⟨p, 0, none⟩), .int .i64 page] w fun e w' => ∃ v, e = .returned (.tuple #[v, .int .i64 (readE D page)]) ∧ Mem w (foots [disk D p pg mb qv]) w' [disk (readD D page) p pg mb qv, lst 5 1 v (readL D page).length (bvs (readL D page))] := by
  obtain ⟨hok, M⟩ := disk_open hM
  clear hM
  go_enter Try.func77, Try.ntmps77
  refine wp_seq_k (fun K1 hK1 => ?_)
  refine wp_region_lit ?_
  refine pl M (y_assign (v := .slice none 0 0) rfl rfl rfl) ?_
  simp only [Act.put, zq1, zq2, zq3]
  refine pl M (y_assign (v := .int .i64 0) rfl rfl rfl) ?_
  simp only [Act.put, zq1, zq2, zq3]
  refine wpList_nil ?_
  refine hK1 _ _ ?_
  clear hK1
  refine wp_seq_k (fun K2 hK2 => ?_)
  refine wp_seq_k (fun K3 hK3 => ?_)
  refine wp_region_lit ?_
  refine pl M (y_move (v := .pointer (some ⟨p, 0, none⟩)) rfl rfl rfl) ?_
  simp only [Act.put, zq1, zq2, zq3]
  refine pl M (y_nil rfl rfl rfl) ?_
  simp only [Act.put, zq1, zq2, zq3]
  refine pl M (y_fa (r := 8) rfl rfl rfl Try.underlying76 rfl Try.sizeOf4 rfl) ?_
  simp only [Act.put, zq1, zq2, zq3]
  refine pl M (y_load (v := .bool true) rfl rfl rfl Try.isAgg4 (fun W hW => hW.get 0 rfl) (congrArg (fun b => some (Value.bool b)) hd)) ?_
  simp only [Act.put, zq1, zq2, zq3]
  refine wpList_nil ?_
  refine hK3 _ _ ?_
  clear hK3
  refine wp_cond_true rfl ?_
  refine wp_seq_k (fun K4 hK4 => ?_)
  refine wp_region_lit ?_
  refine pl M (y_assign (v := .slice none 0 0) rfl rfl rfl) ?_
  simp only [Act.put, zq1, zq2, zq3]
  refine pl M (y_assign (v := .int .i64 2) rfl rfl rfl) ?_
  simp only [Act.put, zq1, zq2, zq3]
  refine wpList_nil ?_
  refine hK4 _ _ ?_
  clear hK4
  refine wp_ret ?_
  try simp only [Exit.inBlock, Exit.then]
  refine bodyPost_ret (v := .tuple #[.slice none 0 0, .int .i64 2]) (res2 rfl rfl rfl) rfl ?_
  have N := (disk_close hok M).nilst 5 1
  have N2 := N.arr [1, 0] (by decide)
  have e1 : readE D page = 2 := by unfold readE; rw [if_pos hd]
  have e2 : readD D page = D := by unfold readD; rw [if_pos hd]
  have e3 : readL D page = [] := by unfold readL; rw [if_pos hd]
  rw [e1, e2, e3]
  exact ⟨_, rfl, N2⟩
set_option maxRecDepth 100000 in
set_option maxHeartbeats 4000000 in
theorem read_out {D : DV} {p pg mb : Nat} {qv : Value} {w : World} (hM : Mem w (foots [disk D p pg mb qv]) w [disk D p pg mb qv]) (page : Int) (hd : D.dead = false) (hh : ¬ D.has page) : Calls Try.prog 77 #[.pointer (some ⟨p, 0, none⟩), .int .i64 page] w fun e w' => ∃ v, e = .returned (.tuple #[v, .int .i64 (readE D page)]) ∧ Mem w (foots [disk D p pg mb qv]) w' [disk (readD D page) p pg mb qv, lst 5 1 v (readL D page).length (bvs (readL D page))] := by
  obtain ⟨hok, M⟩ := disk_open hM
  clear hM
  go_enter Try.func77, Try.ntmps77
  refine wp_seq_k (fun K1 hK1 => ?_)
  refine wp_region_lit ?_
  refine pl M (y_assign (v := .slice none 0 0) rfl rfl rfl) ?_
  simp only [Act.put, zq1, zq2, zq3]
  refine pl M (y_assign (v := .int .i64 0) rfl rfl rfl) ?_
  simp only [Act.put, zq1, zq2, zq3]
  refine wpList_nil ?_
  refine hK1 _ _ ?_
  clear hK1
  refine wp_seq_k (fun K2 hK2 => ?_)
  refine wp_seq_k (fun K3 hK3 => ?_)
  refine wp_region_lit ?_
  refine pl M (y_move (v := .pointer (some ⟨p, 0, none⟩)) rfl rfl rfl) ?_
  simp only [Act.put, zq1, zq2, zq3]
  refine pl M (y_nil rfl rfl rfl) ?_
  simp only [Act.put, zq1, zq2, zq3]
  refine pl M (y_fa (r := 8) rfl rfl rfl Try.underlying76 rfl Try.sizeOf4 rfl) ?_
  simp only [Act.put, zq1, zq2, zq3]
  refine pl M (y_load (v := .bool false) rfl rfl rfl Try.isAgg4 (fun W hW => hW.get 0 rfl) (congrArg (fun b => some (Value.bool b)) hd)) ?_
  simp only [Act.put, zq1, zq2, zq3]
  refine wpList_nil ?_
  refine hK3 _ _ ?_
  clear hK3
  refine wp_cond_false rfl ?_
  refine wp_skip ?_
  refine hK2 _ _ ?_
  clear hK2
  refine wp_seq_k (fun K4 hK4 => ?_)
  refine wp_seq_k (fun K5 hK5 => ?_)
  refine wp_region_lit ?_
  refine pl M (y_move (v := .pointer (some ⟨p, 0, none⟩)) rfl rfl rfl) ?_
  simp only [Act.put, zq1, zq2, zq3]
  refine pl M (y_move (v := .int .i64 page) rfl rfl rfl) ?_
  simp only [Act.put, zq1, zq2, zq3]
  refine pe rfl (fun K hK => ?_)
  refine e_call 93 [.pointer (some ⟨p, 0, none⟩), .int .i64 page] rfl rfl Try.call93 (has_any (Mem.here (L := [disk (D) p pg mb (qv)]) (R := []) (disk_close (D := D) (R := []) hok M)) page) ?_
  rintro e w6 ⟨rfl, H6⟩
  have M6 : Mem w _ w6 [blk p 76 (dC D pg mb qv), blk pg 127 (pagesC D.pages), lst 129 257 qv D.q.length (qC D.q), mapq mb D.q] := (disk_open (Mem.frame (Pre := [disk (D) p pg mb (qv)]) (Post := [disk (D) p pg mb (qv)]) (R := []) (disk_close (D := D) (R := []) hok M) H6)).2
  rw [(decide_eq_false hh)]
  refine ⟨_, rfl, ?_⟩
  refine hK.out _ _ ?_
  clear hK K
  simp only [Act.put, zq1, zq2, zq3]
  refine pl M6 (y_not rfl rfl rfl rfl) ?_
  simp only [Act.put, zq1, zq2, zq3]
  refine wpList_nil ?_
  refine hK5 _ _ ?_
  clear hK5
  refine wp_cond_true rfl ?_
  refine wp_seq_k (fun K7 hK7 => ?_)
  refine wp_region_lit ?_
  refine pl M6 (y_assign (v := .slice none 0 0) rfl rfl rfl) ?_
  simp only [Act.put, zq1, zq2, zq3]
  refine pl M6 (y_assign (v := .int .i64 41) rfl rfl rfl) ?_
  simp only [Act.put, zq1, zq2, zq3]
  refine wpList_nil ?_
  refine hK7 _ _ ?_
  clear hK7
  refine wp_ret ?_
  try simp only [Exit.inBlock, Exit.then]
  refine bodyPost_ret (v := .tuple #[.slice none 0 0, .int .i64 41]) (res2 rfl rfl rfl) rfl ?_
  have N := (disk_close hok M6).nilst 5 1
  have N2 := N.arr [1, 0] (by decide)
  have hd' : ¬ D.dead = true := by rw [hd]; decide
  have e1 : readE D page = 41 := by unfold readE; rw [if_neg hd', if_neg hh]
  have e2 : readD D page = D := by unfold readD; rw [if_neg hd', if_neg hh]
  have e3 : readL D page = [] := by unfold readL; rw [if_neg hd', if_neg hh]
  rw [e1, e2, e3]
  exact ⟨_, rfl, N2⟩
set_option maxRecDepth 100000 in
set_option maxHeartbeats 4000000 in
theorem read_none {D : DV} {p pg mb : Nat} {qv : Value} {w : World} (hM : Mem w (foots [disk D p pg mb qv]) w [disk D p pg mb qv]) (n : Nat) (hd : D.dead = false) (hn : n < D.pages.length) (hl : lastAt D.q n = none) : Calls Try.prog 77 #[.pointer (some ⟨p, 0, none⟩), .int .i64 (n : Int)] w fun e w' => ∃ v, e = .returned (.tuple #[v, .int .i64 (readE D n)]) ∧ Mem w (foots [disk D p pg mb qv]) w' [disk (readD D n) p pg mb qv, lst 5 1 v (readL D n).length (bvs (readL D n))] := by
  obtain ⟨hok, M⟩ := disk_open hM
  clear hM
  have hh : D.has n := ⟨by omega, by omega⟩
  have hhi := hok.hi
  have hd' : ¬ D.dead = true := by rw [hd]; decide
  have hpl : (D.pg n).length = 256 := pages_get hok.len hn
  have hcl : (D.cur n).length = 256 := cur_len hok hn
  have hc : D.cur n = D.pg n := curP_none _ _ _ hl
  go_enter Try.func77, Try.ntmps77
  refine wp_seq_k (fun K1 hK1 => ?_)
  refine wp_region_lit ?_
  refine pl M (y_assign (v := .slice none 0 0) rfl rfl rfl) ?_
  simp only [Act.put, zq1, zq2, zq3]
  refine pl M (y_assign (v := .int .i64 0) rfl rfl rfl) ?_
  simp only [Act.put, zq1, zq2, zq3]
  refine wpList_nil ?_
  refine hK1 _ _ ?_
  clear hK1
  refine wp_seq_k (fun K2 hK2 => ?_)
  refine wp_seq_k (fun K3 hK3 => ?_)
  refine wp_region_lit ?_
  refine pl M (y_move (v := .pointer (some ⟨p, 0, none⟩)) rfl rfl rfl) ?_
  simp only [Act.put, zq1, zq2, zq3]
  refine pl M (y_nil rfl rfl rfl) ?_
  simp only [Act.put, zq1, zq2, zq3]
  refine pl M (y_fa (r := 8) rfl rfl rfl Try.underlying76 rfl Try.sizeOf4 rfl) ?_
  simp only [Act.put, zq1, zq2, zq3]
  refine pl M (y_load (v := .bool false) rfl rfl rfl Try.isAgg4 (fun W hW => hW.get 0 rfl) (congrArg (fun b => some (Value.bool b)) hd)) ?_
  simp only [Act.put, zq1, zq2, zq3]
  refine wpList_nil ?_
  refine hK3 _ _ ?_
  clear hK3
  refine wp_cond_false rfl ?_
  refine wp_skip ?_
  refine hK2 _ _ ?_
  clear hK2
  refine wp_seq_k (fun K4 hK4 => ?_)
  refine wp_seq_k (fun K5 hK5 => ?_)
  refine wp_region_lit ?_
  refine pl M (y_move (v := .pointer (some ⟨p, 0, none⟩)) rfl rfl rfl) ?_
  simp only [Act.put, zq1, zq2, zq3]
  refine pl M (y_move (v := .int .i64 (n : Int)) rfl rfl rfl) ?_
  simp only [Act.put, zq1, zq2, zq3]
  refine pe rfl (fun K hK => ?_)
  refine e_call 93 [.pointer (some ⟨p, 0, none⟩), .int .i64 (n : Int)] rfl rfl Try.call93 (has_any (Mem.here (L := [disk (D) p pg mb (qv)]) (R := []) (disk_close (D := D) (R := []) hok M)) (n : Int)) ?_
  rintro e w6 ⟨rfl, H6⟩
  have M6 : Mem w _ w6 [blk p 76 (dC D pg mb qv), blk pg 127 (pagesC D.pages), lst 129 257 qv D.q.length (qC D.q), mapq mb D.q] := (disk_open (Mem.frame (Pre := [disk (D) p pg mb (qv)]) (Post := [disk (D) p pg mb (qv)]) (R := []) (disk_close (D := D) (R := []) hok M) H6)).2
  rw [(decide_eq_true hh)]
  refine ⟨_, rfl, ?_⟩
  refine hK.out _ _ ?_
  clear hK K
  simp only [Act.put, zq1, zq2, zq3]
  refine pl M6 (y_not rfl rfl rfl rfl) ?_
  simp only [Act.put, zq1, zq2, zq3]
  refine wpList_nil ?_
  refine hK5 _ _ ?_
  clear hK5
  refine wp_cond_false rfl ?_
  refine wp_skip ?_
  refine hK4 _ _ ?_
  clear hK4
  refine wp_seq_k (fun K7 hK7 => ?_)
  refine wp_region_lit ?_
  refine pl M6 (y_move (v := .pointer (some ⟨p, 0, none⟩)) rfl rfl rfl) ?_
  simp only [Act.put, zq1, zq2, zq3]
  refine pl M6 (y_nil rfl rfl rfl) ?_
  simp only [Act.put, zq1, zq2, zq3]
  refine pl M6 (y_fa (r := 0) rfl rfl rfl Try.underlying76 rfl Try.sizeOf71 rfl) ?_
  simp only [Act.put, zq1, zq2, zq3]
  refine pl M6 (y_fa (r := 0) rfl rfl rfl Try.underlying71 rfl Try.sizeOf3 rfl) ?_
  simp only [Act.put, zq1, zq2, zq3]
  refine pl M6 (y_load (v := .int .i64 D.reads) rfl rfl rfl Try.isAgg3 (fun W hW => hW.get 0 rfl) (rfl)) ?_
  simp only [Act.put, zq1, zq2, zq3]
  refine pl M6 (y_addw rfl rfl rfl rfl) ?_
  simp only [Act.put, zq1, zq2, zq3]
  refine pl M6 (y_nil rfl rfl rfl) ?_
  simp only [Act.put, zq1, zq2, zq3]
  refine pl M6 (y_fa (r := 0) rfl rfl rfl Try.underlying76 rfl Try.sizeOf71 rfl) ?_
  simp only [Act.put, zq1, zq2, zq3]
  refine pl M6 (y_fa (r := 0) rfl rfl rfl Try.underlying71 rfl Try.sizeOf3 rfl) ?_
  simp only [Act.put, zq1, zq2, zq3]
  refine pe rfl (fun K hK => ?_)
  refine e_store M6 0 (v := .int .i64 (wrap64 (D.reads + 1))) rfl rfl rfl rfl rfl rfl Try.sizeOf3 rfl (show (0 : Nat) < 10 by decide) ?_
  intro w8 (M8 : Mem w _ w8 [blk p 76 ([.int .i64 (wrap64 (D.reads + 1)), .int .i64 D.writes, .int .i64 D.syncs, .int .i64 (D.q.length : Int), .slice (some ⟨pg, 0, none⟩) D.pages.length D.pages.length, qv, .map (some mb), .int .i64 D.armed, .bool D.dead, .int .i64 D.epoch]), blk pg 127 (pagesC D.pages), lst 129 257 qv D.q.length (qC D.q), mapq mb D.q])
  clear M6
  refine hK.out _ _ ?_
  clear hK K
  simp only [Act.put, zq1, zq2, zq3]
  refine wpList_nil ?_
  refine hK7 _ _ ?_
  clear hK7
  refine wp_seq_k (fun K9 hK9 => ?_)
  refine wp_region_lit ?_
  refine pl M8 (y_move (v := .pointer (some ⟨p, 0, none⟩)) rfl rfl rfl) ?_
  simp only [Act.put, zq1, zq2, zq3]
  refine pl M8 (y_nil rfl rfl rfl) ?_
  simp only [Act.put, zq1, zq2, zq3]
  refine pl M8 (y_fa (r := 4) rfl rfl rfl Try.underlying76 rfl Try.sizeOf72 rfl) ?_
  simp only [Act.put, zq1, zq2, zq3]
  refine pl M8 (y_load (v := .slice (some ⟨pg, 0, none⟩) D.pages.length D.pages.length) rfl rfl rfl Try.isAgg72 (fun W hW => hW.get 0 rfl) (rfl)) ?_
  simp only [Act.put, zq1, zq2, zq3]
  refine pl M8 (y_move (v := .int .i64 (n : Int)) rfl rfl rfl) ?_
  simp only [Act.put, zq1, zq2, zq3]
  refine pl M8 (y_ias (r := 256 * n) rfl rfl rfl rfl Try.underlying72 Try.sizeOf127 (by omega) (by omega)) ?_
  simp only [Act.put, zq1, zq2, zq3]
  refine pl M8 (y_loadb (cs := (bvs (D.pg n))) rfl rfl rfl Try.underlying127 rfl (size_page _ hpl) (fun W hW => hW.get 1 rfl) (pages_row hok hn)) ?_
  simp only [Act.put, zq1, zq2, zq3]
  refine pe rfl (fun K hK => ?_)
  refine e_alloc M8 (bvs zeroPage) rfl zero_page ?_
  intro gp w10 (M10 : Mem w _ w10 [blk gp 127 (bvs zeroPage), blk p 76 ([.int .i64 (wrap64 (D.reads + 1)), .int .i64 D.writes, .int .i64 D.syncs, .int .i64 (D.q.length : Int), .slice (some ⟨pg, 0, none⟩) D.pages.length D.pages.length, qv, .map (some mb), .int .i64 D.armed, .bool D.dead, .int .i64 D.epoch]), blk pg 127 (pagesC D.pages), lst 129 257 qv D.q.length (qC D.q), mapq mb D.q])
  clear M8
  refine hK.out _ _ ?_
  clear hK K
  simp only [Act.put, zq1, zq2, zq3]
  refine pe rfl (fun K hK => ?_)
  refine e_storew M10 0 (cs := (bvs (D.pg n))) rfl rfl rfl rfl (size_page _ hpl) (bvs_all _) rfl (by rw [length_bvs, length_bvs, hpl, zeroPage_len]) ?_
  intro w11 (M11 : Mem w _ w11 [blk gp 127 (bvs (D.pg n)), blk p 76 ([.int .i64 (wrap64 (D.reads + 1)), .int .i64 D.writes, .int .i64 D.syncs, .int .i64 (D.q.length : Int), .slice (some ⟨pg, 0, none⟩) D.pages.length D.pages.length, qv, .map (some mb), .int .i64 D.armed, .bool D.dead, .int .i64 D.epoch]), blk pg 127 (pagesC D.pages), lst 129 257 qv D.q.length (qC D.q), mapq mb D.q])
  clear M10
  refine hK.out _ _ ?_
  clear hK K
  simp only [Act.put, zq1, zq2, zq3]
  refine wpList_nil ?_
  refine hK9 _ _ ?_
  clear hK9
  refine wp_seq_k (fun K12 hK12 => ?_)
  refine wp_seq_k (fun K13 hK13 => ?_)
  refine wp_region_lit ?_
  refine pl M11 (y_move (v := .pointer (some ⟨p, 0, none⟩)) rfl rfl rfl) ?_
  simp only [Act.put, zq1, zq2, zq3]
  refine pl M11 (y_nil rfl rfl rfl) ?_
  simp only [Act.put, zq1, zq2, zq3]
  refine pl M11 (y_fa (r := 6) rfl rfl rfl Try.underlying76 rfl Try.sizeOf74 rfl) ?_
  simp only [Act.put, zq1, zq2, zq3]
  refine pl M11 (y_load (v := .map (some mb)) rfl rfl rfl Try.isAgg74 (fun W hW => hW.get 1 rfl) (rfl)) ?_
  simp only [Act.put, zq1, zq2, zq3]
  refine pl M11 (y_move (v := .int .i64 (n : Int)) rfl rfl rfl) ?_
  simp only [Act.put, zq1, zq2, zq3]
  refine pe rfl (fun K hK => ?_)
  refine e_look M11 4 rfl Try.underlying3 Try.underlying3 Try.underlying74 Try.zeroValue3 (p := n) rfl rfl rfl rfl (rfl) (by omega) ?_
  intro c14 hc14
  clear hc14
  rw [hl]
  refine hK.out _ _ ?_
  clear hK K
  simp only [Act.put, zq1, zq2, zq3]
  refine pl M11 (y_move (v := .tuple #[.int .i64 c14, .bool false]) rfl rfl rfl) ?_
  simp only [Act.put, zq1, zq2, zq3]
  refine pl M11 (y_ext (v := .int .i64 c14) rfl rfl rfl rfl) ?_
  simp only [Act.put, zq1, zq2, zq3]
  refine pl M11 (y_ext (v := .bool false) rfl rfl rfl rfl) ?_
  simp only [Act.put, zq1, zq2, zq3]
  refine pl M11 (y_assign (v := .int .i64 c14) rfl rfl rfl) ?_
  simp only [Act.put, zq1, zq2, zq3]
  refine pl M11 (y_assign (v := .bool false) rfl rfl rfl) ?_
  simp only [Act.put, zq1, zq2, zq3]
  refine wpList_nil ?_
  refine hK13 _ _ ?_
  clear hK13
  refine wp_seq_k (fun K15 hK15 => ?_)
  refine wp_region_lit ?_
  refine pl M11 (y_move (v := .bool false) rfl rfl rfl) ?_
  simp only [Act.put, zq1, zq2, zq3]
  refine wpList_nil ?_
  refine hK15 _ _ ?_
  clear hK15
  refine wp_cond_false rfl ?_
  refine wp_skip ?_
  refine hK12 _ _ ?_
  clear hK12
  refine wp_seq_k (fun K16 hK16 => ?_)
  refine wp_region_lit ?_
  refine pl M11 (y_sla (l := 0) (h := 256) (r := 0) (n' := 256) (c' := 256) rfl rfl rfl rfl rfl Try.underlying127 Try.sizeOf5 (by exact ⟨rfl, rfl⟩) (rfl) (by omega) (by omega)) ?_
  simp only [Act.put, zq1, zq2, zq3]
  have M17 : Mem w _ w11 [lst 5 1 (.slice none 0 0) 0 ([]), blk gp 127 (bvs (D.pg n)), blk p 76 ([.int .i64 (wrap64 (D.reads + 1)), .int .i64 D.writes, .int .i64 D.syncs, .int .i64 (D.q.length : Int), .slice (some ⟨pg, 0, none⟩) D.pages.length D.pages.length, qv, .map (some mb), .int .i64 D.armed, .bool D.dead, .int .i64 D.epoch]), blk pg 127 (pagesC D.pages), lst 129 257 qv D.q.length (qC D.q), mapq mb D.q] := M11.nilst 5 1
  refine pe rfl (fun K hK => ?_)
  refine e_append M17 0 bytesT (by decide) (news := (bvs (D.pg n))) rfl rfl rfl rfl (by rw [length_bvs, hpl]) (by intro h; cases h) ((hpl ▸ blk_row (M17.get 1 rfl) : Row _ _ 256 (D.pg n)).news) (bvs_oneCell _) (⟨by unfold maxLen; omega, by omega⟩) ?_
  intro v18 w18 (M18 : Mem w _ w18 [lst 5 1 v18 256 (bvs (D.pg n)), blk gp 127 (bvs (D.pg n)), blk p 76 ([.int .i64 (wrap64 (D.reads + 1)), .int .i64 D.writes, .int .i64 D.syncs, .int .i64 (D.q.length : Int), .slice (some ⟨pg, 0, none⟩) D.pages.length D.pages.length, qv, .map (some mb), .int .i64 D.armed, .bool D.dead, .int .i64 D.epoch]), blk pg 127 (pagesC D.pages), lst 129 257 qv D.q.length (qC D.q), mapq mb D.q])
  clear M17
  obtain ⟨a18, c18, rfl⟩ := qv_at (M18.get 0 rfl)
  refine hK.out _ _ ?_
  clear hK K
  simp only [Act.put, zq1, zq2, zq3]
  refine pl M18 (y_assign (v := .slice a18 256 c18) rfl rfl rfl) ?_
  simp only [Act.put, zq1, zq2, zq3]
  refine pl M18 (y_assign (v := .int .i64 0) rfl rfl rfl) ?_
  simp only [Act.put, zq1, zq2, zq3]
  refine wpList_nil ?_
  refine hK16 _ _ ?_
  clear hK16
  refine wp_ret ?_
  try simp only [Exit.inBlock, Exit.then]
  refine bodyPost_ret (v := .tuple #[.slice a18 256 c18, .int .i64 0]) (res2 rfl rfl rfl) rfl ?_
  have e1 : readE D n = 0 := by unfold readE; rw [if_neg hd', if_pos hh]
  have e2 : readD D n = { D with reads := wrap64 (D.reads + 1) } := by unfold readD; rw [if_neg hd', if_pos hh]
  have e3 : readL D n = D.cur n := by unfold readL; rw [if_neg hd', if_pos hh]; rfl
  rw [e1, e2, e3, hcl, hc]
  have N : Mem w _ w18 [blk p 76 ([.int .i64 (wrap64 (D.reads + 1)), .int .i64 D.writes, .int .i64 D.syncs, .int .i64 (D.q.length : Int), .slice (some ⟨pg, 0, none⟩) D.pages.length D.pages.length, qv, .map (some mb), .int .i64 D.armed, .bool D.dead, .int .i64 D.epoch]), blk pg 127 (pagesC D.pages), lst 129 257 qv D.q.length (qC D.q), mapq mb D.q, lst 5 1 (.slice a18 256 c18) 256 (bvs (D.pg n))] := M18.arr [2, 3, 4, 5, 0] (by decide)
  exact ⟨_, rfl, disk_close (D := { D with reads := wrap64 (D.reads + 1) }) ⟨hok.lo, hok.hi, hok.len, hok.qs, hok.arm, hok.ep⟩ N⟩
set_option maxRecDepth 100000 in
set_option maxHeartbeats 4000000 in
theorem read_some {D : DV} {p pg mb : Nat} {qv : Value} {w : World} (hM : Mem w (foots [disk D p pg mb qv]) w [disk D p pg mb qv]) (n i : Nat) (hd : D.dead = false) (hn : n < D.pages.length) (hl : lastAt D.q n = some i) : Calls Try.prog 77 #[.pointer (some ⟨p, 0, none⟩), .int .i64 (n : Int)] w fun e w' => ∃ v, e = .returned (.tuple #[v, .int .i64 (readE D n)]) ∧ Mem w (foots [disk D p pg mb qv]) w' [disk (readD D n) p pg mb qv, lst 5 1 v (readL D n).length (bvs (readL D n))] := by
  obtain ⟨hok, M⟩ := disk_open hM
  clear hM
  have hh : D.has n := ⟨by omega, by omega⟩
  have hhi := hok.hi
  have hd' : ¬ D.dead = true := by rw [hd]; decide
  have hpl : (D.pg n).length = 256 := pages_get hok.len hn
  have hcl : (D.cur n).length = 256 := cur_len hok hn
  obtain ⟨x, hx, hxp, hc⟩ := curP_some (D.pg n) n D.q i hl
  have hc : D.cur n = x.2 := hc
  have hi := lastAt_lt n D.q i hl
  have hq : ∀ y ∈ D.q, y.2.length = 256 := fun y hy => (hok.qs y hy).2
  have hxl : x.2.length = 256 := hq x (List.mem_of_getElem? hx)
  have hat := lst_at (M.get 2 rfl)
  rcases hat with ⟨_, h0, _⟩ | ⟨gq, cq, rfl, hqc, hqm⟩
  · omega
  go_enter Try.func77, Try.ntmps77
  refine wp_seq_k (fun K1 hK1 => ?_)
  refine wp_region_lit ?_
  refine pl M (y_assign (v := .slice none 0 0) rfl rfl rfl) ?_
  simp only [Act.put, zq1, zq2, zq3]
  refine pl M (y_assign (v := .int .i64 0) rfl rfl rfl) ?_
  simp only [Act.put, zq1, zq2, zq3]
  refine wpList_nil ?_
  refine hK1 _ _ ?_
  clear hK1
  refine wp_seq_k (fun K2 hK2 => ?_)
  refine wp_seq_k (fun K3 hK3 => ?_)
  refine wp_region_lit ?_
  refine pl M (y_move (v := .pointer (some ⟨p, 0, none⟩)) rfl rfl rfl) ?_
  simp only [Act.put, zq1, zq2, zq3]
  refine pl M (y_nil rfl rfl rfl) ?_
  simp only [Act.put, zq1, zq2, zq3]
  refine pl M (y_fa (r := 8) rfl rfl rfl Try.underlying76 rfl Try.sizeOf4 rfl) ?_
  simp only [Act.put, zq1, zq2, zq3]
  refine pl M (y_load (v := .bool false) rfl rfl rfl Try.isAgg4 (fun W hW => hW.get 0 rfl) (congrArg (fun b => some (Value.bool b)) hd)) ?_
  simp only [Act.put, zq1, zq2, zq3]
  refine wpList_nil ?_
  refine hK3 _ _ ?_
  clear hK3
  refine wp_cond_false rfl ?_
  refine wp_skip ?_
  refine hK2 _ _ ?_
  clear hK2
  refine wp_seq_k (fun K4 hK4 => ?_)
  refine wp_seq_k (fun K5 hK5 => ?_)
  refine wp_region_lit ?_
  refine pl M (y_move (v := .pointer (some ⟨p, 0, none⟩)) rfl rfl rfl) ?_
  simp only [Act.put, zq1, zq2, zq3]
  refine pl M (y_move (v := .int .i64 (n : Int)) rfl rfl rfl) ?_
  simp only [Act.put, zq1, zq2, zq3]
  refine pe rfl (fun K hK => ?_)
  refine e_call 93 [.pointer (some ⟨p, 0, none⟩), .int .i64 (n : Int)] rfl rfl Try.call93 (has_any (Mem.here (L := [disk (D) p pg mb (.slice (some ⟨gq, 0, none⟩) D.q.length cq)]) (R := []) (disk_close (D := D) (R := []) hok M)) (n : Int)) ?_
  rintro e w6 ⟨rfl, H6⟩
  have M6 : Mem w _ w6 [blk p 76 (dC D pg mb (.slice (some ⟨gq, 0, none⟩) D.q.length cq)), blk pg 127 (pagesC D.pages), lst 129 257 (.slice (some ⟨gq, 0, none⟩) D.q.length cq) D.q.length (qC D.q), mapq mb D.q] := (disk_open (Mem.frame (Pre := [disk (D) p pg mb (.slice (some ⟨gq, 0, none⟩) D.q.length cq)]) (Post := [disk (D) p pg mb (.slice (some ⟨gq, 0, none⟩) D.q.length cq)]) (R := []) (disk_close (D := D) (R := []) hok M) H6)).2
  rw [(decide_eq_true hh)]
  refine ⟨_, rfl, ?_⟩
  refine hK.out _ _ ?_
  clear hK K
  simp only [Act.put, zq1, zq2, zq3]
  refine pl M6 (y_not rfl rfl rfl rfl) ?_
  simp only [Act.put, zq1, zq2, zq3]
  refine wpList_nil ?_
  refine hK5 _ _ ?_
  clear hK5
  refine wp_cond_false rfl ?_
  refine wp_skip ?_
  refine hK4 _ _ ?_
  clear hK4
  refine wp_seq_k (fun K7 hK7 => ?_)
  refine wp_region_lit ?_
  refine pl M6 (y_move (v := .pointer (some ⟨p, 0, none⟩)) rfl rfl rfl) ?_
  simp only [Act.put, zq1, zq2, zq3]
  refine pl M6 (y_nil rfl rfl rfl) ?_
  simp only [Act.put, zq1, zq2, zq3]
  refine pl M6 (y_fa (r := 0) rfl rfl rfl Try.underlying76 rfl Try.sizeOf71 rfl) ?_
  simp only [Act.put, zq1, zq2, zq3]
  refine pl M6 (y_fa (r := 0) rfl rfl rfl Try.underlying71 rfl Try.sizeOf3 rfl) ?_
  simp only [Act.put, zq1, zq2, zq3]
  refine pl M6 (y_load (v := .int .i64 D.reads) rfl rfl rfl Try.isAgg3 (fun W hW => hW.get 0 rfl) (rfl)) ?_
  simp only [Act.put, zq1, zq2, zq3]
  refine pl M6 (y_addw rfl rfl rfl rfl) ?_
  simp only [Act.put, zq1, zq2, zq3]
  refine pl M6 (y_nil rfl rfl rfl) ?_
  simp only [Act.put, zq1, zq2, zq3]
  refine pl M6 (y_fa (r := 0) rfl rfl rfl Try.underlying76 rfl Try.sizeOf71 rfl) ?_
  simp only [Act.put, zq1, zq2, zq3]
  refine pl M6 (y_fa (r := 0) rfl rfl rfl Try.underlying71 rfl Try.sizeOf3 rfl) ?_
  simp only [Act.put, zq1, zq2, zq3]
  refine pe rfl (fun K hK => ?_)
  refine e_store M6 0 (v := .int .i64 (wrap64 (D.reads + 1))) rfl rfl rfl rfl rfl rfl Try.sizeOf3 rfl (show (0 : Nat) < 10 by decide) ?_
  intro w8 (M8 : Mem w _ w8 [blk p 76 ([.int .i64 (wrap64 (D.reads + 1)), .int .i64 D.writes, .int .i64 D.syncs, .int .i64 (D.q.length : Int), .slice (some ⟨pg, 0, none⟩) D.pages.length D.pages.length, .slice (some ⟨gq, 0, none⟩) D.q.length cq, .map (some mb), .int .i64 D.armed, .bool D.dead, .int .i64 D.epoch]), blk pg 127 (pagesC D.pages), lst 129 257 (.slice (some ⟨gq, 0, none⟩) D.q.length cq) D.q.length (qC D.q), mapq mb D.q])
  clear M6
  refine hK.out _ _ ?_
  clear hK K
  simp only [Act.put, zq1, zq2, zq3]
  refine wpList_nil ?_
  refine hK7 _ _ ?_
  clear hK7
  refine wp_seq_k (fun K9 hK9 => ?_)
  refine wp_region_lit ?_
  refine pl M8 (y_move (v := .pointer (some ⟨p, 0, none⟩)) rfl rfl rfl) ?_
  simp only [Act.put, zq1, zq2, zq3]
  refine pl M8 (y_nil rfl rfl rfl) ?_
  simp only [Act.put, zq1, zq2, zq3]
  refine pl M8 (y_fa (r := 4) rfl rfl rfl Try.underlying76 rfl Try.sizeOf72 rfl) ?_
  simp only [Act.put, zq1, zq2, zq3]
  refine pl M8 (y_load (v := .slice (some ⟨pg, 0, none⟩) D.pages.length D.pages.length) rfl rfl rfl Try.isAgg72 (fun W hW => hW.get 0 rfl) (rfl)) ?_
  simp only [Act.put, zq1, zq2, zq3]
  refine pl M8 (y_move (v := .int .i64 (n : Int)) rfl rfl rfl) ?_
  simp only [Act.put, zq1, zq2, zq3]
  refine pl M8 (y_ias (r := 256 * n) rfl rfl rfl rfl Try.underlying72 Try.sizeOf127 (by omega) (by omega)) ?_
  simp only [Act.put, zq1, zq2, zq3]
  refine pl M8 (y_loadb (cs := (bvs (D.pg n))) rfl rfl rfl Try.underlying127 rfl (size_page _ hpl) (fun W hW => hW.get 1 rfl) (pages_row hok hn)) ?_
  simp only [Act.put, zq1, zq2, zq3]
  refine pe rfl (fun K hK => ?_)
  refine e_alloc M8 (bvs zeroPage) rfl zero_page ?_
  intro gp w10 (M10 : Mem w _ w10 [blk gp 127 (bvs zeroPage), blk p 76 ([.int .i64 (wrap64 (D.reads + 1)), .int .i64 D.writes, .int .i64 D.syncs, .int .i64 (D.q.length : Int), .slice (some ⟨pg, 0, none⟩) D.pages.length D.pages.length, .slice (some ⟨gq, 0, none⟩) D.q.length cq, .map (some mb), .int .i64 D.armed, .bool D.dead, .int .i64 D.epoch]), blk pg 127 (pagesC D.pages), lst 129 257 (.slice (some ⟨gq, 0, none⟩) D.q.length cq) D.q.length (qC D.q), mapq mb D.q])
  clear M8
  refine hK.out _ _ ?_
  clear hK K
  simp only [Act.put, zq1, zq2, zq3]
  refine pe rfl (fun K hK => ?_)
  refine e_storew M10 0 (cs := (bvs (D.pg n))) rfl rfl rfl rfl (size_page _ hpl) (bvs_all _) rfl (by rw [length_bvs, length_bvs, hpl, zeroPage_len]) ?_
  intro w11 (M11 : Mem w _ w11 [blk gp 127 (bvs (D.pg n)), blk p 76 ([.int .i64 (wrap64 (D.reads + 1)), .int .i64 D.writes, .int .i64 D.syncs, .int .i64 (D.q.length : Int), .slice (some ⟨pg, 0, none⟩) D.pages.length D.pages.length, .slice (some ⟨gq, 0, none⟩) D.q.length cq, .map (some mb), .int .i64 D.armed, .bool D.dead, .int .i64 D.epoch]), blk pg 127 (pagesC D.pages), lst 129 257 (.slice (some ⟨gq, 0, none⟩) D.q.length cq) D.q.length (qC D.q), mapq mb D.q])
  clear M10
  refine hK.out _ _ ?_
  clear hK K
  simp only [Act.put, zq1, zq2, zq3]
  refine wpList_nil ?_
  refine hK9 _ _ ?_
  clear hK9
  refine wp_seq_k (fun K12 hK12 => ?_)
  refine wp_seq_k (fun K13 hK13 => ?_)
  refine wp_region_lit ?_
  refine pl M11 (y_move (v := .pointer (some ⟨p, 0, none⟩)) rfl rfl rfl) ?_
  simp only [Act.put, zq1, zq2, zq3]
  refine pl M11 (y_nil rfl rfl rfl) ?_
  simp only [Act.put, zq1, zq2, zq3]
  refine pl M11 (y_fa (r := 6) rfl rfl rfl Try.underlying76 rfl Try.sizeOf74 rfl) ?_
  simp only [Act.put, zq1, zq2, zq3]
  refine pl M11 (y_load (v := .map (some mb)) rfl rfl rfl Try.isAgg74 (fun W hW => hW.get 1 rfl) (rfl)) ?_
  simp only [Act.put, zq1, zq2, zq3]
  refine pl M11 (y_move (v := .int .i64 (n : Int)) rfl rfl rfl) ?_
  simp only [Act.put, zq1, zq2, zq3]
  refine pe rfl (fun K hK => ?_)
  refine e_look M11 4 rfl Try.underlying3 Try.underlying3 Try.underlying74 Try.zeroValue3 (p := n) rfl rfl rfl rfl (rfl) (by omega) ?_
  intro c14 hc14
  obtain rfl := hc14 _ hl
  rw [hl]
  refine hK.out _ _ ?_
  clear hK K
  simp only [Act.put, zq1, zq2, zq3]
  refine pl M11 (y_move (v := .tuple #[.int .i64 (i : Int), .bool true]) rfl rfl rfl) ?_
  simp only [Act.put, zq1, zq2, zq3]
  refine pl M11 (y_ext (v := .int .i64 (i : Int)) rfl rfl rfl rfl) ?_
  simp only [Act.put, zq1, zq2, zq3]
  refine pl M11 (y_ext (v := .bool true) rfl rfl rfl rfl) ?_
  simp only [Act.put, zq1, zq2, zq3]
  refine pl M11 (y_assign (v := .int .i64 (i : Int)) rfl rfl rfl) ?_
  simp only [Act.put, zq1, zq2, zq3]
  refine pl M11 (y_assign (v := .bool true) rfl rfl rfl) ?_
  simp only [Act.put, zq1, zq2, zq3]
  refine wpList_nil ?_
  refine hK13 _ _ ?_
  clear hK13
  refine wp_seq_k (fun K15 hK15 => ?_)
  refine wp_region_lit ?_
  refine pl M11 (y_move (v := .bool true) rfl rfl rfl) ?_
  simp only [Act.put, zq1, zq2, zq3]
  refine wpList_nil ?_
  refine hK15 _ _ ?_
  clear hK15
  refine wp_cond_true rfl ?_
  refine wp_region_lit ?_
  refine pl M11 (y_move (v := .pointer (some ⟨p, 0, none⟩)) rfl rfl rfl) ?_
  simp only [Act.put, zq1, zq2, zq3]
  refine pl M11 (y_nil rfl rfl rfl) ?_
  simp only [Act.put, zq1, zq2, zq3]
  refine pl M11 (y_fa (r := 5) rfl rfl rfl Try.underlying76 rfl Try.sizeOf73 rfl) ?_
  simp only [Act.put, zq1, zq2, zq3]
  refine pl M11 (y_load (v := .slice (some ⟨gq, 0, none⟩) D.q.length cq) rfl rfl rfl Try.isAgg73 (fun W hW => hW.get 1 rfl) (rfl)) ?_
  simp only [Act.put, zq1, zq2, zq3]
  refine pl M11 (y_move (v := .int .i64 (i : Int)) rfl rfl rfl) ?_
  simp only [Act.put, zq1, zq2, zq3]
  refine pl M11 (y_ias (r := 257 * i) rfl rfl rfl rfl Try.underlying73 Try.sizeOf129 (by omega) (by omega)) ?_
  simp only [Act.put, zq1, zq2, zq3]
  refine pl M11 (y_fa (r := 257 * i + 1) rfl rfl rfl Try.underlying129 rfl Try.sizeOf127 rfl) ?_
  simp only [Act.put, zq1, zq2, zq3]
  refine pl M11 (y_loadr (cs := (bvs x.2)) rfl rfl rfl Try.underlying127 rfl (size_page _ hxl) (fun W hW => lst_range (hW.get 3 rfl) (257 * i + 1) (queue_row hq hx))) ?_
  simp only [Act.put, zq1, zq2, zq3]
  refine pe rfl (fun K hK => ?_)
  refine e_storew M11 0 (cs := (bvs x.2)) rfl rfl rfl rfl (size_page _ hxl) (bvs_all _) rfl (by rw [length_bvs, length_bvs, hpl, hxl]) ?_
  intro w16 (M16 : Mem w _ w16 [blk gp 127 (bvs x.2), blk p 76 ([.int .i64 (wrap64 (D.reads + 1)), .int .i64 D.writes, .int .i64 D.syncs, .int .i64 (D.q.length : Int), .slice (some ⟨pg, 0, none⟩) D.pages.length D.pages.length, .slice (some ⟨gq, 0, none⟩) D.q.length cq, .map (some mb), .int .i64 D.armed, .bool D.dead, .int .i64 D.epoch]), blk pg 127 (pagesC D.pages), lst 129 257 (.slice (some ⟨gq, 0, none⟩) D.q.length cq) D.q.length (qC D.q), mapq mb D.q])
  clear M11
  refine hK.out _ _ ?_
  clear hK K
  simp only [Act.put, zq1, zq2, zq3]
  refine wpList_nil ?_
  refine hK12 _ _ ?_
  clear hK12
  refine wp_seq_k (fun K17 hK17 => ?_)
  refine wp_region_lit ?_
  refine pl M16 (y_sla (l := 0) (h := 256) (r := 0) (n' := 256) (c' := 256) rfl rfl rfl rfl rfl Try.underlying127 Try.sizeOf5 (by exact ⟨rfl, rfl⟩) (rfl) (by omega) (by omega)) ?_
  simp only [Act.put, zq1, zq2, zq3]
  have M18 : Mem w _ w16 [lst 5 1 (.slice none 0 0) 0 ([]), blk gp 127 (bvs x.2), blk p 76 ([.int .i64 (wrap64 (D.reads + 1)), .int .i64 D.writes, .int .i64 D.syncs, .int .i64 (D.q.length : Int), .slice (some ⟨pg, 0, none⟩) D.pages.length D.pages.length, .slice (some ⟨gq, 0, none⟩) D.q.length cq, .map (some mb), .int .i64 D.armed, .bool D.dead, .int .i64 D.epoch]), blk pg 127 (pagesC D.pages), lst 129 257 (.slice (some ⟨gq, 0, none⟩) D.q.length cq) D.q.length (qC D.q), mapq mb D.q] := M16.nilst 5 1
  refine pe rfl (fun K hK => ?_)
  refine e_append M18 0 bytesT (by decide) (news := (bvs x.2)) rfl rfl rfl rfl (by rw [length_bvs, hxl]) (by intro h; cases h) ((hxl ▸ blk_row (M18.get 1 rfl) : Row _ _ 256 x.2).news) (bvs_oneCell _) (⟨by unfold maxLen; omega, by omega⟩) ?_
  intro v19 w19 (M19 : Mem w _ w19 [lst 5 1 v19 256 (bvs x.2), blk gp 127 (bvs x.2), blk p 76 ([.int .i64 (wrap64 (D.reads + 1)), .int .i64 D.writes, .int .i64 D.syncs, .int .i64 (D.q.length : Int), .slice (some ⟨pg, 0, none⟩) D.pages.length D.pages.length, .slice (some ⟨gq, 0, none⟩) D.q.length cq, .map (some mb), .int .i64 D.armed, .bool D.dead, .int .i64 D.epoch]), blk pg 127 (pagesC D.pages), lst 129 257 (.slice (some ⟨gq, 0, none⟩) D.q.length cq) D.q.length (qC D.q), mapq mb D.q])
  clear M18
  obtain ⟨a19, c19, rfl⟩ := qv_at (M19.get 0 rfl)
  refine hK.out _ _ ?_
  clear hK K
  simp only [Act.put, zq1, zq2, zq3]
  refine pl M19 (y_assign (v := .slice a19 256 c19) rfl rfl rfl) ?_
  simp only [Act.put, zq1, zq2, zq3]
  refine pl M19 (y_assign (v := .int .i64 0) rfl rfl rfl) ?_
  simp only [Act.put, zq1, zq2, zq3]
  refine wpList_nil ?_
  refine hK17 _ _ ?_
  clear hK17
  refine wp_ret ?_
  try simp only [Exit.inBlock, Exit.then]
  refine bodyPost_ret (v := .tuple #[.slice a19 256 c19, .int .i64 0]) (res2 rfl rfl rfl) rfl ?_
  have e1 : readE D n = 0 := by unfold readE; rw [if_neg hd', if_pos hh]
  have e2 : readD D n = { D with reads := wrap64 (D.reads + 1) } := by unfold readD; rw [if_neg hd', if_pos hh]
  have e3 : readL D n = D.cur n := by unfold readL; rw [if_neg hd', if_pos hh]; rfl
  rw [e1, e2, e3, hcl, hc]
  have N : Mem w _ w19 [blk p 76 ([.int .i64 (wrap64 (D.reads + 1)), .int .i64 D.writes, .int .i64 D.syncs, .int .i64 (D.q.length : Int), .slice (some ⟨pg, 0, none⟩) D.pages.length D.pages.length, .slice (some ⟨gq, 0, none⟩) D.q.length cq, .map (some mb), .int .i64 D.armed, .bool D.dead, .int .i64 D.epoch]), blk pg 127 (pagesC D.pages), lst 129 257 (.slice (some ⟨gq, 0, none⟩) D.q.length cq) D.q.length (qC D.q), mapq mb D.q, lst 5 1 (.slice a19 256 c19) 256 (bvs x.2)] := M19.arr [2, 3, 4, 5, 0] (by decide)
  exact ⟨_, rfl, disk_close (D := { D with reads := wrap64 (D.reads + 1) }) ⟨hok.lo, hok.hi, hok.len, hok.qs, hok.arm, hok.ep⟩ N⟩
theorem read_any {D : DV} {p pg mb : Nat} {qv : Value} {w : World} (hM : Mem w (foots [disk D p pg mb qv]) w [disk D p pg mb qv]) (page : Int) : Calls Try.prog 77 #[.pointer (some ⟨p, 0, none⟩), .int .i64 page] w fun e w' => ∃ v, e = .returned (.tuple #[v, .int .i64 (readE D page)]) ∧ Mem w (foots [disk D p pg mb qv]) w' [disk (readD D page) p pg mb qv, lst 5 1 v (readL D page).length (bvs (readL D page))] := by
  cases hd : D.dead with
  | true => exact read_dead hM page hd
  | false =>
    by_cases hh : D.has page
    · obtain ⟨n, rfl⟩ := Int.eq_ofNat_of_zero_le hh.1
      have hn : n < D.pages.length := by have := hh.2; omega
      cases hl : lastAt D.q n with
      | none => exact read_none hM n hd hn hl
      | some i => exact read_some hM n i hd hn hl
    · exact read_out hM page hd hh
end Go.Proofs.Ytmmkgkbjneebkaa

/- The program's disk: close, Arm. -/
namespace Go.Proofs.Ytmmkgkbjneebkaa
set_option linter.unusedSectionVars false
open Go Go.RowKit
set_option linter.unusedVariables false
set_option linter.unusedSimpArgs false
theorem closeD_ok {D : DV} (h : DOk D) : DOk { D with q := [] } := ⟨h.lo, h.hi, h.len, by simp, h.arm, h.ep⟩
theorem armD_ok {D : DV} (h : DOk D) {n : Int} (hn : n ≤ 9223372036854775807) : DOk { D with armed := max n 0 } := ⟨h.lo, h.hi, h.len, h.qs, ⟨by show 0 ≤ max n 0; omega, by show max n 0 ≤ _; omega⟩, h.ep⟩
set_option maxRecDepth 100000 in
set_option maxHeartbeats 4000000 in
theorem close_any {D : DV} {p pg mb : Nat} {qv : Value} {w : World} (hM : Mem w (foots [disk D p pg mb qv]) w [disk D p pg mb qv])  : Calls Try.prog 57 #[.pointer (some ⟨p, 0, none⟩)] w fun e w' => e = .returned (.tuple #[]) ∧ Mem w (foots [disk D p pg mb qv]) w' [disk { D with q := [] } p pg mb (.slice none 0 0)] := by
  obtain ⟨hok, M⟩ := disk_open hM
  clear hM
  go_enter Try.func57, Try.ntmps57
  refine wp_seq_k (fun K1 hK1 => ?_)
  refine wp_region_lit ?_
  refine pl M (y_move (v := .pointer (some ⟨p, 0, none⟩)) rfl rfl rfl) ?_
  simp only [Act.put, zq1, zq2, zq3]
  refine pl M (y_nil rfl rfl rfl) ?_
  simp only [Act.put, zq1, zq2, zq3]
  refine pl M (y_fa (r := 5) rfl rfl rfl Try.underlying76 rfl Try.sizeOf73 rfl) ?_
  simp only [Act.put, zq1, zq2, zq3]
  refine pe rfl (fun K hK => ?_)
  refine e_store M 0 (v := .slice none 0 0) rfl rfl rfl rfl rfl rfl Try.sizeOf73 rfl (show (5 : Nat) < 10 by decide) ?_
  intro w2 (M2 : Mem w _ w2 [blk p 76 ([.int .i64 D.reads, .int .i64 D.writes, .int .i64 D.syncs, .int .i64 (D.q.length : Int), .slice (some ⟨pg, 0, none⟩) D.pages.length D.pages.length, .slice none 0 0, .map (some mb), .int .i64 D.armed, .bool D.dead, .int .i64 D.epoch]), blk pg 127 (pagesC D.pages), lst 129 257 qv D.q.length (qC D.q), mapq mb D.q])
  clear M
  refine hK.out _ _ ?_
  clear hK K
  simp only [Act.put, zq1, zq2, zq3]
  refine wpList_nil ?_
  refine hK1 _ _ ?_
  clear hK1
  refine wp_seq_k (fun K3 hK3 => ?_)
  refine wp_region_lit ?_
  refine pl M2 (y_move (v := .pointer (some ⟨p, 0, none⟩)) rfl rfl rfl) ?_
  simp only [Act.put, zq1, zq2, zq3]
  refine pl M2 (y_nil rfl rfl rfl) ?_
  simp only [Act.put, zq1, zq2, zq3]
  refine pl M2 (y_fa (r := 6) rfl rfl rfl Try.underlying76 rfl Try.sizeOf74 rfl) ?_
  simp only [Act.put, zq1, zq2, zq3]
  refine pl M2 (y_load (v := .map (some mb)) rfl rfl rfl Try.isAgg74 (fun W hW => hW.get 0 rfl) (rfl)) ?_
  simp only [Act.put, zq1, zq2, zq3]
  refine pe rfl (fun K hK => ?_)
  refine e_clear M2 3 rfl Try.underlying74 rfl rfl rfl ?_
  intro w4 (M4 : Mem w _ w4 [blk p 76 ([.int .i64 D.reads, .int .i64 D.writes, .int .i64 D.syncs, .int .i64 (D.q.length : Int), .slice (some ⟨pg, 0, none⟩) D.pages.length D.pages.length, .slice none 0 0, .map (some mb), .int .i64 D.armed, .bool D.dead, .int .i64 D.epoch]), blk pg 127 (pagesC D.pages), lst 129 257 qv D.q.length (qC D.q), mapq mb ([])])
  clear M2
  refine hK.out _ _ ?_
  clear hK K
  simp only [Act.put, zq1, zq2, zq3]
  refine wpList_nil ?_
  refine hK3 _ _ ?_
  clear hK3
  refine wp_region_lit ?_
  refine pl M4 (y_move (v := .pointer (some ⟨p, 0, none⟩)) rfl rfl rfl) ?_
  simp only [Act.put, zq1, zq2, zq3]
  refine pl M4 (y_nil rfl rfl rfl) ?_
  simp only [Act.put, zq1, zq2, zq3]
  refine pl M4 (y_fa (r := 0) rfl rfl rfl Try.underlying76 rfl Try.sizeOf71 rfl) ?_
  simp only [Act.put, zq1, zq2, zq3]
  refine pl M4 (y_fa (r := 3) rfl rfl rfl Try.underlying71 rfl Try.sizeOf3 rfl) ?_
  simp only [Act.put, zq1, zq2, zq3]
  refine pe rfl (fun K hK => ?_)
  refine e_store M4 0 (v := .int .i64 0) rfl rfl rfl rfl rfl rfl Try.sizeOf3 rfl (show (3 : Nat) < 10 by decide) ?_
  intro w5 (M5 : Mem w _ w5 [blk p 76 ([.int .i64 D.reads, .int .i64 D.writes, .int .i64 D.syncs, .int .i64 0, .slice (some ⟨pg, 0, none⟩) D.pages.length D.pages.length, .slice none 0 0, .map (some mb), .int .i64 D.armed, .bool D.dead, .int .i64 D.epoch]), blk pg 127 (pagesC D.pages), lst 129 257 qv D.q.length (qC D.q), mapq mb ([])])
  clear M4
  refine hK.out _ _ ?_
  clear hK K
  simp only [Act.put, zq1, zq2, zq3]
  refine wpList_nil ?_
  try simp only [Exit.inBlock, Exit.then]
  refine bodyPost_end (v := .tuple #[]) (res0 rfl) rfl ?_
  have N := (M5.arr [0, 1, 3] (by decide)).nilst 129 257
  have N2 := N.arr [1, 2, 0, 3] (by decide)
  exact ⟨rfl, disk_close (D := { D with q := [] }) (closeD_ok hok) N2⟩
set_option maxRecDepth 100000 in
set_option maxHeartbeats 4000000 in
theorem arm_any {D : DV} {p pg mb : Nat} {qv : Value} {w : World} (hM : Mem w (foots [disk D p pg mb qv]) w [disk D p pg mb qv]) (n : Int) (hn : n ≤ 9223372036854775807) : Calls Try.prog 17 #[.pointer (some ⟨p, 0, none⟩), .int .i64 n] w fun e w' => e = .returned (.tuple #[]) ∧ Mem w (foots [disk D p pg mb qv]) w' [disk (armD D n) p pg mb qv] := by
  obtain ⟨hok, M⟩ := disk_open hM
  clear hM
  go_enter Try.func17, Try.ntmps17
  refine wp_seq_k (fun K1 hK1 => ?_)
  refine wp_region_lit ?_
  refine pl M (y_move (v := .pointer (some ⟨p, 0, none⟩)) rfl rfl rfl) ?_
  simp only [Act.put, zq1, zq2, zq3]
  refine pl M (y_nil rfl rfl rfl) ?_
  simp only [Act.put, zq1, zq2, zq3]
  refine pl M (y_fa (r := 8) rfl rfl rfl Try.underlying76 rfl Try.sizeOf4 rfl) ?_
  simp only [Act.put, zq1, zq2, zq3]
  rcases Bool.eq_false_or_eq_true D.dead with h2 | h2
  · refine pl M (y_load (v := .bool true) rfl rfl rfl Try.isAgg4 (fun W hW => hW.get 0 rfl) (congrArg (fun b => some (Value.bool b)) h2)) ?_
    simp only [Act.put, zq1, zq2, zq3]
    refine pl M (y_not rfl rfl rfl rfl) ?_
    simp only [Act.put, zq1, zq2, zq3]
    refine wpList_nil ?_
    refine hK1 _ _ ?_
    clear hK1
    refine wp_cond_false rfl ?_
    refine wp_skip ?_
    try simp only [Exit.inBlock, Exit.then]
    refine bodyPost_end (v := .tuple #[]) (res0 rfl) rfl ?_
    have e1 : armD D n = D := if_pos h2
    rw [e1]
    exact ⟨rfl, disk_close hok M⟩
  · refine pl M (y_load (v := .bool false) rfl rfl rfl Try.isAgg4 (fun W hW => hW.get 0 rfl) (congrArg (fun b => some (Value.bool b)) h2)) ?_
    simp only [Act.put, zq1, zq2, zq3]
    refine pl M (y_not rfl rfl rfl rfl) ?_
    simp only [Act.put, zq1, zq2, zq3]
    refine wpList_nil ?_
    refine hK1 _ _ ?_
    clear hK1
    refine wp_cond_true rfl ?_
    refine wp_region_lit ?_
    refine pl M (y_move (v := .pointer (some ⟨p, 0, none⟩)) rfl rfl rfl) ?_
    simp only [Act.put, zq1, zq2, zq3]
    refine pl M (y_move (v := .int .i64 n) rfl rfl rfl) ?_
    simp only [Act.put, zq1, zq2, zq3]
    refine pl M (y_max (r := max n 0) rfl rfl rfl rfl (by split <;> omega)) ?_
    simp only [Act.put, zq1, zq2, zq3]
    refine pl M (y_nil rfl rfl rfl) ?_
    simp only [Act.put, zq1, zq2, zq3]
    refine pl M (y_fa (r := 7) rfl rfl rfl Try.underlying76 rfl Try.sizeOf3 rfl) ?_
    simp only [Act.put, zq1, zq2, zq3]
    refine pe rfl (fun K hK => ?_)
    refine e_store M 0 (v := .int .i64 (max n 0)) rfl rfl rfl rfl rfl rfl Try.sizeOf3 rfl (show (7 : Nat) < 10 by decide) ?_
    intro w3 (M3 : Mem w _ w3 [blk p 76 ([.int .i64 D.reads, .int .i64 D.writes, .int .i64 D.syncs, .int .i64 (D.q.length : Int), .slice (some ⟨pg, 0, none⟩) D.pages.length D.pages.length, qv, .map (some mb), .int .i64 (max n 0), .bool D.dead, .int .i64 D.epoch]), blk pg 127 (pagesC D.pages), lst 129 257 qv D.q.length (qC D.q), mapq mb D.q])
    clear M
    refine hK.out _ _ ?_
    clear hK K
    simp only [Act.put, zq1, zq2, zq3]
    refine wpList_nil ?_
    try simp only [Exit.inBlock, Exit.then]
    refine bodyPost_end (v := .tuple #[]) (res0 rfl) rfl ?_
    have e1 : armD D n = { D with armed := max n 0 } := if_neg (by rw [h2]; decide)
    rw [e1]
    exact ⟨rfl, disk_close (armD_ok hok hn) M3⟩
end Go.Proofs.Ytmmkgkbjneebkaa

/- The program's disk: Write. -/
namespace Go.Proofs.Ytmmkgkbjneebkaa
set_option linter.unusedSectionVars false
open Go Go.RowKit
set_option linter.unusedVariables false
set_option linter.unusedSimpArgs false
theorem zero_write : ∀ w : World, (zeroValue 129).run Try.prog w = .ok (.agg (wC (0, zeroPage)).toArray) w := fun w => by kernel_rfl
theorem fill_write (x : Wr) (h : x.2.length = 256) : Instr.fill (fun i => some (i * 257, 257)) ((Array.range (1 * 257)).map ((Value.agg (wC (0, zeroPage)).toArray).cells[· % (Value.agg (wC (0, zeroPage)).toArray).cells.size]!)) [(0, .agg (wC x).toArray)] = some (wC x).toArray := by
  have e : (Array.range (1 * 257)).map ((Value.agg (wC (0, zeroPage)).toArray).cells[· % (Value.agg (wC (0, zeroPage)).toArray).cells.size]!) = (wC (0, zeroPage)).toArray := by kernel_rfl
  rw [e]
  exact fill_one _ _ _ (by simp [wC, zeroPage_len]) (by simp [wC, h, zeroPage_len])
theorem wC_fill (k : Nat) {z l : List UInt8} (hz : z.length = 256) (hl : l.length = 256) : splice (wC (k, z)) 1 (bvs l) = wC (k, l) := by
  unfold splice wC
  simp [hl, hz]
theorem qC_snoc (q : List Wr) (x : Wr) : qC (q ++ [x]) = qC q ++ wC x := by simp [qC]
theorem size_write (x : Wr) (h : x.2.length = 256) : Box ((Try.prog.info? 129).map (·.size) = some (wC x).length) := size_of_len (n := 257) _ (by simp [wC, h]) (by kernel_rfl)
theorem wC_all (x : Wr) : (wC x).toArray.all (·.oneCell') = true := by
  rw [Array.all_eq_true_iff_forall_mem]; intro v hv; exact wC_one x v (by simpa using hv)
theorem openW_ok {D : DV} (h : DOk D) {k : Nat} {l : List UInt8} (hk : k < D.pages.length) (hl : l.length = 256) : DOk (openW D (k : Int) l) := ⟨h.lo, h.hi, h.len, fun x hx => by
  rcases List.mem_append.1 hx with hx | hx
  · exact h.qs x hx
  · obtain rfl : x = (k, l) := by simpa using hx
    exact ⟨hk, hl⟩, h.arm, h.ep⟩
set_option maxRecDepth 100000 in
set_option maxHeartbeats 4000000 in
theorem write_dead {D : DV} {p pg mb : Nat} {qv : Value} {w : World} (hM : Mem w (foots [disk D p pg mb qv]) w [disk D p pg mb qv]) (page : Int) (ao : Option Addr) (n c : Nat) (l : List UInt8) (hr : Row w ao n l) (hF : ∀ b o, ao = some ⟨b, o, none⟩ → 0 < n → b ∉ foots [disk D p pg mb qv]) (hnm : n ≤ 140737488355328) (hq : D.q.length ≤ 500000000000) (hd : D.dead = true) : Calls Try.prog 83 #[.pointer (some ⟨p, 0, none⟩), .int .i64 page, .slice ao n c] w fun e w' => ∃ qv', e = .returned (.int .i64 (writeE D page l)) ∧ Mem w (foots [disk D p pg mb qv]) w' [disk (writeD D page l) p pg mb qv'] := by
  obtain ⟨hok, M⟩ := disk_open hM
  clear hM
  go_enter Try.func83, Try.ntmps83
  refine wp_seq_k (fun K1 hK1 => ?_)
  refine wp_region_lit ?_
  refine pl M (y_assign (v := .int .i64 0) rfl rfl rfl) ?_
  simp only [Act.put, zq1, zq2, zq3]
  refine wpList_nil ?_
  refine hK1 _ _ ?_
  clear hK1
  refine wp_seq_k (fun K2 hK2 => ?_)
  refine wp_block ?_
  refine wp_seq_k (fun K3 hK3 => ?_)
  refine wp_region_lit ?_
  refine pl M (y_move (v := .pointer (some ⟨p, 0, none⟩)) rfl rfl rfl) ?_
  simp only [Act.put, zq1, zq2, zq3]
  refine pl M (y_nil rfl rfl rfl) ?_
  simp only [Act.put, zq1, zq2, zq3]
  refine pl M (y_fa (r := 8) rfl rfl rfl Try.underlying76 rfl Try.sizeOf4 rfl) ?_
  simp only [Act.put, zq1, zq2, zq3]
  refine pl M (y_load (v := .bool true) rfl rfl rfl Try.isAgg4 (fun W hW => hW.get 0 rfl) (congrArg (fun b => some (Value.bool b)) hd)) ?_
  simp only [Act.put, zq1, zq2, zq3]
  refine pl M (y_assign (v := .bool true) rfl rfl rfl) ?_
  simp only [Act.put, zq1, zq2, zq3]
  refine wpList_nil ?_
  refine hK3 _ _ ?_
  clear hK3
  refine wp_cond_true rfl ?_
  refine wp_seq_k (fun K4 hK4 => ?_)
  refine wp_region_lit ?_
  refine pl M (y_assign (v := .int .i64 2) rfl rfl rfl) ?_
  simp only [Act.put, zq1, zq2, zq3]
  refine wpList_nil ?_
  refine hK4 _ _ ?_
  clear hK4
  refine wp_ret ?_
  try simp only [Exit.inBlock, Exit.then]
  refine bodyPost_ret (v := .int .i64 2) (res1 rfl rfl) rfl ?_
  have e1 : writeE D page l = 2 := if_pos hd
  have e2 : writeD D page l = D := if_pos hd
  rw [e1, e2]
  exact ⟨_, rfl, disk_close hok M⟩
set_option maxRecDepth 100000 in
set_option maxHeartbeats 4000000 in
theorem write_out {D : DV} {p pg mb : Nat} {qv : Value} {w : World} (hM : Mem w (foots [disk D p pg mb qv]) w [disk D p pg mb qv]) (page : Int) (ao : Option Addr) (n c : Nat) (l : List UInt8) (hr : Row w ao n l) (hF : ∀ b o, ao = some ⟨b, o, none⟩ → 0 < n → b ∉ foots [disk D p pg mb qv]) (hnm : n ≤ 140737488355328) (hq : D.q.length ≤ 500000000000) (hd : D.dead = false) (hh : ¬ D.has page) : Calls Try.prog 83 #[.pointer (some ⟨p, 0, none⟩), .int .i64 page, .slice ao n c] w fun e w' => ∃ qv', e = .returned (.int .i64 (writeE D page l)) ∧ Mem w (foots [disk D p pg mb qv]) w' [disk (writeD D page l) p pg mb qv'] := by
  obtain ⟨hok, M⟩ := disk_open hM
  clear hM
  go_enter Try.func83, Try.ntmps83
  refine wp_seq_k (fun K1 hK1 => ?_)
  refine wp_region_lit ?_
  refine pl M (y_assign (v := .int .i64 0) rfl rfl rfl) ?_
  simp only [Act.put, zq1, zq2, zq3]
  refine wpList_nil ?_
  refine hK1 _ _ ?_
  clear hK1
  refine wp_seq_k (fun K2 hK2 => ?_)
  refine wp_block ?_
  refine wp_seq_k (fun K3 hK3 => ?_)
  refine wp_region_lit ?_
  refine pl M (y_move (v := .pointer (some ⟨p, 0, none⟩)) rfl rfl rfl) ?_
  simp only [Act.put, zq1, zq2, zq3]
  refine pl M (y_nil rfl rfl rfl) ?_
  simp only [Act.put, zq1, zq2, zq3]
  refine pl M (y_fa (r := 8) rfl rfl rfl Try.underlying76 rfl Try.sizeOf4 rfl) ?_
  simp only [Act.put, zq1, zq2, zq3]
  refine pl M (y_load (v := .bool false) rfl rfl rfl Try.isAgg4 (fun W hW => hW.get 0 rfl) (congrArg (fun b => some (Value.bool b)) hd)) ?_
  simp only [Act.put, zq1, zq2, zq3]
  refine pl M (y_assign (v := .bool false) rfl rfl rfl) ?_
  simp only [Act.put, zq1, zq2, zq3]
  refine wpList_nil ?_
  refine hK3 _ _ ?_
  clear hK3
  refine wp_cond_false rfl ?_
  refine wp_seq_k (fun K4 hK4 => ?_)
  refine wp_region_lit ?_
  refine pl M (y_move (v := .pointer (some ⟨p, 0, none⟩)) rfl rfl rfl) ?_
  simp only [Act.put, zq1, zq2, zq3]
  refine pl M (y_move (v := .int .i64 page) rfl rfl rfl) ?_
  simp only [Act.put, zq1, zq2, zq3]
  refine pe rfl (fun K hK => ?_)
  refine e_call 93 [.pointer (some ⟨p, 0, none⟩), .int .i64 page] rfl rfl Try.call93 (has_any (Mem.here (L := [disk (D) p pg mb (qv)]) (R := []) (disk_close (D := D) (R := []) hok M)) page) ?_
  rintro e w5 ⟨rfl, H5⟩
  have M5 : Mem w _ w5 [blk p 76 (dC D pg mb qv), blk pg 127 (pagesC D.pages), lst 129 257 qv D.q.length (qC D.q), mapq mb D.q] := (disk_open (Mem.frame (Pre := [disk (D) p pg mb (qv)]) (Post := [disk (D) p pg mb (qv)]) (R := []) (disk_close (D := D) (R := []) hok M) H5)).2
  rw [(decide_eq_false hh)]
  refine ⟨_, rfl, ?_⟩
  refine hK.out _ _ ?_
  clear hK K
  simp only [Act.put, zq1, zq2, zq3]
  refine pl M5 (y_not rfl rfl rfl rfl) ?_
  simp only [Act.put, zq1, zq2, zq3]
  refine pl M5 (y_assign (v := .bool true) rfl rfl rfl) ?_
  simp only [Act.put, zq1, zq2, zq3]
  refine wpList_nil ?_
  refine hK4 _ _ ?_
  clear hK4
  refine wp_cond_true rfl ?_
  refine wp_seq_k (fun K6 hK6 => ?_)
  refine wp_region_lit ?_
  refine pl M5 (y_assign (v := .int .i64 41) rfl rfl rfl) ?_
  simp only [Act.put, zq1, zq2, zq3]
  refine wpList_nil ?_
  refine hK6 _ _ ?_
  clear hK6
  refine wp_ret ?_
  try simp only [Exit.inBlock, Exit.then]
  refine bodyPost_ret (v := .int .i64 41) (res1 rfl rfl) rfl ?_
  have hd' : ¬ D.dead = true := by rw [hd]; decide
  have e1 : writeE D page l = 41 := by unfold writeE; rw [if_neg hd', if_neg hh]
  have e2 : writeD D page l = D := by unfold writeD; rw [if_neg hd', if_neg hh]
  rw [e1, e2]
  exact ⟨_, rfl, disk_close hok M5⟩
set_option maxRecDepth 100000 in
set_option maxHeartbeats 4000000 in
theorem write_size {D : DV} {p pg mb : Nat} {qv : Value} {w : World} (hM : Mem w (foots [disk D p pg mb qv]) w [disk D p pg mb qv]) (page : Int) (ao : Option Addr) (n c : Nat) (l : List UInt8) (hr : Row w ao n l) (hF : ∀ b o, ao = some ⟨b, o, none⟩ → 0 < n → b ∉ foots [disk D p pg mb qv]) (hnm : n ≤ 140737488355328) (hq : D.q.length ≤ 500000000000) (hd : D.dead = false) (hh : D.has page) (hn : n ≠ 256) : Calls Try.prog 83 #[.pointer (some ⟨p, 0, none⟩), .int .i64 page, .slice ao n c] w fun e w' => ∃ qv', e = .returned (.int .i64 (writeE D page l)) ∧ Mem w (foots [disk D p pg mb qv]) w' [disk (writeD D page l) p pg mb qv'] := by
  obtain ⟨hok, M⟩ := disk_open hM
  clear hM
  go_enter Try.func83, Try.ntmps83
  refine wp_seq_k (fun K1 hK1 => ?_)
  refine wp_region_lit ?_
  refine pl M (y_assign (v := .int .i64 0) rfl rfl rfl) ?_
  simp only [Act.put, zq1, zq2, zq3]
  refine wpList_nil ?_
  refine hK1 _ _ ?_
  clear hK1
  refine wp_seq_k (fun K2 hK2 => ?_)
  refine wp_block ?_
  refine wp_seq_k (fun K3 hK3 => ?_)
  refine wp_region_lit ?_
  refine pl M (y_move (v := .pointer (some ⟨p, 0, none⟩)) rfl rfl rfl) ?_
  simp only [Act.put, zq1, zq2, zq3]
  refine pl M (y_nil rfl rfl rfl) ?_
  simp only [Act.put, zq1, zq2, zq3]
  refine pl M (y_fa (r := 8) rfl rfl rfl Try.underlying76 rfl Try.sizeOf4 rfl) ?_
  simp only [Act.put, zq1, zq2, zq3]
  refine pl M (y_load (v := .bool false) rfl rfl rfl Try.isAgg4 (fun W hW => hW.get 0 rfl) (congrArg (fun b => some (Value.bool b)) hd)) ?_
  simp only [Act.put, zq1, zq2, zq3]
  refine pl M (y_assign (v := .bool false) rfl rfl rfl) ?_
  simp only [Act.put, zq1, zq2, zq3]
  refine wpList_nil ?_
  refine hK3 _ _ ?_
  clear hK3
  refine wp_cond_false rfl ?_
  refine wp_seq_k (fun K4 hK4 => ?_)
  refine wp_region_lit ?_
  refine pl M (y_move (v := .pointer (some ⟨p, 0, none⟩)) rfl rfl rfl) ?_
  simp only [Act.put, zq1, zq2, zq3]
  refine pl M (y_move (v := .int .i64 page) rfl rfl rfl) ?_
  simp only [Act.put, zq1, zq2, zq3]
  refine pe rfl (fun K hK => ?_)
  refine e_call 93 [.pointer (some ⟨p, 0, none⟩), .int .i64 page] rfl rfl Try.call93 (has_any (Mem.here (L := [disk (D) p pg mb (qv)]) (R := []) (disk_close (D := D) (R := []) hok M)) page) ?_
  rintro e w5 ⟨rfl, H5⟩
  have M5 : Mem w _ w5 [blk p 76 (dC D pg mb qv), blk pg 127 (pagesC D.pages), lst 129 257 qv D.q.length (qC D.q), mapq mb D.q] := (disk_open (Mem.frame (Pre := [disk (D) p pg mb (qv)]) (Post := [disk (D) p pg mb (qv)]) (R := []) (disk_close (D := D) (R := []) hok M) H5)).2
  rw [(decide_eq_true hh)]
  refine ⟨_, rfl, ?_⟩
  refine hK.out _ _ ?_
  clear hK K
  simp only [Act.put, zq1, zq2, zq3]
  refine pl M5 (y_not rfl rfl rfl rfl) ?_
  simp only [Act.put, zq1, zq2, zq3]
  refine pl M5 (y_assign (v := .bool false) rfl rfl rfl) ?_
  simp only [Act.put, zq1, zq2, zq3]
  refine wpList_nil ?_
  refine hK4 _ _ ?_
  clear hK4
  refine wp_cond_false rfl ?_
  refine wp_seq_k (fun K6 hK6 => ?_)
  refine wp_region_lit ?_
  refine pl M5 (y_move (v := .slice ao n c) rfl rfl rfl) ?_
  simp only [Act.put, zq1, zq2, zq3]
  refine pl M5 (y_len rfl rfl rfl Try.underlying44) ?_
  simp only [Act.put, zq1, zq2, zq3]
  refine pl M5 (y_neq (b := true) rfl rfl rfl rfl (by rw [decide_eq_false (by omega)]; rfl)) ?_
  simp only [Act.put, zq1, zq2, zq3]
  refine pl M5 (y_assign (v := .bool true) rfl rfl rfl) ?_
  simp only [Act.put, zq1, zq2, zq3]
  refine wpList_nil ?_
  refine hK6 _ _ ?_
  clear hK6
  refine wp_cond_true rfl ?_
  refine wp_seq_k (fun K7 hK7 => ?_)
  refine wp_region_lit ?_
  refine pl M5 (y_assign (v := .int .i64 42) rfl rfl rfl) ?_
  simp only [Act.put, zq1, zq2, zq3]
  refine wpList_nil ?_
  refine hK7 _ _ ?_
  clear hK7
  refine wp_ret ?_
  try simp only [Exit.inBlock, Exit.then]
  refine bodyPost_ret (v := .int .i64 42) (res1 rfl rfl) rfl ?_
  have hd' : ¬ D.dead = true := by rw [hd]; decide
  have hl : ¬ l.length = 256 := by rw [hr.1]; exact hn
  have e1 : writeE D page l = 42 := by unfold writeE; rw [if_neg hd', if_pos hh, if_neg hl]
  have e2 : writeD D page l = D := by unfold writeD; rw [if_neg hd', if_pos hh, if_neg hl]
  rw [e1, e2]
  exact ⟨_, rfl, disk_close hok M5⟩
set_option maxRecDepth 100000 in
set_option maxHeartbeats 4000000 in
theorem write_ok {D : DV} {p pg mb : Nat} {qv : Value} {w : World} (hM : Mem w (foots [disk D p pg mb qv]) w [disk D p pg mb qv]) (k : Nat) (ao : Option Addr) (c : Nat) (l : List UInt8) (hr : Row w ao 256 l) (hF : ∀ b o, ao = some ⟨b, o, none⟩ → 0 < 256 → b ∉ foots [disk D p pg mb qv]) (hq : D.q.length ≤ 500000000000) (hd : D.dead = false) (hk : k < D.pages.length) : Calls Try.prog 83 #[.pointer (some ⟨p, 0, none⟩), .int .i64 (k : Int), .slice ao 256 c] w fun e w' => ∃ qv', e = .returned (.int .i64 (writeE D k l)) ∧ Mem w (foots [disk D p pg mb qv]) w' [disk (writeD D k l) p pg mb qv'] := by
  obtain ⟨hok, M⟩ := disk_open hM
  clear hM
  have hd' : ¬ D.dead = true := by rw [hd]; decide
  have hh : D.has k := ⟨by omega, by omega⟩
  have hl : l.length = 256 := hr.1
  have hhi := hok.hi
  have hqn : (D.q ++ [(k, l)]).length = D.q.length + 1 := by simp
  obtain ⟨qa, qc, rfl⟩ := qv_at (M.get 2 rfl)
  go_enter Try.func83, Try.ntmps83
  refine wp_seq_k (fun K1 hK1 => ?_)
  refine wp_region_lit ?_
  refine pl M (y_assign (v := .int .i64 0) rfl rfl rfl) ?_
  simp only [Act.put, zq1, zq2, zq3]
  refine wpList_nil ?_
  refine hK1 _ _ ?_
  clear hK1
  refine wp_seq_k (fun K2 hK2 => ?_)
  refine wp_block ?_
  refine wp_seq_k (fun K3 hK3 => ?_)
  refine wp_region_lit ?_
  refine pl M (y_move (v := .pointer (some ⟨p, 0, none⟩)) rfl rfl rfl) ?_
  simp only [Act.put, zq1, zq2, zq3]
  refine pl M (y_nil rfl rfl rfl) ?_
  simp only [Act.put, zq1, zq2, zq3]
  refine pl M (y_fa (r := 8) rfl rfl rfl Try.underlying76 rfl Try.sizeOf4 rfl) ?_
  simp only [Act.put, zq1, zq2, zq3]
  refine pl M (y_load (v := .bool false) rfl rfl rfl Try.isAgg4 (fun W hW => hW.get 0 rfl) (congrArg (fun b => some (Value.bool b)) hd)) ?_
  simp only [Act.put, zq1, zq2, zq3]
  refine pl M (y_assign (v := .bool false) rfl rfl rfl) ?_
  simp only [Act.put, zq1, zq2, zq3]
  refine wpList_nil ?_
  refine hK3 _ _ ?_
  clear hK3
  refine wp_cond_false rfl ?_
  refine wp_seq_k (fun K4 hK4 => ?_)
  refine wp_region_lit ?_
  refine pl M (y_move (v := .pointer (some ⟨p, 0, none⟩)) rfl rfl rfl) ?_
  simp only [Act.put, zq1, zq2, zq3]
  refine pl M (y_move (v := .int .i64 (k : Int)) rfl rfl rfl) ?_
  simp only [Act.put, zq1, zq2, zq3]
  refine pe rfl (fun K hK => ?_)
  refine e_call 93 [.pointer (some ⟨p, 0, none⟩), .int .i64 (k : Int)] rfl rfl Try.call93 (has_any (Mem.here (L := [disk (D) p pg mb (.slice qa D.q.length qc)]) (R := []) (disk_close (D := D) (R := []) hok M)) (k : Int)) ?_
  rintro e w5 ⟨rfl, H5⟩
  have M5 : Mem w _ w5 [blk p 76 (dC D pg mb (.slice qa D.q.length qc)), blk pg 127 (pagesC D.pages), lst 129 257 (.slice qa D.q.length qc) D.q.length (qC D.q), mapq mb D.q] := (disk_open (Mem.frame (Pre := [disk (D) p pg mb (.slice qa D.q.length qc)]) (Post := [disk (D) p pg mb (.slice qa D.q.length qc)]) (R := []) (disk_close (D := D) (R := []) hok M) H5)).2
  rw [(decide_eq_true hh)]
  refine ⟨_, rfl, ?_⟩
  refine hK.out _ _ ?_
  clear hK K
  simp only [Act.put, zq1, zq2, zq3]
  refine pl M5 (y_not rfl rfl rfl rfl) ?_
  simp only [Act.put, zq1, zq2, zq3]
  refine pl M5 (y_assign (v := .bool false) rfl rfl rfl) ?_
  simp only [Act.put, zq1, zq2, zq3]
  refine wpList_nil ?_
  refine hK4 _ _ ?_
  clear hK4
  refine wp_cond_false rfl ?_
  refine wp_seq_k (fun K6 hK6 => ?_)
  refine wp_region_lit ?_
  refine pl M5 (y_move (v := .slice ao 256 c) rfl rfl rfl) ?_
  simp only [Act.put, zq1, zq2, zq3]
  refine pl M5 (y_len rfl rfl rfl Try.underlying44) ?_
  simp only [Act.put, zq1, zq2, zq3]
  refine pl M5 (y_neq (b := false) rfl rfl rfl rfl (by rw [decide_eq_true (by omega)]; rfl)) ?_
  simp only [Act.put, zq1, zq2, zq3]
  refine pl M5 (y_assign (v := .bool false) rfl rfl rfl) ?_
  simp only [Act.put, zq1, zq2, zq3]
  refine wpList_nil ?_
  refine hK6 _ _ ?_
  clear hK6
  refine wp_cond_false rfl ?_
  refine wp_skip ?_
  refine hK2 _ _ ?_
  clear hK2
  refine wp_seq_k (fun K7 hK7 => ?_)
  refine wp_region_lit ?_
  refine pl M5 (y_move (v := .int .i64 (k : Int)) rfl rfl rfl) ?_
  simp only [Act.put, zq1, zq2, zq3]
  refine pl M5 (y_build (ps := [(0, .tmp 22)]) (pv := [(0, .int .i64 (k : Int))]) (cs := (wC (k, zeroPage))) rfl rfl rfl (by kernel_rfl)) ?_
  simp only [Act.put, zq1, zq2, zq3]
  refine pe rfl (fun K hK => ?_)
  refine e_alloc M5 (wC (0, zeroPage)) rfl zero_write ?_
  intro gw w8 (M8 : Mem w _ w8 [blk gw 129 (wC (0, zeroPage)), blk p 76 (dC D pg mb (.slice qa D.q.length qc)), blk pg 127 (pagesC D.pages), lst 129 257 (.slice qa D.q.length qc) D.q.length (qC D.q), mapq mb D.q])
  clear M5
  refine hK.out _ _ ?_
  clear hK K
  simp only [Act.put, zq1, zq2, zq3]
  refine pe rfl (fun K hK => ?_)
  refine e_storew M8 0 (cs := (wC (k, zeroPage))) rfl rfl rfl rfl (size_write _ zeroPage_len) (wC_all _) rfl (rfl) ?_
  intro w9 (M9 : Mem w _ w9 [blk gw 129 (wC (k, zeroPage)), blk p 76 (dC D pg mb (.slice qa D.q.length qc)), blk pg 127 (pagesC D.pages), lst 129 257 (.slice qa D.q.length qc) D.q.length (qC D.q), mapq mb D.q])
  clear M8
  refine hK.out _ _ ?_
  clear hK K
  simp only [Act.put, zq1, zq2, zq3]
  refine wpList_nil ?_
  refine hK7 _ _ ?_
  clear hK7
  refine wp_seq_k (fun K10 hK10 => ?_)
  refine wp_region_lit ?_
  refine pl M9 (y_fa (r := 1) rfl rfl rfl Try.underlying129 rfl Try.sizeOf127 rfl) ?_
  simp only [Act.put, zq1, zq2, zq3]
  refine pl M9 (y_sla (l := 0) (h := 256) (r := 1) (n' := 256) (c' := 256) rfl rfl rfl rfl rfl Try.underlying127 Try.sizeOf5 (by exact ⟨rfl, rfl⟩) (rfl) (by omega) (by omega)) ?_
  simp only [Act.put, zq1, zq2, zq3]
  refine pl M9 (y_move (v := .slice ao 256 c) rfl rfl rfl) ?_
  simp only [Act.put, zq1, zq2, zq3]
  refine pe rfl (fun K hK => ?_)
  refine e_copy M9 0 (l := l) rfl rfl Try.underlying44 Try.sizeOf5 rfl rfl rfl (by rw [hl]; rfl) ((hl ▸ M9.row hr hF : Row _ ao l.length l)) (by rw [hl]; show 1 + 256 ≤ 257; decide) ?_
  intro w11 M11
  replace M11 : Mem w (foots [disk D p pg mb (.slice qa D.q.length qc)]) w11 [blk gw 129 (wC (k, l)), blk p 76 (dC D pg mb (.slice qa D.q.length qc)), blk pg 127 (pagesC D.pages), lst 129 257 (.slice qa D.q.length qc) D.q.length (qC D.q), mapq mb D.q] := by rw [wC_fill k zeroPage_len hl] at M11; exact M11
  clear M9
  refine hK.out _ _ ?_
  clear hK K
  simp only [Act.put, zq1, zq2, zq3]
  refine wpList_nil ?_
  refine hK10 _ _ ?_
  clear hK10
  refine wp_seq_k (fun K12 hK12 => ?_)
  have M13 : Mem w _ w11.drew [blk gw 129 (wC (k, l)), blk p 76 (dC D pg mb (.slice qa D.q.length qc)), blk pg 127 (pagesC D.pages), lst 129 257 (.slice qa D.q.length qc) D.q.length (qC D.q), mapq mb D.q] := M11.drew
  clear M11
  refine wp_region_tail 10 (by kernel_rfl) (by kernel_rfl) ?_
  simp only [List.take_succ_cons, List.take_zero, List.drop_succ_cons, List.drop_zero]
  refine ps M13 (y_move (v := .pointer (some ⟨p, 0, none⟩)) rfl rfl rfl) ?_
  simp only [Act.put, zq1, zq2, zq3]
  refine ps M13 (y_nil rfl rfl rfl) ?_
  simp only [Act.put, zq1, zq2, zq3]
  refine ps M13 (y_fa (r := 6) rfl rfl rfl Try.underlying76 rfl Try.sizeOf74 rfl) ?_
  simp only [Act.put, zq1, zq2, zq3]
  refine ps M13 (y_load (v := .map (some mb)) rfl rfl rfl Try.isAgg74 (fun W hW => hW.get 1 rfl) (rfl)) ?_
  simp only [Act.put, zq1, zq2, zq3]
  refine ps M13 (y_move (v := .int .i64 (k : Int)) rfl rfl rfl) ?_
  simp only [Act.put, zq1, zq2, zq3]
  refine ps M13 (y_move (v := .pointer (some ⟨p, 0, none⟩)) rfl rfl rfl) ?_
  simp only [Act.put, zq1, zq2, zq3]
  refine ps M13 (y_nil rfl rfl rfl) ?_
  simp only [Act.put, zq1, zq2, zq3]
  refine ps M13 (y_fa (r := 5) rfl rfl rfl Try.underlying76 rfl Try.sizeOf73 rfl) ?_
  simp only [Act.put, zq1, zq2, zq3]
  refine ps M13 (y_load (v := .slice qa D.q.length qc) rfl rfl rfl Try.isAgg73 (fun W hW => hW.get 1 rfl) (rfl)) ?_
  simp only [Act.put, zq1, zq2, zq3]
  refine ps M13 (y_len rfl rfl rfl Try.underlying73) ?_
  simp only [Act.put, zq1, zq2, zq3]
  refine wpStill_nil ?_
  refine pe rfl (fun K hK => ?_)
  refine e_mapset M13 4 rfl Try.underlying3 Try.underlying3 Try.underlying74 (p := k) rfl rfl rfl rfl rfl (rfl) (rfl) (by omega) (by omega) (l) ?_
  intro w14 (M14 : Mem w _ w14 [blk gw 129 (wC (k, l)), blk p 76 (dC D pg mb (.slice qa D.q.length qc)), blk pg 127 (pagesC D.pages), lst 129 257 (.slice qa D.q.length qc) D.q.length (qC D.q), mapq mb (D.q ++ [(k, l)])])
  clear M13
  refine hK.out _ _ ?_
  clear hK K
  simp only [Act.put, zq1, zq2, zq3]
  refine wpList_nil ?_
  refine hK12 _ _ ?_
  clear hK12
  refine wp_seq_k (fun K15 hK15 => ?_)
  have M16 := M14.drew
  refine held_begin (fun W => Mem w (foots [disk D p pg mb (.slice qa D.q.length qc)]) W [blk gw 129 (wC (k, l))]) (by kernel_rfl) (M16.arr [0] (by decide)) (fun hS => ?_)
  refine held_take 0 _ rfl (by kernel_rfl) (by kernel_rfl) (by kernel_rfl) (y_move (v := .pointer (some ⟨p, 0, none⟩)) rfl rfl rfl) hS ?_
  simp only [Act.put, zq1, zq2, zq3]
  refine held_take 1 _ rfl (by kernel_rfl) (by kernel_rfl) (by kernel_rfl) (y_move (v := .pointer (some ⟨p, 0, none⟩)) rfl rfl rfl) hS ?_
  simp only [Act.put, zq1, zq2, zq3]
  refine held_take 2 _ rfl (by kernel_rfl) (by kernel_rfl) (by kernel_rfl) (y_nil rfl rfl rfl) hS ?_
  simp only [Act.put, zq1, zq2, zq3]
  refine held_take 3 _ rfl (by kernel_rfl) (by kernel_rfl) (by kernel_rfl) (y_fa (r := 5) rfl rfl rfl Try.underlying76 rfl Try.sizeOf73 rfl) hS ?_
  simp only [Act.put, zq1, zq2, zq3]
  refine held_take 5 _ rfl (by kernel_rfl) (by kernel_rfl) (by kernel_rfl) (y_loadb (cs := (wC (k, l))) rfl rfl rfl Try.underlying129 rfl (size_write _ hl) (fun W hW => hW.get 0 rfl) (List.take_of_length_le (Nat.le_refl _))) hS ?_
  simp only [Act.put, zq1, zq2, zq3]
  refine held_step2 4 6 (by kernel_rfl) rfl rfl (by rfl) (by rfl) (fun K hK => ?_) (fun K hK => ?_)
  · refine e_yield (ops := #[]) M16 (y_load (v := .slice qa D.q.length qc) rfl rfl rfl Try.isAgg73 (fun W hW => hW.get 1 rfl) (rfl)) rfl ?_
    refine hK.out _ _ (M16.arr [0] (by decide)) (fun hS => ?_)
    clear hK K
    simp only [Act.put, zq1, zq2, zq3]
    refine held_step 6 (by kernel_rfl) rfl (by rfl) (fun K hK => ?_)
    refine e_bslice M16 (wC (k, l)) (pv := [(0, .agg ((wC (k, l))).toArray)]) rfl rfl Try.underlying73 Try.sizeOf129 zero_write (by decide) (fill_write (k, l) hl) ?_
    intro g17 w18 (M18 : Mem w _ w18 [blk g17 129 (wC (k, l)), blk gw 129 (wC (k, l)), blk p 76 (dC D pg mb (.slice qa D.q.length qc)), blk pg 127 (pagesC D.pages), lst 129 257 (.slice qa D.q.length qc) D.q.length (qC D.q), mapq mb (D.q ++ [(k, l)])])
    clear M16
    refine hK.out _ _ (M18.arr [1] (by decide)) (fun hS => ?_)
    clear hK K
    simp only [Act.put, zq1, zq2, zq3]
    refine held_step 7 (by kernel_rfl) rfl (by rfl) (fun K hK => ?_)
    refine e_append M18 4 writesT (by decide) (news := wC (k, l)) rfl rfl rfl rfl (by simp [wC, hl]) (by intro h; cases h) (fun ad e j u hj => by cases e; rw [Addr_add, Nat.zero_add]; exact cell_of_blk (M18.get 0 rfl) hj) (wC_one _) (⟨by unfold maxLen; omega, by omega⟩) ?_
    intro v19 w19 M19
    replace M19 : Mem w (foots [disk D p pg mb (.slice qa D.q.length qc)]) w19 [blk g17 129 (wC (k, l)), blk gw 129 (wC (k, l)), blk p 76 (dC D pg mb (.slice qa D.q.length qc)), blk pg 127 (pagesC D.pages), lst 129 257 v19 ((D.q ++ [(k, l)]).length) (qC (D.q ++ [(k, l)])), mapq mb (D.q ++ [(k, l)])] := by rw [← qC_snoc, ← hqn] at M19; exact M19
    clear M18
    obtain ⟨a19, c19, rfl⟩ := qv_at (M19.get 4 rfl)
    refine hK.out _ _ (M19.arr [1] (by decide)) (fun hS => ?_)
    clear hK K
    simp only [Act.put, zq1, zq2, zq3]
    refine held_take 8 _ rfl (by kernel_rfl) (by kernel_rfl) (by kernel_rfl) (y_nil rfl rfl rfl) hS ?_
    simp only [Act.put, zq1, zq2, zq3]
    refine held_take 9 _ rfl (by kernel_rfl) (by kernel_rfl) (by kernel_rfl) (y_fa (r := 5) rfl rfl rfl Try.underlying76 rfl Try.sizeOf73 rfl) hS ?_
    simp only [Act.put, zq1, zq2, zq3]
    refine held_step 10 (by kernel_rfl) rfl (by rfl) (fun K hK => ?_)
    refine e_store M19 2 (v := .slice a19 ((D.q ++ [(k, l)]).length) c19) rfl rfl rfl rfl rfl rfl Try.sizeOf73 rfl (show (5 : Nat) < 10 by decide) ?_
    intro w20 (M20 : Mem w _ w20 [blk g17 129 (wC (k, l)), blk gw 129 (wC (k, l)), blk p 76 ([.int .i64 D.reads, .int .i64 D.writes, .int .i64 D.syncs, .int .i64 (D.q.length : Int), .slice (some ⟨pg, 0, none⟩) D.pages.length D.pages.length, .slice a19 ((D.q ++ [(k, l)]).length) c19, .map (some mb), .int .i64 D.armed, .bool D.dead, .int .i64 D.epoch]), blk pg 127 (pagesC D.pages), lst 129 257 (.slice a19 ((D.q ++ [(k, l)]).length) c19) ((D.q ++ [(k, l)]).length) (qC (D.q ++ [(k, l)])), mapq mb (D.q ++ [(k, l)])])
    clear M19
    refine hK.out _ _ (M20.arr [1] (by decide)) (fun hS => ?_)
    clear hK K
    simp only [Act.put, zq1, zq2, zq3]
    refine held_done (by kernel_rfl) ?_ _
    refine hK15 _ _ ?_
    clear hK15
    refine wp_seq_k (fun K21 hK21 => ?_)
    refine wp_region_lit ?_
    refine pl M20 (y_move (v := .pointer (some ⟨p, 0, none⟩)) rfl rfl rfl) ?_
    simp only [Act.put, zq1, zq2, zq3]
    refine pl M20 (y_nil rfl rfl rfl) ?_
    simp only [Act.put, zq1, zq2, zq3]
    refine pl M20 (y_fa (r := 0) rfl rfl rfl Try.underlying76 rfl Try.sizeOf71 rfl) ?_
    simp only [Act.put, zq1, zq2, zq3]
    refine pl M20 (y_fa (r := 1) rfl rfl rfl Try.underlying71 rfl Try.sizeOf3 rfl) ?_
    simp only [Act.put, zq1, zq2, zq3]
    refine pl M20 (y_load (v := .int .i64 D.writes) rfl rfl rfl Try.isAgg3 (fun W hW => hW.get 2 rfl) (rfl)) ?_
    simp only [Act.put, zq1, zq2, zq3]
    refine pl M20 (y_addw rfl rfl rfl rfl) ?_
    simp only [Act.put, zq1, zq2, zq3]
    refine pl M20 (y_nil rfl rfl rfl) ?_
    simp only [Act.put, zq1, zq2, zq3]
    refine pl M20 (y_fa (r := 0) rfl rfl rfl Try.underlying76 rfl Try.sizeOf71 rfl) ?_
    simp only [Act.put, zq1, zq2, zq3]
    refine pl M20 (y_fa (r := 1) rfl rfl rfl Try.underlying71 rfl Try.sizeOf3 rfl) ?_
    simp only [Act.put, zq1, zq2, zq3]
    refine pe rfl (fun K hK => ?_)
    refine e_store M20 2 (v := .int .i64 (wrap64 (D.writes + 1))) rfl rfl rfl rfl rfl rfl Try.sizeOf3 rfl (show (1 : Nat) < 10 by decide) ?_
    intro w22 (M22 : Mem w _ w22 [blk g17 129 (wC (k, l)), blk gw 129 (wC (k, l)), blk p 76 ([.int .i64 D.reads, .int .i64 (wrap64 (D.writes + 1)), .int .i64 D.syncs, .int .i64 (D.q.length : Int), .slice (some ⟨pg, 0, none⟩) D.pages.length D.pages.length, .slice a19 ((D.q ++ [(k, l)]).length) c19, .map (some mb), .int .i64 D.armed, .bool D.dead, .int .i64 D.epoch]), blk pg 127 (pagesC D.pages), lst 129 257 (.slice a19 ((D.q ++ [(k, l)]).length) c19) ((D.q ++ [(k, l)]).length) (qC (D.q ++ [(k, l)])), mapq mb (D.q ++ [(k, l)])])
    clear M20
    refine hK.out _ _ ?_
    clear hK K
    simp only [Act.put, zq1, zq2, zq3]
    refine wpList_nil ?_
    refine hK21 _ _ ?_
    clear hK21
    refine wp_seq_k (fun K23 hK23 => ?_)
    refine wp_region_lit ?_
    refine pl M22 (y_move (v := .pointer (some ⟨p, 0, none⟩)) rfl rfl rfl) ?_
    simp only [Act.put, zq1, zq2, zq3]
    refine pl M22 (y_nil rfl rfl rfl) ?_
    simp only [Act.put, zq1, zq2, zq3]
    refine pl M22 (y_fa (r := 0) rfl rfl rfl Try.underlying76 rfl Try.sizeOf71 rfl) ?_
    simp only [Act.put, zq1, zq2, zq3]
    refine pl M22 (y_fa (r := 3) rfl rfl rfl Try.underlying71 rfl Try.sizeOf3 rfl) ?_
    simp only [Act.put, zq1, zq2, zq3]
    refine pl M22 (y_load (v := .int .i64 (D.q.length : Int)) rfl rfl rfl Try.isAgg3 (fun W hW => hW.get 2 rfl) (rfl)) ?_
    simp only [Act.put, zq1, zq2, zq3]
    refine pl M22 (y_add (r := ((D.q ++ [(k, l)]).length : Int)) rfl rfl rfl rfl (by omega) (by omega)) ?_
    simp only [Act.put, zq1, zq2, zq3]
    refine pl M22 (y_nil rfl rfl rfl) ?_
    simp only [Act.put, zq1, zq2, zq3]
    refine pl M22 (y_fa (r := 0) rfl rfl rfl Try.underlying76 rfl Try.sizeOf71 rfl) ?_
    simp only [Act.put, zq1, zq2, zq3]
    refine pl M22 (y_fa (r := 3) rfl rfl rfl Try.underlying71 rfl Try.sizeOf3 rfl) ?_
    simp only [Act.put, zq1, zq2, zq3]
    refine pe rfl (fun K hK => ?_)
    refine e_store M22 2 (v := .int .i64 ((D.q ++ [(k, l)]).length : Int)) rfl rfl rfl rfl rfl rfl Try.sizeOf3 rfl (show (3 : Nat) < 10 by decide) ?_
    intro w24 (M24 : Mem w _ w24 [blk g17 129 (wC (k, l)), blk gw 129 (wC (k, l)), blk p 76 ([.int .i64 D.reads, .int .i64 (wrap64 (D.writes + 1)), .int .i64 D.syncs, .int .i64 ((D.q ++ [(k, l)]).length : Int), .slice (some ⟨pg, 0, none⟩) D.pages.length D.pages.length, .slice a19 ((D.q ++ [(k, l)]).length) c19, .map (some mb), .int .i64 D.armed, .bool D.dead, .int .i64 D.epoch]), blk pg 127 (pagesC D.pages), lst 129 257 (.slice a19 ((D.q ++ [(k, l)]).length) c19) ((D.q ++ [(k, l)]).length) (qC (D.q ++ [(k, l)])), mapq mb (D.q ++ [(k, l)])])
    clear M22
    refine hK.out _ _ ?_
    clear hK K
    simp only [Act.put, zq1, zq2, zq3]
    refine wpList_nil ?_
    refine hK23 _ _ ?_
    clear hK23
    refine wp_seq_k (fun K25 hK25 => ?_)
    refine wp_region_lit ?_
    refine pl M24 (y_move (v := .pointer (some ⟨p, 0, none⟩)) rfl rfl rfl) ?_
    simp only [Act.put, zq1, zq2, zq3]
    have M26 : Mem w _ w24 [blk p 76 ([.int .i64 D.reads, .int .i64 (wrap64 (D.writes + 1)), .int .i64 D.syncs, .int .i64 ((D.q ++ [(k, l)]).length : Int), .slice (some ⟨pg, 0, none⟩) D.pages.length D.pages.length, .slice a19 ((D.q ++ [(k, l)]).length) c19, .map (some mb), .int .i64 D.armed, .bool D.dead, .int .i64 D.epoch]), blk pg 127 (pagesC D.pages), lst 129 257 (.slice a19 ((D.q ++ [(k, l)]).length) c19) ((D.q ++ [(k, l)]).length) (qC (D.q ++ [(k, l)])), mapq mb (D.q ++ [(k, l)]), blk g17 129 (wC (k, l)), blk gw 129 (wC (k, l))] := M24.arr [2, 3, 4, 5, 0, 1] (by decide)
    clear M24
    refine pe rfl (fun K hK => ?_)
    refine e_call 96 [.pointer (some ⟨p, 0, none⟩)] rfl rfl Try.call96 (act_any (Mem.here (L := [disk (openW D (k : Int) l) p pg mb (.slice a19 ((D.q ++ [(k, l)]).length) c19)]) (R := [blk g17 129 (wC (k, l)), blk gw 129 (wC (k, l))]) (disk_close (D := openW D (k : Int) l) (R := [blk g17 129 (wC (k, l)), blk gw 129 (wC (k, l))]) (openW_ok hok hk hl) M26)) ) ?_
    rintro e w27 ⟨rfl, H27⟩
    have M27 : Mem w _ w27 [disk (actD (openW D (k : Int) l)) p pg mb (.slice a19 ((D.q ++ [(k, l)]).length) c19), blk g17 129 (wC (k, l)), blk gw 129 (wC (k, l))] := (Mem.frame (Pre := [disk (openW D (k : Int) l) p pg mb (.slice a19 ((D.q ++ [(k, l)]).length) c19)]) (Post := [disk (actD (openW D (k : Int) l)) p pg mb (.slice a19 ((D.q ++ [(k, l)]).length) c19)]) (R := [blk g17 129 (wC (k, l)), blk gw 129 (wC (k, l))]) (disk_close (D := openW D (k : Int) l) (R := [blk g17 129 (wC (k, l)), blk gw 129 (wC (k, l))]) (openW_ok hok hk hl) M26) H27)
    refine ⟨_, rfl, ?_⟩
    refine hK.out _ _ ?_
    clear hK K
    simp only [Act.put, zq1, zq2, zq3]
    refine pl M27 (y_assign (v := .int .i64 (actE (openW D (k : Int) l))) rfl rfl rfl) ?_
    simp only [Act.put, zq1, zq2, zq3]
    refine wpList_nil ?_
    refine hK25 _ _ ?_
    clear hK25
    refine wp_ret ?_
    try simp only [Exit.inBlock, Exit.then]
    refine bodyPost_ret (v := .int .i64 (actE (openW D (k : Int) l))) (res1 rfl rfl) rfl ?_
    have e1 : writeE D k l = actE (openW D k l) := by unfold writeE; rw [if_neg hd', if_pos hh, if_pos hl]; rfl
    have e2 : writeD D k l = actD (openW D k l) := by unfold writeD; rw [if_neg hd', if_pos hh, if_pos hl]
    rw [e1, e2]
    exact ⟨_, rfl, M27.arr [0] (by decide)⟩
  · refine e_bslice M16 (wC (k, l)) (pv := [(0, .agg ((wC (k, l))).toArray)]) rfl rfl Try.underlying73 Try.sizeOf129 zero_write (by decide) (fill_write (k, l) hl) ?_
    intro g28 w29 (M29 : Mem w _ w29 [blk g28 129 (wC (k, l)), blk gw 129 (wC (k, l)), blk p 76 (dC D pg mb (.slice qa D.q.length qc)), blk pg 127 (pagesC D.pages), lst 129 257 (.slice qa D.q.length qc) D.q.length (qC D.q), mapq mb (D.q ++ [(k, l)])])
    clear M16
    refine hK.out _ _ (M29.arr [1] (by decide)) (fun hS => ?_)
    clear hK K
    simp only [Act.put, zq1, zq2, zq3]
    refine held_step 4 (by kernel_rfl) rfl (by rfl) (fun K hK => ?_)
    refine e_yield (ops := #[]) M29 (y_load (v := .slice qa D.q.length qc) rfl rfl rfl Try.isAgg73 (fun W hW => hW.get 2 rfl) (rfl)) rfl ?_
    refine hK.out _ _ (M29.arr [1] (by decide)) (fun hS => ?_)
    clear hK K
    simp only [Act.put, zq1, zq2, zq3]
    refine held_step 7 (by kernel_rfl) rfl (by rfl) (fun K hK => ?_)
    refine e_append M29 4 writesT (by decide) (news := wC (k, l)) rfl rfl rfl rfl (by simp [wC, hl]) (by intro h; cases h) (fun ad e j u hj => by cases e; rw [Addr_add, Nat.zero_add]; exact cell_of_blk (M29.get 0 rfl) hj) (wC_one _) (⟨by unfold maxLen; omega, by omega⟩) ?_
    intro v30 w30 M30
    replace M30 : Mem w (foots [disk D p pg mb (.slice qa D.q.length qc)]) w30 [blk g28 129 (wC (k, l)), blk gw 129 (wC (k, l)), blk p 76 (dC D pg mb (.slice qa D.q.length qc)), blk pg 127 (pagesC D.pages), lst 129 257 v30 ((D.q ++ [(k, l)]).length) (qC (D.q ++ [(k, l)])), mapq mb (D.q ++ [(k, l)])] := by rw [← qC_snoc, ← hqn] at M30; exact M30
    clear M29
    obtain ⟨a30, c30, rfl⟩ := qv_at (M30.get 4 rfl)
    refine hK.out _ _ (M30.arr [1] (by decide)) (fun hS => ?_)
    clear hK K
    simp only [Act.put, zq1, zq2, zq3]
    refine held_take 8 _ rfl (by kernel_rfl) (by kernel_rfl) (by kernel_rfl) (y_nil rfl rfl rfl) hS ?_
    simp only [Act.put, zq1, zq2, zq3]
    refine held_take 9 _ rfl (by kernel_rfl) (by kernel_rfl) (by kernel_rfl) (y_fa (r := 5) rfl rfl rfl Try.underlying76 rfl Try.sizeOf73 rfl) hS ?_
    simp only [Act.put, zq1, zq2, zq3]
    refine held_step 10 (by kernel_rfl) rfl (by rfl) (fun K hK => ?_)
    refine e_store M30 2 (v := .slice a30 ((D.q ++ [(k, l)]).length) c30) rfl rfl rfl rfl rfl rfl Try.sizeOf73 rfl (show (5 : Nat) < 10 by decide) ?_
    intro w31 (M31 : Mem w _ w31 [blk g28 129 (wC (k, l)), blk gw 129 (wC (k, l)), blk p 76 ([.int .i64 D.reads, .int .i64 D.writes, .int .i64 D.syncs, .int .i64 (D.q.length : Int), .slice (some ⟨pg, 0, none⟩) D.pages.length D.pages.length, .slice a30 ((D.q ++ [(k, l)]).length) c30, .map (some mb), .int .i64 D.armed, .bool D.dead, .int .i64 D.epoch]), blk pg 127 (pagesC D.pages), lst 129 257 (.slice a30 ((D.q ++ [(k, l)]).length) c30) ((D.q ++ [(k, l)]).length) (qC (D.q ++ [(k, l)])), mapq mb (D.q ++ [(k, l)])])
    clear M30
    refine hK.out _ _ (M31.arr [1] (by decide)) (fun hS => ?_)
    clear hK K
    simp only [Act.put, zq1, zq2, zq3]
    refine held_done (by kernel_rfl) ?_ _
    refine hK15 _ _ ?_
    clear hK15
    refine wp_seq_k (fun K32 hK32 => ?_)
    refine wp_region_lit ?_
    refine pl M31 (y_move (v := .pointer (some ⟨p, 0, none⟩)) rfl rfl rfl) ?_
    simp only [Act.put, zq1, zq2, zq3]
    refine pl M31 (y_nil rfl rfl rfl) ?_
    simp only [Act.put, zq1, zq2, zq3]
    refine pl M31 (y_fa (r := 0) rfl rfl rfl Try.underlying76 rfl Try.sizeOf71 rfl) ?_
    simp only [Act.put, zq1, zq2, zq3]
    refine pl M31 (y_fa (r := 1) rfl rfl rfl Try.underlying71 rfl Try.sizeOf3 rfl) ?_
    simp only [Act.put, zq1, zq2, zq3]
    refine pl M31 (y_load (v := .int .i64 D.writes) rfl rfl rfl Try.isAgg3 (fun W hW => hW.get 2 rfl) (rfl)) ?_
    simp only [Act.put, zq1, zq2, zq3]
    refine pl M31 (y_addw rfl rfl rfl rfl) ?_
    simp only [Act.put, zq1, zq2, zq3]
    refine pl M31 (y_nil rfl rfl rfl) ?_
    simp only [Act.put, zq1, zq2, zq3]
    refine pl M31 (y_fa (r := 0) rfl rfl rfl Try.underlying76 rfl Try.sizeOf71 rfl) ?_
    simp only [Act.put, zq1, zq2, zq3]
    refine pl M31 (y_fa (r := 1) rfl rfl rfl Try.underlying71 rfl Try.sizeOf3 rfl) ?_
    simp only [Act.put, zq1, zq2, zq3]
    refine pe rfl (fun K hK => ?_)
    refine e_store M31 2 (v := .int .i64 (wrap64 (D.writes + 1))) rfl rfl rfl rfl rfl rfl Try.sizeOf3 rfl (show (1 : Nat) < 10 by decide) ?_
    intro w33 (M33 : Mem w _ w33 [blk g28 129 (wC (k, l)), blk gw 129 (wC (k, l)), blk p 76 ([.int .i64 D.reads, .int .i64 (wrap64 (D.writes + 1)), .int .i64 D.syncs, .int .i64 (D.q.length : Int), .slice (some ⟨pg, 0, none⟩) D.pages.length D.pages.length, .slice a30 ((D.q ++ [(k, l)]).length) c30, .map (some mb), .int .i64 D.armed, .bool D.dead, .int .i64 D.epoch]), blk pg 127 (pagesC D.pages), lst 129 257 (.slice a30 ((D.q ++ [(k, l)]).length) c30) ((D.q ++ [(k, l)]).length) (qC (D.q ++ [(k, l)])), mapq mb (D.q ++ [(k, l)])])
    clear M31
    refine hK.out _ _ ?_
    clear hK K
    simp only [Act.put, zq1, zq2, zq3]
    refine wpList_nil ?_
    refine hK32 _ _ ?_
    clear hK32
    refine wp_seq_k (fun K34 hK34 => ?_)
    refine wp_region_lit ?_
    refine pl M33 (y_move (v := .pointer (some ⟨p, 0, none⟩)) rfl rfl rfl) ?_
    simp only [Act.put, zq1, zq2, zq3]
    refine pl M33 (y_nil rfl rfl rfl) ?_
    simp only [Act.put, zq1, zq2, zq3]
    refine pl M33 (y_fa (r := 0) rfl rfl rfl Try.underlying76 rfl Try.sizeOf71 rfl) ?_
    simp only [Act.put, zq1, zq2, zq3]
    refine pl M33 (y_fa (r := 3) rfl rfl rfl Try.underlying71 rfl Try.sizeOf3 rfl) ?_
    simp only [Act.put, zq1, zq2, zq3]
    refine pl M33 (y_load (v := .int .i64 (D.q.length : Int)) rfl rfl rfl Try.isAgg3 (fun W hW => hW.get 2 rfl) (rfl)) ?_
    simp only [Act.put, zq1, zq2, zq3]
    refine pl M33 (y_add (r := ((D.q ++ [(k, l)]).length : Int)) rfl rfl rfl rfl (by omega) (by omega)) ?_
    simp only [Act.put, zq1, zq2, zq3]
    refine pl M33 (y_nil rfl rfl rfl) ?_
    simp only [Act.put, zq1, zq2, zq3]
    refine pl M33 (y_fa (r := 0) rfl rfl rfl Try.underlying76 rfl Try.sizeOf71 rfl) ?_
    simp only [Act.put, zq1, zq2, zq3]
    refine pl M33 (y_fa (r := 3) rfl rfl rfl Try.underlying71 rfl Try.sizeOf3 rfl) ?_
    simp only [Act.put, zq1, zq2, zq3]
    refine pe rfl (fun K hK => ?_)
    refine e_store M33 2 (v := .int .i64 ((D.q ++ [(k, l)]).length : Int)) rfl rfl rfl rfl rfl rfl Try.sizeOf3 rfl (show (3 : Nat) < 10 by decide) ?_
    intro w35 (M35 : Mem w _ w35 [blk g28 129 (wC (k, l)), blk gw 129 (wC (k, l)), blk p 76 ([.int .i64 D.reads, .int .i64 (wrap64 (D.writes + 1)), .int .i64 D.syncs, .int .i64 ((D.q ++ [(k, l)]).length : Int), .slice (some ⟨pg, 0, none⟩) D.pages.length D.pages.length, .slice a30 ((D.q ++ [(k, l)]).length) c30, .map (some mb), .int .i64 D.armed, .bool D.dead, .int .i64 D.epoch]), blk pg 127 (pagesC D.pages), lst 129 257 (.slice a30 ((D.q ++ [(k, l)]).length) c30) ((D.q ++ [(k, l)]).length) (qC (D.q ++ [(k, l)])), mapq mb (D.q ++ [(k, l)])])
    clear M33
    refine hK.out _ _ ?_
    clear hK K
    simp only [Act.put, zq1, zq2, zq3]
    refine wpList_nil ?_
    refine hK34 _ _ ?_
    clear hK34
    refine wp_seq_k (fun K36 hK36 => ?_)
    refine wp_region_lit ?_
    refine pl M35 (y_move (v := .pointer (some ⟨p, 0, none⟩)) rfl rfl rfl) ?_
    simp only [Act.put, zq1, zq2, zq3]
    have M37 : Mem w _ w35 [blk p 76 ([.int .i64 D.reads, .int .i64 (wrap64 (D.writes + 1)), .int .i64 D.syncs, .int .i64 ((D.q ++ [(k, l)]).length : Int), .slice (some ⟨pg, 0, none⟩) D.pages.length D.pages.length, .slice a30 ((D.q ++ [(k, l)]).length) c30, .map (some mb), .int .i64 D.armed, .bool D.dead, .int .i64 D.epoch]), blk pg 127 (pagesC D.pages), lst 129 257 (.slice a30 ((D.q ++ [(k, l)]).length) c30) ((D.q ++ [(k, l)]).length) (qC (D.q ++ [(k, l)])), mapq mb (D.q ++ [(k, l)]), blk g28 129 (wC (k, l)), blk gw 129 (wC (k, l))] := M35.arr [2, 3, 4, 5, 0, 1] (by decide)
    clear M35
    refine pe rfl (fun K hK => ?_)
    refine e_call 96 [.pointer (some ⟨p, 0, none⟩)] rfl rfl Try.call96 (act_any (Mem.here (L := [disk (openW D (k : Int) l) p pg mb (.slice a30 ((D.q ++ [(k, l)]).length) c30)]) (R := [blk g28 129 (wC (k, l)), blk gw 129 (wC (k, l))]) (disk_close (D := openW D (k : Int) l) (R := [blk g28 129 (wC (k, l)), blk gw 129 (wC (k, l))]) (openW_ok hok hk hl) M37)) ) ?_
    rintro e w38 ⟨rfl, H38⟩
    have M38 : Mem w _ w38 [disk (actD (openW D (k : Int) l)) p pg mb (.slice a30 ((D.q ++ [(k, l)]).length) c30), blk g28 129 (wC (k, l)), blk gw 129 (wC (k, l))] := (Mem.frame (Pre := [disk (openW D (k : Int) l) p pg mb (.slice a30 ((D.q ++ [(k, l)]).length) c30)]) (Post := [disk (actD (openW D (k : Int) l)) p pg mb (.slice a30 ((D.q ++ [(k, l)]).length) c30)]) (R := [blk g28 129 (wC (k, l)), blk gw 129 (wC (k, l))]) (disk_close (D := openW D (k : Int) l) (R := [blk g28 129 (wC (k, l)), blk gw 129 (wC (k, l))]) (openW_ok hok hk hl) M37) H38)
    refine ⟨_, rfl, ?_⟩
    refine hK.out _ _ ?_
    clear hK K
    simp only [Act.put, zq1, zq2, zq3]
    refine pl M38 (y_assign (v := .int .i64 (actE (openW D (k : Int) l))) rfl rfl rfl) ?_
    simp only [Act.put, zq1, zq2, zq3]
    refine wpList_nil ?_
    refine hK36 _ _ ?_
    clear hK36
    refine wp_ret ?_
    try simp only [Exit.inBlock, Exit.then]
    refine bodyPost_ret (v := .int .i64 (actE (openW D (k : Int) l))) (res1 rfl rfl) rfl ?_
    have e1 : writeE D k l = actE (openW D k l) := by unfold writeE; rw [if_neg hd', if_pos hh, if_pos hl]; rfl
    have e2 : writeD D k l = actD (openW D k l) := by unfold writeD; rw [if_neg hd', if_pos hh, if_pos hl]
    rw [e1, e2]
    exact ⟨_, rfl, M38.arr [0] (by decide)⟩
theorem write_any {D : DV} {p pg mb : Nat} {qv : Value} {w : World} (hM : Mem w (foots [disk D p pg mb qv]) w [disk D p pg mb qv]) (page : Int) (ao : Option Addr) (n c : Nat) (l : List UInt8) (hr : Row w ao n l) (hF : ∀ b o, ao = some ⟨b, o, none⟩ → 0 < n → b ∉ foots [disk D p pg mb qv]) (hnm : n ≤ 140737488355328) (hq : D.q.length ≤ 500000000000) : Calls Try.prog 83 #[.pointer (some ⟨p, 0, none⟩), .int .i64 page, .slice ao n c] w fun e w' => ∃ qv', e = .returned (.int .i64 (writeE D page l)) ∧ Mem w (foots [disk D p pg mb qv]) w' [disk (writeD D page l) p pg mb qv'] := by
  cases hd : D.dead with
  | true => exact write_dead hM page ao n c l hr hF hnm hq hd
  | false =>
    by_cases hh : D.has page
    · by_cases hn : n = 256
      · subst hn
        obtain ⟨k, rfl⟩ := Int.eq_ofNat_of_zero_le hh.1
        exact write_ok hM k ao c l hr hF hq hd (by have := hh.2; omega)
      · exact write_size hM page ao n c l hr hF hnm hq hd hh hn
    · exact write_out hM page ao n c l hr hF hnm hq hd hh
end Go.Proofs.Ytmmkgkbjneebkaa
