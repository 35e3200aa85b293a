/- Texts joined: Disk1, Disk2, Disk3, Disk4. -/
import Derived.Test.YtdnahagibodnpaaNL04
import Derived.Test.YtdnahagibodnpaaNL09
import Derived.Test.YtdnahagibodnpaaRows
/- The program's disk as an assertion. -/
namespace Go.Proofs.Ytdnahagibodnpaa
set_option linter.unusedSectionVars false
set_option linter.unusedSimpArgs false
open Go Go.RowKit
set_option linter.unusedVariables false
abbrev mapq (b : Nat) (q : List Wr) : Asn := mapq' Try.prog 3 3 b q
def diskL (D : DV) (p pg mb : Nat) (qv : Value) : List Asn := [blk p 57 (dC D pg mb qv), blk pg 77 (pagesC D.pages), lst 79 257 qv D.q.length (qC D.q), mapq mb D.q]
def disk (D : DV) (p pg mb : Nat) (qv : Value) : Asn := star (DOk D) (diskL D p pg mb qv)
section
variable {w0 w : World} {F : List Nat} {R : List Asn} {D : DV} {p pg mb : Nat} {qv : Value}
theorem disk_open (h : Mem w0 F w (disk D p pg mb qv :: R)) : DOk D ∧ Mem w0 F w (blk p 57 (dC D pg mb qv) :: blk pg 77 (pagesC D.pages) :: lst 79 257 qv D.q.length (qC D.q) :: mapq mb D.q :: R) := h.open
theorem disk_close (hD : DOk D) (h : Mem w0 F w (blk p 57 (dC D pg mb qv) :: blk pg 77 (pagesC D.pages) :: lst 79 257 qv D.q.length (qC D.q) :: mapq mb D.q :: R)) : Mem w0 F w (disk D p pg mb qv :: R) := Mem.close (X := diskL D p pg mb qv) hD h
end
theorem size_of_len {t n : Nat} (l : List Value) (hl : l.length = n) (h : (Try.prog.info? t).map (·.size) = some n) : Box ((Try.prog.info? t).map (·.size) = some l.length) := ⟨by rw [hl]; exact h⟩
theorem size_page (l : List UInt8) (h : l.length = 256) : Box ((Try.prog.info? 77).map (·.size) = some (bvs l).length) := size_of_len _ (by rw [length_bvs, h]) (by kernel_rfl)
theorem zero_page : ∀ w : World, (zeroValue 77).run Try.prog w = .ok (.agg (bvs zeroPage).toArray) w := fun w => by kernel_rfl
theorem bytesT : ElemTy Try.prog 23 5 1 1 := elemTy_of (by kernel_rfl)
theorem writesT : ElemTy Try.prog 55 79 257 264 := elemTy_of (by kernel_rfl)
theorem pagesT : ElemTy Try.prog 51 77 256 256 := elemTy_of (by kernel_rfl)
theorem zeroPage_len : zeroPage.length = 256 := List.length_replicate
theorem pages_row {D : DV} (hD : DOk D) {n : Nat} (hn : n < D.pages.length) : ((pagesC D.pages).drop (256 * n)).take (bvs (D.pg n)).length = bvs (D.pg n) := by
  have hg : D.pages[n]? = some (D.pg n) := by
    unfold DV.pg
    rw [List.getD_eq_getElem?_getD, List.getElem?_eq_getElem hn]; rfl
  have hl : (bvs (D.pg n)).length = 256 := by rw [length_bvs]; exact pages_get hD.len hn
  rw [hl]
  exact flat_get bvs 256 D.pages n (D.pg n) (fun y hy => by rw [length_bvs]; exact hD.len y hy) hg
theorem queue_row {q : List Wr} (hq : ∀ x ∈ q, x.2.length = 256) {i : Nat} {x : Wr} (hi : q[i]? = some x) : ((qC q).drop (257 * i + 1)).take (bvs x.2).length = bvs x.2 := by
  have h := flat_get wC 257 q i x (fun y hy => by simp [wC, hq y hy]) hi
  have hl : (bvs x.2).length = 256 := by rw [length_bvs]; exact hq x (List.mem_of_getElem? hi)
  rw [hl, ← List.drop_drop]
  have h2 := congrArg (List.drop 1) h
  rw [List.drop_take] at h2
  exact h2
end Go.Proofs.Ytdnahagibodnpaa

/- The program's disk: the small walks. -/
namespace Go.Proofs.Ytdnahagibodnpaa
set_option linter.unusedSectionVars false
open Go Go.RowKit
set_option linter.unusedVariables false
set_option linter.unusedSimpArgs false
theorem act_ok {D : DV} (h : DOk D) (h0 : ¬ D.armed = 0) : DOk { D with armed := D.armed - 1, dead := decide (D.armed - 1 = 0) } := ⟨h.lo, h.hi, h.len, h.qs, ⟨by have := h.arm; show 0 ≤ D.armed - 1; omega, by have := h.arm; show D.armed - 1 ≤ _; omega⟩, h.ep⟩
set_option maxRecDepth 100000 in
set_option maxHeartbeats 4000000 in
theorem act_any {D : DV} {p pg mb : Nat} {qv : Value} {w : World} (hM : Mem w (foots [disk D p pg mb qv]) w [disk D p pg mb qv])  : Calls Try.prog 36 #[.pointer (some ⟨p, 0, none⟩)] w fun e w' => e = .returned (.int .i64 (actE D)) ∧ Mem w (foots [disk D p pg mb qv]) w' [disk (actD D) p pg mb qv] := by
  obtain ⟨hok, M⟩ := disk_open hM
  clear hM
  have ha := hok.arm
  go_enter Try.func36, Try.ntmps36
  refine wp_seq_k (fun K1 hK1 => ?_)
  refine wp_region_lit ?_
  refine pl M (y_assign (v := .int .i64 0) rfl rfl rfl) ?_
  simp only [Act.put, zq1, zq2, zq3]
  refine wpList_nil ?_
  refine hK1 _ _ ?_
  clear hK1
  refine wp_seq_k (fun K2 hK2 => ?_)
  refine wp_seq_k (fun K3 hK3 => ?_)
  refine wp_region_lit ?_
  refine pl M (y_move (v := .pointer (some ⟨p, 0, none⟩)) rfl rfl rfl) ?_
  simp only [Act.put, zq1, zq2, zq3]
  refine pl M (y_nil rfl rfl rfl) ?_
  simp only [Act.put, zq1, zq2, zq3]
  refine pl M (y_fa (r := 7) rfl rfl rfl Try.underlying57 rfl Try.sizeOf3 rfl) ?_
  simp only [Act.put, zq1, zq2, zq3]
  refine pl M (y_load (v := .int .i64 D.armed) rfl rfl rfl Try.isAgg3 (fun W hW => hW.get 0 rfl) (rfl)) ?_
  simp only [Act.put, zq1, zq2, zq3]
  rcases Decidable.em (D.armed = 0) with h4 | h4
  · refine pl M (y_eql (b := true) rfl rfl rfl rfl (decide_eq_true h4)) ?_
    simp only [Act.put, zq1, zq2, zq3]
    refine wpList_nil ?_
    refine hK3 _ _ ?_
    clear hK3
    refine wp_cond_true rfl ?_
    refine wp_seq_k (fun K5 hK5 => ?_)
    refine wp_region_lit ?_
    refine pl M (y_assign (v := .int .i64 0) rfl rfl rfl) ?_
    simp only [Act.put, zq1, zq2, zq3]
    refine wpList_nil ?_
    refine hK5 _ _ ?_
    clear hK5
    refine wp_ret ?_
    try simp only [Exit.inBlock, Exit.then]
    refine bodyPost_ret (v := .int .i64 0) (res1 rfl rfl) rfl ?_
    have e1 : actD D = D := by unfold actD; rw [if_pos h4]
    have e2 : actE D = 0 := by unfold actE; rw [if_neg (by omega)]
    rw [e1, e2]
    exact ⟨rfl, disk_close hok M⟩
  · refine pl M (y_eql (b := false) rfl rfl rfl rfl (decide_eq_false h4)) ?_
    simp only [Act.put, zq1, zq2, zq3]
    refine wpList_nil ?_
    refine hK3 _ _ ?_
    clear hK3
    refine wp_cond_false rfl ?_
    refine wp_skip ?_
    refine hK2 _ _ ?_
    clear hK2
    refine wp_seq_k (fun K6 hK6 => ?_)
    refine wp_region_lit ?_
    refine pl M (y_move (v := .pointer (some ⟨p, 0, none⟩)) rfl rfl rfl) ?_
    simp only [Act.put, zq1, zq2, zq3]
    refine pl M (y_nil rfl rfl rfl) ?_
    simp only [Act.put, zq1, zq2, zq3]
    refine pl M (y_fa (r := 7) rfl rfl rfl Try.underlying57 rfl Try.sizeOf3 rfl) ?_
    simp only [Act.put, zq1, zq2, zq3]
    refine pl M (y_load (v := .int .i64 D.armed) rfl rfl rfl Try.isAgg3 (fun W hW => hW.get 0 rfl) (rfl)) ?_
    simp only [Act.put, zq1, zq2, zq3]
    refine pl M (y_sub (r := D.armed - 1) rfl rfl rfl rfl (rfl) (by omega)) ?_
    simp only [Act.put, zq1, zq2, zq3]
    refine pl M (y_nil rfl rfl rfl) ?_
    simp only [Act.put, zq1, zq2, zq3]
    refine pl M (y_fa (r := 7) rfl rfl rfl Try.underlying57 rfl Try.sizeOf3 rfl) ?_
    simp only [Act.put, zq1, zq2, zq3]
    refine pe rfl (fun K hK => ?_)
    refine e_store M 0 (v := .int .i64 (D.armed - 1)) rfl rfl rfl rfl rfl rfl Try.sizeOf3 rfl (show (7 : Nat) < 10 by decide) ?_
    intro w7 (M7 : Mem w _ w7 [blk p 57 ([.int .i64 D.reads, .int .i64 D.writes, .int .i64 D.syncs, .int .i64 (D.q.length : Int), .slice (some ⟨pg, 0, none⟩) D.pages.length D.pages.length, qv, .map (some mb), .int .i64 (D.armed - 1), .bool D.dead, .int .i64 D.epoch]), blk pg 77 (pagesC D.pages), lst 79 257 qv D.q.length (qC D.q), mapq mb D.q])
    clear M
    refine hK.out _ _ ?_
    clear hK K
    simp only [Act.put, zq1, zq2, zq3]
    refine wpList_nil ?_
    refine hK6 _ _ ?_
    clear hK6
    refine wp_seq_k (fun K8 hK8 => ?_)
    refine wp_region_lit ?_
    refine pl M7 (y_move (v := .pointer (some ⟨p, 0, none⟩)) rfl rfl rfl) ?_
    simp only [Act.put, zq1, zq2, zq3]
    refine pl M7 (y_move (v := .pointer (some ⟨p, 0, none⟩)) rfl rfl rfl) ?_
    simp only [Act.put, zq1, zq2, zq3]
    refine pl M7 (y_nil rfl rfl rfl) ?_
    simp only [Act.put, zq1, zq2, zq3]
    refine pl M7 (y_fa (r := 7) rfl rfl rfl Try.underlying57 rfl Try.sizeOf3 rfl) ?_
    simp only [Act.put, zq1, zq2, zq3]
    refine pl M7 (y_load (v := .int .i64 (D.armed - 1)) rfl rfl rfl Try.isAgg3 (fun W hW => hW.get 0 rfl) (rfl)) ?_
    simp only [Act.put, zq1, zq2, zq3]
    refine pl M7 (y_eql rfl rfl rfl rfl rfl) ?_
    simp only [Act.put, zq1, zq2, zq3]
    refine pl M7 (y_nil rfl rfl rfl) ?_
    simp only [Act.put, zq1, zq2, zq3]
    refine pl M7 (y_fa (r := 8) rfl rfl rfl Try.underlying57 rfl Try.sizeOf4 rfl) ?_
    simp only [Act.put, zq1, zq2, zq3]
    refine pe rfl (fun K hK => ?_)
    refine e_store M7 0 (v := .bool (decide (D.armed - 1 = 0))) rfl rfl rfl rfl rfl rfl Try.sizeOf4 rfl (show (8 : Nat) < 10 by decide) ?_
    intro w9 (M9 : Mem w _ w9 [blk p 57 ([.int .i64 D.reads, .int .i64 D.writes, .int .i64 D.syncs, .int .i64 (D.q.length : Int), .slice (some ⟨pg, 0, none⟩) D.pages.length D.pages.length, qv, .map (some mb), .int .i64 (D.armed - 1), .bool (decide (D.armed - 1 = 0)), .int .i64 D.epoch]), blk pg 77 (pagesC D.pages), lst 79 257 qv D.q.length (qC D.q), mapq mb D.q])
    clear M7
    refine hK.out _ _ ?_
    clear hK K
    simp only [Act.put, zq1, zq2, zq3]
    refine wpList_nil ?_
    refine hK8 _ _ ?_
    clear hK8
    refine wp_seq_k (fun K10 hK10 => ?_)
    refine wp_seq_k (fun K11 hK11 => ?_)
    refine wp_region_lit ?_
    refine pl M9 (y_move (v := .pointer (some ⟨p, 0, none⟩)) rfl rfl rfl) ?_
    simp only [Act.put, zq1, zq2, zq3]
    refine pl M9 (y_nil rfl rfl rfl) ?_
    simp only [Act.put, zq1, zq2, zq3]
    refine pl M9 (y_fa (r := 8) rfl rfl rfl Try.underlying57 rfl Try.sizeOf4 rfl) ?_
    simp only [Act.put, zq1, zq2, zq3]
    rcases Bool.eq_false_or_eq_true (decide (D.armed - 1 = 0)) with h12 | h12
    · refine pl M9 (y_load (v := .bool true) rfl rfl rfl Try.isAgg4 (fun W hW => hW.get 0 rfl) (congrArg (fun b => some (Value.bool b)) h12)) ?_
      simp only [Act.put, zq1, zq2, zq3]
      refine wpList_nil ?_
      refine hK11 _ _ ?_
      clear hK11
      refine wp_cond_true rfl ?_
      refine wp_seq_k (fun K13 hK13 => ?_)
      refine wp_region_lit ?_
      refine pl M9 (y_assign (v := .int .i64 2) rfl rfl rfl) ?_
      simp only [Act.put, zq1, zq2, zq3]
      refine wpList_nil ?_
      refine hK13 _ _ ?_
      clear hK13
      refine wp_ret ?_
      try simp only [Exit.inBlock, Exit.then]
      refine bodyPost_ret (v := .int .i64 2) (res1 rfl rfl) rfl ?_
      have e0 := of_decide_eq_true h12
      have e1 : actD D = { D with armed := D.armed - 1, dead := decide (D.armed - 1 = 0) } := by
        unfold actD; rw [if_neg h4]; congr 1; exact decide_eq_decide.2 (by omega)
      have e2 : actE D = 2 := by unfold actE; rw [if_pos (by omega)]
      rw [e1, e2]
      exact ⟨rfl, disk_close (act_ok hok h4) M9⟩
    · refine pl M9 (y_load (v := .bool false) rfl rfl rfl Try.isAgg4 (fun W hW => hW.get 0 rfl) (congrArg (fun b => some (Value.bool b)) h12)) ?_
      simp only [Act.put, zq1, zq2, zq3]
      refine wpList_nil ?_
      refine hK11 _ _ ?_
      clear hK11
      refine wp_cond_false rfl ?_
      refine wp_skip ?_
      refine hK10 _ _ ?_
      clear hK10
      refine wp_seq_k (fun K14 hK14 => ?_)
      refine wp_region_lit ?_
      refine pl M9 (y_assign (v := .int .i64 0) rfl rfl rfl) ?_
      simp only [Act.put, zq1, zq2, zq3]
      refine wpList_nil ?_
      refine hK14 _ _ ?_
      clear hK14
      refine wp_ret ?_
      try simp only [Exit.inBlock, Exit.then]
      refine bodyPost_ret (v := .int .i64 0) (res1 rfl rfl) rfl ?_
      have e0 := of_decide_eq_false h12
      have e1 : actD D = { D with armed := D.armed - 1, dead := decide (D.armed - 1 = 0) } := by
        unfold actD; rw [if_neg h4]; congr 1; exact decide_eq_decide.2 (by omega)
      have e2 : actE D = 0 := by unfold actE; rw [if_neg (by omega)]
      rw [e1, e2]
      exact ⟨rfl, disk_close (act_ok hok h4) M9⟩
set_option maxRecDepth 100000 in
set_option maxHeartbeats 4000000 in
theorem has_any {D : DV} {p pg mb : Nat} {qv : Value} {w : World} (hM : Mem w (foots [disk D p pg mb qv]) w [disk D p pg mb qv]) (page : Int) : Calls Try.prog 42 #[.pointer (some ⟨p, 0, none⟩), .int .i64 page] w fun e w' => e = .returned (.bool (decide (D.has page))) ∧ Mem w (foots [disk D p pg mb qv]) w' [disk (D) p pg mb qv] := by
  obtain ⟨hok, M⟩ := disk_open hM
  clear hM
  go_enter Try.func42, Try.ntmps42
  refine wp_seq_k (fun K1 hK1 => ?_)
  refine wp_region_lit ?_
  refine pl M (y_assign (v := .bool false) rfl rfl rfl) ?_
  simp only [Act.put, zq1, zq2, zq3]
  refine wpList_nil ?_
  refine hK1 _ _ ?_
  clear hK1
  refine wp_seq_k (fun K2 hK2 => ?_)
  refine wp_region_lit ?_
  refine pl M (y_move (v := .int .i64 page) rfl rfl rfl) ?_
  simp only [Act.put, zq1, zq2, zq3]
  rcases Decidable.em ((0 : Int) ≤ page) with h3 | h3
  · refine pl M (y_geq (b := true) rfl rfl rfl rfl (decide_eq_true h3)) ?_
    simp only [Act.put, zq1, zq2, zq3]
    refine pl M (y_move (v := .bool true) rfl rfl rfl) ?_
    simp only [Act.put, zq1, zq2, zq3]
    refine pl M (y_move (v := .int .i64 page) rfl rfl rfl) ?_
    simp only [Act.put, zq1, zq2, zq3]
    refine pl M (y_move (v := .pointer (some ⟨p, 0, none⟩)) rfl rfl rfl) ?_
    simp only [Act.put, zq1, zq2, zq3]
    refine pl M (y_nil rfl rfl rfl) ?_
    simp only [Act.put, zq1, zq2, zq3]
    refine pl M (y_fa (r := 4) rfl rfl rfl Try.underlying57 rfl Try.sizeOf51 rfl) ?_
    simp only [Act.put, zq1, zq2, zq3]
    refine pl M (y_load (v := .slice (some ⟨pg, 0, none⟩) D.pages.length D.pages.length) rfl rfl rfl Try.isAgg51 (fun W hW => hW.get 0 rfl) (rfl)) ?_
    simp only [Act.put, zq1, zq2, zq3]
    refine pl M (y_len rfl rfl rfl Try.underlying51) ?_
    simp only [Act.put, zq1, zq2, zq3]
    refine pl M (y_lss rfl rfl rfl rfl rfl) ?_
    simp only [Act.put, zq1, zq2, zq3]
    refine pl M (y_pickT (v := .bool (decide (page < (D.pages.length : Int)))) rfl rfl rfl rfl) ?_
    simp only [Act.put, zq1, zq2, zq3]
    refine pl M (y_assign (v := .bool (decide (page < (D.pages.length : Int)))) rfl rfl rfl) ?_
    simp only [Act.put, zq1, zq2, zq3]
    refine wpList_nil ?_
    refine hK2 _ _ ?_
    clear hK2
    refine wp_ret ?_
    try simp only [Exit.inBlock, Exit.then]
    refine bodyPost_ret (v := .bool (decide (page < (D.pages.length : Int)))) (res1 rfl rfl) rfl ?_
    have e : decide (page < (D.pages.length : Int)) = decide (D.has page) := decide_eq_decide.2 ⟨fun h => ⟨h3, h⟩, fun h => h.2⟩
    rw [e]
    exact ⟨rfl, disk_close hok M⟩
  · refine pl M (y_geq (b := false) rfl rfl rfl rfl (decide_eq_false h3)) ?_
    simp only [Act.put, zq1, zq2, zq3]
    refine pl M (y_move (v := .bool false) rfl rfl rfl) ?_
    simp only [Act.put, zq1, zq2, zq3]
    with_reducible refine pskip ?_ ?_
    · rfl
    simp only [Act.put, zq1, zq2, zq3]
    with_reducible refine pskip ?_ ?_
    · rfl
    simp only [Act.put, zq1, zq2, zq3]
    with_reducible refine pskip ?_ ?_
    · rfl
    simp only [Act.put, zq1, zq2, zq3]
    with_reducible refine pskip ?_ ?_
    · rfl
    simp only [Act.put, zq1, zq2, zq3]
    with_reducible refine pskip ?_ ?_
    · rfl
    simp only [Act.put, zq1, zq2, zq3]
    with_reducible refine pskip ?_ ?_
    · rfl
    simp only [Act.put, zq1, zq2, zq3]
    with_reducible refine pskip ?_ ?_
    · rfl
    simp only [Act.put, zq1, zq2, zq3]
    refine pl M (y_pickF (v := .bool false) rfl rfl rfl rfl) ?_
    simp only [Act.put, zq1, zq2, zq3]
    refine pl M (y_assign (v := .bool false) rfl rfl rfl) ?_
    simp only [Act.put, zq1, zq2, zq3]
    refine wpList_nil ?_
    refine hK2 _ _ ?_
    clear hK2
    refine wp_ret ?_
    try simp only [Exit.inBlock, Exit.then]
    refine bodyPost_ret (v := .bool false) (res1 rfl rfl) rfl ?_
    have e : decide (D.has page) = false := decide_eq_false fun h => h3 h.1
    rw [e]
    exact ⟨rfl, disk_close hok M⟩
set_option maxRecDepth 100000 in
set_option maxHeartbeats 4000000 in
theorem claim_any {D : DV} {p pg mb : Nat} {qv : Value} {w : World} (hM : Mem w (foots [disk D p pg mb qv]) w [disk D p pg mb qv])  : Calls Try.prog 21 #[.pointer (some ⟨p, 0, none⟩)] w fun e w' => e = .returned (.int .i64 (claimD D).epoch) ∧ Mem w (foots [disk D p pg mb qv]) w' [disk (claimD D) p pg mb qv] := by
  obtain ⟨hok, M⟩ := disk_open hM
  clear hM
  go_enter Try.func21, Try.ntmps21
  refine wp_seq_k (fun K1 hK1 => ?_)
  refine wp_region_lit ?_
  refine pl M (y_assign (v := .int .i64 0) rfl rfl rfl) ?_
  simp only [Act.put, zq1, zq2, zq3]
  refine wpList_nil ?_
  refine hK1 _ _ ?_
  clear hK1
  refine wp_seq_k (fun K2 hK2 => ?_)
  refine wp_region_lit ?_
  refine pl M (y_move (v := .pointer (some ⟨p, 0, none⟩)) rfl rfl rfl) ?_
  simp only [Act.put, zq1, zq2, zq3]
  refine pl M (y_nil rfl rfl rfl) ?_
  simp only [Act.put, zq1, zq2, zq3]
  refine pl M (y_fa (r := 9) rfl rfl rfl Try.underlying57 rfl Try.sizeOf3 rfl) ?_
  simp only [Act.put, zq1, zq2, zq3]
  refine pl M (y_load (v := .int .i64 D.epoch) rfl rfl rfl Try.isAgg3 (fun W hW => hW.get 0 rfl) (rfl)) ?_
  simp only [Act.put, zq1, zq2, zq3]
  refine pl M (y_addw rfl rfl rfl rfl) ?_
  simp only [Act.put, zq1, zq2, zq3]
  refine pl M (y_nil rfl rfl rfl) ?_
  simp only [Act.put, zq1, zq2, zq3]
  refine pl M (y_fa (r := 9) rfl rfl rfl Try.underlying57 rfl Try.sizeOf3 rfl) ?_
  simp only [Act.put, zq1, zq2, zq3]
  refine pe rfl (fun K hK => ?_)
  refine e_store M 0 (v := .int .i64 (wrap64 (D.epoch + 1))) rfl rfl rfl rfl rfl rfl Try.sizeOf3 rfl (show (9 : Nat) < 10 by decide) ?_
  intro w3 (M3 : Mem w _ w3 [blk p 57 ([.int .i64 D.reads, .int .i64 D.writes, .int .i64 D.syncs, .int .i64 (D.q.length : Int), .slice (some ⟨pg, 0, none⟩) D.pages.length D.pages.length, qv, .map (some mb), .int .i64 D.armed, .bool D.dead, .int .i64 (wrap64 (D.epoch + 1))]), blk pg 77 (pagesC D.pages), lst 79 257 qv D.q.length (qC D.q), mapq mb D.q])
  clear M
  refine hK.out _ _ ?_
  clear hK K
  simp only [Act.put, zq1, zq2, zq3]
  refine wpList_nil ?_
  refine hK2 _ _ ?_
  clear hK2
  refine wp_seq_k (fun K4 hK4 => ?_)
  refine wp_region_lit ?_
  refine pl M3 (y_move (v := .pointer (some ⟨p, 0, none⟩)) rfl rfl rfl) ?_
  simp only [Act.put, zq1, zq2, zq3]
  refine pl M3 (y_nil rfl rfl rfl) ?_
  simp only [Act.put, zq1, zq2, zq3]
  refine pl M3 (y_fa (r := 9) rfl rfl rfl Try.underlying57 rfl Try.sizeOf3 rfl) ?_
  simp only [Act.put, zq1, zq2, zq3]
  refine pl M3 (y_load (v := .int .i64 (wrap64 (D.epoch + 1))) rfl rfl rfl Try.isAgg3 (fun W hW => hW.get 0 rfl) (rfl)) ?_
  simp only [Act.put, zq1, zq2, zq3]
  refine pl M3 (y_assign (v := .int .i64 (wrap64 (D.epoch + 1))) rfl rfl rfl) ?_
  simp only [Act.put, zq1, zq2, zq3]
  refine wpList_nil ?_
  refine hK4 _ _ ?_
  clear hK4
  refine wp_ret ?_
  try simp only [Exit.inBlock, Exit.then]
  refine bodyPost_ret (v := .int .i64 (wrap64 (D.epoch + 1))) (res1 rfl rfl) rfl ?_
  exact ⟨rfl, disk_close ⟨hok.lo, hok.hi, hok.len, hok.qs, hok.arm, inI_wrap _⟩ M3⟩
set_option maxRecDepth 100000 in
set_option maxHeartbeats 4000000 in
theorem epoch_any {D : DV} {p pg mb : Nat} {qv : Value} {w : World} (hM : Mem w (foots [disk D p pg mb qv]) w [disk D p pg mb qv])  : Calls Try.prog 37 #[.pointer (some ⟨p, 0, none⟩)] w fun e w' => e = .returned (.int .i64 D.epoch) ∧ Mem w (foots [disk D p pg mb qv]) w' [disk (D) p pg mb qv] := by
  obtain ⟨hok, M⟩ := disk_open hM
  clear hM
  go_enter Try.func37, Try.ntmps37
  refine wp_seq_k (fun K1 hK1 => ?_)
  refine wp_region_lit ?_
  refine pl M (y_assign (v := .int .i64 0) rfl rfl rfl) ?_
  simp only [Act.put, zq1, zq2, zq3]
  refine wpList_nil ?_
  refine hK1 _ _ ?_
  clear hK1
  refine wp_seq_k (fun K2 hK2 => ?_)
  refine wp_region_lit ?_
  refine pl M (y_move (v := .pointer (some ⟨p, 0, none⟩)) rfl rfl rfl) ?_
  simp only [Act.put, zq1, zq2, zq3]
  refine pl M (y_nil rfl rfl rfl) ?_
  simp only [Act.put, zq1, zq2, zq3]
  refine pl M (y_fa (r := 9) rfl rfl rfl Try.underlying57 rfl Try.sizeOf3 rfl) ?_
  simp only [Act.put, zq1, zq2, zq3]
  refine pl M (y_load (v := .int .i64 D.epoch) rfl rfl rfl Try.isAgg3 (fun W hW => hW.get 0 rfl) (rfl)) ?_
  simp only [Act.put, zq1, zq2, zq3]
  refine pl M (y_assign (v := .int .i64 D.epoch) rfl rfl rfl) ?_
  simp only [Act.put, zq1, zq2, zq3]
  refine wpList_nil ?_
  refine hK2 _ _ ?_
  clear hK2
  refine wp_ret ?_
  try simp only [Exit.inBlock, Exit.then]
  refine bodyPost_ret (v := .int .i64 D.epoch) (res1 rfl rfl) rfl ?_
  exact ⟨rfl, disk_close hok M⟩
set_option maxRecDepth 100000 in
set_option maxHeartbeats 4000000 in
theorem power_any {D : DV} {p pg mb : Nat} {qv : Value} {w : World} (hM : Mem w (foots [disk D p pg mb qv]) w [disk D p pg mb qv])  : Calls Try.prog 15 #[.pointer (some ⟨p, 0, none⟩)] w fun e w' => e = .returned (.bool (!D.dead)) ∧ Mem w (foots [disk D p pg mb qv]) w' [disk (D) p pg mb qv] := by
  obtain ⟨hok, M⟩ := disk_open hM
  clear hM
  go_enter Try.func15, Try.ntmps15
  refine wp_seq_k (fun K1 hK1 => ?_)
  refine wp_region_lit ?_
  refine pl M (y_assign (v := .bool false) rfl rfl rfl) ?_
  simp only [Act.put, zq1, zq2, zq3]
  refine wpList_nil ?_
  refine hK1 _ _ ?_
  clear hK1
  refine wp_seq_k (fun K2 hK2 => ?_)
  refine wp_region_lit ?_
  refine pl M (y_move (v := .pointer (some ⟨p, 0, none⟩)) rfl rfl rfl) ?_
  simp only [Act.put, zq1, zq2, zq3]
  refine pl M (y_nil rfl rfl rfl) ?_
  simp only [Act.put, zq1, zq2, zq3]
  refine pl M (y_fa (r := 8) rfl rfl rfl Try.underlying57 rfl Try.sizeOf4 rfl) ?_
  simp only [Act.put, zq1, zq2, zq3]
  refine pl M (y_load (v := .bool D.dead) rfl rfl rfl Try.isAgg4 (fun W hW => hW.get 0 rfl) (rfl)) ?_
  simp only [Act.put, zq1, zq2, zq3]
  refine pl M (y_not rfl rfl rfl rfl) ?_
  simp only [Act.put, zq1, zq2, zq3]
  refine pl M (y_assign (v := .bool (!D.dead)) rfl rfl rfl) ?_
  simp only [Act.put, zq1, zq2, zq3]
  refine wpList_nil ?_
  refine hK2 _ _ ?_
  clear hK2
  refine wp_ret ?_
  try simp only [Exit.inBlock, Exit.then]
  refine bodyPost_ret (v := .bool (!D.dead)) (res1 rfl rfl) rfl ?_
  exact ⟨rfl, disk_close hok M⟩
set_option maxRecDepth 100000 in
set_option maxHeartbeats 4000000 in
theorem pages_any {D : DV} {p pg mb : Nat} {qv : Value} {w : World} (hM : Mem w (foots [disk D p pg mb qv]) w [disk D p pg mb qv])  : Calls Try.prog 17 #[.pointer (some ⟨p, 0, none⟩)] w fun e w' => e = .returned (.int .i64 (D.pages.length : Int)) ∧ Mem w (foots [disk D p pg mb qv]) w' [disk (D) p pg mb qv] := by
  obtain ⟨hok, M⟩ := disk_open hM
  clear hM
  go_enter Try.func17, Try.ntmps17
  refine wp_seq_k (fun K1 hK1 => ?_)
  refine wp_region_lit ?_
  refine pl M (y_assign (v := .int .i64 0) rfl rfl rfl) ?_
  simp only [Act.put, zq1, zq2, zq3]
  refine wpList_nil ?_
  refine hK1 _ _ ?_
  clear hK1
  refine wp_seq_k (fun K2 hK2 => ?_)
  refine wp_region_lit ?_
  refine pl M (y_move (v := .pointer (some ⟨p, 0, none⟩)) rfl rfl rfl) ?_
  simp only [Act.put, zq1, zq2, zq3]
  refine pl M (y_nil rfl rfl rfl) ?_
  simp only [Act.put, zq1, zq2, zq3]
  refine pl M (y_fa (r := 4) rfl rfl rfl Try.underlying57 rfl Try.sizeOf51 rfl) ?_
  simp only [Act.put, zq1, zq2, zq3]
  refine pl M (y_load (v := .slice (some ⟨pg, 0, none⟩) D.pages.length D.pages.length) rfl rfl rfl Try.isAgg51 (fun W hW => hW.get 0 rfl) (rfl)) ?_
  simp only [Act.put, zq1, zq2, zq3]
  refine pl M (y_len rfl rfl rfl Try.underlying51) ?_
  simp only [Act.put, zq1, zq2, zq3]
  refine pl M (y_assign (v := .int .i64 (D.pages.length : Int)) rfl rfl rfl) ?_
  simp only [Act.put, zq1, zq2, zq3]
  refine wpList_nil ?_
  refine hK2 _ _ ?_
  clear hK2
  refine wp_ret ?_
  try simp only [Exit.inBlock, Exit.then]
  refine bodyPost_ret (v := .int .i64 (D.pages.length : Int)) (res1 rfl rfl) rfl ?_
  exact ⟨rfl, disk_close hok M⟩
end Go.Proofs.Ytdnahagibodnpaa

/- The program's disk: Read. -/
namespace Go.Proofs.Ytdnahagibodnpaa
set_option linter.unusedSectionVars false
open Go Go.RowKit
set_option linter.unusedVariables false
set_option linter.unusedSimpArgs false
set_option maxRecDepth 100000 in
set_option maxHeartbeats 4000000 in
theorem read_dead {D : DV} {p pg mb : Nat} {qv : Value} {w : World} (hM : Mem w (foots [disk D p pg mb qv]) w [disk D p pg mb qv]) (page : Int) (hd : D.dead = true) : Calls Try.prog 28 #[.pointer (some ⟨p, 0, none⟩), .int .i64 page] w fun e w' => ∃ v, e = .returned (.tuple #[v, .int .i64 (readE D page)]) ∧ Mem w (foots [disk D p pg mb qv]) w' [disk (readD D page) p pg mb qv, lst 5 1 v (readL D page).length (bvs (readL D page))] := by
  obtain ⟨hok, M⟩ := disk_open hM
  clear hM
  go_enter Try.func28, Try.ntmps28
  refine wp_seq_k (fun K1 hK1 => ?_)
  refine wp_region_lit ?_
  refine pl M (y_assign (v := .slice none 0 0) rfl rfl rfl) ?_
  simp only [Act.put, zq1, zq2, zq3]
  refine pl M (y_assign (v := .int .i64 0) rfl rfl rfl) ?_
  simp only [Act.put, zq1, zq2, zq3]
  refine wpList_nil ?_
  refine hK1 _ _ ?_
  clear hK1
  refine wp_seq_k (fun K2 hK2 => ?_)
  refine wp_seq_k (fun K3 hK3 => ?_)
  refine wp_region_lit ?_
  refine pl M (y_move (v := .pointer (some ⟨p, 0, none⟩)) rfl rfl rfl) ?_
  simp only [Act.put, zq1, zq2, zq3]
  refine pl M (y_nil rfl rfl rfl) ?_
  simp only [Act.put, zq1, zq2, zq3]
  refine pl M (y_fa (r := 8) rfl rfl rfl Try.underlying57 rfl Try.sizeOf4 rfl) ?_
  simp only [Act.put, zq1, zq2, zq3]
  refine pl M (y_load (v := .bool true) rfl rfl rfl Try.isAgg4 (fun W hW => hW.get 0 rfl) (congrArg (fun b => some (Value.bool b)) hd)) ?_
  simp only [Act.put, zq1, zq2, zq3]
  refine wpList_nil ?_
  refine hK3 _ _ ?_
  clear hK3
  refine wp_cond_true rfl ?_
  refine wp_seq_k (fun K4 hK4 => ?_)
  refine wp_region_lit ?_
  refine pl M (y_assign (v := .slice none 0 0) rfl rfl rfl) ?_
  simp only [Act.put, zq1, zq2, zq3]
  refine pl M (y_assign (v := .int .i64 2) rfl rfl rfl) ?_
  simp only [Act.put, zq1, zq2, zq3]
  refine wpList_nil ?_
  refine hK4 _ _ ?_
  clear hK4
  refine wp_ret ?_
  try simp only [Exit.inBlock, Exit.then]
  refine bodyPost_ret (v := .tuple #[.slice none 0 0, .int .i64 2]) (res2 rfl rfl rfl) rfl ?_
  have N := (disk_close hok M).nilst 5 1
  have N2 := N.arr [1, 0] (by decide)
  have e1 : readE D page = 2 := by unfold readE; rw [if_pos hd]
  have e2 : readD D page = D := by unfold readD; rw [if_pos hd]
  have e3 : readL D page = [] := by unfold readL; rw [if_pos hd]
  rw [e1, e2, e3]
  exact ⟨_, rfl, N2⟩
set_option maxRecDepth 100000 in
set_option maxHeartbeats 4000000 in
theorem read_out {D : DV} {p pg mb : Nat} {qv : Value} {w : World} (hM : Mem w (foots [disk D p pg mb qv]) w [disk D p pg mb qv]) (page : Int) (hd : D.dead = false) (hh : ¬ D.has page) : Calls Try.prog 28 #[.pointer (some ⟨p, 0, none⟩), .int .i64 page] w fun e w' => ∃ v, e = .returned (.tuple #[v, .int .i64 (readE D page)]) ∧ Mem w (foots [disk D p pg mb qv]) w' [disk (readD D page) p pg mb qv, lst 5 1 v (readL D page).length (bvs (readL D page))] := by
  obtain ⟨hok, M⟩ := disk_open hM
  clear hM
  go_enter Try.func28, Try.ntmps28
  refine wp_seq_k (fun K1 hK1 => ?_)
  refine wp_region_lit ?_
  refine pl M (y_assign (v := .slice none 0 0) rfl rfl rfl) ?_
  simp only [Act.put, zq1, zq2, zq3]
  refine pl M (y_assign (v := .int .i64 0) rfl rfl rfl) ?_
  simp only [Act.put, zq1, zq2, zq3]
  refine wpList_nil ?_
  refine hK1 _ _ ?_
  clear hK1
  refine wp_seq_k (fun K2 hK2 => ?_)
  refine wp_seq_k (fun K3 hK3 => ?_)
  refine wp_region_lit ?_
  refine pl M (y_move (v := .pointer (some ⟨p, 0, none⟩)) rfl rfl rfl) ?_
  simp only [Act.put, zq1, zq2, zq3]
  refine pl M (y_nil rfl rfl rfl) ?_
  simp only [Act.put, zq1, zq2, zq3]
  refine pl M (y_fa (r := 8) rfl rfl rfl Try.underlying57 rfl Try.sizeOf4 rfl) ?_
  simp only [Act.put, zq1, zq2, zq3]
  refine pl M (y_load (v := .bool false) rfl rfl rfl Try.isAgg4 (fun W hW => hW.get 0 rfl) (congrArg (fun b => some (Value.bool b)) hd)) ?_
  simp only [Act.put, zq1, zq2, zq3]
  refine wpList_nil ?_
  refine hK3 _ _ ?_
  clear hK3
  refine wp_cond_false rfl ?_
  refine wp_skip ?_
  refine hK2 _ _ ?_
  clear hK2
  refine wp_seq_k (fun K4 hK4 => ?_)
  refine wp_seq_k (fun K5 hK5 => ?_)
  refine wp_region_lit ?_
  refine pl M (y_move (v := .pointer (some ⟨p, 0, none⟩)) rfl rfl rfl) ?_
  simp only [Act.put, zq1, zq2, zq3]
  refine pl M (y_move (v := .int .i64 page) rfl rfl rfl) ?_
  simp only [Act.put, zq1, zq2, zq3]
  refine pe rfl (fun K hK => ?_)
  refine e_call 42 [.pointer (some ⟨p, 0, none⟩), .int .i64 page] rfl rfl Try.call42 (has_any (Mem.here (L := [disk (D) p pg mb (qv)]) (R := []) (disk_close (D := D) (R := []) hok M)) page) ?_
  rintro e w6 ⟨rfl, H6⟩
  have M6 : Mem w _ w6 [blk p 57 (dC D pg mb qv), blk pg 77 (pagesC D.pages), lst 79 257 qv D.q.length (qC D.q), mapq mb D.q] := (disk_open (Mem.frame (Pre := [disk (D) p pg mb (qv)]) (Post := [disk (D) p pg mb (qv)]) (R := []) (disk_close (D := D) (R := []) hok M) H6)).2
  rw [(decide_eq_false hh)]
  refine ⟨_, rfl, ?_⟩
  refine hK.out _ _ ?_
  clear hK K
  simp only [Act.put, zq1, zq2, zq3]
  refine pl M6 (y_not rfl rfl rfl rfl) ?_
  simp only [Act.put, zq1, zq2, zq3]
  refine wpList_nil ?_
  refine hK5 _ _ ?_
  clear hK5
  refine wp_cond_true rfl ?_
  refine wp_seq_k (fun K7 hK7 => ?_)
  refine wp_region_lit ?_
  refine pl M6 (y_assign (v := .slice none 0 0) rfl rfl rfl) ?_
  simp only [Act.put, zq1, zq2, zq3]
  refine pl M6 (y_assign (v := .int .i64 41) rfl rfl rfl) ?_
  simp only [Act.put, zq1, zq2, zq3]
  refine wpList_nil ?_
  refine hK7 _ _ ?_
  clear hK7
  refine wp_ret ?_
  try simp only [Exit.inBlock, Exit.then]
  refine bodyPost_ret (v := .tuple #[.slice none 0 0, .int .i64 41]) (res2 rfl rfl rfl) rfl ?_
  have N := (disk_close hok M6).nilst 5 1
  have N2 := N.arr [1, 0] (by decide)
  have hd' : ¬ D.dead = true := by rw [hd]; decide
  have e1 : readE D page = 41 := by unfold readE; rw [if_neg hd', if_neg hh]
  have e2 : readD D page = D := by unfold readD; rw [if_neg hd', if_neg hh]
  have e3 : readL D page = [] := by unfold readL; rw [if_neg hd', if_neg hh]
  rw [e1, e2, e3]
  exact ⟨_, rfl, N2⟩
set_option maxRecDepth 100000 in
set_option maxHeartbeats 4000000 in
theorem read_none {D : DV} {p pg mb : Nat} {qv : Value} {w : World} (hM : Mem w (foots [disk D p pg mb qv]) w [disk D p pg mb qv]) (n : Nat) (hd : D.dead = false) (hn : n < D.pages.length) (hl : lastAt D.q n = none) : Calls Try.prog 28 #[.pointer (some ⟨p, 0, none⟩), .int .i64 (n : Int)] w fun e w' => ∃ v, e = .returned (.tuple #[v, .int .i64 (readE D n)]) ∧ Mem w (foots [disk D p pg mb qv]) w' [disk (readD D n) p pg mb qv, lst 5 1 v (readL D n).length (bvs (readL D n))] := by
  obtain ⟨hok, M⟩ := disk_open hM
  clear hM
  have hh : D.has n := ⟨by omega, by omega⟩
  have hhi := hok.hi
  have hd' : ¬ D.dead = true := by rw [hd]; decide
  have hpl : (D.pg n).length = 256 := pages_get hok.len hn
  have hcl : (D.cur n).length = 256 := cur_len hok hn
  have hc : D.cur n = D.pg n := curP_none _ _ _ hl
  go_enter Try.func28, Try.ntmps28
  refine wp_seq_k (fun K1 hK1 => ?_)
  refine wp_region_lit ?_
  refine pl M (y_assign (v := .slice none 0 0) rfl rfl rfl) ?_
  simp only [Act.put, zq1, zq2, zq3]
  refine pl M (y_assign (v := .int .i64 0) rfl rfl rfl) ?_
  simp only [Act.put, zq1, zq2, zq3]
  refine wpList_nil ?_
  refine hK1 _ _ ?_
  clear hK1
  refine wp_seq_k (fun K2 hK2 => ?_)
  refine wp_seq_k (fun K3 hK3 => ?_)
  refine wp_region_lit ?_
  refine pl M (y_move (v := .pointer (some ⟨p, 0, none⟩)) rfl rfl rfl) ?_
  simp only [Act.put, zq1, zq2, zq3]
  refine pl M (y_nil rfl rfl rfl) ?_
  simp only [Act.put, zq1, zq2, zq3]
  refine pl M (y_fa (r := 8) rfl rfl rfl Try.underlying57 rfl Try.sizeOf4 rfl) ?_
  simp only [Act.put, zq1, zq2, zq3]
  refine pl M (y_load (v := .bool false) rfl rfl rfl Try.isAgg4 (fun W hW => hW.get 0 rfl) (congrArg (fun b => some (Value.bool b)) hd)) ?_
  simp only [Act.put, zq1, zq2, zq3]
  refine wpList_nil ?_
  refine hK3 _ _ ?_
  clear hK3
  refine wp_cond_false rfl ?_
  refine wp_skip ?_
  refine hK2 _ _ ?_
  clear hK2
  refine wp_seq_k (fun K4 hK4 => ?_)
  refine wp_seq_k (fun K5 hK5 => ?_)
  refine wp_region_lit ?_
  refine pl M (y_move (v := .pointer (some ⟨p, 0, none⟩)) rfl rfl rfl) ?_
  simp only [Act.put, zq1, zq2, zq3]
  refine pl M (y_move (v := .int .i64 (n : Int)) rfl rfl rfl) ?_
  simp only [Act.put, zq1, zq2, zq3]
  refine pe rfl (fun K hK => ?_)
  refine e_call 42 [.pointer (some ⟨p, 0, none⟩), .int .i64 (n : Int)] rfl rfl Try.call42 (has_any (Mem.here (L := [disk (D) p pg mb (qv)]) (R := []) (disk_close (D := D) (R := []) hok M)) (n : Int)) ?_
  rintro e w6 ⟨rfl, H6⟩
  have M6 : Mem w _ w6 [blk p 57 (dC D pg mb qv), blk pg 77 (pagesC D.pages), lst 79 257 qv D.q.length (qC D.q), mapq mb D.q] := (disk_open (Mem.frame (Pre := [disk (D) p pg mb (qv)]) (Post := [disk (D) p pg mb (qv)]) (R := []) (disk_close (D := D) (R := []) hok M) H6)).2
  rw [(decide_eq_true hh)]
  refine ⟨_, rfl, ?_⟩
  refine hK.out _ _ ?_
  clear hK K
  simp only [Act.put, zq1, zq2, zq3]
  refine pl M6 (y_not rfl rfl rfl rfl) ?_
  simp only [Act.put, zq1, zq2, zq3]
  refine wpList_nil ?_
  refine hK5 _ _ ?_
  clear hK5
  refine wp_cond_false rfl ?_
  refine wp_skip ?_
  refine hK4 _ _ ?_
  clear hK4
  refine wp_seq_k (fun K7 hK7 => ?_)
  refine wp_region_lit ?_
  refine pl M6 (y_move (v := .pointer (some ⟨p, 0, none⟩)) rfl rfl rfl) ?_
  simp only [Act.put, zq1, zq2, zq3]
  refine pl M6 (y_nil rfl rfl rfl) ?_
  simp only [Act.put, zq1, zq2, zq3]
  refine pl M6 (y_fa (r := 0) rfl rfl rfl Try.underlying57 rfl Try.sizeOf54 rfl) ?_
  simp only [Act.put, zq1, zq2, zq3]
  refine pl M6 (y_fa (r := 0) rfl rfl rfl Try.underlying54 rfl Try.sizeOf3 rfl) ?_
  simp only [Act.put, zq1, zq2, zq3]
  refine pl M6 (y_load (v := .int .i64 D.reads) rfl rfl rfl Try.isAgg3 (fun W hW => hW.get 0 rfl) (rfl)) ?_
  simp only [Act.put, zq1, zq2, zq3]
  refine pl M6 (y_addw rfl rfl rfl rfl) ?_
  simp only [Act.put, zq1, zq2, zq3]
  refine pl M6 (y_nil rfl rfl rfl) ?_
  simp only [Act.put, zq1, zq2, zq3]
  refine pl M6 (y_fa (r := 0) rfl rfl rfl Try.underlying57 rfl Try.sizeOf54 rfl) ?_
  simp only [Act.put, zq1, zq2, zq3]
  refine pl M6 (y_fa (r := 0) rfl rfl rfl Try.underlying54 rfl Try.sizeOf3 rfl) ?_
  simp only [Act.put, zq1, zq2, zq3]
  refine pe rfl (fun K hK => ?_)
  refine e_store M6 0 (v := .int .i64 (wrap64 (D.reads + 1))) rfl rfl rfl rfl rfl rfl Try.sizeOf3 rfl (show (0 : Nat) < 10 by decide) ?_
  intro w8 (M8 : Mem w _ w8 [blk p 57 ([.int .i64 (wrap64 (D.reads + 1)), .int .i64 D.writes, .int .i64 D.syncs, .int .i64 (D.q.length : Int), .slice (some ⟨pg, 0, none⟩) D.pages.length D.pages.length, qv, .map (some mb), .int .i64 D.armed, .bool D.dead, .int .i64 D.epoch]), blk pg 77 (pagesC D.pages), lst 79 257 qv D.q.length (qC D.q), mapq mb D.q])
  clear M6
  refine hK.out _ _ ?_
  clear hK K
  simp only [Act.put, zq1, zq2, zq3]
  refine wpList_nil ?_
  refine hK7 _ _ ?_
  clear hK7
  refine wp_seq_k (fun K9 hK9 => ?_)
  refine wp_region_lit ?_
  refine pl M8 (y_move (v := .pointer (some ⟨p, 0, none⟩)) rfl rfl rfl) ?_
  simp only [Act.put, zq1, zq2, zq3]
  refine pl M8 (y_nil rfl rfl rfl) ?_
  simp only [Act.put, zq1, zq2, zq3]
  refine pl M8 (y_fa (r := 4) rfl rfl rfl Try.underlying57 rfl Try.sizeOf51 rfl) ?_
  simp only [Act.put, zq1, zq2, zq3]
  refine pl M8 (y_load (v := .slice (some ⟨pg, 0, none⟩) D.pages.length D.pages.length) rfl rfl rfl Try.isAgg51 (fun W hW => hW.get 0 rfl) (rfl)) ?_
  simp only [Act.put, zq1, zq2, zq3]
  refine pl M8 (y_move (v := .int .i64 (n : Int)) rfl rfl rfl) ?_
  simp only [Act.put, zq1, zq2, zq3]
  refine pl M8 (y_ias (r := 256 * n) rfl rfl rfl rfl Try.underlying51 Try.sizeOf77 (by omega) (by omega)) ?_
  simp only [Act.put, zq1, zq2, zq3]
  refine pl M8 (y_loadb (cs := (bvs (D.pg n))) rfl rfl rfl Try.underlying77 rfl (size_page _ hpl) (fun W hW => hW.get 1 rfl) (pages_row hok hn)) ?_
  simp only [Act.put, zq1, zq2, zq3]
  refine pe rfl (fun K hK => ?_)
  refine e_alloc M8 (bvs zeroPage) rfl zero_page ?_
  intro gp w10 (M10 : Mem w _ w10 [blk gp 77 (bvs zeroPage), blk p 57 ([.int .i64 (wrap64 (D.reads + 1)), .int .i64 D.writes, .int .i64 D.syncs, .int .i64 (D.q.length : Int), .slice (some ⟨pg, 0, none⟩) D.pages.length D.pages.length, qv, .map (some mb), .int .i64 D.armed, .bool D.dead, .int .i64 D.epoch]), blk pg 77 (pagesC D.pages), lst 79 257 qv D.q.length (qC D.q), mapq mb D.q])
  clear M8
  refine hK.out _ _ ?_
  clear hK K
  simp only [Act.put, zq1, zq2, zq3]
  refine pe rfl (fun K hK => ?_)
  refine e_storew M10 0 (cs := (bvs (D.pg n))) rfl rfl rfl rfl (size_page _ hpl) (bvs_all _) rfl (by rw [length_bvs, length_bvs, hpl, zeroPage_len]) ?_
  intro w11 (M11 : Mem w _ w11 [blk gp 77 (bvs (D.pg n)), blk p 57 ([.int .i64 (wrap64 (D.reads + 1)), .int .i64 D.writes, .int .i64 D.syncs, .int .i64 (D.q.length : Int), .slice (some ⟨pg, 0, none⟩) D.pages.length D.pages.length, qv, .map (some mb), .int .i64 D.armed, .bool D.dead, .int .i64 D.epoch]), blk pg 77 (pagesC D.pages), lst 79 257 qv D.q.length (qC D.q), mapq mb D.q])
  clear M10
  refine hK.out _ _ ?_
  clear hK K
  simp only [Act.put, zq1, zq2, zq3]
  refine wpList_nil ?_
  refine hK9 _ _ ?_
  clear hK9
  refine wp_seq_k (fun K12 hK12 => ?_)
  refine wp_seq_k (fun K13 hK13 => ?_)
  refine wp_region_lit ?_
  refine pl M11 (y_move (v := .pointer (some ⟨p, 0, none⟩)) rfl rfl rfl) ?_
  simp only [Act.put, zq1, zq2, zq3]
  refine pl M11 (y_nil rfl rfl rfl) ?_
  simp only [Act.put, zq1, zq2, zq3]
  refine pl M11 (y_fa (r := 6) rfl rfl rfl Try.underlying57 rfl Try.sizeOf52 rfl) ?_
  simp only [Act.put, zq1, zq2, zq3]
  refine pl M11 (y_load (v := .map (some mb)) rfl rfl rfl Try.isAgg52 (fun W hW => hW.get 1 rfl) (rfl)) ?_
  simp only [Act.put, zq1, zq2, zq3]
  refine pl M11 (y_move (v := .int .i64 (n : Int)) rfl rfl rfl) ?_
  simp only [Act.put, zq1, zq2, zq3]
  refine pe rfl (fun K hK => ?_)
  refine e_look M11 4 rfl Try.underlying3 Try.underlying3 Try.underlying52 Try.zeroValue3 (p := n) rfl rfl rfl rfl (rfl) (by omega) ?_
  intro c14 hc14
  clear hc14
  rw [hl]
  refine hK.out _ _ ?_
  clear hK K
  simp only [Act.put, zq1, zq2, zq3]
  refine pl M11 (y_move (v := .tuple #[.int .i64 c14, .bool false]) rfl rfl rfl) ?_
  simp only [Act.put, zq1, zq2, zq3]
  refine pl M11 (y_ext (v := .int .i64 c14) rfl rfl rfl rfl) ?_
  simp only [Act.put, zq1, zq2, zq3]
  refine pl M11 (y_ext (v := .bool false) rfl rfl rfl rfl) ?_
  simp only [Act.put, zq1, zq2, zq3]
  refine pl M11 (y_assign (v := .int .i64 c14) rfl rfl rfl) ?_
  simp only [Act.put, zq1, zq2, zq3]
  refine pl M11 (y_assign (v := .bool false) rfl rfl rfl) ?_
  simp only [Act.put, zq1, zq2, zq3]
  refine wpList_nil ?_
  refine hK13 _ _ ?_
  clear hK13
  refine wp_seq_k (fun K15 hK15 => ?_)
  refine wp_region_lit ?_
  refine pl M11 (y_move (v := .bool false) rfl rfl rfl) ?_
  simp only [Act.put, zq1, zq2, zq3]
  refine wpList_nil ?_
  refine hK15 _ _ ?_
  clear hK15
  refine wp_cond_false rfl ?_
  refine wp_skip ?_
  refine hK12 _ _ ?_
  clear hK12
  refine wp_seq_k (fun K16 hK16 => ?_)
  refine wp_region_lit ?_
  refine pl M11 (y_sla (l := 0) (h := 256) (r := 0) (n' := 256) (c' := 256) rfl rfl rfl rfl rfl Try.underlying77 Try.sizeOf5 (by exact ⟨rfl, rfl⟩) (rfl) (by omega) (by omega)) ?_
  simp only [Act.put, zq1, zq2, zq3]
  have M17 : Mem w _ w11 [lst 5 1 (.slice none 0 0) 0 ([]), blk gp 77 (bvs (D.pg n)), blk p 57 ([.int .i64 (wrap64 (D.reads + 1)), .int .i64 D.writes, .int .i64 D.syncs, .int .i64 (D.q.length : Int), .slice (some ⟨pg, 0, none⟩) D.pages.length D.pages.length, qv, .map (some mb), .int .i64 D.armed, .bool D.dead, .int .i64 D.epoch]), blk pg 77 (pagesC D.pages), lst 79 257 qv D.q.length (qC D.q), mapq mb D.q] := M11.nilst 5 1
  refine pe rfl (fun K hK => ?_)
  refine e_append M17 0 bytesT (by decide) (news := (bvs (D.pg n))) rfl rfl rfl rfl (by rw [length_bvs, hpl]) (by intro h; cases h) ((hpl ▸ blk_row (M17.get 1 rfl) : Row _ _ 256 (D.pg n)).news) (bvs_oneCell _) (⟨by unfold maxLen; omega, by omega⟩) ?_
  intro v18 w18 (M18 : Mem w _ w18 [lst 5 1 v18 256 (bvs (D.pg n)), blk gp 77 (bvs (D.pg n)), blk p 57 ([.int .i64 (wrap64 (D.reads + 1)), .int .i64 D.writes, .int .i64 D.syncs, .int .i64 (D.q.length : Int), .slice (some ⟨pg, 0, none⟩) D.pages.length D.pages.length, qv, .map (some mb), .int .i64 D.armed, .bool D.dead, .int .i64 D.epoch]), blk pg 77 (pagesC D.pages), lst 79 257 qv D.q.length (qC D.q), mapq mb D.q])
  clear M17
  obtain ⟨a18, c18, rfl⟩ := qv_at (M18.get 0 rfl)
  refine hK.out _ _ ?_
  clear hK K
  simp only [Act.put, zq1, zq2, zq3]
  refine pl M18 (y_assign (v := .slice a18 256 c18) rfl rfl rfl) ?_
  simp only [Act.put, zq1, zq2, zq3]
  refine pl M18 (y_assign (v := .int .i64 0) rfl rfl rfl) ?_
  simp only [Act.put, zq1, zq2, zq3]
  refine wpList_nil ?_
  refine hK16 _ _ ?_
  clear hK16
  refine wp_ret ?_
  try simp only [Exit.inBlock, Exit.then]
  refine bodyPost_ret (v := .tuple #[.slice a18 256 c18, .int .i64 0]) (res2 rfl rfl rfl) rfl ?_
  have e1 : readE D n = 0 := by unfold readE; rw [if_neg hd', if_pos hh]
  have e2 : readD D n = { D with reads := wrap64 (D.reads + 1) } := by unfold readD; rw [if_neg hd', if_pos hh]
  have e3 : readL D n = D.cur n := by unfold readL; rw [if_neg hd', if_pos hh]; rfl
  rw [e1, e2, e3, hcl, hc]
  have N : Mem w _ w18 [blk p 57 ([.int .i64 (wrap64 (D.reads + 1)), .int .i64 D.writes, .int .i64 D.syncs, .int .i64 (D.q.length : Int), .slice (some ⟨pg, 0, none⟩) D.pages.length D.pages.length, qv, .map (some mb), .int .i64 D.armed, .bool D.dead, .int .i64 D.epoch]), blk pg 77 (pagesC D.pages), lst 79 257 qv D.q.length (qC D.q), mapq mb D.q, lst 5 1 (.slice a18 256 c18) 256 (bvs (D.pg n))] := M18.arr [2, 3, 4, 5, 0] (by decide)
  exact ⟨_, rfl, disk_close (D := { D with reads := wrap64 (D.reads + 1) }) ⟨hok.lo, hok.hi, hok.len, hok.qs, hok.arm, hok.ep⟩ N⟩
set_option maxRecDepth 100000 in
set_option maxHeartbeats 4000000 in
theorem read_some {D : DV} {p pg mb : Nat} {qv : Value} {w : World} (hM : Mem w (foots [disk D p pg mb qv]) w [disk D p pg mb qv]) (n i : Nat) (hd : D.dead = false) (hn : n < D.pages.length) (hl : lastAt D.q n = some i) : Calls Try.prog 28 #[.pointer (some ⟨p, 0, none⟩), .int .i64 (n : Int)] w fun e w' => ∃ v, e = .returned (.tuple #[v, .int .i64 (readE D n)]) ∧ Mem w (foots [disk D p pg mb qv]) w' [disk (readD D n) p pg mb qv, lst 5 1 v (readL D n).length (bvs (readL D n))] := by
  obtain ⟨hok, M⟩ := disk_open hM
  clear hM
  have hh : D.has n := ⟨by omega, by omega⟩
  have hhi := hok.hi
  have hd' : ¬ D.dead = true := by rw [hd]; decide
  have hpl : (D.pg n).length = 256 := pages_get hok.len hn
  have hcl : (D.cur n).length = 256 := cur_len hok hn
  obtain ⟨x, hx, hxp, hc⟩ := curP_some (D.pg n) n D.q i hl
  have hc : D.cur n = x.2 := hc
  have hi := lastAt_lt n D.q i hl
  have hq : ∀ y ∈ D.q, y.2.length = 256 := fun y hy => (hok.qs y hy).2
  have hxl : x.2.length = 256 := hq x (List.mem_of_getElem? hx)
  have hat := lst_at (M.get 2 rfl)
  rcases hat with ⟨_, h0, _⟩ | ⟨gq, cq, rfl, hqc, hqm⟩
  · omega
  go_enter Try.func28, Try.ntmps28
  refine wp_seq_k (fun K1 hK1 => ?_)
  refine wp_region_lit ?_
  refine pl M (y_assign (v := .slice none 0 0) rfl rfl rfl) ?_
  simp only [Act.put, zq1, zq2, zq3]
  refine pl M (y_assign (v := .int .i64 0) rfl rfl rfl) ?_
  simp only [Act.put, zq1, zq2, zq3]
  refine wpList_nil ?_
  refine hK1 _ _ ?_
  clear hK1
  refine wp_seq_k (fun K2 hK2 => ?_)
  refine wp_seq_k (fun K3 hK3 => ?_)
  refine wp_region_lit ?_
  refine pl M (y_move (v := .pointer (some ⟨p, 0, none⟩)) rfl rfl rfl) ?_
  simp only [Act.put, zq1, zq2, zq3]
  refine pl M (y_nil rfl rfl rfl) ?_
  simp only [Act.put, zq1, zq2, zq3]
  refine pl M (y_fa (r := 8) rfl rfl rfl Try.underlying57 rfl Try.sizeOf4 rfl) ?_
  simp only [Act.put, zq1, zq2, zq3]
  refine pl M (y_load (v := .bool false) rfl rfl rfl Try.isAgg4 (fun W hW => hW.get 0 rfl) (congrArg (fun b => some (Value.bool b)) hd)) ?_
  simp only [Act.put, zq1, zq2, zq3]
  refine wpList_nil ?_
  refine hK3 _ _ ?_
  clear hK3
  refine wp_cond_false rfl ?_
  refine wp_skip ?_
  refine hK2 _ _ ?_
  clear hK2
  refine wp_seq_k (fun K4 hK4 => ?_)
  refine wp_seq_k (fun K5 hK5 => ?_)
  refine wp_region_lit ?_
  refine pl M (y_move (v := .pointer (some ⟨p, 0, none⟩)) rfl rfl rfl) ?_
  simp only [Act.put, zq1, zq2, zq3]
  refine pl M (y_move (v := .int .i64 (n : Int)) rfl rfl rfl) ?_
  simp only [Act.put, zq1, zq2, zq3]
  refine pe rfl (fun K hK => ?_)
  refine e_call 42 [.pointer (some ⟨p, 0, none⟩), .int .i64 (n : Int)] rfl rfl Try.call42 (has_any (Mem.here (L := [disk (D) p pg mb (.slice (some ⟨gq, 0, none⟩) D.q.length cq)]) (R := []) (disk_close (D := D) (R := []) hok M)) (n : Int)) ?_
  rintro e w6 ⟨rfl, H6⟩
  have M6 : Mem w _ w6 [blk p 57 (dC D pg mb (.slice (some ⟨gq, 0, none⟩) D.q.length cq)), blk pg 77 (pagesC D.pages), lst 79 257 (.slice (some ⟨gq, 0, none⟩) D.q.length cq) D.q.length (qC D.q), mapq mb D.q] := (disk_open (Mem.frame (Pre := [disk (D) p pg mb (.slice (some ⟨gq, 0, none⟩) D.q.length cq)]) (Post := [disk (D) p pg mb (.slice (some ⟨gq, 0, none⟩) D.q.length cq)]) (R := []) (disk_close (D := D) (R := []) hok M) H6)).2
  rw [(decide_eq_true hh)]
  refine ⟨_, rfl, ?_⟩
  refine hK.out _ _ ?_
  clear hK K
  simp only [Act.put, zq1, zq2, zq3]
  refine pl M6 (y_not rfl rfl rfl rfl) ?_
  simp only [Act.put, zq1, zq2, zq3]
  refine wpList_nil ?_
  refine hK5 _ _ ?_
  clear hK5
  refine wp_cond_false rfl ?_
  refine wp_skip ?_
  refine hK4 _ _ ?_
  clear hK4
  refine wp_seq_k (fun K7 hK7 => ?_)
  refine wp_region_lit ?_
  refine pl M6 (y_move (v := .pointer (some ⟨p, 0, none⟩)) rfl rfl rfl) ?_
  simp only [Act.put, zq1, zq2, zq3]
  refine pl M6 (y_nil rfl rfl rfl) ?_
  simp only [Act.put, zq1, zq2, zq3]
  refine pl M6 (y_fa (r := 0) rfl rfl rfl Try.underlying57 rfl Try.sizeOf54 rfl) ?_
  simp only [Act.put, zq1, zq2, zq3]
  refine pl M6 (y_fa (r := 0) rfl rfl rfl Try.underlying54 rfl Try.sizeOf3 rfl) ?_
  simp only [Act.put, zq1, zq2, zq3]
  refine pl M6 (y_load (v := .int .i64 D.reads) rfl rfl rfl Try.isAgg3 (fun W hW => hW.get 0 rfl) (rfl)) ?_
  simp only [Act.put, zq1, zq2, zq3]
  refine pl M6 (y_addw rfl rfl rfl rfl) ?_
  simp only [Act.put, zq1, zq2, zq3]
  refine pl M6 (y_nil rfl rfl rfl) ?_
  simp only [Act.put, zq1, zq2, zq3]
  refine pl M6 (y_fa (r := 0) rfl rfl rfl Try.underlying57 rfl Try.sizeOf54 rfl) ?_
  simp only [Act.put, zq1, zq2, zq3]
  refine pl M6 (y_fa (r := 0) rfl rfl rfl Try.underlying54 rfl Try.sizeOf3 rfl) ?_
  simp only [Act.put, zq1, zq2, zq3]
  refine pe rfl (fun K hK => ?_)
  refine e_store M6 0 (v := .int .i64 (wrap64 (D.reads + 1))) rfl rfl rfl rfl rfl rfl Try.sizeOf3 rfl (show (0 : Nat) < 10 by decide) ?_
  intro w8 (M8 : Mem w _ w8 [blk p 57 ([.int .i64 (wrap64 (D.reads + 1)), .int .i64 D.writes, .int .i64 D.syncs, .int .i64 (D.q.length : Int), .slice (some ⟨pg, 0, none⟩) D.pages.length D.pages.length, .slice (some ⟨gq, 0, none⟩) D.q.length cq, .map (some mb), .int .i64 D.armed, .bool D.dead, .int .i64 D.epoch]), blk pg 77 (pagesC D.pages), lst 79 257 (.slice (some ⟨gq, 0, none⟩) D.q.length cq) D.q.length (qC D.q), mapq mb D.q])
  clear M6
  refine hK.out _ _ ?_
  clear hK K
  simp only [Act.put, zq1, zq2, zq3]
  refine wpList_nil ?_
  refine hK7 _ _ ?_
  clear hK7
  refine wp_seq_k (fun K9 hK9 => ?_)
  refine wp_region_lit ?_
  refine pl M8 (y_move (v := .pointer (some ⟨p, 0, none⟩)) rfl rfl rfl) ?_
  simp only [Act.put, zq1, zq2, zq3]
  refine pl M8 (y_nil rfl rfl rfl) ?_
  simp only [Act.put, zq1, zq2, zq3]
  refine pl M8 (y_fa (r := 4) rfl rfl rfl Try.underlying57 rfl Try.sizeOf51 rfl) ?_
  simp only [Act.put, zq1, zq2, zq3]
  refine pl M8 (y_load (v := .slice (some ⟨pg, 0, none⟩) D.pages.length D.pages.length) rfl rfl rfl Try.isAgg51 (fun W hW => hW.get 0 rfl) (rfl)) ?_
  simp only [Act.put, zq1, zq2, zq3]
  refine pl M8 (y_move (v := .int .i64 (n : Int)) rfl rfl rfl) ?_
  simp only [Act.put, zq1, zq2, zq3]
  refine pl M8 (y_ias (r := 256 * n) rfl rfl rfl rfl Try.underlying51 Try.sizeOf77 (by omega) (by omega)) ?_
  simp only [Act.put, zq1, zq2, zq3]
  refine pl M8 (y_loadb (cs := (bvs (D.pg n))) rfl rfl rfl Try.underlying77 rfl (size_page _ hpl) (fun W hW => hW.get 1 rfl) (pages_row hok hn)) ?_
  simp only [Act.put, zq1, zq2, zq3]
  refine pe rfl (fun K hK => ?_)
  refine e_alloc M8 (bvs zeroPage) rfl zero_page ?_
  intro gp w10 (M10 : Mem w _ w10 [blk gp 77 (bvs zeroPage), blk p 57 ([.int .i64 (wrap64 (D.reads + 1)), .int .i64 D.writes, .int .i64 D.syncs, .int .i64 (D.q.length : Int), .slice (some ⟨pg, 0, none⟩) D.pages.length D.pages.length, .slice (some ⟨gq, 0, none⟩) D.q.length cq, .map (some mb), .int .i64 D.armed, .bool D.dead, .int .i64 D.epoch]), blk pg 77 (pagesC D.pages), lst 79 257 (.slice (some ⟨gq, 0, none⟩) D.q.length cq) D.q.length (qC D.q), mapq mb D.q])
  clear M8
  refine hK.out _ _ ?_
  clear hK K
  simp only [Act.put, zq1, zq2, zq3]
  refine pe rfl (fun K hK => ?_)
  refine e_storew M10 0 (cs := (bvs (D.pg n))) rfl rfl rfl rfl (size_page _ hpl) (bvs_all _) rfl (by rw [length_bvs, length_bvs, hpl, zeroPage_len]) ?_
  intro w11 (M11 : Mem w _ w11 [blk gp 77 (bvs (D.pg n)), blk p 57 ([.int .i64 (wrap64 (D.reads + 1)), .int .i64 D.writes, .int .i64 D.syncs, .int .i64 (D.q.length : Int), .slice (some ⟨pg, 0, none⟩) D.pages.length D.pages.length, .slice (some ⟨gq, 0, none⟩) D.q.length cq, .map (some mb), .int .i64 D.armed, .bool D.dead, .int .i64 D.epoch]), blk pg 77 (pagesC D.pages), lst 79 257 (.slice (some ⟨gq, 0, none⟩) D.q.length cq) D.q.length (qC D.q), mapq mb D.q])
  clear M10
  refine hK.out _ _ ?_
  clear hK K
  simp only [Act.put, zq1, zq2, zq3]
  refine wpList_nil ?_
  refine hK9 _ _ ?_
  clear hK9
  refine wp_seq_k (fun K12 hK12 => ?_)
  refine wp_seq_k (fun K13 hK13 => ?_)
  refine wp_region_lit ?_
  refine pl M11 (y_move (v := .pointer (some ⟨p, 0, none⟩)) rfl rfl rfl) ?_
  simp only [Act.put, zq1, zq2, zq3]
  refine pl M11 (y_nil rfl rfl rfl) ?_
  simp only [Act.put, zq1, zq2, zq3]
  refine pl M11 (y_fa (r := 6) rfl rfl rfl Try.underlying57 rfl Try.sizeOf52 rfl) ?_
  simp only [Act.put, zq1, zq2, zq3]
  refine pl M11 (y_load (v := .map (some mb)) rfl rfl rfl Try.isAgg52 (fun W hW => hW.get 1 rfl) (rfl)) ?_
  simp only [Act.put, zq1, zq2, zq3]
  refine pl M11 (y_move (v := .int .i64 (n : Int)) rfl rfl rfl) ?_
  simp only [Act.put, zq1, zq2, zq3]
  refine pe rfl (fun K hK => ?_)
  refine e_look M11 4 rfl Try.underlying3 Try.underlying3 Try.underlying52 Try.zeroValue3 (p := n) rfl rfl rfl rfl (rfl) (by omega) ?_
  intro c14 hc14
  obtain rfl := hc14 _ hl
  rw [hl]
  refine hK.out _ _ ?_
  clear hK K
  simp only [Act.put, zq1, zq2, zq3]
  refine pl M11 (y_move (v := .tuple #[.int .i64 (i : Int), .bool true]) rfl rfl rfl) ?_
  simp only [Act.put, zq1, zq2, zq3]
  refine pl M11 (y_ext (v := .int .i64 (i : Int)) rfl rfl rfl rfl) ?_
  simp only [Act.put, zq1, zq2, zq3]
  refine pl M11 (y_ext (v := .bool true) rfl rfl rfl rfl) ?_
  simp only [Act.put, zq1, zq2, zq3]
  refine pl M11 (y_assign (v := .int .i64 (i : Int)) rfl rfl rfl) ?_
  simp only [Act.put, zq1, zq2, zq3]
  refine pl M11 (y_assign (v := .bool true) rfl rfl rfl) ?_
  simp only [Act.put, zq1, zq2, zq3]
  refine wpList_nil ?_
  refine hK13 _ _ ?_
  clear hK13
  refine wp_seq_k (fun K15 hK15 => ?_)
  refine wp_region_lit ?_
  refine pl M11 (y_move (v := .bool true) rfl rfl rfl) ?_
  simp only [Act.put, zq1, zq2, zq3]
  refine wpList_nil ?_
  refine hK15 _ _ ?_
  clear hK15
  refine wp_cond_true rfl ?_
  refine wp_region_lit ?_
  refine pl M11 (y_move (v := .pointer (some ⟨p, 0, none⟩)) rfl rfl rfl) ?_
  simp only [Act.put, zq1, zq2, zq3]
  refine pl M11 (y_nil rfl rfl rfl) ?_
  simp only [Act.put, zq1, zq2, zq3]
  refine pl M11 (y_fa (r := 5) rfl rfl rfl Try.underlying57 rfl Try.sizeOf55 rfl) ?_
  simp only [Act.put, zq1, zq2, zq3]
  refine pl M11 (y_load (v := .slice (some ⟨gq, 0, none⟩) D.q.length cq) rfl rfl rfl Try.isAgg55 (fun W hW => hW.get 1 rfl) (rfl)) ?_
  simp only [Act.put, zq1, zq2, zq3]
  refine pl M11 (y_move (v := .int .i64 (i : Int)) rfl rfl rfl) ?_
  simp only [Act.put, zq1, zq2, zq3]
  refine pl M11 (y_ias (r := 257 * i) rfl rfl rfl rfl Try.underlying55 Try.sizeOf79 (by omega) (by omega)) ?_
  simp only [Act.put, zq1, zq2, zq3]
  refine pl M11 (y_fa (r := 257 * i + 1) rfl rfl rfl Try.underlying79 rfl Try.sizeOf77 rfl) ?_
  simp only [Act.put, zq1, zq2, zq3]
  refine pl M11 (y_loadr (cs := (bvs x.2)) rfl rfl rfl Try.underlying77 rfl (size_page _ hxl) (fun W hW => lst_range (hW.get 3 rfl) (257 * i + 1) (queue_row hq hx))) ?_
  simp only [Act.put, zq1, zq2, zq3]
  refine pe rfl (fun K hK => ?_)
  refine e_storew M11 0 (cs := (bvs x.2)) rfl rfl rfl rfl (size_page _ hxl) (bvs_all _) rfl (by rw [length_bvs, length_bvs, hpl, hxl]) ?_
  intro w16 (M16 : Mem w _ w16 [blk gp 77 (bvs x.2), blk p 57 ([.int .i64 (wrap64 (D.reads + 1)), .int .i64 D.writes, .int .i64 D.syncs, .int .i64 (D.q.length : Int), .slice (some ⟨pg, 0, none⟩) D.pages.length D.pages.length, .slice (some ⟨gq, 0, none⟩) D.q.length cq, .map (some mb), .int .i64 D.armed, .bool D.dead, .int .i64 D.epoch]), blk pg 77 (pagesC D.pages), lst 79 257 (.slice (some ⟨gq, 0, none⟩) D.q.length cq) D.q.length (qC D.q), mapq mb D.q])
  clear M11
  refine hK.out _ _ ?_
  clear hK K
  simp only [Act.put, zq1, zq2, zq3]
  refine wpList_nil ?_
  refine hK12 _ _ ?_
  clear hK12
  refine wp_seq_k (fun K17 hK17 => ?_)
  refine wp_region_lit ?_
  refine pl M16 (y_sla (l := 0) (h := 256) (r := 0) (n' := 256) (c' := 256) rfl rfl rfl rfl rfl Try.underlying77 Try.sizeOf5 (by exact ⟨rfl, rfl⟩) (rfl) (by omega) (by omega)) ?_
  simp only [Act.put, zq1, zq2, zq3]
  have M18 : Mem w _ w16 [lst 5 1 (.slice none 0 0) 0 ([]), blk gp 77 (bvs x.2), blk p 57 ([.int .i64 (wrap64 (D.reads + 1)), .int .i64 D.writes, .int .i64 D.syncs, .int .i64 (D.q.length : Int), .slice (some ⟨pg, 0, none⟩) D.pages.length D.pages.length, .slice (some ⟨gq, 0, none⟩) D.q.length cq, .map (some mb), .int .i64 D.armed, .bool D.dead, .int .i64 D.epoch]), blk pg 77 (pagesC D.pages), lst 79 257 (.slice (some ⟨gq, 0, none⟩) D.q.length cq) D.q.length (qC D.q), mapq mb D.q] := M16.nilst 5 1
  refine pe rfl (fun K hK => ?_)
  refine e_append M18 0 bytesT (by decide) (news := (bvs x.2)) rfl rfl rfl rfl (by rw [length_bvs, hxl]) (by intro h; cases h) ((hxl ▸ blk_row (M18.get 1 rfl) : Row _ _ 256 x.2).news) (bvs_oneCell _) (⟨by unfold maxLen; omega, by omega⟩) ?_
  intro v19 w19 (M19 : Mem w _ w19 [lst 5 1 v19 256 (bvs x.2), blk gp 77 (bvs x.2), blk p 57 ([.int .i64 (wrap64 (D.reads + 1)), .int .i64 D.writes, .int .i64 D.syncs, .int .i64 (D.q.length : Int), .slice (some ⟨pg, 0, none⟩) D.pages.length D.pages.length, .slice (some ⟨gq, 0, none⟩) D.q.length cq, .map (some mb), .int .i64 D.armed, .bool D.dead, .int .i64 D.epoch]), blk pg 77 (pagesC D.pages), lst 79 257 (.slice (some ⟨gq, 0, none⟩) D.q.length cq) D.q.length (qC D.q), mapq mb D.q])
  clear M18
  obtain ⟨a19, c19, rfl⟩ := qv_at (M19.get 0 rfl)
  refine hK.out _ _ ?_
  clear hK K
  simp only [Act.put, zq1, zq2, zq3]
  refine pl M19 (y_assign (v := .slice a19 256 c19) rfl rfl rfl) ?_
  simp only [Act.put, zq1, zq2, zq3]
  refine pl M19 (y_assign (v := .int .i64 0) rfl rfl rfl) ?_
  simp only [Act.put, zq1, zq2, zq3]
  refine wpList_nil ?_
  refine hK17 _ _ ?_
  clear hK17
  refine wp_ret ?_
  try simp only [Exit.inBlock, Exit.then]
  refine bodyPost_ret (v := .tuple #[.slice a19 256 c19, .int .i64 0]) (res2 rfl rfl rfl) rfl ?_
  have e1 : readE D n = 0 := by unfold readE; rw [if_neg hd', if_pos hh]
  have e2 : readD D n = { D with reads := wrap64 (D.reads + 1) } := by unfold readD; rw [if_neg hd', if_pos hh]
  have e3 : readL D n = D.cur n := by unfold readL; rw [if_neg hd', if_pos hh]; rfl
  rw [e1, e2, e3, hcl, hc]
  have N : Mem w _ w19 [blk p 57 ([.int .i64 (wrap64 (D.reads + 1)), .int .i64 D.writes, .int .i64 D.syncs, .int .i64 (D.q.length : Int), .slice (some ⟨pg, 0, none⟩) D.pages.length D.pages.length, .slice (some ⟨gq, 0, none⟩) D.q.length cq, .map (some mb), .int .i64 D.armed, .bool D.dead, .int .i64 D.epoch]), blk pg 77 (pagesC D.pages), lst 79 257 (.slice (some ⟨gq, 0, none⟩) D.q.length cq) D.q.length (qC D.q), mapq mb D.q, lst 5 1 (.slice a19 256 c19) 256 (bvs x.2)] := M19.arr [2, 3, 4, 5, 0] (by decide)
  exact ⟨_, rfl, disk_close (D := { D with reads := wrap64 (D.reads + 1) }) ⟨hok.lo, hok.hi, hok.len, hok.qs, hok.arm, hok.ep⟩ N⟩
theorem read_any {D : DV} {p pg mb : Nat} {qv : Value} {w : World} (hM : Mem w (foots [disk D p pg mb qv]) w [disk D p pg mb qv]) (page : Int) : Calls Try.prog 28 #[.pointer (some ⟨p, 0, none⟩), .int .i64 page] w fun e w' => ∃ v, e = .returned (.tuple #[v, .int .i64 (readE D page)]) ∧ Mem w (foots [disk D p pg mb qv]) w' [disk (readD D page) p pg mb qv, lst 5 1 v (readL D page).length (bvs (readL D page))] := by
  cases hd : D.dead with
  | true => exact read_dead hM page hd
  | false =>
    by_cases hh : D.has page
    · obtain ⟨n, rfl⟩ := Int.eq_ofNat_of_zero_le hh.1
      have hn : n < D.pages.length := by have := hh.2; omega
      cases hl : lastAt D.q n with
      | none => exact read_none hM n hd hn hl
      | some i => exact read_some hM n i hd hn hl
    · exact read_out hM page hd hh
end Go.Proofs.Ytdnahagibodnpaa

/- The program's disk: close, Arm. -/
namespace Go.Proofs.Ytdnahagibodnpaa
set_option linter.unusedSectionVars false
open Go Go.RowKit
set_option linter.unusedVariables false
set_option linter.unusedSimpArgs false
theorem closeD_ok {D : DV} (h : DOk D) : DOk { D with q := [] } := ⟨h.lo, h.hi, h.len, by simp, h.arm, h.ep⟩
theorem armD_ok {D : DV} (h : DOk D) {n : Int} (hn : n ≤ 9223372036854775807) : DOk { D with armed := max n 0 } := ⟨h.lo, h.hi, h.len, h.qs, ⟨by show 0 ≤ max n 0; omega, by show max n 0 ≤ _; omega⟩, h.ep⟩
set_option maxRecDepth 100000 in
set_option maxHeartbeats 4000000 in
theorem close_any {D : DV} {p pg mb : Nat} {qv : Value} {w : World} (hM : Mem w (foots [disk D p pg mb qv]) w [disk D p pg mb qv])  : Calls Try.prog 27 #[.pointer (some ⟨p, 0, none⟩)] w fun e w' => e = .returned (.tuple #[]) ∧ Mem w (foots [disk D p pg mb qv]) w' [disk { D with q := [] } p pg mb (.slice none 0 0)] := by
  obtain ⟨hok, M⟩ := disk_open hM
  clear hM
  go_enter Try.func27, Try.ntmps27
  refine wp_seq_k (fun K1 hK1 => ?_)
  refine wp_region_lit ?_
  refine pl M (y_move (v := .pointer (some ⟨p, 0, none⟩)) rfl rfl rfl) ?_
  simp only [Act.put, zq1, zq2, zq3]
  refine pl M (y_nil rfl rfl rfl) ?_
  simp only [Act.put, zq1, zq2, zq3]
  refine pl M (y_fa (r := 5) rfl rfl rfl Try.underlying57 rfl Try.sizeOf55 rfl) ?_
  simp only [Act.put, zq1, zq2, zq3]
  refine pe rfl (fun K hK => ?_)
  refine e_store M 0 (v := .slice none 0 0) rfl rfl rfl rfl rfl rfl Try.sizeOf55 rfl (show (5 : Nat) < 10 by decide) ?_
  intro w2 (M2 : Mem w _ w2 [blk p 57 ([.int .i64 D.reads, .int .i64 D.writes, .int .i64 D.syncs, .int .i64 (D.q.length : Int), .slice (some ⟨pg, 0, none⟩) D.pages.length D.pages.length, .slice none 0 0, .map (some mb), .int .i64 D.armed, .bool D.dead, .int .i64 D.epoch]), blk pg 77 (pagesC D.pages), lst 79 257 qv D.q.length (qC D.q), mapq mb D.q])
  clear M
  refine hK.out _ _ ?_
  clear hK K
  simp only [Act.put, zq1, zq2, zq3]
  refine wpList_nil ?_
  refine hK1 _ _ ?_
  clear hK1
  refine wp_seq_k (fun K3 hK3 => ?_)
  refine wp_region_lit ?_
  refine pl M2 (y_move (v := .pointer (some ⟨p, 0, none⟩)) rfl rfl rfl) ?_
  simp only [Act.put, zq1, zq2, zq3]
  refine pl M2 (y_nil rfl rfl rfl) ?_
  simp only [Act.put, zq1, zq2, zq3]
  refine pl M2 (y_fa (r := 6) rfl rfl rfl Try.underlying57 rfl Try.sizeOf52 rfl) ?_
  simp only [Act.put, zq1, zq2, zq3]
  refine pl M2 (y_load (v := .map (some mb)) rfl rfl rfl Try.isAgg52 (fun W hW => hW.get 0 rfl) (rfl)) ?_
  simp only [Act.put, zq1, zq2, zq3]
  refine pe rfl (fun K hK => ?_)
  refine e_clear M2 3 rfl Try.underlying52 rfl rfl rfl ?_
  intro w4 (M4 : Mem w _ w4 [blk p 57 ([.int .i64 D.reads, .int .i64 D.writes, .int .i64 D.syncs, .int .i64 (D.q.length : Int), .slice (some ⟨pg, 0, none⟩) D.pages.length D.pages.length, .slice none 0 0, .map (some mb), .int .i64 D.armed, .bool D.dead, .int .i64 D.epoch]), blk pg 77 (pagesC D.pages), lst 79 257 qv D.q.length (qC D.q), mapq mb ([])])
  clear M2
  refine hK.out _ _ ?_
  clear hK K
  simp only [Act.put, zq1, zq2, zq3]
  refine wpList_nil ?_
  refine hK3 _ _ ?_
  clear hK3
  refine wp_region_lit ?_
  refine pl M4 (y_move (v := .pointer (some ⟨p, 0, none⟩)) rfl rfl rfl) ?_
  simp only [Act.put, zq1, zq2, zq3]
  refine pl M4 (y_nil rfl rfl rfl) ?_
  simp only [Act.put, zq1, zq2, zq3]
  refine pl M4 (y_fa (r := 0) rfl rfl rfl Try.underlying57 rfl Try.sizeOf54 rfl) ?_
  simp only [Act.put, zq1, zq2, zq3]
  refine pl M4 (y_fa (r := 3) rfl rfl rfl Try.underlying54 rfl Try.sizeOf3 rfl) ?_
  simp only [Act.put, zq1, zq2, zq3]
  refine pe rfl (fun K hK => ?_)
  refine e_store M4 0 (v := .int .i64 0) rfl rfl rfl rfl rfl rfl Try.sizeOf3 rfl (show (3 : Nat) < 10 by decide) ?_
  intro w5 (M5 : Mem w _ w5 [blk p 57 ([.int .i64 D.reads, .int .i64 D.writes, .int .i64 D.syncs, .int .i64 0, .slice (some ⟨pg, 0, none⟩) D.pages.length D.pages.length, .slice none 0 0, .map (some mb), .int .i64 D.armed, .bool D.dead, .int .i64 D.epoch]), blk pg 77 (pagesC D.pages), lst 79 257 qv D.q.length (qC D.q), mapq mb ([])])
  clear M4
  refine hK.out _ _ ?_
  clear hK K
  simp only [Act.put, zq1, zq2, zq3]
  refine wpList_nil ?_
  try simp only [Exit.inBlock, Exit.then]
  refine bodyPost_end (v := .tuple #[]) (res0 rfl) rfl ?_
  have N := (M5.arr [0, 1, 3] (by decide)).nilst 79 257
  have N2 := N.arr [1, 2, 0, 3] (by decide)
  exact ⟨rfl, disk_close (D := { D with q := [] }) (closeD_ok hok) N2⟩
end Go.Proofs.Ytdnahagibodnpaa
