/- Texts joined: Disk6, Disk7, Disk8, Disk9. -/
import Derived.Test.YtmmkgkbjneebkaaSF11
import Derived.Test.YtmmkgkbjneebkaaSF08
import Derived.Test.YtmmkgkbjneebkaaSF10
/- The program's disk: Sync. -/
namespace Go.Proofs.Ytmmkgkbjneebkaa
set_option linter.unusedSectionVars false
open Go Go.RowKit
set_option linter.unusedVariables false
set_option linter.unusedSimpArgs false
theorem act_run {D : DV} (h : DOk D) (hd : D.dead = false) (h1 : D.armed ≠ 1) : ∃ m, (0 ≤ m ∧ m ≤ 9223372036854775807) ∧ actD D = { D with armed := m } ∧ actE D = 0 := by
  have ha := h.arm
  have he : actE D = 0 := by unfold actE; rw [if_neg h1]
  by_cases h0 : D.armed = 0
  · exact ⟨D.armed, ha, by unfold actD; rw [if_pos h0], he⟩
  · refine ⟨D.armed - 1, ⟨by omega, by omega⟩, ?_, he⟩
    unfold actD
    rw [if_neg h0, decide_eq_false h1, ← hd]
theorem act_any2 {D E : DV} {v : Int} {p pg mb : Nat} {qv : Value} {w : World} (h : actD D = E) (h2 : actE D = v) (hM : Mem w (foots [disk D p pg mb qv]) w [disk D p pg mb qv]) : Calls Try.prog 96 #[.pointer (some ⟨p, 0, none⟩)] w fun e w' => e = .returned (.int .i64 v) ∧ Mem w (foots [disk D p pg mb qv]) w' [disk E p pg mb qv] := by
  have := act_any hM
  rwa [h, h2] at this
theorem armed_ok {D : DV} (h : DOk D) {m : Int} (hm : 0 ≤ m ∧ m ≤ 9223372036854775807) : DOk { D with armed := m } := ⟨h.lo, h.hi, h.len, h.qs, hm, h.ep⟩
theorem pages_put (ps : List (List UInt8)) (i : Nat) (d : List UInt8) (h : ∀ p ∈ ps, p.length = 256) (hi : i < ps.length) (hd : d.length = 256) : splice (pagesC ps) (256 * i) (bvs d) = pagesC (ps.set i d) := by
  have h2 := flat_upd bvs 256 ps i (ps.getD i []) d 0 (bvs d) (fun y hy => by rw [length_bvs]; exact h y hy) (by rw [List.getD_eq_getElem?_getD, List.getElem?_eq_getElem hi]; rfl) (by rw [length_bvs, hd]; decide) (by rw [splice_all _ _ (by rw [length_bvs, length_bvs, hd]; exact pages_get h hi)])
  exact h2
theorem applyQ_take {ps : List (List UInt8)} {q : List Wr} {k : Nat} {x : Wr} (hx : q[k]? = some x) : applyQ ps (q.take (k + 1)) = (applyQ ps (q.take k)).set x.1 x.2 := by
  obtain ⟨hk, rfl⟩ := List.getElem?_eq_some_iff.1 hx
  rw [List.take_succ_eq_append_getElem hk, applyQ_snoc]
theorem flush_ok {D : DV} (h : DOk D) (s : Int) : DOk { D with pages := applyQ D.pages D.q, q := [], syncs := s } :=
  ⟨by rw [applyQ_len]; exact h.lo, by rw [applyQ_len]; exact h.hi, applyQ_each h.len D.q fun x hx => (h.qs x hx).2, by simp, h.arm, h.ep⟩
theorem flush_ok2 {D : DV} (h : DOk D) (s : Int) : DOk { D with pages := applyQ D.pages D.q, syncs := s } :=
  ⟨by rw [applyQ_len]; exact h.lo, by rw [applyQ_len]; exact h.hi, applyQ_each h.len D.q fun x hx => (h.qs x hx).2, fun x hx => ⟨by rw [applyQ_len]; exact (h.qs x hx).1, (h.qs x hx).2⟩, h.arm, h.ep⟩
theorem pagesC_len {ps : List (List UInt8)} (h : ∀ p ∈ ps, p.length = 256) : (pagesC ps).length = 256 * ps.length := flat_len bvs 256 ps fun y hy => by rw [length_bvs]; exact h y hy
theorem applyQ_take_each {D : DV} (h : DOk D) (k : Nat) : ∀ p ∈ applyQ D.pages (D.q.take k), p.length = 256 := applyQ_each h.len _ fun x hx => (h.qs x (List.mem_of_mem_take hx)).2
set_option maxRecDepth 100000 in
set_option maxHeartbeats 4000000 in
theorem sync_dead {D : DV} {p pg mb : Nat} {qv : Value} {w : World} (hM : Mem w (foots [disk D p pg mb qv]) w [disk D p pg mb qv]) (hd : D.dead = true) : Calls Try.prog 75 #[.pointer (some ⟨p, 0, none⟩)] w fun e w' => ∃ qv', e = .returned (.int .i64 (syncE D)) ∧ Mem w (foots [disk D p pg mb qv]) w' [disk (syncD D) p pg mb qv'] := by
  obtain ⟨hok, M⟩ := disk_open hM
  clear hM
  go_enter Try.func75, Try.ntmps75
  refine wp_seq_k (fun K1 hK1 => ?_)
  refine wp_region_lit ?_
  refine pl M (y_assign (v := .int .i64 0) rfl rfl rfl) ?_
  simp only [Act.put, zq1, zq2, zq3]
  refine wpList_nil ?_
  refine hK1 _ _ ?_
  clear hK1
  refine wp_seq_k (fun K2 hK2 => ?_)
  refine wp_seq_k (fun K3 hK3 => ?_)
  refine wp_region_lit ?_
  refine pl M (y_move (v := .pointer (some ⟨p, 0, none⟩)) rfl rfl rfl) ?_
  simp only [Act.put, zq1, zq2, zq3]
  refine pl M (y_nil rfl rfl rfl) ?_
  simp only [Act.put, zq1, zq2, zq3]
  refine pl M (y_fa (r := 8) rfl rfl rfl Try.underlying76 rfl Try.sizeOf4 rfl) ?_
  simp only [Act.put, zq1, zq2, zq3]
  refine pl M (y_load (v := .bool true) rfl rfl rfl Try.isAgg4 (fun W hW => hW.get 0 rfl) (congrArg (fun b => some (Value.bool b)) hd)) ?_
  simp only [Act.put, zq1, zq2, zq3]
  refine wpList_nil ?_
  refine hK3 _ _ ?_
  clear hK3
  refine wp_cond_true rfl ?_
  refine wp_seq_k (fun K4 hK4 => ?_)
  refine wp_region_lit ?_
  refine pl M (y_assign (v := .int .i64 2) rfl rfl rfl) ?_
  simp only [Act.put, zq1, zq2, zq3]
  refine wpList_nil ?_
  refine hK4 _ _ ?_
  clear hK4
  refine wp_ret ?_
  try simp only [Exit.inBlock, Exit.then]
  refine bodyPost_ret (v := .int .i64 2) (res1 rfl rfl) rfl ?_
  have e1 : syncE D = 2 := if_pos hd
  have e2 : syncD D = D := if_pos hd
  rw [e1, e2]
  exact ⟨_, rfl, disk_close hok M⟩
set_option maxRecDepth 100000 in
set_option maxHeartbeats 4000000 in
theorem sync_down {D : DV} {p pg mb : Nat} {qv : Value} {w : World} (hM : Mem w (foots [disk D p pg mb qv]) w [disk D p pg mb qv]) (hd : D.dead = false) (h1 : D.armed = 1) : Calls Try.prog 75 #[.pointer (some ⟨p, 0, none⟩)] w fun e w' => ∃ qv', e = .returned (.int .i64 (syncE D)) ∧ Mem w (foots [disk D p pg mb qv]) w' [disk (syncD D) p pg mb qv'] := by
  obtain ⟨hok, M⟩ := disk_open hM
  clear hM
  have he : actE D = 2 := if_pos h1
  go_enter Try.func75, Try.ntmps75
  refine wp_seq_k (fun K1 hK1 => ?_)
  refine wp_region_lit ?_
  refine pl M (y_assign (v := .int .i64 0) rfl rfl rfl) ?_
  simp only [Act.put, zq1, zq2, zq3]
  refine wpList_nil ?_
  refine hK1 _ _ ?_
  clear hK1
  refine wp_seq_k (fun K2 hK2 => ?_)
  refine wp_seq_k (fun K3 hK3 => ?_)
  refine wp_region_lit ?_
  refine pl M (y_move (v := .pointer (some ⟨p, 0, none⟩)) rfl rfl rfl) ?_
  simp only [Act.put, zq1, zq2, zq3]
  refine pl M (y_nil rfl rfl rfl) ?_
  simp only [Act.put, zq1, zq2, zq3]
  refine pl M (y_fa (r := 8) rfl rfl rfl Try.underlying76 rfl Try.sizeOf4 rfl) ?_
  simp only [Act.put, zq1, zq2, zq3]
  refine pl M (y_load (v := .bool false) rfl rfl rfl Try.isAgg4 (fun W hW => hW.get 0 rfl) (congrArg (fun b => some (Value.bool b)) hd)) ?_
  simp only [Act.put, zq1, zq2, zq3]
  refine wpList_nil ?_
  refine hK3 _ _ ?_
  clear hK3
  refine wp_cond_false rfl ?_
  refine wp_skip ?_
  refine hK2 _ _ ?_
  clear hK2
  refine wp_seq_k (fun K4 hK4 => ?_)
  refine wp_seq_k (fun K5 hK5 => ?_)
  refine wp_region_lit ?_
  refine pl M (y_move (v := .pointer (some ⟨p, 0, none⟩)) rfl rfl rfl) ?_
  simp only [Act.put, zq1, zq2, zq3]
  refine pe rfl (fun K hK => ?_)
  refine e_call 96 [.pointer (some ⟨p, 0, none⟩)] rfl rfl Try.call96 (act_any2 (rfl : actD D = actD D) he (Mem.here (L := [disk (D) p pg mb (qv)]) (R := []) (disk_close (D := D) (R := []) hok M)) ) ?_
  rintro e w6 ⟨rfl, H6⟩
  have M6 : Mem w _ w6 [disk (actD D) p pg mb qv] := (Mem.frame (Pre := [disk (D) p pg mb (qv)]) (Post := [disk (actD D) p pg mb (qv)]) (R := []) (disk_close (D := D) (R := []) hok M) H6)
  refine ⟨_, rfl, ?_⟩
  refine hK.out _ _ ?_
  clear hK K
  simp only [Act.put, zq1, zq2, zq3]
  refine pl M6 (y_assign (v := .int .i64 2) rfl rfl rfl) ?_
  simp only [Act.put, zq1, zq2, zq3]
  refine wpList_nil ?_
  refine hK5 _ _ ?_
  clear hK5
  refine wp_seq_k (fun K7 hK7 => ?_)
  refine wp_region_lit ?_
  refine pl M6 (y_move (v := .int .i64 2) rfl rfl rfl) ?_
  simp only [Act.put, zq1, zq2, zq3]
  refine pl M6 (y_neq (b := true) rfl rfl rfl rfl (by rw [decide_eq_false (by decide)]; rfl)) ?_
  simp only [Act.put, zq1, zq2, zq3]
  refine wpList_nil ?_
  refine hK7 _ _ ?_
  clear hK7
  refine wp_cond_true rfl ?_
  refine wp_seq_k (fun K8 hK8 => ?_)
  refine wp_region_lit ?_
  refine pl M6 (y_move (v := .int .i64 2) rfl rfl rfl) ?_
  simp only [Act.put, zq1, zq2, zq3]
  refine pl M6 (y_assign (v := .int .i64 2) rfl rfl rfl) ?_
  simp only [Act.put, zq1, zq2, zq3]
  refine wpList_nil ?_
  refine hK8 _ _ ?_
  clear hK8
  refine wp_ret ?_
  try simp only [Exit.inBlock, Exit.then]
  refine bodyPost_ret (v := .int .i64 2) (res1 rfl rfl) rfl ?_
  have hd' : ¬ D.dead = true := by rw [hd]; decide
  have e1 : syncE D = 2 := by unfold syncE; rw [if_neg hd']; exact he
  have e2 : syncD D = actD D := by unfold syncD; rw [if_neg hd', if_pos h1]
  rw [e1, e2]
  exact ⟨_, rfl, M6⟩
theorem queue_wr {q : List Wr} (hq : ∀ x ∈ q, x.2.length = 256) {i : Nat} {x : Wr} (hi : q[i]? = some x) : ((qC q).drop (257 * i)).take (wC x).length = wC x := by
  have hl : (wC x).length = 257 := by simp [wC, hq x (List.mem_of_getElem? hi)]
  rw [hl]
  exact flat_get wC 257 q i x (fun y hy => by simp [wC, hq y hy]) hi
set_option maxRecDepth 100000 in
set_option maxHeartbeats 4000000 in
theorem sync_some {D : DV} {p pg mb : Nat} {qv : Value} {w : World} (hM : Mem w (foots [disk D p pg mb qv]) w [disk D p pg mb qv]) (hd : D.dead = false) (h1 : D.armed ≠ 1) (gq cq : Nat) (hqv : qv = .slice (some ⟨gq, 0, none⟩) D.q.length cq) (hqm : D.q.length ≤ maxLen) : Calls Try.prog 75 #[.pointer (some ⟨p, 0, none⟩)] w fun e w' => ∃ qv', e = .returned (.int .i64 (syncE D)) ∧ Mem w (foots [disk D p pg mb qv]) w' [disk (syncD D) p pg mb qv'] := by
  obtain ⟨hok, M⟩ := disk_open hM
  clear hM
  subst hqv
  have hhi := hok.hi
  unfold maxLen at hqm
  have hq : ∀ y ∈ D.q, y.2.length = 256 := fun y hy => (hok.qs y hy).2
  obtain ⟨m, hm, hE, he⟩ := act_run hok hd h1
  go_enter Try.func75, Try.ntmps75
  refine wp_seq_k (fun K1 hK1 => ?_)
  refine wp_region_lit ?_
  refine pl M (y_assign (v := .int .i64 0) rfl rfl rfl) ?_
  simp only [Act.put, zq1, zq2, zq3]
  refine wpList_nil ?_
  refine hK1 _ _ ?_
  clear hK1
  refine wp_seq_k (fun K2 hK2 => ?_)
  refine wp_seq_k (fun K3 hK3 => ?_)
  refine wp_region_lit ?_
  refine pl M (y_move (v := .pointer (some ⟨p, 0, none⟩)) rfl rfl rfl) ?_
  simp only [Act.put, zq1, zq2, zq3]
  refine pl M (y_nil rfl rfl rfl) ?_
  simp only [Act.put, zq1, zq2, zq3]
  refine pl M (y_fa (r := 8) rfl rfl rfl Try.underlying76 rfl Try.sizeOf4 rfl) ?_
  simp only [Act.put, zq1, zq2, zq3]
  refine pl M (y_load (v := .bool false) rfl rfl rfl Try.isAgg4 (fun W hW => hW.get 0 rfl) (congrArg (fun b => some (Value.bool b)) hd)) ?_
  simp only [Act.put, zq1, zq2, zq3]
  refine wpList_nil ?_
  refine hK3 _ _ ?_
  clear hK3
  refine wp_cond_false rfl ?_
  refine wp_skip ?_
  refine hK2 _ _ ?_
  clear hK2
  refine wp_seq_k (fun K4 hK4 => ?_)
  refine wp_seq_k (fun K5 hK5 => ?_)
  refine wp_region_lit ?_
  refine pl M (y_move (v := .pointer (some ⟨p, 0, none⟩)) rfl rfl rfl) ?_
  simp only [Act.put, zq1, zq2, zq3]
  refine pe rfl (fun K hK => ?_)
  refine e_call 96 [.pointer (some ⟨p, 0, none⟩)] rfl rfl Try.call96 (act_any2 hE he (Mem.here (L := [disk (D) p pg mb (.slice (some ⟨gq, 0, none⟩) D.q.length cq)]) (R := []) (disk_close (D := D) (R := []) hok M)) ) ?_
  rintro e w6 ⟨rfl, H6⟩
  have M6 : Mem w _ w6 [blk p 76 (dC ({ D with armed := m } : DV) pg mb (.slice (some ⟨gq, 0, none⟩) D.q.length cq)), blk pg 127 (pagesC ({ D with armed := m } : DV).pages), lst 129 257 (.slice (some ⟨gq, 0, none⟩) D.q.length cq) (({ D with armed := m } : DV).q.length) (qC ({ D with armed := m } : DV).q), mapq mb (({ D with armed := m } : DV).q)] := (disk_open (Mem.frame (Pre := [disk (D) p pg mb (.slice (some ⟨gq, 0, none⟩) D.q.length cq)]) (Post := [disk (({ D with armed := m } : DV)) p pg mb (.slice (some ⟨gq, 0, none⟩) D.q.length cq)]) (R := []) (disk_close (D := D) (R := []) hok M) H6)).2
  refine ⟨_, rfl, ?_⟩
  refine hK.out _ _ ?_
  clear hK K
  simp only [Act.put, zq1, zq2, zq3]
  refine pl M6 (y_assign (v := .int .i64 0) rfl rfl rfl) ?_
  simp only [Act.put, zq1, zq2, zq3]
  refine wpList_nil ?_
  refine hK5 _ _ ?_
  clear hK5
  refine wp_seq_k (fun K7 hK7 => ?_)
  refine wp_region_lit ?_
  refine pl M6 (y_move (v := .int .i64 0) rfl rfl rfl) ?_
  simp only [Act.put, zq1, zq2, zq3]
  refine pl M6 (y_neq (b := false) rfl rfl rfl rfl (by rw [decide_eq_true (by decide)]; rfl)) ?_
  simp only [Act.put, zq1, zq2, zq3]
  refine wpList_nil ?_
  refine hK7 _ _ ?_
  clear hK7
  refine wp_cond_false rfl ?_
  refine wp_skip ?_
  refine hK4 _ _ ?_
  clear hK4
  refine wp_seq_k (fun K8 hK8 => ?_)
  refine wp_seq_k (fun K9 hK9 => ?_)
  refine wp_region_lit ?_
  refine pl M6 (y_move (v := .pointer (some ⟨p, 0, none⟩)) rfl rfl rfl) ?_
  simp only [Act.put, zq1, zq2, zq3]
  refine pl M6 (y_nil rfl rfl rfl) ?_
  simp only [Act.put, zq1, zq2, zq3]
  refine pl M6 (y_fa (r := 5) rfl rfl rfl Try.underlying76 rfl Try.sizeOf73 rfl) ?_
  simp only [Act.put, zq1, zq2, zq3]
  refine pl M6 (y_load (v := .slice (some ⟨gq, 0, none⟩) D.q.length cq) rfl rfl rfl Try.isAgg73 (fun W hW => hW.get 0 rfl) (rfl)) ?_
  simp only [Act.put, zq1, zq2, zq3]
  refine pl M6 (y_len rfl rfl rfl Try.underlying73) ?_
  simp only [Act.put, zq1, zq2, zq3]
  refine pl M6 (y_move (v := .int .i64 0) rfl rfl rfl) ?_
  simp only [Act.put, zq1, zq2, zq3]
  refine wpList_nil ?_
  refine hK9 _ _ ?_
  clear hK9
  refine wp_block ?_
  refine wp_loop (fun a' w' => ∃ (k : Nat) (us10 : List Value), a' = (⟨#[.pointer (some ⟨p, 0, none⟩), undef, .int .i64 0, .int .i64 0, undef, (us10.getD 0 undef), .pointer (some ⟨p, 0, none⟩), .pointer (some ⟨p, 0, none⟩), .pointer (some ⟨p, 8, none⟩), .bool false, .pointer (some ⟨p, 0, none⟩), .int .i64 0, .int .i64 0, .bool false, undef, .pointer (some ⟨p, 0, none⟩), .pointer (some ⟨p, 0, none⟩), .pointer (some ⟨p, 5, none⟩), .slice (some ⟨gq, 0, none⟩) D.q.length cq, .int .i64 (D.q.length : Int), .int .i64 (k : Int), (us10.getD 1 undef), (us10.getD 2 undef), (us10.getD 3 undef), (us10.getD 4 undef), (us10.getD 5 undef), (us10.getD 6 undef), (us10.getD 7 undef), (us10.getD 8 undef), (us10.getD 9 undef), (us10.getD 10 undef), (us10.getD 11 undef), (us10.getD 12 undef), (us10.getD 13 undef), undef, undef, undef, undef, undef, undef, undef, undef, undef, undef, undef], []⟩ : Act) ∧ (k ≤ D.q.length) ∧ Mem w (foots [disk D p pg mb (.slice (some ⟨gq, 0, none⟩) D.q.length cq)]) w' [blk p 76 (dC ({ D with armed := m } : DV) pg mb (.slice (some ⟨gq, 0, none⟩) D.q.length cq)), blk pg 127 (pagesC (applyQ D.pages (D.q.take k))), lst 129 257 (.slice (some ⟨gq, 0, none⟩) D.q.length cq) (({ D with armed := m } : DV).q.length) (qC ({ D with armed := m } : DV).q), mapq mb (({ D with armed := m } : DV).q)]) (fun a' _ => D.q.length - (intOf (a'.tmps.getD 20 undef)).toNat) ⟨0, [undef, undef, undef, undef, undef, undef, undef, undef, undef, undef, undef, undef, undef, undef], rfl, Nat.zero_le _, M6⟩ ?_
  clear M6
  rintro a' w12 ⟨k, us10, rfl, f11, M12⟩
  refine wp_seq_k (fun K13 hK13 => ?_)
  refine wp_region_lit ?_
  rcases Decidable.em ((k : Int) < (D.q.length : Int)) with h14 | h14
  · have hkl : k < D.q.length := by omega
    obtain ⟨x, hx⟩ : ∃ x, D.q[k]? = some x := ⟨_, List.getElem?_eq_getElem hkl⟩
    have hxp := hok.qs x (List.mem_of_getElem? hx)
    have hxl : x.2.length = 256 := hxp.2
    have hps := applyQ_take_each hok k
    have hpl : (applyQ D.pages (D.q.take k)).length = D.pages.length := applyQ_len _ _
    refine pl M12 (y_lss (b := true) rfl rfl rfl rfl (decide_eq_true h14)) ?_
    simp only [Act.put, zq1, zq2, zq3]
    refine wpList_nil ?_
    refine hK13 _ _ ?_
    clear hK13
    refine wp_seq_k (fun K15 hK15 => ?_)
    refine wp_cond_true rfl ?_
    refine wp_skip ?_
    refine hK15 _ _ ?_
    clear hK15
    refine wp_seq_k (fun K16 hK16 => ?_)
    refine wp_block ?_
    refine wp_seq_k (fun K17 hK17 => ?_)
    refine wp_region_lit ?_
    refine pl M12 (y_ias (r := 257 * k) rfl rfl rfl rfl Try.underlying73 Try.sizeOf129 (by omega) (by omega)) ?_
    simp only [Act.put, zq1, zq2, zq3]
    refine pl M12 (y_loadr (cs := (wC x)) rfl rfl rfl Try.underlying129 rfl (size_write _ hxl) (fun W hW => lst_range (hW.get 2 rfl) (257 * k) (queue_wr hq hx))) ?_
    simp only [Act.put, zq1, zq2, zq3]
    refine pe rfl (fun K hK => ?_)
    refine e_alloc M12 (wC (0, zeroPage)) rfl zero_write ?_
    intro gw w18 (M18 : Mem w _ w18 [blk gw 129 (wC (0, zeroPage)), blk p 76 (dC ({ D with armed := m } : DV) pg mb (.slice (some ⟨gq, 0, none⟩) D.q.length cq)), blk pg 127 (pagesC (applyQ D.pages (D.q.take k))), lst 129 257 (.slice (some ⟨gq, 0, none⟩) D.q.length cq) (({ D with armed := m } : DV).q.length) (qC ({ D with armed := m } : DV).q), mapq mb (({ D with armed := m } : DV).q)])
    clear M12
    refine hK.out _ _ ?_
    clear hK K
    simp only [Act.put, zq1, zq2, zq3]
    refine pe rfl (fun K hK => ?_)
    refine e_storew M18 0 (cs := (wC x)) rfl rfl rfl rfl (size_write _ hxl) (wC_all _) rfl (by simp [wC, hxl, zeroPage_len]) ?_
    intro w19 (M19 : Mem w _ w19 [blk gw 129 (wC x), blk p 76 (dC ({ D with armed := m } : DV) pg mb (.slice (some ⟨gq, 0, none⟩) D.q.length cq)), blk pg 127 (pagesC (applyQ D.pages (D.q.take k))), lst 129 257 (.slice (some ⟨gq, 0, none⟩) D.q.length cq) (({ D with armed := m } : DV).q.length) (qC ({ D with armed := m } : DV).q), mapq mb (({ D with armed := m } : DV).q)])
    clear M18
    refine hK.out _ _ ?_
    clear hK K
    simp only [Act.put, zq1, zq2, zq3]
    refine wpList_nil ?_
    refine hK17 _ _ ?_
    clear hK17
    have M20 : Mem w _ w19.drew [blk gw 129 (wC x), blk p 76 (dC ({ D with armed := m } : DV) pg mb (.slice (some ⟨gq, 0, none⟩) D.q.length cq)), blk pg 127 (pagesC (applyQ D.pages (D.q.take k))), lst 129 257 (.slice (some ⟨gq, 0, none⟩) D.q.length cq) (({ D with armed := m } : DV).q.length) (qC ({ D with armed := m } : DV).q), mapq mb (({ D with armed := m } : DV).q)] := M19.drew
    clear M19
    refine wp_region_tail 9 (by kernel_rfl) (by kernel_rfl) ?_
    simp only [List.take_succ_cons, List.take_zero, List.drop_succ_cons, List.drop_zero]
    refine ps M20 (y_move (v := .pointer (some ⟨p, 0, none⟩)) rfl rfl rfl) ?_
    simp only [Act.put, zq1, zq2, zq3]
    refine ps M20 (y_nil rfl rfl rfl) ?_
    simp only [Act.put, zq1, zq2, zq3]
    refine ps M20 (y_fa (r := 4) rfl rfl rfl Try.underlying76 rfl Try.sizeOf72 rfl) ?_
    simp only [Act.put, zq1, zq2, zq3]
    refine ps M20 (y_load (v := .slice (some ⟨pg, 0, none⟩) (({ D with armed := m } : DV).pages.length) (({ D with armed := m } : DV).pages.length)) rfl rfl rfl Try.isAgg72 (fun W hW => hW.get 1 rfl) (rfl)) ?_
    simp only [Act.put, zq1, zq2, zq3]
    refine ps M20 (y_fa (r := 0) rfl rfl rfl Try.underlying129 rfl Try.sizeOf3 rfl) ?_
    simp only [Act.put, zq1, zq2, zq3]
    refine ps M20 (y_load (v := .int .i64 (x.1 : Int)) rfl rfl rfl Try.isAgg3 (fun W hW => hW.get 0 rfl) (rfl)) ?_
    simp only [Act.put, zq1, zq2, zq3]
    refine ps M20 (y_fa (r := 1) rfl rfl rfl Try.underlying129 rfl Try.sizeOf127 rfl) ?_
    simp only [Act.put, zq1, zq2, zq3]
    refine ps M20 (y_loadb (cs := (bvs x.2)) rfl rfl rfl Try.underlying127 rfl (size_page _ hxl) (fun W hW => hW.get 0 rfl) (by rw [show (wC x).drop 1 = bvs x.2 from rfl, List.take_length])) ?_
    simp only [Act.put, zq1, zq2, zq3]
    refine ps M20 (y_ias (r := 256 * x.1) rfl rfl rfl rfl Try.underlying72 Try.sizeOf127 (by omega) (by omega)) ?_
    simp only [Act.put, zq1, zq2, zq3]
    refine wpStill_nil ?_
    refine pe rfl (fun K hK => ?_)
    refine e_storer M20 2 (cs := (bvs x.2)) rfl rfl rfl rfl (size_page _ hxl) (bvs_all _) rfl (by rw [length_bvs, pagesC_len hps, hxl, hpl]; omega) ?_
    intro w21 M21
    replace M21 : Mem w (foots [disk D p pg mb (.slice (some ⟨gq, 0, none⟩) D.q.length cq)]) w21 [blk gw 129 (wC x), blk p 76 (dC ({ D with armed := m } : DV) pg mb (.slice (some ⟨gq, 0, none⟩) D.q.length cq)), blk pg 127 (pagesC (applyQ D.pages (D.q.take (k + 1)))), lst 129 257 (.slice (some ⟨gq, 0, none⟩) D.q.length cq) (({ D with armed := m } : DV).q.length) (qC ({ D with armed := m } : DV).q), mapq mb (({ D with armed := m } : DV).q)] := by rw [pages_put _ _ _ hps (by omega) hxl, ← applyQ_take hx] at M21; exact M21
    clear M20
    have M22 : Mem w _ w21 [blk p 76 (dC ({ D with armed := m } : DV) pg mb (.slice (some ⟨gq, 0, none⟩) D.q.length cq)), blk pg 127 (pagesC (applyQ D.pages (D.q.take (k + 1)))), lst 129 257 (.slice (some ⟨gq, 0, none⟩) D.q.length cq) (({ D with armed := m } : DV).q.length) (qC ({ D with armed := m } : DV).q), mapq mb (({ D with armed := m } : DV).q)] := M21.arr [1, 2, 3, 4] (by decide)
    clear M21
    refine hK.out _ _ ?_
    clear hK K
    simp only [Act.put, zq1, zq2, zq3]
    refine wpList_nil ?_
    refine hK16 _ _ ?_
    clear hK16
    refine wp_region_lit ?_
    refine pl M22 (y_add (r := (k : Int) + 1) rfl rfl rfl rfl (rfl) (by omega)) ?_
    simp only [Act.put, zq1, zq2, zq3]
    refine pl M22 (y_move (v := .int .i64 ((k : Int) + 1)) rfl rfl rfl) ?_
    simp only [Act.put, zq1, zq2, zq3]
    refine wpList_nil ?_
    refine ⟨⟨k + 1, [.pointer (some ⟨gw, 0, none⟩), .bool true, .pointer (some ⟨gq, 257 * k, none⟩), .agg ((wC x)).toArray, .pointer (some ⟨p, 0, none⟩), .pointer (some ⟨p, 0, none⟩), .pointer (some ⟨p, 4, none⟩), .slice (some ⟨pg, 0, none⟩) (({ D with armed := m } : DV).pages.length) (({ D with armed := m } : DV).pages.length), .pointer (some ⟨gw, 0, none⟩), .int .i64 (x.1 : Int), .pointer (some ⟨gw, 1, none⟩), .agg ((bvs x.2)).toArray, .pointer (some ⟨pg, 256 * x.1, none⟩), .int .i64 ((k : Int) + 1)], rfl, by omega, M22⟩, ?_⟩
    simp [intOf]; omega
  · obtain rfl : k = D.q.length := by omega
    have hta : D.q.take D.q.length = D.q := List.take_length
    rw [hta] at M12
    refine pl M12 (y_lss (b := false) rfl rfl rfl rfl (decide_eq_false h14)) ?_
    simp only [Act.put, zq1, zq2, zq3]
    refine wpList_nil ?_
    refine hK13 _ _ ?_
    clear hK13
    refine wp_seq_k (fun K23 hK23 => ?_)
    refine wp_cond_false rfl ?_
    refine wp_exit ?_
    refine hK8 _ _ ?_
    clear hK8
    refine wp_seq_k (fun K24 hK24 => ?_)
    refine wp_region_lit ?_
    refine pl M12 (y_move (v := .pointer (some ⟨p, 0, none⟩)) rfl rfl rfl) ?_
    simp only [Act.put, zq1, zq2, zq3]
    refine pl M12 (y_nil rfl rfl rfl) ?_
    simp only [Act.put, zq1, zq2, zq3]
    refine pl M12 (y_fa (r := 0) rfl rfl rfl Try.underlying76 rfl Try.sizeOf71 rfl) ?_
    simp only [Act.put, zq1, zq2, zq3]
    refine pl M12 (y_fa (r := 2) rfl rfl rfl Try.underlying71 rfl Try.sizeOf3 rfl) ?_
    simp only [Act.put, zq1, zq2, zq3]
    refine pl M12 (y_load (v := .int .i64 (({ D with armed := m } : DV).syncs)) rfl rfl rfl Try.isAgg3 (fun W hW => hW.get 0 rfl) (rfl)) ?_
    simp only [Act.put, zq1, zq2, zq3]
    refine pl M12 (y_addw rfl rfl rfl rfl) ?_
    simp only [Act.put, zq1, zq2, zq3]
    refine pl M12 (y_nil rfl rfl rfl) ?_
    simp only [Act.put, zq1, zq2, zq3]
    refine pl M12 (y_fa (r := 0) rfl rfl rfl Try.underlying76 rfl Try.sizeOf71 rfl) ?_
    simp only [Act.put, zq1, zq2, zq3]
    refine pl M12 (y_fa (r := 2) rfl rfl rfl Try.underlying71 rfl Try.sizeOf3 rfl) ?_
    simp only [Act.put, zq1, zq2, zq3]
    refine pe rfl (fun K hK => ?_)
    refine e_store M12 0 (v := .int .i64 (wrap64 (({ D with armed := m } : DV).syncs + 1))) rfl rfl rfl rfl rfl rfl Try.sizeOf3 rfl (show (2 : Nat) < 10 by decide) ?_
    intro w25 (M25 : Mem w _ w25 [blk p 76 ([.int .i64 (({ D with armed := m } : DV).reads), .int .i64 (({ D with armed := m } : DV).writes), .int .i64 (wrap64 (({ D with armed := m } : DV).syncs + 1)), .int .i64 (({ D with armed := m } : DV).q.length : Int), .slice (some ⟨pg, 0, none⟩) (({ D with armed := m } : DV).pages.length) (({ D with armed := m } : DV).pages.length), .slice (some ⟨gq, 0, none⟩) D.q.length cq, .map (some mb), .int .i64 (({ D with armed := m } : DV).armed), .bool (({ D with armed := m } : DV).dead), .int .i64 (({ D with armed := m } : DV).epoch)]), blk pg 127 (pagesC (applyQ D.pages D.q)), lst 129 257 (.slice (some ⟨gq, 0, none⟩) D.q.length cq) (({ D with armed := m } : DV).q.length) (qC ({ D with armed := m } : DV).q), mapq mb (({ D with armed := m } : DV).q)])
    clear M12
    refine hK.out _ _ ?_
    clear hK K
    simp only [Act.put, zq1, zq2, zq3]
    refine wpList_nil ?_
    refine hK24 _ _ ?_
    clear hK24
    refine wp_seq_k (fun K26 hK26 => ?_)
    refine wp_region_lit ?_
    refine pl M25 (y_move (v := .pointer (some ⟨p, 0, none⟩)) rfl rfl rfl) ?_
    simp only [Act.put, zq1, zq2, zq3]
    have M27 : Mem w (foots [disk D p pg mb (.slice (some ⟨gq, 0, none⟩) D.q.length cq)]) w25 [blk p 76 ([.int .i64 (({ D with armed := m } : DV).reads), .int .i64 (({ D with armed := m } : DV).writes), .int .i64 (wrap64 (({ D with armed := m } : DV).syncs + 1)), .int .i64 (({ D with armed := m } : DV).q.length : Int), .slice (some ⟨pg, 0, none⟩) ((applyQ D.pages D.q).length) ((applyQ D.pages D.q).length), .slice (some ⟨gq, 0, none⟩) D.q.length cq, .map (some mb), .int .i64 (({ D with armed := m } : DV).armed), .bool (({ D with armed := m } : DV).dead), .int .i64 (({ D with armed := m } : DV).epoch)]), blk pg 127 (pagesC (applyQ D.pages D.q)), lst 129 257 (.slice (some ⟨gq, 0, none⟩) D.q.length cq) (({ D with armed := m } : DV).q.length) (qC ({ D with armed := m } : DV).q), mapq mb (({ D with armed := m } : DV).q)] := by rw [applyQ_len]; exact M25
    refine pe rfl (fun K hK => ?_)
    refine e_call 57 [.pointer (some ⟨p, 0, none⟩)] rfl rfl Try.call57 (close_any (Mem.here (L := [disk (({ D with armed := m, pages := applyQ D.pages D.q, syncs := wrap64 (D.syncs + 1) } : DV)) p pg mb (.slice (some ⟨gq, 0, none⟩) D.q.length cq)]) (R := []) (disk_close (D := ({ D with armed := m, pages := applyQ D.pages D.q, syncs := wrap64 (D.syncs + 1) } : DV)) (R := []) (flush_ok2 (armed_ok hok hm) _) M27)) ) ?_
    rintro e w28 ⟨rfl, H28⟩
    have M28 : Mem w _ w28 [disk ({ ({ D with armed := m, pages := applyQ D.pages D.q, syncs := wrap64 (D.syncs + 1) } : DV) with q := [] }) p pg mb (.slice none 0 0)] := (Mem.frame (Pre := [disk (({ D with armed := m, pages := applyQ D.pages D.q, syncs := wrap64 (D.syncs + 1) } : DV)) p pg mb (.slice (some ⟨gq, 0, none⟩) D.q.length cq)]) (Post := [disk ({ ({ D with armed := m, pages := applyQ D.pages D.q, syncs := wrap64 (D.syncs + 1) } : DV) with q := [] }) p pg mb (.slice none 0 0)]) (R := []) (disk_close (D := ({ D with armed := m, pages := applyQ D.pages D.q, syncs := wrap64 (D.syncs + 1) } : DV)) (R := []) (flush_ok2 (armed_ok hok hm) _) M27) H28)
    refine ⟨_, rfl, ?_⟩
    refine hK.out _ _ ?_
    clear hK K
    simp only [Act.put, zq1, zq2, zq3]
    refine wpList_nil ?_
    refine hK26 _ _ ?_
    clear hK26
    refine wp_seq_k (fun K29 hK29 => ?_)
    refine wp_region_lit ?_
    refine pl M28 (y_assign (v := .int .i64 0) rfl rfl rfl) ?_
    simp only [Act.put, zq1, zq2, zq3]
    refine wpList_nil ?_
    refine hK29 _ _ ?_
    clear hK29
    refine wp_ret ?_
    try simp only [Exit.inBlock, Exit.then]
    refine bodyPost_ret (v := .int .i64 0) (res1 rfl rfl) rfl ?_
    have hd' : ¬ D.dead = true := by rw [hd]; decide
    have e1 : syncE D = 0 := by unfold syncE; rw [if_neg hd']; exact he
    have e2 : syncD D = { D with armed := m, pages := applyQ D.pages D.q, q := [], syncs := wrap64 (D.syncs + 1) } := by unfold syncD; rw [if_neg hd', if_neg h1, hE]; rfl
    rw [e1, e2]
    exact ⟨_, rfl, M28⟩
set_option maxRecDepth 100000 in
set_option maxHeartbeats 4000000 in
theorem sync_nil {D : DV} {p pg mb : Nat} {qv : Value} {w : World} (hM : Mem w (foots [disk D p pg mb qv]) w [disk D p pg mb qv]) (hd : D.dead = false) (h1 : D.armed ≠ 1) (hqv : qv = .slice none 0 0) (h0 : D.q = []) : Calls Try.prog 75 #[.pointer (some ⟨p, 0, none⟩)] w fun e w' => ∃ qv', e = .returned (.int .i64 (syncE D)) ∧ Mem w (foots [disk D p pg mb qv]) w' [disk (syncD D) p pg mb qv'] := by
  obtain ⟨hok, M⟩ := disk_open hM
  clear hM
  subst hqv
  have hap : applyQ D.pages D.q = D.pages := by rw [h0]; rfl
  obtain ⟨m, hm, hE, he⟩ := act_run hok hd h1
  go_enter Try.func75, Try.ntmps75
  refine wp_seq_k (fun K1 hK1 => ?_)
  refine wp_region_lit ?_
  refine pl M (y_assign (v := .int .i64 0) rfl rfl rfl) ?_
  simp only [Act.put, zq1, zq2, zq3]
  refine wpList_nil ?_
  refine hK1 _ _ ?_
  clear hK1
  refine wp_seq_k (fun K2 hK2 => ?_)
  refine wp_seq_k (fun K3 hK3 => ?_)
  refine wp_region_lit ?_
  refine pl M (y_move (v := .pointer (some ⟨p, 0, none⟩)) rfl rfl rfl) ?_
  simp only [Act.put, zq1, zq2, zq3]
  refine pl M (y_nil rfl rfl rfl) ?_
  simp only [Act.put, zq1, zq2, zq3]
  refine pl M (y_fa (r := 8) rfl rfl rfl Try.underlying76 rfl Try.sizeOf4 rfl) ?_
  simp only [Act.put, zq1, zq2, zq3]
  refine pl M (y_load (v := .bool false) rfl rfl rfl Try.isAgg4 (fun W hW => hW.get 0 rfl) (congrArg (fun b => some (Value.bool b)) hd)) ?_
  simp only [Act.put, zq1, zq2, zq3]
  refine wpList_nil ?_
  refine hK3 _ _ ?_
  clear hK3
  refine wp_cond_false rfl ?_
  refine wp_skip ?_
  refine hK2 _ _ ?_
  clear hK2
  refine wp_seq_k (fun K4 hK4 => ?_)
  refine wp_seq_k (fun K5 hK5 => ?_)
  refine wp_region_lit ?_
  refine pl M (y_move (v := .pointer (some ⟨p, 0, none⟩)) rfl rfl rfl) ?_
  simp only [Act.put, zq1, zq2, zq3]
  refine pe rfl (fun K hK => ?_)
  refine e_call 96 [.pointer (some ⟨p, 0, none⟩)] rfl rfl Try.call96 (act_any2 hE he (Mem.here (L := [disk (D) p pg mb (.slice none 0 0)]) (R := []) (disk_close (D := D) (R := []) hok M)) ) ?_
  rintro e w6 ⟨rfl, H6⟩
  have M6 : Mem w _ w6 [blk p 76 (dC ({ D with armed := m } : DV) pg mb (.slice none 0 0)), blk pg 127 (pagesC ({ D with armed := m } : DV).pages), lst 129 257 (.slice none 0 0) (({ D with armed := m } : DV).q.length) (qC ({ D with armed := m } : DV).q), mapq mb (({ D with armed := m } : DV).q)] := (disk_open (Mem.frame (Pre := [disk (D) p pg mb (.slice none 0 0)]) (Post := [disk (({ D with armed := m } : DV)) p pg mb (.slice none 0 0)]) (R := []) (disk_close (D := D) (R := []) hok M) H6)).2
  refine ⟨_, rfl, ?_⟩
  refine hK.out _ _ ?_
  clear hK K
  simp only [Act.put, zq1, zq2, zq3]
  refine pl M6 (y_assign (v := .int .i64 0) rfl rfl rfl) ?_
  simp only [Act.put, zq1, zq2, zq3]
  refine wpList_nil ?_
  refine hK5 _ _ ?_
  clear hK5
  refine wp_seq_k (fun K7 hK7 => ?_)
  refine wp_region_lit ?_
  refine pl M6 (y_move (v := .int .i64 0) rfl rfl rfl) ?_
  simp only [Act.put, zq1, zq2, zq3]
  refine pl M6 (y_neq (b := false) rfl rfl rfl rfl (by rw [decide_eq_true (by decide)]; rfl)) ?_
  simp only [Act.put, zq1, zq2, zq3]
  refine wpList_nil ?_
  refine hK7 _ _ ?_
  clear hK7
  refine wp_cond_false rfl ?_
  refine wp_skip ?_
  refine hK4 _ _ ?_
  clear hK4
  refine wp_seq_k (fun K8 hK8 => ?_)
  refine wp_seq_k (fun K9 hK9 => ?_)
  refine wp_region_lit ?_
  refine pl M6 (y_move (v := .pointer (some ⟨p, 0, none⟩)) rfl rfl rfl) ?_
  simp only [Act.put, zq1, zq2, zq3]
  refine pl M6 (y_nil rfl rfl rfl) ?_
  simp only [Act.put, zq1, zq2, zq3]
  refine pl M6 (y_fa (r := 5) rfl rfl rfl Try.underlying76 rfl Try.sizeOf73 rfl) ?_
  simp only [Act.put, zq1, zq2, zq3]
  refine pl M6 (y_load (v := .slice none 0 0) rfl rfl rfl Try.isAgg73 (fun W hW => hW.get 0 rfl) (rfl)) ?_
  simp only [Act.put, zq1, zq2, zq3]
  refine pl M6 (y_len rfl rfl rfl Try.underlying73) ?_
  simp only [Act.put, zq1, zq2, zq3]
  refine pl M6 (y_move (v := .int .i64 0) rfl rfl rfl) ?_
  simp only [Act.put, zq1, zq2, zq3]
  refine wpList_nil ?_
  refine hK9 _ _ ?_
  clear hK9
  refine wp_block ?_
  refine wp_loop (fun a' w' => ∃  (us10 : List Value), a' = (⟨#[.pointer (some ⟨p, 0, none⟩), undef, .int .i64 0, .int .i64 0, undef, (us10.getD 0 undef), .pointer (some ⟨p, 0, none⟩), .pointer (some ⟨p, 0, none⟩), .pointer (some ⟨p, 8, none⟩), .bool false, .pointer (some ⟨p, 0, none⟩), .int .i64 0, .int .i64 0, .bool false, undef, .pointer (some ⟨p, 0, none⟩), .pointer (some ⟨p, 0, none⟩), .pointer (some ⟨p, 5, none⟩), .slice none 0 0, .int .i64 0, .int .i64 0, (us10.getD 1 undef), (us10.getD 2 undef), (us10.getD 3 undef), (us10.getD 4 undef), (us10.getD 5 undef), (us10.getD 6 undef), (us10.getD 7 undef), (us10.getD 8 undef), (us10.getD 9 undef), (us10.getD 10 undef), (us10.getD 11 undef), (us10.getD 12 undef), (us10.getD 13 undef), undef, undef, undef, undef, undef, undef, undef, undef, undef, undef, undef], []⟩ : Act) ∧ Mem w (foots [disk D p pg mb (.slice none 0 0)]) w' [blk p 76 (dC ({ D with armed := m } : DV) pg mb (.slice none 0 0)), blk pg 127 (pagesC ({ D with armed := m } : DV).pages), lst 129 257 (.slice none 0 0) (({ D with armed := m } : DV).q.length) (qC ({ D with armed := m } : DV).q), mapq mb (({ D with armed := m } : DV).q)]) (fun _ _ => 0) ⟨[undef, undef, undef, undef, undef, undef, undef, undef, undef, undef, undef, undef, undef, undef], rfl, M6⟩ ?_
  clear M6
  rintro a' w11 ⟨us10, rfl, M11⟩
  refine wp_seq_k (fun K12 hK12 => ?_)
  refine wp_region_lit ?_
  refine pl M11 (y_lss (b := false) rfl rfl rfl rfl (decide_eq_false (by decide))) ?_
  simp only [Act.put, zq1, zq2, zq3]
  refine wpList_nil ?_
  refine hK12 _ _ ?_
  clear hK12
  refine wp_seq_k (fun K13 hK13 => ?_)
  refine wp_cond_false rfl ?_
  refine wp_exit ?_
  refine hK8 _ _ ?_
  clear hK8
  refine wp_seq_k (fun K14 hK14 => ?_)
  refine wp_region_lit ?_
  refine pl M11 (y_move (v := .pointer (some ⟨p, 0, none⟩)) rfl rfl rfl) ?_
  simp only [Act.put, zq1, zq2, zq3]
  refine pl M11 (y_nil rfl rfl rfl) ?_
  simp only [Act.put, zq1, zq2, zq3]
  refine pl M11 (y_fa (r := 0) rfl rfl rfl Try.underlying76 rfl Try.sizeOf71 rfl) ?_
  simp only [Act.put, zq1, zq2, zq3]
  refine pl M11 (y_fa (r := 2) rfl rfl rfl Try.underlying71 rfl Try.sizeOf3 rfl) ?_
  simp only [Act.put, zq1, zq2, zq3]
  refine pl M11 (y_load (v := .int .i64 (({ D with armed := m } : DV).syncs)) rfl rfl rfl Try.isAgg3 (fun W hW => hW.get 0 rfl) (rfl)) ?_
  simp only [Act.put, zq1, zq2, zq3]
  refine pl M11 (y_addw rfl rfl rfl rfl) ?_
  simp only [Act.put, zq1, zq2, zq3]
  refine pl M11 (y_nil rfl rfl rfl) ?_
  simp only [Act.put, zq1, zq2, zq3]
  refine pl M11 (y_fa (r := 0) rfl rfl rfl Try.underlying76 rfl Try.sizeOf71 rfl) ?_
  simp only [Act.put, zq1, zq2, zq3]
  refine pl M11 (y_fa (r := 2) rfl rfl rfl Try.underlying71 rfl Try.sizeOf3 rfl) ?_
  simp only [Act.put, zq1, zq2, zq3]
  refine pe rfl (fun K hK => ?_)
  refine e_store M11 0 (v := .int .i64 (wrap64 (({ D with armed := m } : DV).syncs + 1))) rfl rfl rfl rfl rfl rfl Try.sizeOf3 rfl (show (2 : Nat) < 10 by decide) ?_
  intro w15 (M15 : Mem w _ w15 [blk p 76 ([.int .i64 (({ D with armed := m } : DV).reads), .int .i64 (({ D with armed := m } : DV).writes), .int .i64 (wrap64 (({ D with armed := m } : DV).syncs + 1)), .int .i64 (({ D with armed := m } : DV).q.length : Int), .slice (some ⟨pg, 0, none⟩) (({ D with armed := m } : DV).pages.length) (({ D with armed := m } : DV).pages.length), .slice none 0 0, .map (some mb), .int .i64 (({ D with armed := m } : DV).armed), .bool (({ D with armed := m } : DV).dead), .int .i64 (({ D with armed := m } : DV).epoch)]), blk pg 127 (pagesC ({ D with armed := m } : DV).pages), lst 129 257 (.slice none 0 0) (({ D with armed := m } : DV).q.length) (qC ({ D with armed := m } : DV).q), mapq mb (({ D with armed := m } : DV).q)])
  clear M11
  refine hK.out _ _ ?_
  clear hK K
  simp only [Act.put, zq1, zq2, zq3]
  refine wpList_nil ?_
  refine hK14 _ _ ?_
  clear hK14
  refine wp_seq_k (fun K16 hK16 => ?_)
  refine wp_region_lit ?_
  refine pl M15 (y_move (v := .pointer (some ⟨p, 0, none⟩)) rfl rfl rfl) ?_
  simp only [Act.put, zq1, zq2, zq3]
  have M17 : Mem w (foots [disk D p pg mb (.slice none 0 0)]) w15 [blk p 76 ([.int .i64 (({ D with armed := m } : DV).reads), .int .i64 (({ D with armed := m } : DV).writes), .int .i64 (wrap64 (({ D with armed := m } : DV).syncs + 1)), .int .i64 (({ D with armed := m } : DV).q.length : Int), .slice (some ⟨pg, 0, none⟩) ((applyQ D.pages D.q).length) ((applyQ D.pages D.q).length), .slice none 0 0, .map (some mb), .int .i64 (({ D with armed := m } : DV).armed), .bool (({ D with armed := m } : DV).dead), .int .i64 (({ D with armed := m } : DV).epoch)]), blk pg 127 (pagesC (applyQ D.pages D.q)), lst 129 257 (.slice none 0 0) (({ D with armed := m } : DV).q.length) (qC ({ D with armed := m } : DV).q), mapq mb (({ D with armed := m } : DV).q)] := by rw [hap]; exact M15
  refine pe rfl (fun K hK => ?_)
  refine e_call 57 [.pointer (some ⟨p, 0, none⟩)] rfl rfl Try.call57 (close_any (Mem.here (L := [disk (({ D with armed := m, pages := applyQ D.pages D.q, syncs := wrap64 (D.syncs + 1) } : DV)) p pg mb (.slice none 0 0)]) (R := []) (disk_close (D := ({ D with armed := m, pages := applyQ D.pages D.q, syncs := wrap64 (D.syncs + 1) } : DV)) (R := []) (flush_ok2 (armed_ok hok hm) _) M17)) ) ?_
  rintro e w18 ⟨rfl, H18⟩
  have M18 : Mem w _ w18 [disk ({ ({ D with armed := m, pages := applyQ D.pages D.q, syncs := wrap64 (D.syncs + 1) } : DV) with q := [] }) p pg mb (.slice none 0 0)] := (Mem.frame (Pre := [disk (({ D with armed := m, pages := applyQ D.pages D.q, syncs := wrap64 (D.syncs + 1) } : DV)) p pg mb (.slice none 0 0)]) (Post := [disk ({ ({ D with armed := m, pages := applyQ D.pages D.q, syncs := wrap64 (D.syncs + 1) } : DV) with q := [] }) p pg mb (.slice none 0 0)]) (R := []) (disk_close (D := ({ D with armed := m, pages := applyQ D.pages D.q, syncs := wrap64 (D.syncs + 1) } : DV)) (R := []) (flush_ok2 (armed_ok hok hm) _) M17) H18)
  refine ⟨_, rfl, ?_⟩
  refine hK.out _ _ ?_
  clear hK K
  simp only [Act.put, zq1, zq2, zq3]
  refine wpList_nil ?_
  refine hK16 _ _ ?_
  clear hK16
  refine wp_seq_k (fun K19 hK19 => ?_)
  refine wp_region_lit ?_
  refine pl M18 (y_assign (v := .int .i64 0) rfl rfl rfl) ?_
  simp only [Act.put, zq1, zq2, zq3]
  refine wpList_nil ?_
  refine hK19 _ _ ?_
  clear hK19
  refine wp_ret ?_
  try simp only [Exit.inBlock, Exit.then]
  refine bodyPost_ret (v := .int .i64 0) (res1 rfl rfl) rfl ?_
  have hd' : ¬ D.dead = true := by rw [hd]; decide
  have e1 : syncE D = 0 := by unfold syncE; rw [if_neg hd']; exact he
  have e2 : syncD D = { D with armed := m, pages := applyQ D.pages D.q, q := [], syncs := wrap64 (D.syncs + 1) } := by unfold syncD; rw [if_neg hd', if_neg h1, hE]; rfl
  rw [e1, e2]
  exact ⟨_, rfl, M18⟩
theorem sync_any {D : DV} {p pg mb : Nat} {qv : Value} {w : World} (hM : Mem w (foots [disk D p pg mb qv]) w [disk D p pg mb qv]) : Calls Try.prog 75 #[.pointer (some ⟨p, 0, none⟩)] w fun e w' => ∃ qv', e = .returned (.int .i64 (syncE D)) ∧ Mem w (foots [disk D p pg mb qv]) w' [disk (syncD D) p pg mb qv'] := by
  cases hd : D.dead with
  | true => exact sync_dead hM hd
  | false =>
    by_cases h1 : D.armed = 1
    · exact sync_down hM hd h1
    · rcases lst_at ((disk_open hM).2.get 2 rfl) with ⟨hv, h0, _⟩ | ⟨g, c, hv, hc, hm⟩
      · exact sync_nil hM hd h1 hv (List.eq_nil_of_length_eq_zero h0)
      · exact sync_some hM hd h1 g c hv (by omega)
end Go.Proofs.Ytmmkgkbjneebkaa

/- The program's disk: New, Counts. -/
namespace Go.Proofs.Ytmmkgkbjneebkaa
set_option linter.unusedSectionVars false
open Go Go.RowKit
set_option linter.unusedVariables false
set_option linter.unusedSimpArgs false
theorem pages_zero (n : Nat) : madeCells (Value.agg (bvs zeroPage).toArray).cells (n * 256) = (pagesC (List.replicate n zeroPage)).toArray := by
  have hz : (bvs zeroPage).length = 256 := by rw [length_bvs, zeroPage_len]
  have hb : ∀ (i : Nat), i < 256 → (bvs zeroPage)[i]? = some (Value.int .u8 0) := fun i hi => by
    rw [bvs_getElem?, zeroPage, List.getElem?_replicate, if_pos hi]; rfl
  have hz2 : bvs zeroPage = List.replicate 256 (Value.int .u8 0) := by
    apply List.ext_getElem?
    intro i
    rcases Nat.lt_or_ge i 256 with h | h
    · rw [hb i h, List.getElem?_replicate, if_pos h]
    · rw [List.getElem?_eq_none (by omega), List.getElem?_eq_none (by rw [List.length_replicate]; omega)]
  have hp : ∀ n, pagesC (List.replicate n zeroPage) = List.replicate (n * 256) (Value.int .u8 0) := by
    intro n
    induction n with
    | zero => rfl
    | succ n ih =>
      rw [List.replicate_succ, show pagesC (zeroPage :: List.replicate n zeroPage) = bvs zeroPage ++ pagesC (List.replicate n zeroPage) from rfl, ih, Nat.add_mul, Nat.one_mul, Nat.add_comm, ← List.replicate_append_replicate]
      rw [hz2]
  rw [hp]
  apply Array.ext'
  unfold madeCells
  rw [Array.toList_map, Array.toList_range]
  apply List.ext_getElem
  · simp
  · intro i h1 h2
    simp only [List.getElem_map, List.getElem_range, List.getElem_replicate]
    have hs : (Value.agg (bvs zeroPage).toArray).cells.size = 256 := by simp [Value.cells, hz]
    rw [hs]
    have hm : i % 256 < 256 := Nat.mod_lt _ (by decide)
    have := hb (i % 256) hm
    show (bvs zeroPage).toArray[i % 256]! = _
    rw [getElem!_def]
    simp [this]
set_option maxRecDepth 100000 in
set_option maxHeartbeats 4000000 in
theorem new_low (n : Int) (hn : n < 3) (w : World) : Calls Try.prog 42 #[.int .i64 n] w fun e w' => (¬ (3 ≤ n ∧ n ≤ 4096) ∧ e = .returned (.tuple #[.pointer none, .int .i64 40]) ∧ Mem w [] w' []) ∨ (3 ≤ n ∧ n ≤ 4096 ∧ ∃ p pg mb, e = .returned (.tuple #[.pointer (some ⟨p, 0, none⟩), .int .i64 0]) ∧ Mem w [] w' [disk (newD n.toNat) p pg mb (.slice none 0 0)]) := by
  have M := Mem.nil w
  go_enter Try.func42, Try.ntmps42
  refine wp_seq_k (fun K1 hK1 => ?_)
  refine wp_region_lit ?_
  refine pl M (y_assign (v := .pointer none) rfl rfl rfl) ?_
  simp only [Act.put, zq1, zq2, zq3]
  refine pl M (y_assign (v := .int .i64 0) rfl rfl rfl) ?_
  simp only [Act.put, zq1, zq2, zq3]
  refine wpList_nil ?_
  refine hK1 _ _ ?_
  clear hK1
  refine wp_seq_k (fun K2 hK2 => ?_)
  refine wp_seq_k (fun K3 hK3 => ?_)
  refine wp_region_lit ?_
  refine pl M (y_move (v := .int .i64 n) rfl rfl rfl) ?_
  simp only [Act.put, zq1, zq2, zq3]
  refine pl M (y_lss (b := true) rfl rfl rfl rfl (decide_eq_true (by omega))) ?_
  simp only [Act.put, zq1, zq2, zq3]
  refine pl M (y_move (v := .bool true) rfl rfl rfl) ?_
  simp only [Act.put, zq1, zq2, zq3]
  with_reducible refine pskip ?_ ?_
  · rfl
  simp only [Act.put, zq1, zq2, zq3]
  with_reducible refine pskip ?_ ?_
  · rfl
  simp only [Act.put, zq1, zq2, zq3]
  refine pl M (y_pickT (v := .bool true) rfl rfl rfl rfl) ?_
  simp only [Act.put, zq1, zq2, zq3]
  refine wpList_nil ?_
  refine hK3 _ _ ?_
  clear hK3
  refine wp_cond_true rfl ?_
  refine wp_seq_k (fun K4 hK4 => ?_)
  refine wp_region_lit ?_
  refine pl M (y_assign (v := .pointer none) rfl rfl rfl) ?_
  simp only [Act.put, zq1, zq2, zq3]
  refine pl M (y_assign (v := .int .i64 40) rfl rfl rfl) ?_
  simp only [Act.put, zq1, zq2, zq3]
  refine wpList_nil ?_
  refine hK4 _ _ ?_
  clear hK4
  refine wp_ret ?_
  try simp only [Exit.inBlock, Exit.then]
  refine bodyPost_ret (v := .tuple #[.pointer none, .int .i64 40]) (res2 rfl rfl rfl) rfl ?_
  exact Or.inl ⟨by omega, rfl, M⟩
set_option maxRecDepth 100000 in
set_option maxHeartbeats 4000000 in
theorem new_high (n : Int) (hn : 4096 < n) (w : World) : Calls Try.prog 42 #[.int .i64 n] w fun e w' => (¬ (3 ≤ n ∧ n ≤ 4096) ∧ e = .returned (.tuple #[.pointer none, .int .i64 40]) ∧ Mem w [] w' []) ∨ (3 ≤ n ∧ n ≤ 4096 ∧ ∃ p pg mb, e = .returned (.tuple #[.pointer (some ⟨p, 0, none⟩), .int .i64 0]) ∧ Mem w [] w' [disk (newD n.toNat) p pg mb (.slice none 0 0)]) := by
  have M := Mem.nil w
  go_enter Try.func42, Try.ntmps42
  refine wp_seq_k (fun K1 hK1 => ?_)
  refine wp_region_lit ?_
  refine pl M (y_assign (v := .pointer none) rfl rfl rfl) ?_
  simp only [Act.put, zq1, zq2, zq3]
  refine pl M (y_assign (v := .int .i64 0) rfl rfl rfl) ?_
  simp only [Act.put, zq1, zq2, zq3]
  refine wpList_nil ?_
  refine hK1 _ _ ?_
  clear hK1
  refine wp_seq_k (fun K2 hK2 => ?_)
  refine wp_seq_k (fun K3 hK3 => ?_)
  refine wp_region_lit ?_
  refine pl M (y_move (v := .int .i64 n) rfl rfl rfl) ?_
  simp only [Act.put, zq1, zq2, zq3]
  refine pl M (y_lss (b := false) rfl rfl rfl rfl (decide_eq_false (by omega))) ?_
  simp only [Act.put, zq1, zq2, zq3]
  refine pl M (y_move (v := .bool false) rfl rfl rfl) ?_
  simp only [Act.put, zq1, zq2, zq3]
  refine pl M (y_move (v := .int .i64 n) rfl rfl rfl) ?_
  simp only [Act.put, zq1, zq2, zq3]
  refine pl M (y_gtr (b := true) rfl rfl rfl rfl (decide_eq_true (by omega))) ?_
  simp only [Act.put, zq1, zq2, zq3]
  refine pl M (y_pickF (v := .bool true) rfl rfl rfl rfl) ?_
  simp only [Act.put, zq1, zq2, zq3]
  refine wpList_nil ?_
  refine hK3 _ _ ?_
  clear hK3
  refine wp_cond_true rfl ?_
  refine wp_seq_k (fun K4 hK4 => ?_)
  refine wp_region_lit ?_
  refine pl M (y_assign (v := .pointer none) rfl rfl rfl) ?_
  simp only [Act.put, zq1, zq2, zq3]
  refine pl M (y_assign (v := .int .i64 40) rfl rfl rfl) ?_
  simp only [Act.put, zq1, zq2, zq3]
  refine wpList_nil ?_
  refine hK4 _ _ ?_
  clear hK4
  refine wp_ret ?_
  try simp only [Exit.inBlock, Exit.then]
  refine bodyPost_ret (v := .tuple #[.pointer none, .int .i64 40]) (res2 rfl rfl rfl) rfl ?_
  exact Or.inl ⟨by omega, rfl, M⟩
set_option maxRecDepth 100000 in
set_option maxHeartbeats 4000000 in
theorem new_ok (k : Nat) (hk : 3 ≤ k ∧ k ≤ 4096) (w : World) : Calls Try.prog 42 #[.int .i64 (k : Int)] w fun e w' => (¬ (3 ≤ (k : Int) ∧ (k : Int) ≤ 4096) ∧ e = .returned (.tuple #[.pointer none, .int .i64 40]) ∧ Mem w [] w' []) ∨ (3 ≤ (k : Int) ∧ (k : Int) ≤ 4096 ∧ ∃ p pg mb, e = .returned (.tuple #[.pointer (some ⟨p, 0, none⟩), .int .i64 0]) ∧ Mem w [] w' [disk (newD k) p pg mb (.slice none 0 0)]) := by
  have M := Mem.nil w
  go_enter Try.func42, Try.ntmps42
  refine wp_seq_k (fun K1 hK1 => ?_)
  refine wp_region_lit ?_
  refine pl M (y_assign (v := .pointer none) rfl rfl rfl) ?_
  simp only [Act.put, zq1, zq2, zq3]
  refine pl M (y_assign (v := .int .i64 0) rfl rfl rfl) ?_
  simp only [Act.put, zq1, zq2, zq3]
  refine wpList_nil ?_
  refine hK1 _ _ ?_
  clear hK1
  refine wp_seq_k (fun K2 hK2 => ?_)
  refine wp_seq_k (fun K3 hK3 => ?_)
  refine wp_region_lit ?_
  refine pl M (y_move (v := .int .i64 (k : Int)) rfl rfl rfl) ?_
  simp only [Act.put, zq1, zq2, zq3]
  refine pl M (y_lss (b := false) rfl rfl rfl rfl (decide_eq_false (by omega))) ?_
  simp only [Act.put, zq1, zq2, zq3]
  refine pl M (y_move (v := .bool false) rfl rfl rfl) ?_
  simp only [Act.put, zq1, zq2, zq3]
  refine pl M (y_move (v := .int .i64 (k : Int)) rfl rfl rfl) ?_
  simp only [Act.put, zq1, zq2, zq3]
  refine pl M (y_gtr (b := false) rfl rfl rfl rfl (decide_eq_false (by omega))) ?_
  simp only [Act.put, zq1, zq2, zq3]
  refine pl M (y_pickF (v := .bool false) rfl rfl rfl rfl) ?_
  simp only [Act.put, zq1, zq2, zq3]
  refine wpList_nil ?_
  refine hK3 _ _ ?_
  clear hK3
  refine wp_cond_false rfl ?_
  refine wp_skip ?_
  refine hK2 _ _ ?_
  clear hK2
  refine wp_seq_k (fun K4 hK4 => ?_)
  refine wp_region_lit ?_
  refine pl M (y_move (v := .int .i64 (k : Int)) rfl rfl rfl) ?_
  simp only [Act.put, zq1, zq2, zq3]
  refine pe rfl (fun K hK => ?_)
  refine e_make M pagesT (pagesC (List.replicate k zeroPage)) (n := k) (m := k) rfl rfl rfl (rfl) (rfl) (by omega) (by omega) (by omega) (fun z hz => by
    have e : z = Value.agg (bvs zeroPage).toArray := by
      have h2 : (Try.prog.info? 127).bind (·.zero) = some (.agg (bvs zeroPage).toArray) := by kernel_rfl
      rw [h2] at hz; exact (Option.some.inj hz).symm
    rw [e]; exact pages_zero k) ?_
  intro gpg w5 (M5 : Mem w [] w5 [blk gpg 127 (pagesC (List.replicate k zeroPage))])
  clear M
  refine hK.out _ _ ?_
  clear hK K
  simp only [Act.put, zq1, zq2, zq3]
  refine pe rfl (fun K hK => ?_)
  refine e_makemap (kt := 3) (et := 3) M5 rfl ?_
  intro g6 w7 (M7 : Mem w [] w7 [mapq g6 ([]), blk gpg 127 (pagesC (List.replicate k zeroPage))])
  clear M5
  refine hK.out _ _ ?_
  clear hK K
  simp only [Act.put, zq1, zq2, zq3]
  refine pl M7 (y_build (ps := [(1, .tmp 11), (3, .tmp 12)]) (pv := [(1, .slice (some ⟨gpg, 0, none⟩) k k), (3, .map (some g6))]) (cs := [.int .i64 0, .int .i64 0, .int .i64 0, .int .i64 0, .slice (some ⟨gpg, 0, none⟩) k k, .slice none 0 0, .map (some g6), .int .i64 0, .bool false, .int .i64 0]) rfl rfl rfl (by kernel_rfl)) ?_
  simp only [Act.put, zq1, zq2, zq3]
  refine pe rfl (fun K hK => ?_)
  refine e_box M7 ([.int .i64 0, .int .i64 0, .int .i64 0, .int .i64 0, .slice (some ⟨gpg, 0, none⟩) k k, .slice none 0 0, .map (some g6), .int .i64 0, .bool false, .int .i64 0]) rfl rfl ?_
  intro g8 w9 (M9 : Mem w [] w9 [blk g8 76 ([.int .i64 0, .int .i64 0, .int .i64 0, .int .i64 0, .slice (some ⟨gpg, 0, none⟩) k k, .slice none 0 0, .map (some g6), .int .i64 0, .bool false, .int .i64 0]), mapq g6 ([]), blk gpg 127 (pagesC (List.replicate k zeroPage))])
  clear M7
  refine hK.out _ _ ?_
  clear hK K
  simp only [Act.put, zq1, zq2, zq3]
  refine pl M9 (y_assign (v := .pointer (some ⟨g8, 0, none⟩)) rfl rfl rfl) ?_
  simp only [Act.put, zq1, zq2, zq3]
  refine pl M9 (y_assign (v := .int .i64 0) rfl rfl rfl) ?_
  simp only [Act.put, zq1, zq2, zq3]
  refine wpList_nil ?_
  refine hK4 _ _ ?_
  clear hK4
  refine wp_ret ?_
  try simp only [Exit.inBlock, Exit.then]
  refine bodyPost_ret (v := .tuple #[.pointer (some ⟨g8, 0, none⟩), .int .i64 0]) (res2 rfl rfl rfl) rfl ?_
  have N := M9.nilst 129 257
  have N2 := N.arr [1, 3, 0, 2] (by decide)
  exact Or.inr ⟨by omega, by omega, g8, gpg, g6, rfl, disk_close (D := newD k) (newD_ok (by omega) (by omega)) (by
    have hl : (newD k).pages.length = k := List.length_replicate
    show Mem w [] w9 [blk g8 76 (dC (newD k) gpg g6 (.slice none 0 0)), blk gpg 127 (pagesC (newD k).pages), _, _]
    unfold dC
    rw [hl]
    exact N2)⟩
theorem new_any (n : Int) (w : World) : Calls Try.prog 42 #[.int .i64 n] w fun e w' => (¬ (3 ≤ n ∧ n ≤ 4096) ∧ e = .returned (.tuple #[.pointer none, .int .i64 40]) ∧ Mem w [] w' []) ∨ (3 ≤ n ∧ n ≤ 4096 ∧ ∃ p pg mb, e = .returned (.tuple #[.pointer (some ⟨p, 0, none⟩), .int .i64 0]) ∧ Mem w [] w' [disk (newD n.toNat) p pg mb (.slice none 0 0)]) := by
  by_cases h1 : n < 3
  · exact new_low n h1 w
  · by_cases h2 : 4096 < n
    · exact new_high n h2 w
    · obtain ⟨k, rfl⟩ := Int.eq_ofNat_of_zero_le (show 0 ≤ n by omega)
      exact new_ok k ⟨by omega, by omega⟩ w
end Go.Proofs.Ytmmkgkbjneebkaa

/- The program's disk: Image, Flip. -/
namespace Go.Proofs.Ytmmkgkbjneebkaa
set_option linter.unusedSectionVars false
open Go Go.RowKit
set_option linter.unusedVariables false
set_option linter.unusedSimpArgs false
end Go.Proofs.Ytmmkgkbjneebkaa

/- The program's disk: Crash. -/
namespace Go.Proofs.Ytmmkgkbjneebkaa
set_option linter.unusedSectionVars false
open Go Go.RowKit
set_option linter.unusedVariables false
set_option linter.unusedSimpArgs false
theorem Row.getD {w : World} {b o n : Nat} {l : List UInt8} (h : Row w (some ⟨b, o, none⟩) n l) (i : Nat) (hi : i < n) : w.cell? ⟨b, o + i, none⟩ = some (.int .u8 ((l.getD i 0).toNat : Int)) := by
  have hl : i < l.length := by rw [h.1]; exact hi
  rw [h.cell i hl, List.getD_eq_getElem?_getD, List.getElem?_eq_getElem hl]
  rfl
theorem zip_in {D : DV} (h : DOk D) (l : List UInt8) : ∀ x ∈ D.q.zip l, x.1.1 < D.pages.length ∧ x.1.2.length = 256 := fun x hx => h.qs x.1 (List.of_mem_zip (a := x.1) (b := x.2) hx).1
theorem crash_ok {D : DV} (h : DOk D) (l : List UInt8) : DOk (crashD D l) :=
  ⟨by show 3 ≤ (crashP _ _).length; rw [crashP_len]; exact h.lo, by show (crashP _ _).length ≤ _; rw [crashP_len]; exact h.hi, crashP_each h.len _ (zip_in h l), by simp [crashD], ⟨by show (0 : Int) ≤ 0; omega, by show (0 : Int) ≤ _; omega⟩, inI_wrap _⟩
end Go.Proofs.Ytmmkgkbjneebkaa
