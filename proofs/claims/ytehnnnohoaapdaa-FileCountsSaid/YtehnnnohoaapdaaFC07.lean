/- Texts joined: Disk3, Disk4, Disk5, Disk6. -/
import Derived.Test.YtehnnnohoaapdaaFC06
/- The program's disk: Read. -/
namespace Go.Proofs.Ytehnnnohoaapdaa
set_option linter.unusedSectionVars false
open Go Go.RowKit
set_option linter.unusedVariables false
set_option linter.unusedSimpArgs false
set_option maxRecDepth 100000 in
set_option maxHeartbeats 4000000 in
theorem read_dead {D : DV} {p pg mb : Nat} {qv : Value} {w : World} (hM : Mem w (foots [disk D p pg mb qv]) w [disk D p pg mb qv]) (page : Int) (hd : D.dead = true) : Calls Try.prog 48 #[.pointer (some ⟨p, 0, none⟩), .int .i64 page] w fun e w' => ∃ v, e = .returned (.tuple #[v, .int .i64 (readE D page)]) ∧ Mem w (foots [disk D p pg mb qv]) w' [disk (readD D page) p pg mb qv, lst 5 1 v (readL D page).length (bvs (readL D page))] := by
  obtain ⟨hok, M⟩ := disk_open hM
  clear hM
  go_enter Try.func48, Try.ntmps48
  refine wp_seq_k (fun K1 hK1 => ?_)
  refine wp_region_lit ?_
  refine pl M (y_assign (v := .slice none 0 0) rfl rfl rfl) ?_
  simp only [Act.put, zq1, zq2, zq3]
  refine pl M (y_assign (v := .int .i64 0) rfl rfl rfl) ?_
  simp only [Act.put, zq1, zq2, zq3]
  refine wpList_nil ?_
  refine hK1 _ _ ?_
  clear hK1
  refine wp_seq_k (fun K2 hK2 => ?_)
  refine wp_seq_k (fun K3 hK3 => ?_)
  refine wp_region_lit ?_
  refine pl M (y_move (v := .pointer (some ⟨p, 0, none⟩)) rfl rfl rfl) ?_
  simp only [Act.put, zq1, zq2, zq3]
  refine pl M (y_nil rfl rfl rfl) ?_
  simp only [Act.put, zq1, zq2, zq3]
  refine pl M (y_fa (r := 8) rfl rfl rfl Try.underlying60 rfl Try.sizeOf4 rfl) ?_
  simp only [Act.put, zq1, zq2, zq3]
  refine pl M (y_load (v := .bool true) rfl rfl rfl Try.isAgg4 (fun W hW => hW.get 0 rfl) (congrArg (fun b => some (Value.bool b)) hd)) ?_
  simp only [Act.put, zq1, zq2, zq3]
  refine wpList_nil ?_
  refine hK3 _ _ ?_
  clear hK3
  refine wp_cond_true rfl ?_
  refine wp_seq_k (fun K4 hK4 => ?_)
  refine wp_region_lit ?_
  refine pl M (y_assign (v := .slice none 0 0) rfl rfl rfl) ?_
  simp only [Act.put, zq1, zq2, zq3]
  refine pl M (y_assign (v := .int .i64 2) rfl rfl rfl) ?_
  simp only [Act.put, zq1, zq2, zq3]
  refine wpList_nil ?_
  refine hK4 _ _ ?_
  clear hK4
  refine wp_ret ?_
  try simp only [Exit.inBlock, Exit.then]
  refine bodyPost_ret (v := .tuple #[.slice none 0 0, .int .i64 2]) (res2 rfl rfl rfl) rfl ?_
  have N := (disk_close hok M).nilst 5 1
  have N2 := N.arr [1, 0] (by decide)
  have e1 : readE D page = 2 := by unfold readE; rw [if_pos hd]
  have e2 : readD D page = D := by unfold readD; rw [if_pos hd]
  have e3 : readL D page = [] := by unfold readL; rw [if_pos hd]
  rw [e1, e2, e3]
  exact ⟨_, rfl, N2⟩
set_option maxRecDepth 100000 in
set_option maxHeartbeats 4000000 in
theorem read_out {D : DV} {p pg mb : Nat} {qv : Value} {w : World} (hM : Mem w (foots [disk D p pg mb qv]) w [disk D p pg mb qv]) (page : Int) (hd : D.dead = false) (hh : ¬ D.has page) : Calls Try.prog 48 #[.pointer (some ⟨p, 0, none⟩), .int .i64 page] w fun e w' => ∃ v, e = .returned (.tuple #[v, .int .i64 (readE D page)]) ∧ Mem w (foots [disk D p pg mb qv]) w' [disk (readD D page) p pg mb qv, lst 5 1 v (readL D page).length (bvs (readL D page))] := by
  obtain ⟨hok, M⟩ := disk_open hM
  clear hM
  go_enter Try.func48, Try.ntmps48
  refine wp_seq_k (fun K1 hK1 => ?_)
  refine wp_region_lit ?_
  refine pl M (y_assign (v := .slice none 0 0) rfl rfl rfl) ?_
  simp only [Act.put, zq1, zq2, zq3]
  refine pl M (y_assign (v := .int .i64 0) rfl rfl rfl) ?_
  simp only [Act.put, zq1, zq2, zq3]
  refine wpList_nil ?_
  refine hK1 _ _ ?_
  clear hK1
  refine wp_seq_k (fun K2 hK2 => ?_)
  refine wp_seq_k (fun K3 hK3 => ?_)
  refine wp_region_lit ?_
  refine pl M (y_move (v := .pointer (some ⟨p, 0, none⟩)) rfl rfl rfl) ?_
  simp only [Act.put, zq1, zq2, zq3]
  refine pl M (y_nil rfl rfl rfl) ?_
  simp only [Act.put, zq1, zq2, zq3]
  refine pl M (y_fa (r := 8) rfl rfl rfl Try.underlying60 rfl Try.sizeOf4 rfl) ?_
  simp only [Act.put, zq1, zq2, zq3]
  refine pl M (y_load (v := .bool false) rfl rfl rfl Try.isAgg4 (fun W hW => hW.get 0 rfl) (congrArg (fun b => some (Value.bool b)) hd)) ?_
  simp only [Act.put, zq1, zq2, zq3]
  refine wpList_nil ?_
  refine hK3 _ _ ?_
  clear hK3
  refine wp_cond_false rfl ?_
  refine wp_skip ?_
  refine hK2 _ _ ?_
  clear hK2
  refine wp_seq_k (fun K4 hK4 => ?_)
  refine wp_seq_k (fun K5 hK5 => ?_)
  refine wp_region_lit ?_
  refine pl M (y_move (v := .pointer (some ⟨p, 0, none⟩)) rfl rfl rfl) ?_
  simp only [Act.put, zq1, zq2, zq3]
  refine pl M (y_move (v := .int .i64 page) rfl rfl rfl) ?_
  simp only [Act.put, zq1, zq2, zq3]
  refine pe rfl (fun K hK => ?_)
  refine e_call 55 [.pointer (some ⟨p, 0, none⟩), .int .i64 page] rfl rfl Try.call55 (has_any (Mem.here (L := [disk (D) p pg mb (qv)]) (R := []) (disk_close (D := D) (R := []) hok M)) page) ?_
  rintro e w6 ⟨rfl, H6⟩
  have M6 : Mem w _ w6 [blk p 60 (dC D pg mb qv), blk pg 92 (pagesC D.pages), lst 94 257 qv D.q.length (qC D.q), mapq mb D.q] := (disk_open (Mem.frame (Pre := [disk (D) p pg mb (qv)]) (Post := [disk (D) p pg mb (qv)]) (R := []) (disk_close (D := D) (R := []) hok M) H6)).2
  rw [(decide_eq_false hh)]
  refine ⟨_, rfl, ?_⟩
  refine hK.out _ _ ?_
  clear hK K
  simp only [Act.put, zq1, zq2, zq3]
  refine pl M6 (y_not rfl rfl rfl rfl) ?_
  simp only [Act.put, zq1, zq2, zq3]
  refine wpList_nil ?_
  refine hK5 _ _ ?_
  clear hK5
  refine wp_cond_true rfl ?_
  refine wp_seq_k (fun K7 hK7 => ?_)
  refine wp_region_lit ?_
  refine pl M6 (y_assign (v := .slice none 0 0) rfl rfl rfl) ?_
  simp only [Act.put, zq1, zq2, zq3]
  refine pl M6 (y_assign (v := .int .i64 41) rfl rfl rfl) ?_
  simp only [Act.put, zq1, zq2, zq3]
  refine wpList_nil ?_
  refine hK7 _ _ ?_
  clear hK7
  refine wp_ret ?_
  try simp only [Exit.inBlock, Exit.then]
  refine bodyPost_ret (v := .tuple #[.slice none 0 0, .int .i64 41]) (res2 rfl rfl rfl) rfl ?_
  have N := (disk_close hok M6).nilst 5 1
  have N2 := N.arr [1, 0] (by decide)
  have hd' : ¬ D.dead = true := by rw [hd]; decide
  have e1 : readE D page = 41 := by unfold readE; rw [if_neg hd', if_neg hh]
  have e2 : readD D page = D := by unfold readD; rw [if_neg hd', if_neg hh]
  have e3 : readL D page = [] := by unfold readL; rw [if_neg hd', if_neg hh]
  rw [e1, e2, e3]
  exact ⟨_, rfl, N2⟩
set_option maxRecDepth 100000 in
set_option maxHeartbeats 4000000 in
theorem read_none {D : DV} {p pg mb : Nat} {qv : Value} {w : World} (hM : Mem w (foots [disk D p pg mb qv]) w [disk D p pg mb qv]) (n : Nat) (hd : D.dead = false) (hn : n < D.pages.length) (hl : lastAt D.q n = none) : Calls Try.prog 48 #[.pointer (some ⟨p, 0, none⟩), .int .i64 (n : Int)] w fun e w' => ∃ v, e = .returned (.tuple #[v, .int .i64 (readE D n)]) ∧ Mem w (foots [disk D p pg mb qv]) w' [disk (readD D n) p pg mb qv, lst 5 1 v (readL D n).length (bvs (readL D n))] := by
  obtain ⟨hok, M⟩ := disk_open hM
  clear hM
  have hh : D.has n := ⟨by omega, by omega⟩
  have hhi := hok.hi
  have hd' : ¬ D.dead = true := by rw [hd]; decide
  have hpl : (D.pg n).length = 256 := pages_get hok.len hn
  have hcl : (D.cur n).length = 256 := cur_len hok hn
  have hc : D.cur n = D.pg n := curP_none _ _ _ hl
  go_enter Try.func48, Try.ntmps48
  refine wp_seq_k (fun K1 hK1 => ?_)
  refine wp_region_lit ?_
  refine pl M (y_assign (v := .slice none 0 0) rfl rfl rfl) ?_
  simp only [Act.put, zq1, zq2, zq3]
  refine pl M (y_assign (v := .int .i64 0) rfl rfl rfl) ?_
  simp only [Act.put, zq1, zq2, zq3]
  refine wpList_nil ?_
  refine hK1 _ _ ?_
  clear hK1
  refine wp_seq_k (fun K2 hK2 => ?_)
  refine wp_seq_k (fun K3 hK3 => ?_)
  refine wp_region_lit ?_
  refine pl M (y_move (v := .pointer (some ⟨p, 0, none⟩)) rfl rfl rfl) ?_
  simp only [Act.put, zq1, zq2, zq3]
  refine pl M (y_nil rfl rfl rfl) ?_
  simp only [Act.put, zq1, zq2, zq3]
  refine pl M (y_fa (r := 8) rfl rfl rfl Try.underlying60 rfl Try.sizeOf4 rfl) ?_
  simp only [Act.put, zq1, zq2, zq3]
  refine pl M (y_load (v := .bool false) rfl rfl rfl Try.isAgg4 (fun W hW => hW.get 0 rfl) (congrArg (fun b => some (Value.bool b)) hd)) ?_
  simp only [Act.put, zq1, zq2, zq3]
  refine wpList_nil ?_
  refine hK3 _ _ ?_
  clear hK3
  refine wp_cond_false rfl ?_
  refine wp_skip ?_
  refine hK2 _ _ ?_
  clear hK2
  refine wp_seq_k (fun K4 hK4 => ?_)
  refine wp_seq_k (fun K5 hK5 => ?_)
  refine wp_region_lit ?_
  refine pl M (y_move (v := .pointer (some ⟨p, 0, none⟩)) rfl rfl rfl) ?_
  simp only [Act.put, zq1, zq2, zq3]
  refine pl M (y_move (v := .int .i64 (n : Int)) rfl rfl rfl) ?_
  simp only [Act.put, zq1, zq2, zq3]
  refine pe rfl (fun K hK => ?_)
  refine e_call 55 [.pointer (some ⟨p, 0, none⟩), .int .i64 (n : Int)] rfl rfl Try.call55 (has_any (Mem.here (L := [disk (D) p pg mb (qv)]) (R := []) (disk_close (D := D) (R := []) hok M)) (n : Int)) ?_
  rintro e w6 ⟨rfl, H6⟩
  have M6 : Mem w _ w6 [blk p 60 (dC D pg mb qv), blk pg 92 (pagesC D.pages), lst 94 257 qv D.q.length (qC D.q), mapq mb D.q] := (disk_open (Mem.frame (Pre := [disk (D) p pg mb (qv)]) (Post := [disk (D) p pg mb (qv)]) (R := []) (disk_close (D := D) (R := []) hok M) H6)).2
  rw [(decide_eq_true hh)]
  refine ⟨_, rfl, ?_⟩
  refine hK.out _ _ ?_
  clear hK K
  simp only [Act.put, zq1, zq2, zq3]
  refine pl M6 (y_not rfl rfl rfl rfl) ?_
  simp only [Act.put, zq1, zq2, zq3]
  refine wpList_nil ?_
  refine hK5 _ _ ?_
  clear hK5
  refine wp_cond_false rfl ?_
  refine wp_skip ?_
  refine hK4 _ _ ?_
  clear hK4
  refine wp_seq_k (fun K7 hK7 => ?_)
  refine wp_region_lit ?_
  refine pl M6 (y_move (v := .pointer (some ⟨p, 0, none⟩)) rfl rfl rfl) ?_
  simp only [Act.put, zq1, zq2, zq3]
  refine pl M6 (y_nil rfl rfl rfl) ?_
  simp only [Act.put, zq1, zq2, zq3]
  refine pl M6 (y_fa (r := 0) rfl rfl rfl Try.underlying60 rfl Try.sizeOf55 rfl) ?_
  simp only [Act.put, zq1, zq2, zq3]
  refine pl M6 (y_fa (r := 0) rfl rfl rfl Try.underlying55 rfl Try.sizeOf3 rfl) ?_
  simp only [Act.put, zq1, zq2, zq3]
  refine pl M6 (y_load (v := .int .i64 D.reads) rfl rfl rfl Try.isAgg3 (fun W hW => hW.get 0 rfl) (rfl)) ?_
  simp only [Act.put, zq1, zq2, zq3]
  refine pl M6 (y_addw rfl rfl rfl rfl) ?_
  simp only [Act.put, zq1, zq2, zq3]
  refine pl M6 (y_nil rfl rfl rfl) ?_
  simp only [Act.put, zq1, zq2, zq3]
  refine pl M6 (y_fa (r := 0) rfl rfl rfl Try.underlying60 rfl Try.sizeOf55 rfl) ?_
  simp only [Act.put, zq1, zq2, zq3]
  refine pl M6 (y_fa (r := 0) rfl rfl rfl Try.underlying55 rfl Try.sizeOf3 rfl) ?_
  simp only [Act.put, zq1, zq2, zq3]
  refine pe rfl (fun K hK => ?_)
  refine e_store M6 0 (v := .int .i64 (wrap64 (D.reads + 1))) rfl rfl rfl rfl rfl rfl Try.sizeOf3 rfl (show (0 : Nat) < 10 by decide) ?_
  intro w8 (M8 : Mem w _ w8 [blk p 60 ([.int .i64 (wrap64 (D.reads + 1)), .int .i64 D.writes, .int .i64 D.syncs, .int .i64 (D.q.length : Int), .slice (some ⟨pg, 0, none⟩) D.pages.length D.pages.length, qv, .map (some mb), .int .i64 D.armed, .bool D.dead, .int .i64 D.epoch]), blk pg 92 (pagesC D.pages), lst 94 257 qv D.q.length (qC D.q), mapq mb D.q])
  clear M6
  refine hK.out _ _ ?_
  clear hK K
  simp only [Act.put, zq1, zq2, zq3]
  refine wpList_nil ?_
  refine hK7 _ _ ?_
  clear hK7
  refine wp_seq_k (fun K9 hK9 => ?_)
  refine wp_region_lit ?_
  refine pl M8 (y_move (v := .pointer (some ⟨p, 0, none⟩)) rfl rfl rfl) ?_
  simp only [Act.put, zq1, zq2, zq3]
  refine pl M8 (y_nil rfl rfl rfl) ?_
  simp only [Act.put, zq1, zq2, zq3]
  refine pl M8 (y_fa (r := 4) rfl rfl rfl Try.underlying60 rfl Try.sizeOf56 rfl) ?_
  simp only [Act.put, zq1, zq2, zq3]
  refine pl M8 (y_load (v := .slice (some ⟨pg, 0, none⟩) D.pages.length D.pages.length) rfl rfl rfl Try.isAgg56 (fun W hW => hW.get 0 rfl) (rfl)) ?_
  simp only [Act.put, zq1, zq2, zq3]
  refine pl M8 (y_move (v := .int .i64 (n : Int)) rfl rfl rfl) ?_
  simp only [Act.put, zq1, zq2, zq3]
  refine pl M8 (y_ias (r := 256 * n) rfl rfl rfl rfl Try.underlying56 Try.sizeOf92 (by omega) (by omega)) ?_
  simp only [Act.put, zq1, zq2, zq3]
  refine pl M8 (y_loadb (cs := (bvs (D.pg n))) rfl rfl rfl Try.underlying92 rfl (size_page _ hpl) (fun W hW => hW.get 1 rfl) (pages_row hok hn)) ?_
  simp only [Act.put, zq1, zq2, zq3]
  refine pe rfl (fun K hK => ?_)
  refine e_alloc M8 (bvs zeroPage) rfl zero_page ?_
  intro gp w10 (M10 : Mem w _ w10 [blk gp 92 (bvs zeroPage), blk p 60 ([.int .i64 (wrap64 (D.reads + 1)), .int .i64 D.writes, .int .i64 D.syncs, .int .i64 (D.q.length : Int), .slice (some ⟨pg, 0, none⟩) D.pages.length D.pages.length, qv, .map (some mb), .int .i64 D.armed, .bool D.dead, .int .i64 D.epoch]), blk pg 92 (pagesC D.pages), lst 94 257 qv D.q.length (qC D.q), mapq mb D.q])
  clear M8
  refine hK.out _ _ ?_
  clear hK K
  simp only [Act.put, zq1, zq2, zq3]
  refine pe rfl (fun K hK => ?_)
  refine e_storew M10 0 (cs := (bvs (D.pg n))) rfl rfl rfl rfl (size_page _ hpl) (bvs_all _) rfl (by rw [length_bvs, length_bvs, hpl, zeroPage_len]) ?_
  intro w11 (M11 : Mem w _ w11 [blk gp 92 (bvs (D.pg n)), blk p 60 ([.int .i64 (wrap64 (D.reads + 1)), .int .i64 D.writes, .int .i64 D.syncs, .int .i64 (D.q.length : Int), .slice (some ⟨pg, 0, none⟩) D.pages.length D.pages.length, qv, .map (some mb), .int .i64 D.armed, .bool D.dead, .int .i64 D.epoch]), blk pg 92 (pagesC D.pages), lst 94 257 qv D.q.length (qC D.q), mapq mb D.q])
  clear M10
  refine hK.out _ _ ?_
  clear hK K
  simp only [Act.put, zq1, zq2, zq3]
  refine wpList_nil ?_
  refine hK9 _ _ ?_
  clear hK9
  refine wp_seq_k (fun K12 hK12 => ?_)
  refine wp_seq_k (fun K13 hK13 => ?_)
  refine wp_region_lit ?_
  refine pl M11 (y_move (v := .pointer (some ⟨p, 0, none⟩)) rfl rfl rfl) ?_
  simp only [Act.put, zq1, zq2, zq3]
  refine pl M11 (y_nil rfl rfl rfl) ?_
  simp only [Act.put, zq1, zq2, zq3]
  refine pl M11 (y_fa (r := 6) rfl rfl rfl Try.underlying60 rfl Try.sizeOf58 rfl) ?_
  simp only [Act.put, zq1, zq2, zq3]
  refine pl M11 (y_load (v := .map (some mb)) rfl rfl rfl Try.isAgg58 (fun W hW => hW.get 1 rfl) (rfl)) ?_
  simp only [Act.put, zq1, zq2, zq3]
  refine pl M11 (y_move (v := .int .i64 (n : Int)) rfl rfl rfl) ?_
  simp only [Act.put, zq1, zq2, zq3]
  refine pe rfl (fun K hK => ?_)
  refine e_look M11 4 rfl Try.underlying3 Try.underlying3 Try.underlying58 Try.zeroValue3 (p := n) rfl rfl rfl rfl (rfl) (by omega) ?_
  intro c14 hc14
  clear hc14
  rw [hl]
  refine hK.out _ _ ?_
  clear hK K
  simp only [Act.put, zq1, zq2, zq3]
  refine pl M11 (y_move (v := .tuple #[.int .i64 c14, .bool false]) rfl rfl rfl) ?_
  simp only [Act.put, zq1, zq2, zq3]
  refine pl M11 (y_ext (v := .int .i64 c14) rfl rfl rfl rfl) ?_
  simp only [Act.put, zq1, zq2, zq3]
  refine pl M11 (y_ext (v := .bool false) rfl rfl rfl rfl) ?_
  simp only [Act.put, zq1, zq2, zq3]
  refine pl M11 (y_assign (v := .int .i64 c14) rfl rfl rfl) ?_
  simp only [Act.put, zq1, zq2, zq3]
  refine pl M11 (y_assign (v := .bool false) rfl rfl rfl) ?_
  simp only [Act.put, zq1, zq2, zq3]
  refine wpList_nil ?_
  refine hK13 _ _ ?_
  clear hK13
  refine wp_seq_k (fun K15 hK15 => ?_)
  refine wp_region_lit ?_
  refine pl M11 (y_move (v := .bool false) rfl rfl rfl) ?_
  simp only [Act.put, zq1, zq2, zq3]
  refine wpList_nil ?_
  refine hK15 _ _ ?_
  clear hK15
  refine wp_cond_false rfl ?_
  refine wp_skip ?_
  refine hK12 _ _ ?_
  clear hK12
  refine wp_seq_k (fun K16 hK16 => ?_)
  refine wp_region_lit ?_
  refine pl M11 (y_sla (l := 0) (h := 256) (r := 0) (n' := 256) (c' := 256) rfl rfl rfl rfl rfl Try.underlying92 Try.sizeOf5 (by exact ⟨rfl, rfl⟩) (rfl) (by omega) (by omega)) ?_
  simp only [Act.put, zq1, zq2, zq3]
  have M17 : Mem w _ w11 [lst 5 1 (.slice none 0 0) 0 ([]), blk gp 92 (bvs (D.pg n)), blk p 60 ([.int .i64 (wrap64 (D.reads + 1)), .int .i64 D.writes, .int .i64 D.syncs, .int .i64 (D.q.length : Int), .slice (some ⟨pg, 0, none⟩) D.pages.length D.pages.length, qv, .map (some mb), .int .i64 D.armed, .bool D.dead, .int .i64 D.epoch]), blk pg 92 (pagesC D.pages), lst 94 257 qv D.q.length (qC D.q), mapq mb D.q] := M11.nilst 5 1
  refine pe rfl (fun K hK => ?_)
  refine e_append M17 0 bytesT (by decide) (news := (bvs (D.pg n))) rfl rfl rfl rfl (by rw [length_bvs, hpl]) (by intro h; cases h) ((hpl ▸ blk_row (M17.get 1 rfl) : Row _ _ 256 (D.pg n)).news) (bvs_oneCell _) (⟨by unfold maxLen; omega, by omega⟩) ?_
  intro v18 w18 (M18 : Mem w _ w18 [lst 5 1 v18 256 (bvs (D.pg n)), blk gp 92 (bvs (D.pg n)), blk p 60 ([.int .i64 (wrap64 (D.reads + 1)), .int .i64 D.writes, .int .i64 D.syncs, .int .i64 (D.q.length : Int), .slice (some ⟨pg, 0, none⟩) D.pages.length D.pages.length, qv, .map (some mb), .int .i64 D.armed, .bool D.dead, .int .i64 D.epoch]), blk pg 92 (pagesC D.pages), lst 94 257 qv D.q.length (qC D.q), mapq mb D.q])
  clear M17
  obtain ⟨a18, c18, rfl⟩ := qv_at (M18.get 0 rfl)
  refine hK.out _ _ ?_
  clear hK K
  simp only [Act.put, zq1, zq2, zq3]
  refine pl M18 (y_assign (v := .slice a18 256 c18) rfl rfl rfl) ?_
  simp only [Act.put, zq1, zq2, zq3]
  refine pl M18 (y_assign (v := .int .i64 0) rfl rfl rfl) ?_
  simp only [Act.put, zq1, zq2, zq3]
  refine wpList_nil ?_
  refine hK16 _ _ ?_
  clear hK16
  refine wp_ret ?_
  try simp only [Exit.inBlock, Exit.then]
  refine bodyPost_ret (v := .tuple #[.slice a18 256 c18, .int .i64 0]) (res2 rfl rfl rfl) rfl ?_
  have e1 : readE D n = 0 := by unfold readE; rw [if_neg hd', if_pos hh]
  have e2 : readD D n = { D with reads := wrap64 (D.reads + 1) } := by unfold readD; rw [if_neg hd', if_pos hh]
  have e3 : readL D n = D.cur n := by unfold readL; rw [if_neg hd', if_pos hh]; rfl
  rw [e1, e2, e3, hcl, hc]
  have N : Mem w _ w18 [blk p 60 ([.int .i64 (wrap64 (D.reads + 1)), .int .i64 D.writes, .int .i64 D.syncs, .int .i64 (D.q.length : Int), .slice (some ⟨pg, 0, none⟩) D.pages.length D.pages.length, qv, .map (some mb), .int .i64 D.armed, .bool D.dead, .int .i64 D.epoch]), blk pg 92 (pagesC D.pages), lst 94 257 qv D.q.length (qC D.q), mapq mb D.q, lst 5 1 (.slice a18 256 c18) 256 (bvs (D.pg n))] := M18.arr [2, 3, 4, 5, 0] (by decide)
  exact ⟨_, rfl, disk_close (D := { D with reads := wrap64 (D.reads + 1) }) ⟨hok.lo, hok.hi, hok.len, hok.qs, hok.arm, hok.ep⟩ N⟩
set_option maxRecDepth 100000 in
set_option maxHeartbeats 4000000 in
theorem read_some {D : DV} {p pg mb : Nat} {qv : Value} {w : World} (hM : Mem w (foots [disk D p pg mb qv]) w [disk D p pg mb qv]) (n i : Nat) (hd : D.dead = false) (hn : n < D.pages.length) (hl : lastAt D.q n = some i) : Calls Try.prog 48 #[.pointer (some ⟨p, 0, none⟩), .int .i64 (n : Int)] w fun e w' => ∃ v, e = .returned (.tuple #[v, .int .i64 (readE D n)]) ∧ Mem w (foots [disk D p pg mb qv]) w' [disk (readD D n) p pg mb qv, lst 5 1 v (readL D n).length (bvs (readL D n))] := by
  obtain ⟨hok, M⟩ := disk_open hM
  clear hM
  have hh : D.has n := ⟨by omega, by omega⟩
  have hhi := hok.hi
  have hd' : ¬ D.dead = true := by rw [hd]; decide
  have hpl : (D.pg n).length = 256 := pages_get hok.len hn
  have hcl : (D.cur n).length = 256 := cur_len hok hn
  obtain ⟨x, hx, hxp, hc⟩ := curP_some (D.pg n) n D.q i hl
  have hc : D.cur n = x.2 := hc
  have hi := lastAt_lt n D.q i hl
  have hq : ∀ y ∈ D.q, y.2.length = 256 := fun y hy => (hok.qs y hy).2
  have hxl : x.2.length = 256 := hq x (List.mem_of_getElem? hx)
  have hat := lst_at (M.get 2 rfl)
  rcases hat with ⟨_, h0, _⟩ | ⟨gq, cq, rfl, hqc, hqm⟩
  · omega
  go_enter Try.func48, Try.ntmps48
  refine wp_seq_k (fun K1 hK1 => ?_)
  refine wp_region_lit ?_
  refine pl M (y_assign (v := .slice none 0 0) rfl rfl rfl) ?_
  simp only [Act.put, zq1, zq2, zq3]
  refine pl M (y_assign (v := .int .i64 0) rfl rfl rfl) ?_
  simp only [Act.put, zq1, zq2, zq3]
  refine wpList_nil ?_
  refine hK1 _ _ ?_
  clear hK1
  refine wp_seq_k (fun K2 hK2 => ?_)
  refine wp_seq_k (fun K3 hK3 => ?_)
  refine wp_region_lit ?_
  refine pl M (y_move (v := .pointer (some ⟨p, 0, none⟩)) rfl rfl rfl) ?_
  simp only [Act.put, zq1, zq2, zq3]
  refine pl M (y_nil rfl rfl rfl) ?_
  simp only [Act.put, zq1, zq2, zq3]
  refine pl M (y_fa (r := 8) rfl rfl rfl Try.underlying60 rfl Try.sizeOf4 rfl) ?_
  simp only [Act.put, zq1, zq2, zq3]
  refine pl M (y_load (v := .bool false) rfl rfl rfl Try.isAgg4 (fun W hW => hW.get 0 rfl) (congrArg (fun b => some (Value.bool b)) hd)) ?_
  simp only [Act.put, zq1, zq2, zq3]
  refine wpList_nil ?_
  refine hK3 _ _ ?_
  clear hK3
  refine wp_cond_false rfl ?_
  refine wp_skip ?_
  refine hK2 _ _ ?_
  clear hK2
  refine wp_seq_k (fun K4 hK4 => ?_)
  refine wp_seq_k (fun K5 hK5 => ?_)
  refine wp_region_lit ?_
  refine pl M (y_move (v := .pointer (some ⟨p, 0, none⟩)) rfl rfl rfl) ?_
  simp only [Act.put, zq1, zq2, zq3]
  refine pl M (y_move (v := .int .i64 (n : Int)) rfl rfl rfl) ?_
  simp only [Act.put, zq1, zq2, zq3]
  refine pe rfl (fun K hK => ?_)
  refine e_call 55 [.pointer (some ⟨p, 0, none⟩), .int .i64 (n : Int)] rfl rfl Try.call55 (has_any (Mem.here (L := [disk (D) p pg mb (.slice (some ⟨gq, 0, none⟩) D.q.length cq)]) (R := []) (disk_close (D := D) (R := []) hok M)) (n : Int)) ?_
  rintro e w6 ⟨rfl, H6⟩
  have M6 : Mem w _ w6 [blk p 60 (dC D pg mb (.slice (some ⟨gq, 0, none⟩) D.q.length cq)), blk pg 92 (pagesC D.pages), lst 94 257 (.slice (some ⟨gq, 0, none⟩) D.q.length cq) D.q.length (qC D.q), mapq mb D.q] := (disk_open (Mem.frame (Pre := [disk (D) p pg mb (.slice (some ⟨gq, 0, none⟩) D.q.length cq)]) (Post := [disk (D) p pg mb (.slice (some ⟨gq, 0, none⟩) D.q.length cq)]) (R := []) (disk_close (D := D) (R := []) hok M) H6)).2
  rw [(decide_eq_true hh)]
  refine ⟨_, rfl, ?_⟩
  refine hK.out _ _ ?_
  clear hK K
  simp only [Act.put, zq1, zq2, zq3]
  refine pl M6 (y_not rfl rfl rfl rfl) ?_
  simp only [Act.put, zq1, zq2, zq3]
  refine wpList_nil ?_
  refine hK5 _ _ ?_
  clear hK5
  refine wp_cond_false rfl ?_
  refine wp_skip ?_
  refine hK4 _ _ ?_
  clear hK4
  refine wp_seq_k (fun K7 hK7 => ?_)
  refine wp_region_lit ?_
  refine pl M6 (y_move (v := .pointer (some ⟨p, 0, none⟩)) rfl rfl rfl) ?_
  simp only [Act.put, zq1, zq2, zq3]
  refine pl M6 (y_nil rfl rfl rfl) ?_
  simp only [Act.put, zq1, zq2, zq3]
  refine pl M6 (y_fa (r := 0) rfl rfl rfl Try.underlying60 rfl Try.sizeOf55 rfl) ?_
  simp only [Act.put, zq1, zq2, zq3]
  refine pl M6 (y_fa (r := 0) rfl rfl rfl Try.underlying55 rfl Try.sizeOf3 rfl) ?_
  simp only [Act.put, zq1, zq2, zq3]
  refine pl M6 (y_load (v := .int .i64 D.reads) rfl rfl rfl Try.isAgg3 (fun W hW => hW.get 0 rfl) (rfl)) ?_
  simp only [Act.put, zq1, zq2, zq3]
  refine pl M6 (y_addw rfl rfl rfl rfl) ?_
  simp only [Act.put, zq1, zq2, zq3]
  refine pl M6 (y_nil rfl rfl rfl) ?_
  simp only [Act.put, zq1, zq2, zq3]
  refine pl M6 (y_fa (r := 0) rfl rfl rfl Try.underlying60 rfl Try.sizeOf55 rfl) ?_
  simp only [Act.put, zq1, zq2, zq3]
  refine pl M6 (y_fa (r := 0) rfl rfl rfl Try.underlying55 rfl Try.sizeOf3 rfl) ?_
  simp only [Act.put, zq1, zq2, zq3]
  refine pe rfl (fun K hK => ?_)
  refine e_store M6 0 (v := .int .i64 (wrap64 (D.reads + 1))) rfl rfl rfl rfl rfl rfl Try.sizeOf3 rfl (show (0 : Nat) < 10 by decide) ?_
  intro w8 (M8 : Mem w _ w8 [blk p 60 ([.int .i64 (wrap64 (D.reads + 1)), .int .i64 D.writes, .int .i64 D.syncs, .int .i64 (D.q.length : Int), .slice (some ⟨pg, 0, none⟩) D.pages.length D.pages.length, .slice (some ⟨gq, 0, none⟩) D.q.length cq, .map (some mb), .int .i64 D.armed, .bool D.dead, .int .i64 D.epoch]), blk pg 92 (pagesC D.pages), lst 94 257 (.slice (some ⟨gq, 0, none⟩) D.q.length cq) D.q.length (qC D.q), mapq mb D.q])
  clear M6
  refine hK.out _ _ ?_
  clear hK K
  simp only [Act.put, zq1, zq2, zq3]
  refine wpList_nil ?_
  refine hK7 _ _ ?_
  clear hK7
  refine wp_seq_k (fun K9 hK9 => ?_)
  refine wp_region_lit ?_
  refine pl M8 (y_move (v := .pointer (some ⟨p, 0, none⟩)) rfl rfl rfl) ?_
  simp only [Act.put, zq1, zq2, zq3]
  refine pl M8 (y_nil rfl rfl rfl) ?_
  simp only [Act.put, zq1, zq2, zq3]
  refine pl M8 (y_fa (r := 4) rfl rfl rfl Try.underlying60 rfl Try.sizeOf56 rfl) ?_
  simp only [Act.put, zq1, zq2, zq3]
  refine pl M8 (y_load (v := .slice (some ⟨pg, 0, none⟩) D.pages.length D.pages.length) rfl rfl rfl Try.isAgg56 (fun W hW => hW.get 0 rfl) (rfl)) ?_
  simp only [Act.put, zq1, zq2, zq3]
  refine pl M8 (y_move (v := .int .i64 (n : Int)) rfl rfl rfl) ?_
  simp only [Act.put, zq1, zq2, zq3]
  refine pl M8 (y_ias (r := 256 * n) rfl rfl rfl rfl Try.underlying56 Try.sizeOf92 (by omega) (by omega)) ?_
  simp only [Act.put, zq1, zq2, zq3]
  refine pl M8 (y_loadb (cs := (bvs (D.pg n))) rfl rfl rfl Try.underlying92 rfl (size_page _ hpl) (fun W hW => hW.get 1 rfl) (pages_row hok hn)) ?_
  simp only [Act.put, zq1, zq2, zq3]
  refine pe rfl (fun K hK => ?_)
  refine e_alloc M8 (bvs zeroPage) rfl zero_page ?_
  intro gp w10 (M10 : Mem w _ w10 [blk gp 92 (bvs zeroPage), blk p 60 ([.int .i64 (wrap64 (D.reads + 1)), .int .i64 D.writes, .int .i64 D.syncs, .int .i64 (D.q.length : Int), .slice (some ⟨pg, 0, none⟩) D.pages.length D.pages.length, .slice (some ⟨gq, 0, none⟩) D.q.length cq, .map (some mb), .int .i64 D.armed, .bool D.dead, .int .i64 D.epoch]), blk pg 92 (pagesC D.pages), lst 94 257 (.slice (some ⟨gq, 0, none⟩) D.q.length cq) D.q.length (qC D.q), mapq mb D.q])
  clear M8
  refine hK.out _ _ ?_
  clear hK K
  simp only [Act.put, zq1, zq2, zq3]
  refine pe rfl (fun K hK => ?_)
  refine e_storew M10 0 (cs := (bvs (D.pg n))) rfl rfl rfl rfl (size_page _ hpl) (bvs_all _) rfl (by rw [length_bvs, length_bvs, hpl, zeroPage_len]) ?_
  intro w11 (M11 : Mem w _ w11 [blk gp 92 (bvs (D.pg n)), blk p 60 ([.int .i64 (wrap64 (D.reads + 1)), .int .i64 D.writes, .int .i64 D.syncs, .int .i64 (D.q.length : Int), .slice (some ⟨pg, 0, none⟩) D.pages.length D.pages.length, .slice (some ⟨gq, 0, none⟩) D.q.length cq, .map (some mb), .int .i64 D.armed, .bool D.dead, .int .i64 D.epoch]), blk pg 92 (pagesC D.pages), lst 94 257 (.slice (some ⟨gq, 0, none⟩) D.q.length cq) D.q.length (qC D.q), mapq mb D.q])
  clear M10
  refine hK.out _ _ ?_
  clear hK K
  simp only [Act.put, zq1, zq2, zq3]
  refine wpList_nil ?_
  refine hK9 _ _ ?_
  clear hK9
  refine wp_seq_k (fun K12 hK12 => ?_)
  refine wp_seq_k (fun K13 hK13 => ?_)
  refine wp_region_lit ?_
  refine pl M11 (y_move (v := .pointer (some ⟨p, 0, none⟩)) rfl rfl rfl) ?_
  simp only [Act.put, zq1, zq2, zq3]
  refine pl M11 (y_nil rfl rfl rfl) ?_
  simp only [Act.put, zq1, zq2, zq3]
  refine pl M11 (y_fa (r := 6) rfl rfl rfl Try.underlying60 rfl Try.sizeOf58 rfl) ?_
  simp only [Act.put, zq1, zq2, zq3]
  refine pl M11 (y_load (v := .map (some mb)) rfl rfl rfl Try.isAgg58 (fun W hW => hW.get 1 rfl) (rfl)) ?_
  simp only [Act.put, zq1, zq2, zq3]
  refine pl M11 (y_move (v := .int .i64 (n : Int)) rfl rfl rfl) ?_
  simp only [Act.put, zq1, zq2, zq3]
  refine pe rfl (fun K hK => ?_)
  refine e_look M11 4 rfl Try.underlying3 Try.underlying3 Try.underlying58 Try.zeroValue3 (p := n) rfl rfl rfl rfl (rfl) (by omega) ?_
  intro c14 hc14
  obtain rfl := hc14 _ hl
  rw [hl]
  refine hK.out _ _ ?_
  clear hK K
  simp only [Act.put, zq1, zq2, zq3]
  refine pl M11 (y_move (v := .tuple #[.int .i64 (i : Int), .bool true]) rfl rfl rfl) ?_
  simp only [Act.put, zq1, zq2, zq3]
  refine pl M11 (y_ext (v := .int .i64 (i : Int)) rfl rfl rfl rfl) ?_
  simp only [Act.put, zq1, zq2, zq3]
  refine pl M11 (y_ext (v := .bool true) rfl rfl rfl rfl) ?_
  simp only [Act.put, zq1, zq2, zq3]
  refine pl M11 (y_assign (v := .int .i64 (i : Int)) rfl rfl rfl) ?_
  simp only [Act.put, zq1, zq2, zq3]
  refine pl M11 (y_assign (v := .bool true) rfl rfl rfl) ?_
  simp only [Act.put, zq1, zq2, zq3]
  refine wpList_nil ?_
  refine hK13 _ _ ?_
  clear hK13
  refine wp_seq_k (fun K15 hK15 => ?_)
  refine wp_region_lit ?_
  refine pl M11 (y_move (v := .bool true) rfl rfl rfl) ?_
  simp only [Act.put, zq1, zq2, zq3]
  refine wpList_nil ?_
  refine hK15 _ _ ?_
  clear hK15
  refine wp_cond_true rfl ?_
  refine wp_region_lit ?_
  refine pl M11 (y_move (v := .pointer (some ⟨p, 0, none⟩)) rfl rfl rfl) ?_
  simp only [Act.put, zq1, zq2, zq3]
  refine pl M11 (y_nil rfl rfl rfl) ?_
  simp only [Act.put, zq1, zq2, zq3]
  refine pl M11 (y_fa (r := 5) rfl rfl rfl Try.underlying60 rfl Try.sizeOf57 rfl) ?_
  simp only [Act.put, zq1, zq2, zq3]
  refine pl M11 (y_load (v := .slice (some ⟨gq, 0, none⟩) D.q.length cq) rfl rfl rfl Try.isAgg57 (fun W hW => hW.get 1 rfl) (rfl)) ?_
  simp only [Act.put, zq1, zq2, zq3]
  refine pl M11 (y_move (v := .int .i64 (i : Int)) rfl rfl rfl) ?_
  simp only [Act.put, zq1, zq2, zq3]
  refine pl M11 (y_ias (r := 257 * i) rfl rfl rfl rfl Try.underlying57 Try.sizeOf94 (by omega) (by omega)) ?_
  simp only [Act.put, zq1, zq2, zq3]
  refine pl M11 (y_fa (r := 257 * i + 1) rfl rfl rfl Try.underlying94 rfl Try.sizeOf92 rfl) ?_
  simp only [Act.put, zq1, zq2, zq3]
  refine pl M11 (y_loadr (cs := (bvs x.2)) rfl rfl rfl Try.underlying92 rfl (size_page _ hxl) (fun W hW => lst_range (hW.get 3 rfl) (257 * i + 1) (queue_row hq hx))) ?_
  simp only [Act.put, zq1, zq2, zq3]
  refine pe rfl (fun K hK => ?_)
  refine e_storew M11 0 (cs := (bvs x.2)) rfl rfl rfl rfl (size_page _ hxl) (bvs_all _) rfl (by rw [length_bvs, length_bvs, hpl, hxl]) ?_
  intro w16 (M16 : Mem w _ w16 [blk gp 92 (bvs x.2), blk p 60 ([.int .i64 (wrap64 (D.reads + 1)), .int .i64 D.writes, .int .i64 D.syncs, .int .i64 (D.q.length : Int), .slice (some ⟨pg, 0, none⟩) D.pages.length D.pages.length, .slice (some ⟨gq, 0, none⟩) D.q.length cq, .map (some mb), .int .i64 D.armed, .bool D.dead, .int .i64 D.epoch]), blk pg 92 (pagesC D.pages), lst 94 257 (.slice (some ⟨gq, 0, none⟩) D.q.length cq) D.q.length (qC D.q), mapq mb D.q])
  clear M11
  refine hK.out _ _ ?_
  clear hK K
  simp only [Act.put, zq1, zq2, zq3]
  refine wpList_nil ?_
  refine hK12 _ _ ?_
  clear hK12
  refine wp_seq_k (fun K17 hK17 => ?_)
  refine wp_region_lit ?_
  refine pl M16 (y_sla (l := 0) (h := 256) (r := 0) (n' := 256) (c' := 256) rfl rfl rfl rfl rfl Try.underlying92 Try.sizeOf5 (by exact ⟨rfl, rfl⟩) (rfl) (by omega) (by omega)) ?_
  simp only [Act.put, zq1, zq2, zq3]
  have M18 : Mem w _ w16 [lst 5 1 (.slice none 0 0) 0 ([]), blk gp 92 (bvs x.2), blk p 60 ([.int .i64 (wrap64 (D.reads + 1)), .int .i64 D.writes, .int .i64 D.syncs, .int .i64 (D.q.length : Int), .slice (some ⟨pg, 0, none⟩) D.pages.length D.pages.length, .slice (some ⟨gq, 0, none⟩) D.q.length cq, .map (some mb), .int .i64 D.armed, .bool D.dead, .int .i64 D.epoch]), blk pg 92 (pagesC D.pages), lst 94 257 (.slice (some ⟨gq, 0, none⟩) D.q.length cq) D.q.length (qC D.q), mapq mb D.q] := M16.nilst 5 1
  refine pe rfl (fun K hK => ?_)
  refine e_append M18 0 bytesT (by decide) (news := (bvs x.2)) rfl rfl rfl rfl (by rw [length_bvs, hxl]) (by intro h; cases h) ((hxl ▸ blk_row (M18.get 1 rfl) : Row _ _ 256 x.2).news) (bvs_oneCell _) (⟨by unfold maxLen; omega, by omega⟩) ?_
  intro v19 w19 (M19 : Mem w _ w19 [lst 5 1 v19 256 (bvs x.2), blk gp 92 (bvs x.2), blk p 60 ([.int .i64 (wrap64 (D.reads + 1)), .int .i64 D.writes, .int .i64 D.syncs, .int .i64 (D.q.length : Int), .slice (some ⟨pg, 0, none⟩) D.pages.length D.pages.length, .slice (some ⟨gq, 0, none⟩) D.q.length cq, .map (some mb), .int .i64 D.armed, .bool D.dead, .int .i64 D.epoch]), blk pg 92 (pagesC D.pages), lst 94 257 (.slice (some ⟨gq, 0, none⟩) D.q.length cq) D.q.length (qC D.q), mapq mb D.q])
  clear M18
  obtain ⟨a19, c19, rfl⟩ := qv_at (M19.get 0 rfl)
  refine hK.out _ _ ?_
  clear hK K
  simp only [Act.put, zq1, zq2, zq3]
  refine pl M19 (y_assign (v := .slice a19 256 c19) rfl rfl rfl) ?_
  simp only [Act.put, zq1, zq2, zq3]
  refine pl M19 (y_assign (v := .int .i64 0) rfl rfl rfl) ?_
  simp only [Act.put, zq1, zq2, zq3]
  refine wpList_nil ?_
  refine hK17 _ _ ?_
  clear hK17
  refine wp_ret ?_
  try simp only [Exit.inBlock, Exit.then]
  refine bodyPost_ret (v := .tuple #[.slice a19 256 c19, .int .i64 0]) (res2 rfl rfl rfl) rfl ?_
  have e1 : readE D n = 0 := by unfold readE; rw [if_neg hd', if_pos hh]
  have e2 : readD D n = { D with reads := wrap64 (D.reads + 1) } := by unfold readD; rw [if_neg hd', if_pos hh]
  have e3 : readL D n = D.cur n := by unfold readL; rw [if_neg hd', if_pos hh]; rfl
  rw [e1, e2, e3, hcl, hc]
  have N : Mem w _ w19 [blk p 60 ([.int .i64 (wrap64 (D.reads + 1)), .int .i64 D.writes, .int .i64 D.syncs, .int .i64 (D.q.length : Int), .slice (some ⟨pg, 0, none⟩) D.pages.length D.pages.length, .slice (some ⟨gq, 0, none⟩) D.q.length cq, .map (some mb), .int .i64 D.armed, .bool D.dead, .int .i64 D.epoch]), blk pg 92 (pagesC D.pages), lst 94 257 (.slice (some ⟨gq, 0, none⟩) D.q.length cq) D.q.length (qC D.q), mapq mb D.q, lst 5 1 (.slice a19 256 c19) 256 (bvs x.2)] := M19.arr [2, 3, 4, 5, 0] (by decide)
  exact ⟨_, rfl, disk_close (D := { D with reads := wrap64 (D.reads + 1) }) ⟨hok.lo, hok.hi, hok.len, hok.qs, hok.arm, hok.ep⟩ N⟩
theorem read_any {D : DV} {p pg mb : Nat} {qv : Value} {w : World} (hM : Mem w (foots [disk D p pg mb qv]) w [disk D p pg mb qv]) (page : Int) : Calls Try.prog 48 #[.pointer (some ⟨p, 0, none⟩), .int .i64 page] w fun e w' => ∃ v, e = .returned (.tuple #[v, .int .i64 (readE D page)]) ∧ Mem w (foots [disk D p pg mb qv]) w' [disk (readD D page) p pg mb qv, lst 5 1 v (readL D page).length (bvs (readL D page))] := by
  cases hd : D.dead with
  | true => exact read_dead hM page hd
  | false =>
    by_cases hh : D.has page
    · obtain ⟨n, rfl⟩ := Int.eq_ofNat_of_zero_le hh.1
      have hn : n < D.pages.length := by have := hh.2; omega
      cases hl : lastAt D.q n with
      | none => exact read_none hM n hd hn hl
      | some i => exact read_some hM n i hd hn hl
    · exact read_out hM page hd hh
end Go.Proofs.Ytehnnnohoaapdaa

/- The program's disk: close, Arm. -/
namespace Go.Proofs.Ytehnnnohoaapdaa
set_option linter.unusedSectionVars false
open Go Go.RowKit
set_option linter.unusedVariables false
set_option linter.unusedSimpArgs false
theorem closeD_ok {D : DV} (h : DOk D) : DOk { D with q := [] } := ⟨h.lo, h.hi, h.len, by simp, h.arm, h.ep⟩
theorem armD_ok {D : DV} (h : DOk D) {n : Int} (hn : n ≤ 9223372036854775807) : DOk { D with armed := max n 0 } := ⟨h.lo, h.hi, h.len, h.qs, ⟨by show 0 ≤ max n 0; omega, by show max n 0 ≤ _; omega⟩, h.ep⟩
set_option maxRecDepth 100000 in
set_option maxHeartbeats 4000000 in
theorem close_any {D : DV} {p pg mb : Nat} {qv : Value} {w : World} (hM : Mem w (foots [disk D p pg mb qv]) w [disk D p pg mb qv])  : Calls Try.prog 47 #[.pointer (some ⟨p, 0, none⟩)] w fun e w' => e = .returned (.tuple #[]) ∧ Mem w (foots [disk D p pg mb qv]) w' [disk { D with q := [] } p pg mb (.slice none 0 0)] := by
  obtain ⟨hok, M⟩ := disk_open hM
  clear hM
  go_enter Try.func47, Try.ntmps47
  refine wp_seq_k (fun K1 hK1 => ?_)
  refine wp_region_lit ?_
  refine pl M (y_move (v := .pointer (some ⟨p, 0, none⟩)) rfl rfl rfl) ?_
  simp only [Act.put, zq1, zq2, zq3]
  refine pl M (y_nil rfl rfl rfl) ?_
  simp only [Act.put, zq1, zq2, zq3]
  refine pl M (y_fa (r := 5) rfl rfl rfl Try.underlying60 rfl Try.sizeOf57 rfl) ?_
  simp only [Act.put, zq1, zq2, zq3]
  refine pe rfl (fun K hK => ?_)
  refine e_store M 0 (v := .slice none 0 0) rfl rfl rfl rfl rfl rfl Try.sizeOf57 rfl (show (5 : Nat) < 10 by decide) ?_
  intro w2 (M2 : Mem w _ w2 [blk p 60 ([.int .i64 D.reads, .int .i64 D.writes, .int .i64 D.syncs, .int .i64 (D.q.length : Int), .slice (some ⟨pg, 0, none⟩) D.pages.length D.pages.length, .slice none 0 0, .map (some mb), .int .i64 D.armed, .bool D.dead, .int .i64 D.epoch]), blk pg 92 (pagesC D.pages), lst 94 257 qv D.q.length (qC D.q), mapq mb D.q])
  clear M
  refine hK.out _ _ ?_
  clear hK K
  simp only [Act.put, zq1, zq2, zq3]
  refine wpList_nil ?_
  refine hK1 _ _ ?_
  clear hK1
  refine wp_seq_k (fun K3 hK3 => ?_)
  refine wp_region_lit ?_
  refine pl M2 (y_move (v := .pointer (some ⟨p, 0, none⟩)) rfl rfl rfl) ?_
  simp only [Act.put, zq1, zq2, zq3]
  refine pl M2 (y_nil rfl rfl rfl) ?_
  simp only [Act.put, zq1, zq2, zq3]
  refine pl M2 (y_fa (r := 6) rfl rfl rfl Try.underlying60 rfl Try.sizeOf58 rfl) ?_
  simp only [Act.put, zq1, zq2, zq3]
  refine pl M2 (y_load (v := .map (some mb)) rfl rfl rfl Try.isAgg58 (fun W hW => hW.get 0 rfl) (rfl)) ?_
  simp only [Act.put, zq1, zq2, zq3]
  refine pe rfl (fun K hK => ?_)
  refine e_clear M2 3 rfl Try.underlying58 rfl rfl rfl ?_
  intro w4 (M4 : Mem w _ w4 [blk p 60 ([.int .i64 D.reads, .int .i64 D.writes, .int .i64 D.syncs, .int .i64 (D.q.length : Int), .slice (some ⟨pg, 0, none⟩) D.pages.length D.pages.length, .slice none 0 0, .map (some mb), .int .i64 D.armed, .bool D.dead, .int .i64 D.epoch]), blk pg 92 (pagesC D.pages), lst 94 257 qv D.q.length (qC D.q), mapq mb ([])])
  clear M2
  refine hK.out _ _ ?_
  clear hK K
  simp only [Act.put, zq1, zq2, zq3]
  refine wpList_nil ?_
  refine hK3 _ _ ?_
  clear hK3
  refine wp_region_lit ?_
  refine pl M4 (y_move (v := .pointer (some ⟨p, 0, none⟩)) rfl rfl rfl) ?_
  simp only [Act.put, zq1, zq2, zq3]
  refine pl M4 (y_nil rfl rfl rfl) ?_
  simp only [Act.put, zq1, zq2, zq3]
  refine pl M4 (y_fa (r := 0) rfl rfl rfl Try.underlying60 rfl Try.sizeOf55 rfl) ?_
  simp only [Act.put, zq1, zq2, zq3]
  refine pl M4 (y_fa (r := 3) rfl rfl rfl Try.underlying55 rfl Try.sizeOf3 rfl) ?_
  simp only [Act.put, zq1, zq2, zq3]
  refine pe rfl (fun K hK => ?_)
  refine e_store M4 0 (v := .int .i64 0) rfl rfl rfl rfl rfl rfl Try.sizeOf3 rfl (show (3 : Nat) < 10 by decide) ?_
  intro w5 (M5 : Mem w _ w5 [blk p 60 ([.int .i64 D.reads, .int .i64 D.writes, .int .i64 D.syncs, .int .i64 0, .slice (some ⟨pg, 0, none⟩) D.pages.length D.pages.length, .slice none 0 0, .map (some mb), .int .i64 D.armed, .bool D.dead, .int .i64 D.epoch]), blk pg 92 (pagesC D.pages), lst 94 257 qv D.q.length (qC D.q), mapq mb ([])])
  clear M4
  refine hK.out _ _ ?_
  clear hK K
  simp only [Act.put, zq1, zq2, zq3]
  refine wpList_nil ?_
  try simp only [Exit.inBlock, Exit.then]
  refine bodyPost_end (v := .tuple #[]) (res0 rfl) rfl ?_
  have N := (M5.arr [0, 1, 3] (by decide)).nilst 94 257
  have N2 := N.arr [1, 2, 0, 3] (by decide)
  exact ⟨rfl, disk_close (D := { D with q := [] }) (closeD_ok hok) N2⟩
def cntC (D : DV) : List Value := [.int .i64 D.reads, .int .i64 D.writes, .int .i64 D.syncs, .int .i64 (D.q.length : Int)]
end Go.Proofs.Ytehnnnohoaapdaa

/- The program's disk: Write. -/
namespace Go.Proofs.Ytehnnnohoaapdaa
set_option linter.unusedSectionVars false
open Go Go.RowKit
set_option linter.unusedVariables false
set_option linter.unusedSimpArgs false
theorem zero_write : ∀ w : World, (zeroValue 94).run Try.prog w = .ok (.agg (wC (0, zeroPage)).toArray) w := fun w => by kernel_rfl
theorem fill_write (x : Wr) (h : x.2.length = 256) : Instr.fill (fun i => some (i * 257, 257)) ((Array.range (1 * 257)).map ((Value.agg (wC (0, zeroPage)).toArray).cells[· % (Value.agg (wC (0, zeroPage)).toArray).cells.size]!)) [(0, .agg (wC x).toArray)] = some (wC x).toArray := by
  have e : (Array.range (1 * 257)).map ((Value.agg (wC (0, zeroPage)).toArray).cells[· % (Value.agg (wC (0, zeroPage)).toArray).cells.size]!) = (wC (0, zeroPage)).toArray := by kernel_rfl
  rw [e]
  exact fill_one _ _ _ (by simp [wC, zeroPage_len]) (by simp [wC, h, zeroPage_len])
theorem wC_fill (k : Nat) {z l : List UInt8} (hz : z.length = 256) (hl : l.length = 256) : splice (wC (k, z)) 1 (bvs l) = wC (k, l) := by
  unfold splice wC
  simp [hl, hz]
theorem qC_snoc (q : List Wr) (x : Wr) : qC (q ++ [x]) = qC q ++ wC x := by simp [qC]
theorem size_write (x : Wr) (h : x.2.length = 256) : Box ((Try.prog.info? 94).map (·.size) = some (wC x).length) := size_of_len (n := 257) _ (by simp [wC, h]) (by kernel_rfl)
theorem wC_all (x : Wr) : (wC x).toArray.all (·.oneCell') = true := by
  rw [Array.all_eq_true_iff_forall_mem]; intro v hv; exact wC_one x v (by simpa using hv)
theorem openW_ok {D : DV} (h : DOk D) {k : Nat} {l : List UInt8} (hk : k < D.pages.length) (hl : l.length = 256) : DOk (openW D (k : Int) l) := ⟨h.lo, h.hi, h.len, fun x hx => by
  rcases List.mem_append.1 hx with hx | hx
  · exact h.qs x hx
  · obtain rfl : x = (k, l) := by simpa using hx
    exact ⟨hk, hl⟩, h.arm, h.ep⟩
set_option maxRecDepth 100000 in
set_option maxHeartbeats 4000000 in
theorem write_dead {D : DV} {p pg mb : Nat} {qv : Value} {w : World} (hM : Mem w (foots [disk D p pg mb qv]) w [disk D p pg mb qv]) (page : Int) (ao : Option Addr) (n c : Nat) (l : List UInt8) (hr : Row w ao n l) (hF : ∀ b o, ao = some ⟨b, o, none⟩ → 0 < n → b ∉ foots [disk D p pg mb qv]) (hnm : n ≤ 140737488355328) (hq : D.q.length ≤ 500000000000) (hd : D.dead = true) : Calls Try.prog 51 #[.pointer (some ⟨p, 0, none⟩), .int .i64 page, .slice ao n c] w fun e w' => ∃ qv', e = .returned (.int .i64 (writeE D page l)) ∧ Mem w (foots [disk D p pg mb qv]) w' [disk (writeD D page l) p pg mb qv'] := by
  obtain ⟨hok, M⟩ := disk_open hM
  clear hM
  go_enter Try.func51, Try.ntmps51
  refine wp_seq_k (fun K1 hK1 => ?_)
  refine wp_region_lit ?_
  refine pl M (y_assign (v := .int .i64 0) rfl rfl rfl) ?_
  simp only [Act.put, zq1, zq2, zq3]
  refine wpList_nil ?_
  refine hK1 _ _ ?_
  clear hK1
  refine wp_seq_k (fun K2 hK2 => ?_)
  refine wp_block ?_
  refine wp_seq_k (fun K3 hK3 => ?_)
  refine wp_region_lit ?_
  refine pl M (y_move (v := .pointer (some ⟨p, 0, none⟩)) rfl rfl rfl) ?_
  simp only [Act.put, zq1, zq2, zq3]
  refine pl M (y_nil rfl rfl rfl) ?_
  simp only [Act.put, zq1, zq2, zq3]
  refine pl M (y_fa (r := 8) rfl rfl rfl Try.underlying60 rfl Try.sizeOf4 rfl) ?_
  simp only [Act.put, zq1, zq2, zq3]
  refine pl M (y_load (v := .bool true) rfl rfl rfl Try.isAgg4 (fun W hW => hW.get 0 rfl) (congrArg (fun b => some (Value.bool b)) hd)) ?_
  simp only [Act.put, zq1, zq2, zq3]
  refine pl M (y_assign (v := .bool true) rfl rfl rfl) ?_
  simp only [Act.put, zq1, zq2, zq3]
  refine wpList_nil ?_
  refine hK3 _ _ ?_
  clear hK3
  refine wp_cond_true rfl ?_
  refine wp_seq_k (fun K4 hK4 => ?_)
  refine wp_region_lit ?_
  refine pl M (y_assign (v := .int .i64 2) rfl rfl rfl) ?_
  simp only [Act.put, zq1, zq2, zq3]
  refine wpList_nil ?_
  refine hK4 _ _ ?_
  clear hK4
  refine wp_ret ?_
  try simp only [Exit.inBlock, Exit.then]
  refine bodyPost_ret (v := .int .i64 2) (res1 rfl rfl) rfl ?_
  have e1 : writeE D page l = 2 := if_pos hd
  have e2 : writeD D page l = D := if_pos hd
  rw [e1, e2]
  exact ⟨_, rfl, disk_close hok M⟩
set_option maxRecDepth 100000 in
set_option maxHeartbeats 4000000 in
theorem write_out {D : DV} {p pg mb : Nat} {qv : Value} {w : World} (hM : Mem w (foots [disk D p pg mb qv]) w [disk D p pg mb qv]) (page : Int) (ao : Option Addr) (n c : Nat) (l : List UInt8) (hr : Row w ao n l) (hF : ∀ b o, ao = some ⟨b, o, none⟩ → 0 < n → b ∉ foots [disk D p pg mb qv]) (hnm : n ≤ 140737488355328) (hq : D.q.length ≤ 500000000000) (hd : D.dead = false) (hh : ¬ D.has page) : Calls Try.prog 51 #[.pointer (some ⟨p, 0, none⟩), .int .i64 page, .slice ao n c] w fun e w' => ∃ qv', e = .returned (.int .i64 (writeE D page l)) ∧ Mem w (foots [disk D p pg mb qv]) w' [disk (writeD D page l) p pg mb qv'] := by
  obtain ⟨hok, M⟩ := disk_open hM
  clear hM
  go_enter Try.func51, Try.ntmps51
  refine wp_seq_k (fun K1 hK1 => ?_)
  refine wp_region_lit ?_
  refine pl M (y_assign (v := .int .i64 0) rfl rfl rfl) ?_
  simp only [Act.put, zq1, zq2, zq3]
  refine wpList_nil ?_
  refine hK1 _ _ ?_
  clear hK1
  refine wp_seq_k (fun K2 hK2 => ?_)
  refine wp_block ?_
  refine wp_seq_k (fun K3 hK3 => ?_)
  refine wp_region_lit ?_
  refine pl M (y_move (v := .pointer (some ⟨p, 0, none⟩)) rfl rfl rfl) ?_
  simp only [Act.put, zq1, zq2, zq3]
  refine pl M (y_nil rfl rfl rfl) ?_
  simp only [Act.put, zq1, zq2, zq3]
  refine pl M (y_fa (r := 8) rfl rfl rfl Try.underlying60 rfl Try.sizeOf4 rfl) ?_
  simp only [Act.put, zq1, zq2, zq3]
  refine pl M (y_load (v := .bool false) rfl rfl rfl Try.isAgg4 (fun W hW => hW.get 0 rfl) (congrArg (fun b => some (Value.bool b)) hd)) ?_
  simp only [Act.put, zq1, zq2, zq3]
  refine pl M (y_assign (v := .bool false) rfl rfl rfl) ?_
  simp only [Act.put, zq1, zq2, zq3]
  refine wpList_nil ?_
  refine hK3 _ _ ?_
  clear hK3
  refine wp_cond_false rfl ?_
  refine wp_seq_k (fun K4 hK4 => ?_)
  refine wp_region_lit ?_
  refine pl M (y_move (v := .pointer (some ⟨p, 0, none⟩)) rfl rfl rfl) ?_
  simp only [Act.put, zq1, zq2, zq3]
  refine pl M (y_move (v := .int .i64 page) rfl rfl rfl) ?_
  simp only [Act.put, zq1, zq2, zq3]
  refine pe rfl (fun K hK => ?_)
  refine e_call 55 [.pointer (some ⟨p, 0, none⟩), .int .i64 page] rfl rfl Try.call55 (has_any (Mem.here (L := [disk (D) p pg mb (qv)]) (R := []) (disk_close (D := D) (R := []) hok M)) page) ?_
  rintro e w5 ⟨rfl, H5⟩
  have M5 : Mem w _ w5 [blk p 60 (dC D pg mb qv), blk pg 92 (pagesC D.pages), lst 94 257 qv D.q.length (qC D.q), mapq mb D.q] := (disk_open (Mem.frame (Pre := [disk (D) p pg mb (qv)]) (Post := [disk (D) p pg mb (qv)]) (R := []) (disk_close (D := D) (R := []) hok M) H5)).2
  rw [(decide_eq_false hh)]
  refine ⟨_, rfl, ?_⟩
  refine hK.out _ _ ?_
  clear hK K
  simp only [Act.put, zq1, zq2, zq3]
  refine pl M5 (y_not rfl rfl rfl rfl) ?_
  simp only [Act.put, zq1, zq2, zq3]
  refine pl M5 (y_assign (v := .bool true) rfl rfl rfl) ?_
  simp only [Act.put, zq1, zq2, zq3]
  refine wpList_nil ?_
  refine hK4 _ _ ?_
  clear hK4
  refine wp_cond_true rfl ?_
  refine wp_seq_k (fun K6 hK6 => ?_)
  refine wp_region_lit ?_
  refine pl M5 (y_assign (v := .int .i64 41) rfl rfl rfl) ?_
  simp only [Act.put, zq1, zq2, zq3]
  refine wpList_nil ?_
  refine hK6 _ _ ?_
  clear hK6
  refine wp_ret ?_
  try simp only [Exit.inBlock, Exit.then]
  refine bodyPost_ret (v := .int .i64 41) (res1 rfl rfl) rfl ?_
  have hd' : ¬ D.dead = true := by rw [hd]; decide
  have e1 : writeE D page l = 41 := by unfold writeE; rw [if_neg hd', if_neg hh]
  have e2 : writeD D page l = D := by unfold writeD; rw [if_neg hd', if_neg hh]
  rw [e1, e2]
  exact ⟨_, rfl, disk_close hok M5⟩
set_option maxRecDepth 100000 in
set_option maxHeartbeats 4000000 in
theorem write_size {D : DV} {p pg mb : Nat} {qv : Value} {w : World} (hM : Mem w (foots [disk D p pg mb qv]) w [disk D p pg mb qv]) (page : Int) (ao : Option Addr) (n c : Nat) (l : List UInt8) (hr : Row w ao n l) (hF : ∀ b o, ao = some ⟨b, o, none⟩ → 0 < n → b ∉ foots [disk D p pg mb qv]) (hnm : n ≤ 140737488355328) (hq : D.q.length ≤ 500000000000) (hd : D.dead = false) (hh : D.has page) (hn : n ≠ 256) : Calls Try.prog 51 #[.pointer (some ⟨p, 0, none⟩), .int .i64 page, .slice ao n c] w fun e w' => ∃ qv', e = .returned (.int .i64 (writeE D page l)) ∧ Mem w (foots [disk D p pg mb qv]) w' [disk (writeD D page l) p pg mb qv'] := by
  obtain ⟨hok, M⟩ := disk_open hM
  clear hM
  go_enter Try.func51, Try.ntmps51
  refine wp_seq_k (fun K1 hK1 => ?_)
  refine wp_region_lit ?_
  refine pl M (y_assign (v := .int .i64 0) rfl rfl rfl) ?_
  simp only [Act.put, zq1, zq2, zq3]
  refine wpList_nil ?_
  refine hK1 _ _ ?_
  clear hK1
  refine wp_seq_k (fun K2 hK2 => ?_)
  refine wp_block ?_
  refine wp_seq_k (fun K3 hK3 => ?_)
  refine wp_region_lit ?_
  refine pl M (y_move (v := .pointer (some ⟨p, 0, none⟩)) rfl rfl rfl) ?_
  simp only [Act.put, zq1, zq2, zq3]
  refine pl M (y_nil rfl rfl rfl) ?_
  simp only [Act.put, zq1, zq2, zq3]
  refine pl M (y_fa (r := 8) rfl rfl rfl Try.underlying60 rfl Try.sizeOf4 rfl) ?_
  simp only [Act.put, zq1, zq2, zq3]
  refine pl M (y_load (v := .bool false) rfl rfl rfl Try.isAgg4 (fun W hW => hW.get 0 rfl) (congrArg (fun b => some (Value.bool b)) hd)) ?_
  simp only [Act.put, zq1, zq2, zq3]
  refine pl M (y_assign (v := .bool false) rfl rfl rfl) ?_
  simp only [Act.put, zq1, zq2, zq3]
  refine wpList_nil ?_
  refine hK3 _ _ ?_
  clear hK3
  refine wp_cond_false rfl ?_
  refine wp_seq_k (fun K4 hK4 => ?_)
  refine wp_region_lit ?_
  refine pl M (y_move (v := .pointer (some ⟨p, 0, none⟩)) rfl rfl rfl) ?_
  simp only [Act.put, zq1, zq2, zq3]
  refine pl M (y_move (v := .int .i64 page) rfl rfl rfl) ?_
  simp only [Act.put, zq1, zq2, zq3]
  refine pe rfl (fun K hK => ?_)
  refine e_call 55 [.pointer (some ⟨p, 0, none⟩), .int .i64 page] rfl rfl Try.call55 (has_any (Mem.here (L := [disk (D) p pg mb (qv)]) (R := []) (disk_close (D := D) (R := []) hok M)) page) ?_
  rintro e w5 ⟨rfl, H5⟩
  have M5 : Mem w _ w5 [blk p 60 (dC D pg mb qv), blk pg 92 (pagesC D.pages), lst 94 257 qv D.q.length (qC D.q), mapq mb D.q] := (disk_open (Mem.frame (Pre := [disk (D) p pg mb (qv)]) (Post := [disk (D) p pg mb (qv)]) (R := []) (disk_close (D := D) (R := []) hok M) H5)).2
  rw [(decide_eq_true hh)]
  refine ⟨_, rfl, ?_⟩
  refine hK.out _ _ ?_
  clear hK K
  simp only [Act.put, zq1, zq2, zq3]
  refine pl M5 (y_not rfl rfl rfl rfl) ?_
  simp only [Act.put, zq1, zq2, zq3]
  refine pl M5 (y_assign (v := .bool false) rfl rfl rfl) ?_
  simp only [Act.put, zq1, zq2, zq3]
  refine wpList_nil ?_
  refine hK4 _ _ ?_
  clear hK4
  refine wp_cond_false rfl ?_
  refine wp_seq_k (fun K6 hK6 => ?_)
  refine wp_region_lit ?_
  refine pl M5 (y_move (v := .slice ao n c) rfl rfl rfl) ?_
  simp only [Act.put, zq1, zq2, zq3]
  refine pl M5 (y_len rfl rfl rfl Try.underlying22) ?_
  simp only [Act.put, zq1, zq2, zq3]
  refine pl M5 (y_neq (b := true) rfl rfl rfl rfl (by rw [decide_eq_false (by omega)]; rfl)) ?_
  simp only [Act.put, zq1, zq2, zq3]
  refine pl M5 (y_assign (v := .bool true) rfl rfl rfl) ?_
  simp only [Act.put, zq1, zq2, zq3]
  refine wpList_nil ?_
  refine hK6 _ _ ?_
  clear hK6
  refine wp_cond_true rfl ?_
  refine wp_seq_k (fun K7 hK7 => ?_)
  refine wp_region_lit ?_
  refine pl M5 (y_assign (v := .int .i64 42) rfl rfl rfl) ?_
  simp only [Act.put, zq1, zq2, zq3]
  refine wpList_nil ?_
  refine hK7 _ _ ?_
  clear hK7
  refine wp_ret ?_
  try simp only [Exit.inBlock, Exit.then]
  refine bodyPost_ret (v := .int .i64 42) (res1 rfl rfl) rfl ?_
  have hd' : ¬ D.dead = true := by rw [hd]; decide
  have hl : ¬ l.length = 256 := by rw [hr.1]; exact hn
  have e1 : writeE D page l = 42 := by unfold writeE; rw [if_neg hd', if_pos hh, if_neg hl]
  have e2 : writeD D page l = D := by unfold writeD; rw [if_neg hd', if_pos hh, if_neg hl]
  rw [e1, e2]
  exact ⟨_, rfl, disk_close hok M5⟩
set_option maxRecDepth 100000 in
set_option maxHeartbeats 4000000 in
theorem write_ok {D : DV} {p pg mb : Nat} {qv : Value} {w : World} (hM : Mem w (foots [disk D p pg mb qv]) w [disk D p pg mb qv]) (k : Nat) (ao : Option Addr) (c : Nat) (l : List UInt8) (hr : Row w ao 256 l) (hF : ∀ b o, ao = some ⟨b, o, none⟩ → 0 < 256 → b ∉ foots [disk D p pg mb qv]) (hq : D.q.length ≤ 500000000000) (hd : D.dead = false) (hk : k < D.pages.length) : Calls Try.prog 51 #[.pointer (some ⟨p, 0, none⟩), .int .i64 (k : Int), .slice ao 256 c] w fun e w' => ∃ qv', e = .returned (.int .i64 (writeE D k l)) ∧ Mem w (foots [disk D p pg mb qv]) w' [disk (writeD D k l) p pg mb qv'] := by
  obtain ⟨hok, M⟩ := disk_open hM
  clear hM
  have hd' : ¬ D.dead = true := by rw [hd]; decide
  have hh : D.has k := ⟨by omega, by omega⟩
  have hl : l.length = 256 := hr.1
  have hhi := hok.hi
  have hqn : (D.q ++ [(k, l)]).length = D.q.length + 1 := by simp
  obtain ⟨qa, qc, rfl⟩ := qv_at (M.get 2 rfl)
  go_enter Try.func51, Try.ntmps51
  refine wp_seq_k (fun K1 hK1 => ?_)
  refine wp_region_lit ?_
  refine pl M (y_assign (v := .int .i64 0) rfl rfl rfl) ?_
  simp only [Act.put, zq1, zq2, zq3]
  refine wpList_nil ?_
  refine hK1 _ _ ?_
  clear hK1
  refine wp_seq_k (fun K2 hK2 => ?_)
  refine wp_block ?_
  refine wp_seq_k (fun K3 hK3 => ?_)
  refine wp_region_lit ?_
  refine pl M (y_move (v := .pointer (some ⟨p, 0, none⟩)) rfl rfl rfl) ?_
  simp only [Act.put, zq1, zq2, zq3]
  refine pl M (y_nil rfl rfl rfl) ?_
  simp only [Act.put, zq1, zq2, zq3]
  refine pl M (y_fa (r := 8) rfl rfl rfl Try.underlying60 rfl Try.sizeOf4 rfl) ?_
  simp only [Act.put, zq1, zq2, zq3]
  refine pl M (y_load (v := .bool false) rfl rfl rfl Try.isAgg4 (fun W hW => hW.get 0 rfl) (congrArg (fun b => some (Value.bool b)) hd)) ?_
  simp only [Act.put, zq1, zq2, zq3]
  refine pl M (y_assign (v := .bool false) rfl rfl rfl) ?_
  simp only [Act.put, zq1, zq2, zq3]
  refine wpList_nil ?_
  refine hK3 _ _ ?_
  clear hK3
  refine wp_cond_false rfl ?_
  refine wp_seq_k (fun K4 hK4 => ?_)
  refine wp_region_lit ?_
  refine pl M (y_move (v := .pointer (some ⟨p, 0, none⟩)) rfl rfl rfl) ?_
  simp only [Act.put, zq1, zq2, zq3]
  refine pl M (y_move (v := .int .i64 (k : Int)) rfl rfl rfl) ?_
  simp only [Act.put, zq1, zq2, zq3]
  refine pe rfl (fun K hK => ?_)
  refine e_call 55 [.pointer (some ⟨p, 0, none⟩), .int .i64 (k : Int)] rfl rfl Try.call55 (has_any (Mem.here (L := [disk (D) p pg mb (.slice qa D.q.length qc)]) (R := []) (disk_close (D := D) (R := []) hok M)) (k : Int)) ?_
  rintro e w5 ⟨rfl, H5⟩
  have M5 : Mem w _ w5 [blk p 60 (dC D pg mb (.slice qa D.q.length qc)), blk pg 92 (pagesC D.pages), lst 94 257 (.slice qa D.q.length qc) D.q.length (qC D.q), mapq mb D.q] := (disk_open (Mem.frame (Pre := [disk (D) p pg mb (.slice qa D.q.length qc)]) (Post := [disk (D) p pg mb (.slice qa D.q.length qc)]) (R := []) (disk_close (D := D) (R := []) hok M) H5)).2
  rw [(decide_eq_true hh)]
  refine ⟨_, rfl, ?_⟩
  refine hK.out _ _ ?_
  clear hK K
  simp only [Act.put, zq1, zq2, zq3]
  refine pl M5 (y_not rfl rfl rfl rfl) ?_
  simp only [Act.put, zq1, zq2, zq3]
  refine pl M5 (y_assign (v := .bool false) rfl rfl rfl) ?_
  simp only [Act.put, zq1, zq2, zq3]
  refine wpList_nil ?_
  refine hK4 _ _ ?_
  clear hK4
  refine wp_cond_false rfl ?_
  refine wp_seq_k (fun K6 hK6 => ?_)
  refine wp_region_lit ?_
  refine pl M5 (y_move (v := .slice ao 256 c) rfl rfl rfl) ?_
  simp only [Act.put, zq1, zq2, zq3]
  refine pl M5 (y_len rfl rfl rfl Try.underlying22) ?_
  simp only [Act.put, zq1, zq2, zq3]
  refine pl M5 (y_neq (b := false) rfl rfl rfl rfl (by rw [decide_eq_true (by omega)]; rfl)) ?_
  simp only [Act.put, zq1, zq2, zq3]
  refine pl M5 (y_assign (v := .bool false) rfl rfl rfl) ?_
  simp only [Act.put, zq1, zq2, zq3]
  refine wpList_nil ?_
  refine hK6 _ _ ?_
  clear hK6
  refine wp_cond_false rfl ?_
  refine wp_skip ?_
  refine hK2 _ _ ?_
  clear hK2
  refine wp_seq_k (fun K7 hK7 => ?_)
  refine wp_region_lit ?_
  refine pl M5 (y_move (v := .int .i64 (k : Int)) rfl rfl rfl) ?_
  simp only [Act.put, zq1, zq2, zq3]
  refine pl M5 (y_build (ps := [(0, .tmp 22)]) (pv := [(0, .int .i64 (k : Int))]) (cs := (wC (k, zeroPage))) rfl rfl rfl (by kernel_rfl)) ?_
  simp only [Act.put, zq1, zq2, zq3]
  refine pe rfl (fun K hK => ?_)
  refine e_alloc M5 (wC (0, zeroPage)) rfl zero_write ?_
  intro gw w8 (M8 : Mem w _ w8 [blk gw 94 (wC (0, zeroPage)), blk p 60 (dC D pg mb (.slice qa D.q.length qc)), blk pg 92 (pagesC D.pages), lst 94 257 (.slice qa D.q.length qc) D.q.length (qC D.q), mapq mb D.q])
  clear M5
  refine hK.out _ _ ?_
  clear hK K
  simp only [Act.put, zq1, zq2, zq3]
  refine pe rfl (fun K hK => ?_)
  refine e_storew M8 0 (cs := (wC (k, zeroPage))) rfl rfl rfl rfl (size_write _ zeroPage_len) (wC_all _) rfl (rfl) ?_
  intro w9 (M9 : Mem w _ w9 [blk gw 94 (wC (k, zeroPage)), blk p 60 (dC D pg mb (.slice qa D.q.length qc)), blk pg 92 (pagesC D.pages), lst 94 257 (.slice qa D.q.length qc) D.q.length (qC D.q), mapq mb D.q])
  clear M8
  refine hK.out _ _ ?_
  clear hK K
  simp only [Act.put, zq1, zq2, zq3]
  refine wpList_nil ?_
  refine hK7 _ _ ?_
  clear hK7
  refine wp_seq_k (fun K10 hK10 => ?_)
  refine wp_region_lit ?_
  refine pl M9 (y_fa (r := 1) rfl rfl rfl Try.underlying94 rfl Try.sizeOf92 rfl) ?_
  simp only [Act.put, zq1, zq2, zq3]
  refine pl M9 (y_sla (l := 0) (h := 256) (r := 1) (n' := 256) (c' := 256) rfl rfl rfl rfl rfl Try.underlying92 Try.sizeOf5 (by exact ⟨rfl, rfl⟩) (rfl) (by omega) (by omega)) ?_
  simp only [Act.put, zq1, zq2, zq3]
  refine pl M9 (y_move (v := .slice ao 256 c) rfl rfl rfl) ?_
  simp only [Act.put, zq1, zq2, zq3]
  refine pe rfl (fun K hK => ?_)
  refine e_copy M9 0 (l := l) rfl rfl Try.underlying22 Try.sizeOf5 rfl rfl rfl (by rw [hl]; rfl) ((hl ▸ M9.row hr hF : Row _ ao l.length l)) (by rw [hl]; show 1 + 256 ≤ 257; decide) ?_
  intro w11 M11
  replace M11 : Mem w (foots [disk D p pg mb (.slice qa D.q.length qc)]) w11 [blk gw 94 (wC (k, l)), blk p 60 (dC D pg mb (.slice qa D.q.length qc)), blk pg 92 (pagesC D.pages), lst 94 257 (.slice qa D.q.length qc) D.q.length (qC D.q), mapq mb D.q] := by rw [wC_fill k zeroPage_len hl] at M11; exact M11
  clear M9
  refine hK.out _ _ ?_
  clear hK K
  simp only [Act.put, zq1, zq2, zq3]
  refine wpList_nil ?_
  refine hK10 _ _ ?_
  clear hK10
  refine wp_seq_k (fun K12 hK12 => ?_)
  have M13 : Mem w _ w11.drew [blk gw 94 (wC (k, l)), blk p 60 (dC D pg mb (.slice qa D.q.length qc)), blk pg 92 (pagesC D.pages), lst 94 257 (.slice qa D.q.length qc) D.q.length (qC D.q), mapq mb D.q] := M11.drew
  clear M11
  refine wp_region_tail 10 (by kernel_rfl) (by kernel_rfl) ?_
  simp only [List.take_succ_cons, List.take_zero, List.drop_succ_cons, List.drop_zero]
  refine ps M13 (y_move (v := .pointer (some ⟨p, 0, none⟩)) rfl rfl rfl) ?_
  simp only [Act.put, zq1, zq2, zq3]
  refine ps M13 (y_nil rfl rfl rfl) ?_
  simp only [Act.put, zq1, zq2, zq3]
  refine ps M13 (y_fa (r := 6) rfl rfl rfl Try.underlying60 rfl Try.sizeOf58 rfl) ?_
  simp only [Act.put, zq1, zq2, zq3]
  refine ps M13 (y_load (v := .map (some mb)) rfl rfl rfl Try.isAgg58 (fun W hW => hW.get 1 rfl) (rfl)) ?_
  simp only [Act.put, zq1, zq2, zq3]
  refine ps M13 (y_move (v := .int .i64 (k : Int)) rfl rfl rfl) ?_
  simp only [Act.put, zq1, zq2, zq3]
  refine ps M13 (y_move (v := .pointer (some ⟨p, 0, none⟩)) rfl rfl rfl) ?_
  simp only [Act.put, zq1, zq2, zq3]
  refine ps M13 (y_nil rfl rfl rfl) ?_
  simp only [Act.put, zq1, zq2, zq3]
  refine ps M13 (y_fa (r := 5) rfl rfl rfl Try.underlying60 rfl Try.sizeOf57 rfl) ?_
  simp only [Act.put, zq1, zq2, zq3]
  refine ps M13 (y_load (v := .slice qa D.q.length qc) rfl rfl rfl Try.isAgg57 (fun W hW => hW.get 1 rfl) (rfl)) ?_
  simp only [Act.put, zq1, zq2, zq3]
  refine ps M13 (y_len rfl rfl rfl Try.underlying57) ?_
  simp only [Act.put, zq1, zq2, zq3]
  refine wpStill_nil ?_
  refine pe rfl (fun K hK => ?_)
  refine e_mapset M13 4 rfl Try.underlying3 Try.underlying3 Try.underlying58 (p := k) rfl rfl rfl rfl rfl (rfl) (rfl) (by omega) (by omega) (l) ?_
  intro w14 (M14 : Mem w _ w14 [blk gw 94 (wC (k, l)), blk p 60 (dC D pg mb (.slice qa D.q.length qc)), blk pg 92 (pagesC D.pages), lst 94 257 (.slice qa D.q.length qc) D.q.length (qC D.q), mapq mb (D.q ++ [(k, l)])])
  clear M13
  refine hK.out _ _ ?_
  clear hK K
  simp only [Act.put, zq1, zq2, zq3]
  refine wpList_nil ?_
  refine hK12 _ _ ?_
  clear hK12
  refine wp_seq_k (fun K15 hK15 => ?_)
  have M16 := M14.drew
  refine held_begin (fun W => Mem w (foots [disk D p pg mb (.slice qa D.q.length qc)]) W [blk gw 94 (wC (k, l))]) (by kernel_rfl) (M16.arr [0] (by decide)) (fun hS => ?_)
  refine held_take 0 _ rfl (by kernel_rfl) (by kernel_rfl) (by kernel_rfl) (y_move (v := .pointer (some ⟨p, 0, none⟩)) rfl rfl rfl) hS ?_
  simp only [Act.put, zq1, zq2, zq3]
  refine held_take 1 _ rfl (by kernel_rfl) (by kernel_rfl) (by kernel_rfl) (y_move (v := .pointer (some ⟨p, 0, none⟩)) rfl rfl rfl) hS ?_
  simp only [Act.put, zq1, zq2, zq3]
  refine held_take 2 _ rfl (by kernel_rfl) (by kernel_rfl) (by kernel_rfl) (y_nil rfl rfl rfl) hS ?_
  simp only [Act.put, zq1, zq2, zq3]
  refine held_take 3 _ rfl (by kernel_rfl) (by kernel_rfl) (by kernel_rfl) (y_fa (r := 5) rfl rfl rfl Try.underlying60 rfl Try.sizeOf57 rfl) hS ?_
  simp only [Act.put, zq1, zq2, zq3]
  refine held_take 5 _ rfl (by kernel_rfl) (by kernel_rfl) (by kernel_rfl) (y_loadb (cs := (wC (k, l))) rfl rfl rfl Try.underlying94 rfl (size_write _ hl) (fun W hW => hW.get 0 rfl) (List.take_of_length_le (Nat.le_refl _))) hS ?_
  simp only [Act.put, zq1, zq2, zq3]
  refine held_step2 4 6 (by kernel_rfl) rfl rfl (by rfl) (by rfl) (fun K hK => ?_) (fun K hK => ?_)
  · refine e_yield (ops := #[]) M16 (y_load (v := .slice qa D.q.length qc) rfl rfl rfl Try.isAgg57 (fun W hW => hW.get 1 rfl) (rfl)) rfl ?_
    refine hK.out _ _ (M16.arr [0] (by decide)) (fun hS => ?_)
    clear hK K
    simp only [Act.put, zq1, zq2, zq3]
    refine held_step 6 (by kernel_rfl) rfl (by rfl) (fun K hK => ?_)
    refine e_bslice M16 (wC (k, l)) (pv := [(0, .agg ((wC (k, l))).toArray)]) rfl rfl Try.underlying57 Try.sizeOf94 zero_write (by decide) (fill_write (k, l) hl) ?_
    intro g17 w18 (M18 : Mem w _ w18 [blk g17 94 (wC (k, l)), blk gw 94 (wC (k, l)), blk p 60 (dC D pg mb (.slice qa D.q.length qc)), blk pg 92 (pagesC D.pages), lst 94 257 (.slice qa D.q.length qc) D.q.length (qC D.q), mapq mb (D.q ++ [(k, l)])])
    clear M16
    refine hK.out _ _ (M18.arr [1] (by decide)) (fun hS => ?_)
    clear hK K
    simp only [Act.put, zq1, zq2, zq3]
    refine held_step 7 (by kernel_rfl) rfl (by rfl) (fun K hK => ?_)
    refine e_append M18 4 writesT (by decide) (news := wC (k, l)) rfl rfl rfl rfl (by simp [wC, hl]) (by intro h; cases h) (fun ad e j u hj => by cases e; rw [Addr_add, Nat.zero_add]; exact cell_of_blk (M18.get 0 rfl) hj) (wC_one _) (⟨by unfold maxLen; omega, by omega⟩) ?_
    intro v19 w19 M19
    replace M19 : Mem w (foots [disk D p pg mb (.slice qa D.q.length qc)]) w19 [blk g17 94 (wC (k, l)), blk gw 94 (wC (k, l)), blk p 60 (dC D pg mb (.slice qa D.q.length qc)), blk pg 92 (pagesC D.pages), lst 94 257 v19 ((D.q ++ [(k, l)]).length) (qC (D.q ++ [(k, l)])), mapq mb (D.q ++ [(k, l)])] := by rw [← qC_snoc, ← hqn] at M19; exact M19
    clear M18
    obtain ⟨a19, c19, rfl⟩ := qv_at (M19.get 4 rfl)
    refine hK.out _ _ (M19.arr [1] (by decide)) (fun hS => ?_)
    clear hK K
    simp only [Act.put, zq1, zq2, zq3]
    refine held_take 8 _ rfl (by kernel_rfl) (by kernel_rfl) (by kernel_rfl) (y_nil rfl rfl rfl) hS ?_
    simp only [Act.put, zq1, zq2, zq3]
    refine held_take 9 _ rfl (by kernel_rfl) (by kernel_rfl) (by kernel_rfl) (y_fa (r := 5) rfl rfl rfl Try.underlying60 rfl Try.sizeOf57 rfl) hS ?_
    simp only [Act.put, zq1, zq2, zq3]
    refine held_step 10 (by kernel_rfl) rfl (by rfl) (fun K hK => ?_)
    refine e_store M19 2 (v := .slice a19 ((D.q ++ [(k, l)]).length) c19) rfl rfl rfl rfl rfl rfl Try.sizeOf57 rfl (show (5 : Nat) < 10 by decide) ?_
    intro w20 (M20 : Mem w _ w20 [blk g17 94 (wC (k, l)), blk gw 94 (wC (k, l)), blk p 60 ([.int .i64 D.reads, .int .i64 D.writes, .int .i64 D.syncs, .int .i64 (D.q.length : Int), .slice (some ⟨pg, 0, none⟩) D.pages.length D.pages.length, .slice a19 ((D.q ++ [(k, l)]).length) c19, .map (some mb), .int .i64 D.armed, .bool D.dead, .int .i64 D.epoch]), blk pg 92 (pagesC D.pages), lst 94 257 (.slice a19 ((D.q ++ [(k, l)]).length) c19) ((D.q ++ [(k, l)]).length) (qC (D.q ++ [(k, l)])), mapq mb (D.q ++ [(k, l)])])
    clear M19
    refine hK.out _ _ (M20.arr [1] (by decide)) (fun hS => ?_)
    clear hK K
    simp only [Act.put, zq1, zq2, zq3]
    refine held_done (by kernel_rfl) ?_ _
    refine hK15 _ _ ?_
    clear hK15
    refine wp_seq_k (fun K21 hK21 => ?_)
    refine wp_region_lit ?_
    refine pl M20 (y_move (v := .pointer (some ⟨p, 0, none⟩)) rfl rfl rfl) ?_
    simp only [Act.put, zq1, zq2, zq3]
    refine pl M20 (y_nil rfl rfl rfl) ?_
    simp only [Act.put, zq1, zq2, zq3]
    refine pl M20 (y_fa (r := 0) rfl rfl rfl Try.underlying60 rfl Try.sizeOf55 rfl) ?_
    simp only [Act.put, zq1, zq2, zq3]
    refine pl M20 (y_fa (r := 1) rfl rfl rfl Try.underlying55 rfl Try.sizeOf3 rfl) ?_
    simp only [Act.put, zq1, zq2, zq3]
    refine pl M20 (y_load (v := .int .i64 D.writes) rfl rfl rfl Try.isAgg3 (fun W hW => hW.get 2 rfl) (rfl)) ?_
    simp only [Act.put, zq1, zq2, zq3]
    refine pl M20 (y_addw rfl rfl rfl rfl) ?_
    simp only [Act.put, zq1, zq2, zq3]
    refine pl M20 (y_nil rfl rfl rfl) ?_
    simp only [Act.put, zq1, zq2, zq3]
    refine pl M20 (y_fa (r := 0) rfl rfl rfl Try.underlying60 rfl Try.sizeOf55 rfl) ?_
    simp only [Act.put, zq1, zq2, zq3]
    refine pl M20 (y_fa (r := 1) rfl rfl rfl Try.underlying55 rfl Try.sizeOf3 rfl) ?_
    simp only [Act.put, zq1, zq2, zq3]
    refine pe rfl (fun K hK => ?_)
    refine e_store M20 2 (v := .int .i64 (wrap64 (D.writes + 1))) rfl rfl rfl rfl rfl rfl Try.sizeOf3 rfl (show (1 : Nat) < 10 by decide) ?_
    intro w22 (M22 : Mem w _ w22 [blk g17 94 (wC (k, l)), blk gw 94 (wC (k, l)), blk p 60 ([.int .i64 D.reads, .int .i64 (wrap64 (D.writes + 1)), .int .i64 D.syncs, .int .i64 (D.q.length : Int), .slice (some ⟨pg, 0, none⟩) D.pages.length D.pages.length, .slice a19 ((D.q ++ [(k, l)]).length) c19, .map (some mb), .int .i64 D.armed, .bool D.dead, .int .i64 D.epoch]), blk pg 92 (pagesC D.pages), lst 94 257 (.slice a19 ((D.q ++ [(k, l)]).length) c19) ((D.q ++ [(k, l)]).length) (qC (D.q ++ [(k, l)])), mapq mb (D.q ++ [(k, l)])])
    clear M20
    refine hK.out _ _ ?_
    clear hK K
    simp only [Act.put, zq1, zq2, zq3]
    refine wpList_nil ?_
    refine hK21 _ _ ?_
    clear hK21
    refine wp_seq_k (fun K23 hK23 => ?_)
    refine wp_region_lit ?_
    refine pl M22 (y_move (v := .pointer (some ⟨p, 0, none⟩)) rfl rfl rfl) ?_
    simp only [Act.put, zq1, zq2, zq3]
    refine pl M22 (y_nil rfl rfl rfl) ?_
    simp only [Act.put, zq1, zq2, zq3]
    refine pl M22 (y_fa (r := 0) rfl rfl rfl Try.underlying60 rfl Try.sizeOf55 rfl) ?_
    simp only [Act.put, zq1, zq2, zq3]
    refine pl M22 (y_fa (r := 3) rfl rfl rfl Try.underlying55 rfl Try.sizeOf3 rfl) ?_
    simp only [Act.put, zq1, zq2, zq3]
    refine pl M22 (y_load (v := .int .i64 (D.q.length : Int)) rfl rfl rfl Try.isAgg3 (fun W hW => hW.get 2 rfl) (rfl)) ?_
    simp only [Act.put, zq1, zq2, zq3]
    refine pl M22 (y_add (r := ((D.q ++ [(k, l)]).length : Int)) rfl rfl rfl rfl (by omega) (by omega)) ?_
    simp only [Act.put, zq1, zq2, zq3]
    refine pl M22 (y_nil rfl rfl rfl) ?_
    simp only [Act.put, zq1, zq2, zq3]
    refine pl M22 (y_fa (r := 0) rfl rfl rfl Try.underlying60 rfl Try.sizeOf55 rfl) ?_
    simp only [Act.put, zq1, zq2, zq3]
    refine pl M22 (y_fa (r := 3) rfl rfl rfl Try.underlying55 rfl Try.sizeOf3 rfl) ?_
    simp only [Act.put, zq1, zq2, zq3]
    refine pe rfl (fun K hK => ?_)
    refine e_store M22 2 (v := .int .i64 ((D.q ++ [(k, l)]).length : Int)) rfl rfl rfl rfl rfl rfl Try.sizeOf3 rfl (show (3 : Nat) < 10 by decide) ?_
    intro w24 (M24 : Mem w _ w24 [blk g17 94 (wC (k, l)), blk gw 94 (wC (k, l)), blk p 60 ([.int .i64 D.reads, .int .i64 (wrap64 (D.writes + 1)), .int .i64 D.syncs, .int .i64 ((D.q ++ [(k, l)]).length : Int), .slice (some ⟨pg, 0, none⟩) D.pages.length D.pages.length, .slice a19 ((D.q ++ [(k, l)]).length) c19, .map (some mb), .int .i64 D.armed, .bool D.dead, .int .i64 D.epoch]), blk pg 92 (pagesC D.pages), lst 94 257 (.slice a19 ((D.q ++ [(k, l)]).length) c19) ((D.q ++ [(k, l)]).length) (qC (D.q ++ [(k, l)])), mapq mb (D.q ++ [(k, l)])])
    clear M22
    refine hK.out _ _ ?_
    clear hK K
    simp only [Act.put, zq1, zq2, zq3]
    refine wpList_nil ?_
    refine hK23 _ _ ?_
    clear hK23
    refine wp_seq_k (fun K25 hK25 => ?_)
    refine wp_region_lit ?_
    refine pl M24 (y_move (v := .pointer (some ⟨p, 0, none⟩)) rfl rfl rfl) ?_
    simp only [Act.put, zq1, zq2, zq3]
    have M26 : Mem w _ w24 [blk p 60 ([.int .i64 D.reads, .int .i64 (wrap64 (D.writes + 1)), .int .i64 D.syncs, .int .i64 ((D.q ++ [(k, l)]).length : Int), .slice (some ⟨pg, 0, none⟩) D.pages.length D.pages.length, .slice a19 ((D.q ++ [(k, l)]).length) c19, .map (some mb), .int .i64 D.armed, .bool D.dead, .int .i64 D.epoch]), blk pg 92 (pagesC D.pages), lst 94 257 (.slice a19 ((D.q ++ [(k, l)]).length) c19) ((D.q ++ [(k, l)]).length) (qC (D.q ++ [(k, l)])), mapq mb (D.q ++ [(k, l)]), blk g17 94 (wC (k, l)), blk gw 94 (wC (k, l))] := M24.arr [2, 3, 4, 5, 0, 1] (by decide)
    clear M24
    refine pe rfl (fun K hK => ?_)
    refine e_call 63 [.pointer (some ⟨p, 0, none⟩)] rfl rfl Try.call63 (act_any (Mem.here (L := [disk (openW D (k : Int) l) p pg mb (.slice a19 ((D.q ++ [(k, l)]).length) c19)]) (R := [blk g17 94 (wC (k, l)), blk gw 94 (wC (k, l))]) (disk_close (D := openW D (k : Int) l) (R := [blk g17 94 (wC (k, l)), blk gw 94 (wC (k, l))]) (openW_ok hok hk hl) M26)) ) ?_
    rintro e w27 ⟨rfl, H27⟩
    have M27 : Mem w _ w27 [disk (actD (openW D (k : Int) l)) p pg mb (.slice a19 ((D.q ++ [(k, l)]).length) c19), blk g17 94 (wC (k, l)), blk gw 94 (wC (k, l))] := (Mem.frame (Pre := [disk (openW D (k : Int) l) p pg mb (.slice a19 ((D.q ++ [(k, l)]).length) c19)]) (Post := [disk (actD (openW D (k : Int) l)) p pg mb (.slice a19 ((D.q ++ [(k, l)]).length) c19)]) (R := [blk g17 94 (wC (k, l)), blk gw 94 (wC (k, l))]) (disk_close (D := openW D (k : Int) l) (R := [blk g17 94 (wC (k, l)), blk gw 94 (wC (k, l))]) (openW_ok hok hk hl) M26) H27)
    refine ⟨_, rfl, ?_⟩
    refine hK.out _ _ ?_
    clear hK K
    simp only [Act.put, zq1, zq2, zq3]
    refine pl M27 (y_assign (v := .int .i64 (actE (openW D (k : Int) l))) rfl rfl rfl) ?_
    simp only [Act.put, zq1, zq2, zq3]
    refine wpList_nil ?_
    refine hK25 _ _ ?_
    clear hK25
    refine wp_ret ?_
    try simp only [Exit.inBlock, Exit.then]
    refine bodyPost_ret (v := .int .i64 (actE (openW D (k : Int) l))) (res1 rfl rfl) rfl ?_
    have e1 : writeE D k l = actE (openW D k l) := by unfold writeE; rw [if_neg hd', if_pos hh, if_pos hl]; rfl
    have e2 : writeD D k l = actD (openW D k l) := by unfold writeD; rw [if_neg hd', if_pos hh, if_pos hl]
    rw [e1, e2]
    exact ⟨_, rfl, M27.arr [0] (by decide)⟩
  · refine e_bslice M16 (wC (k, l)) (pv := [(0, .agg ((wC (k, l))).toArray)]) rfl rfl Try.underlying57 Try.sizeOf94 zero_write (by decide) (fill_write (k, l) hl) ?_
    intro g28 w29 (M29 : Mem w _ w29 [blk g28 94 (wC (k, l)), blk gw 94 (wC (k, l)), blk p 60 (dC D pg mb (.slice qa D.q.length qc)), blk pg 92 (pagesC D.pages), lst 94 257 (.slice qa D.q.length qc) D.q.length (qC D.q), mapq mb (D.q ++ [(k, l)])])
    clear M16
    refine hK.out _ _ (M29.arr [1] (by decide)) (fun hS => ?_)
    clear hK K
    simp only [Act.put, zq1, zq2, zq3]
    refine held_step 4 (by kernel_rfl) rfl (by rfl) (fun K hK => ?_)
    refine e_yield (ops := #[]) M29 (y_load (v := .slice qa D.q.length qc) rfl rfl rfl Try.isAgg57 (fun W hW => hW.get 2 rfl) (rfl)) rfl ?_
    refine hK.out _ _ (M29.arr [1] (by decide)) (fun hS => ?_)
    clear hK K
    simp only [Act.put, zq1, zq2, zq3]
    refine held_step 7 (by kernel_rfl) rfl (by rfl) (fun K hK => ?_)
    refine e_append M29 4 writesT (by decide) (news := wC (k, l)) rfl rfl rfl rfl (by simp [wC, hl]) (by intro h; cases h) (fun ad e j u hj => by cases e; rw [Addr_add, Nat.zero_add]; exact cell_of_blk (M29.get 0 rfl) hj) (wC_one _) (⟨by unfold maxLen; omega, by omega⟩) ?_
    intro v30 w30 M30
    replace M30 : Mem w (foots [disk D p pg mb (.slice qa D.q.length qc)]) w30 [blk g28 94 (wC (k, l)), blk gw 94 (wC (k, l)), blk p 60 (dC D pg mb (.slice qa D.q.length qc)), blk pg 92 (pagesC D.pages), lst 94 257 v30 ((D.q ++ [(k, l)]).length) (qC (D.q ++ [(k, l)])), mapq mb (D.q ++ [(k, l)])] := by rw [← qC_snoc, ← hqn] at M30; exact M30
    clear M29
    obtain ⟨a30, c30, rfl⟩ := qv_at (M30.get 4 rfl)
    refine hK.out _ _ (M30.arr [1] (by decide)) (fun hS => ?_)
    clear hK K
    simp only [Act.put, zq1, zq2, zq3]
    refine held_take 8 _ rfl (by kernel_rfl) (by kernel_rfl) (by kernel_rfl) (y_nil rfl rfl rfl) hS ?_
    simp only [Act.put, zq1, zq2, zq3]
    refine held_take 9 _ rfl (by kernel_rfl) (by kernel_rfl) (by kernel_rfl) (y_fa (r := 5) rfl rfl rfl Try.underlying60 rfl Try.sizeOf57 rfl) hS ?_
    simp only [Act.put, zq1, zq2, zq3]
    refine held_step 10 (by kernel_rfl) rfl (by rfl) (fun K hK => ?_)
    refine e_store M30 2 (v := .slice a30 ((D.q ++ [(k, l)]).length) c30) rfl rfl rfl rfl rfl rfl Try.sizeOf57 rfl (show (5 : Nat) < 10 by decide) ?_
    intro w31 (M31 : Mem w _ w31 [blk g28 94 (wC (k, l)), blk gw 94 (wC (k, l)), blk p 60 ([.int .i64 D.reads, .int .i64 D.writes, .int .i64 D.syncs, .int .i64 (D.q.length : Int), .slice (some ⟨pg, 0, none⟩) D.pages.length D.pages.length, .slice a30 ((D.q ++ [(k, l)]).length) c30, .map (some mb), .int .i64 D.armed, .bool D.dead, .int .i64 D.epoch]), blk pg 92 (pagesC D.pages), lst 94 257 (.slice a30 ((D.q ++ [(k, l)]).length) c30) ((D.q ++ [(k, l)]).length) (qC (D.q ++ [(k, l)])), mapq mb (D.q ++ [(k, l)])])
    clear M30
    refine hK.out _ _ (M31.arr [1] (by decide)) (fun hS => ?_)
    clear hK K
    simp only [Act.put, zq1, zq2, zq3]
    refine held_done (by kernel_rfl) ?_ _
    refine hK15 _ _ ?_
    clear hK15
    refine wp_seq_k (fun K32 hK32 => ?_)
    refine wp_region_lit ?_
    refine pl M31 (y_move (v := .pointer (some ⟨p, 0, none⟩)) rfl rfl rfl) ?_
    simp only [Act.put, zq1, zq2, zq3]
    refine pl M31 (y_nil rfl rfl rfl) ?_
    simp only [Act.put, zq1, zq2, zq3]
    refine pl M31 (y_fa (r := 0) rfl rfl rfl Try.underlying60 rfl Try.sizeOf55 rfl) ?_
    simp only [Act.put, zq1, zq2, zq3]
    refine pl M31 (y_fa (r := 1) rfl rfl rfl Try.underlying55 rfl Try.sizeOf3 rfl) ?_
    simp only [Act.put, zq1, zq2, zq3]
    refine pl M31 (y_load (v := .int .i64 D.writes) rfl rfl rfl Try.isAgg3 (fun W hW => hW.get 2 rfl) (rfl)) ?_
    simp only [Act.put, zq1, zq2, zq3]
    refine pl M31 (y_addw rfl rfl rfl rfl) ?_
    simp only [Act.put, zq1, zq2, zq3]
    refine pl M31 (y_nil rfl rfl rfl) ?_
    simp only [Act.put, zq1, zq2, zq3]
    refine pl M31 (y_fa (r := 0) rfl rfl rfl Try.underlying60 rfl Try.sizeOf55 rfl) ?_
    simp only [Act.put, zq1, zq2, zq3]
    refine pl M31 (y_fa (r := 1) rfl rfl rfl Try.underlying55 rfl Try.sizeOf3 rfl) ?_
    simp only [Act.put, zq1, zq2, zq3]
    refine pe rfl (fun K hK => ?_)
    refine e_store M31 2 (v := .int .i64 (wrap64 (D.writes + 1))) rfl rfl rfl rfl rfl rfl Try.sizeOf3 rfl (show (1 : Nat) < 10 by decide) ?_
    intro w33 (M33 : Mem w _ w33 [blk g28 94 (wC (k, l)), blk gw 94 (wC (k, l)), blk p 60 ([.int .i64 D.reads, .int .i64 (wrap64 (D.writes + 1)), .int .i64 D.syncs, .int .i64 (D.q.length : Int), .slice (some ⟨pg, 0, none⟩) D.pages.length D.pages.length, .slice a30 ((D.q ++ [(k, l)]).length) c30, .map (some mb), .int .i64 D.armed, .bool D.dead, .int .i64 D.epoch]), blk pg 92 (pagesC D.pages), lst 94 257 (.slice a30 ((D.q ++ [(k, l)]).length) c30) ((D.q ++ [(k, l)]).length) (qC (D.q ++ [(k, l)])), mapq mb (D.q ++ [(k, l)])])
    clear M31
    refine hK.out _ _ ?_
    clear hK K
    simp only [Act.put, zq1, zq2, zq3]
    refine wpList_nil ?_
    refine hK32 _ _ ?_
    clear hK32
    refine wp_seq_k (fun K34 hK34 => ?_)
    refine wp_region_lit ?_
    refine pl M33 (y_move (v := .pointer (some ⟨p, 0, none⟩)) rfl rfl rfl) ?_
    simp only [Act.put, zq1, zq2, zq3]
    refine pl M33 (y_nil rfl rfl rfl) ?_
    simp only [Act.put, zq1, zq2, zq3]
    refine pl M33 (y_fa (r := 0) rfl rfl rfl Try.underlying60 rfl Try.sizeOf55 rfl) ?_
    simp only [Act.put, zq1, zq2, zq3]
    refine pl M33 (y_fa (r := 3) rfl rfl rfl Try.underlying55 rfl Try.sizeOf3 rfl) ?_
    simp only [Act.put, zq1, zq2, zq3]
    refine pl M33 (y_load (v := .int .i64 (D.q.length : Int)) rfl rfl rfl Try.isAgg3 (fun W hW => hW.get 2 rfl) (rfl)) ?_
    simp only [Act.put, zq1, zq2, zq3]
    refine pl M33 (y_add (r := ((D.q ++ [(k, l)]).length : Int)) rfl rfl rfl rfl (by omega) (by omega)) ?_
    simp only [Act.put, zq1, zq2, zq3]
    refine pl M33 (y_nil rfl rfl rfl) ?_
    simp only [Act.put, zq1, zq2, zq3]
    refine pl M33 (y_fa (r := 0) rfl rfl rfl Try.underlying60 rfl Try.sizeOf55 rfl) ?_
    simp only [Act.put, zq1, zq2, zq3]
    refine pl M33 (y_fa (r := 3) rfl rfl rfl Try.underlying55 rfl Try.sizeOf3 rfl) ?_
    simp only [Act.put, zq1, zq2, zq3]
    refine pe rfl (fun K hK => ?_)
    refine e_store M33 2 (v := .int .i64 ((D.q ++ [(k, l)]).length : Int)) rfl rfl rfl rfl rfl rfl Try.sizeOf3 rfl (show (3 : Nat) < 10 by decide) ?_
    intro w35 (M35 : Mem w _ w35 [blk g28 94 (wC (k, l)), blk gw 94 (wC (k, l)), blk p 60 ([.int .i64 D.reads, .int .i64 (wrap64 (D.writes + 1)), .int .i64 D.syncs, .int .i64 ((D.q ++ [(k, l)]).length : Int), .slice (some ⟨pg, 0, none⟩) D.pages.length D.pages.length, .slice a30 ((D.q ++ [(k, l)]).length) c30, .map (some mb), .int .i64 D.armed, .bool D.dead, .int .i64 D.epoch]), blk pg 92 (pagesC D.pages), lst 94 257 (.slice a30 ((D.q ++ [(k, l)]).length) c30) ((D.q ++ [(k, l)]).length) (qC (D.q ++ [(k, l)])), mapq mb (D.q ++ [(k, l)])])
    clear M33
    refine hK.out _ _ ?_
    clear hK K
    simp only [Act.put, zq1, zq2, zq3]
    refine wpList_nil ?_
    refine hK34 _ _ ?_
    clear hK34
    refine wp_seq_k (fun K36 hK36 => ?_)
    refine wp_region_lit ?_
    refine pl M35 (y_move (v := .pointer (some ⟨p, 0, none⟩)) rfl rfl rfl) ?_
    simp only [Act.put, zq1, zq2, zq3]
    have M37 : Mem w _ w35 [blk p 60 ([.int .i64 D.reads, .int .i64 (wrap64 (D.writes + 1)), .int .i64 D.syncs, .int .i64 ((D.q ++ [(k, l)]).length : Int), .slice (some ⟨pg, 0, none⟩) D.pages.length D.pages.length, .slice a30 ((D.q ++ [(k, l)]).length) c30, .map (some mb), .int .i64 D.armed, .bool D.dead, .int .i64 D.epoch]), blk pg 92 (pagesC D.pages), lst 94 257 (.slice a30 ((D.q ++ [(k, l)]).length) c30) ((D.q ++ [(k, l)]).length) (qC (D.q ++ [(k, l)])), mapq mb (D.q ++ [(k, l)]), blk g28 94 (wC (k, l)), blk gw 94 (wC (k, l))] := M35.arr [2, 3, 4, 5, 0, 1] (by decide)
    clear M35
    refine pe rfl (fun K hK => ?_)
    refine e_call 63 [.pointer (some ⟨p, 0, none⟩)] rfl rfl Try.call63 (act_any (Mem.here (L := [disk (openW D (k : Int) l) p pg mb (.slice a30 ((D.q ++ [(k, l)]).length) c30)]) (R := [blk g28 94 (wC (k, l)), blk gw 94 (wC (k, l))]) (disk_close (D := openW D (k : Int) l) (R := [blk g28 94 (wC (k, l)), blk gw 94 (wC (k, l))]) (openW_ok hok hk hl) M37)) ) ?_
    rintro e w38 ⟨rfl, H38⟩
    have M38 : Mem w _ w38 [disk (actD (openW D (k : Int) l)) p pg mb (.slice a30 ((D.q ++ [(k, l)]).length) c30), blk g28 94 (wC (k, l)), blk gw 94 (wC (k, l))] := (Mem.frame (Pre := [disk (openW D (k : Int) l) p pg mb (.slice a30 ((D.q ++ [(k, l)]).length) c30)]) (Post := [disk (actD (openW D (k : Int) l)) p pg mb (.slice a30 ((D.q ++ [(k, l)]).length) c30)]) (R := [blk g28 94 (wC (k, l)), blk gw 94 (wC (k, l))]) (disk_close (D := openW D (k : Int) l) (R := [blk g28 94 (wC (k, l)), blk gw 94 (wC (k, l))]) (openW_ok hok hk hl) M37) H38)
    refine ⟨_, rfl, ?_⟩
    refine hK.out _ _ ?_
    clear hK K
    simp only [Act.put, zq1, zq2, zq3]
    refine pl M38 (y_assign (v := .int .i64 (actE (openW D (k : Int) l))) rfl rfl rfl) ?_
    simp only [Act.put, zq1, zq2, zq3]
    refine wpList_nil ?_
    refine hK36 _ _ ?_
    clear hK36
    refine wp_ret ?_
    try simp only [Exit.inBlock, Exit.then]
    refine bodyPost_ret (v := .int .i64 (actE (openW D (k : Int) l))) (res1 rfl rfl) rfl ?_
    have e1 : writeE D k l = actE (openW D k l) := by unfold writeE; rw [if_neg hd', if_pos hh, if_pos hl]; rfl
    have e2 : writeD D k l = actD (openW D k l) := by unfold writeD; rw [if_neg hd', if_pos hh, if_pos hl]
    rw [e1, e2]
    exact ⟨_, rfl, M38.arr [0] (by decide)⟩
theorem write_any {D : DV} {p pg mb : Nat} {qv : Value} {w : World} (hM : Mem w (foots [disk D p pg mb qv]) w [disk D p pg mb qv]) (page : Int) (ao : Option Addr) (n c : Nat) (l : List UInt8) (hr : Row w ao n l) (hF : ∀ b o, ao = some ⟨b, o, none⟩ → 0 < n → b ∉ foots [disk D p pg mb qv]) (hnm : n ≤ 140737488355328) (hq : D.q.length ≤ 500000000000) : Calls Try.prog 51 #[.pointer (some ⟨p, 0, none⟩), .int .i64 page, .slice ao n c] w fun e w' => ∃ qv', e = .returned (.int .i64 (writeE D page l)) ∧ Mem w (foots [disk D p pg mb qv]) w' [disk (writeD D page l) p pg mb qv'] := by
  cases hd : D.dead with
  | true => exact write_dead hM page ao n c l hr hF hnm hq hd
  | false =>
    by_cases hh : D.has page
    · by_cases hn : n = 256
      · subst hn
        obtain ⟨k, rfl⟩ := Int.eq_ofNat_of_zero_le hh.1
        exact write_ok hM k ao c l hr hF hq hd (by have := hh.2; omega)
      · exact write_size hM page ao n c l hr hF hnm hq hd hh hn
    · exact write_out hM page ao n c l hr hF hnm hq hd hh
end Go.Proofs.Ytehnnnohoaapdaa

/- The program's disk: Sync. -/
namespace Go.Proofs.Ytehnnnohoaapdaa
set_option linter.unusedSectionVars false
open Go Go.RowKit
set_option linter.unusedVariables false
set_option linter.unusedSimpArgs false
theorem act_run {D : DV} (h : DOk D) (hd : D.dead = false) (h1 : D.armed ≠ 1) : ∃ m, (0 ≤ m ∧ m ≤ 9223372036854775807) ∧ actD D = { D with armed := m } ∧ actE D = 0 := by
  have ha := h.arm
  have he : actE D = 0 := by unfold actE; rw [if_neg h1]
  by_cases h0 : D.armed = 0
  · exact ⟨D.armed, ha, by unfold actD; rw [if_pos h0], he⟩
  · refine ⟨D.armed - 1, ⟨by omega, by omega⟩, ?_, he⟩
    unfold actD
    rw [if_neg h0, decide_eq_false h1, ← hd]
theorem act_any2 {D E : DV} {v : Int} {p pg mb : Nat} {qv : Value} {w : World} (h : actD D = E) (h2 : actE D = v) (hM : Mem w (foots [disk D p pg mb qv]) w [disk D p pg mb qv]) : Calls Try.prog 63 #[.pointer (some ⟨p, 0, none⟩)] w fun e w' => e = .returned (.int .i64 v) ∧ Mem w (foots [disk D p pg mb qv]) w' [disk E p pg mb qv] := by
  have := act_any hM
  rwa [h, h2] at this
theorem armed_ok {D : DV} (h : DOk D) {m : Int} (hm : 0 ≤ m ∧ m ≤ 9223372036854775807) : DOk { D with armed := m } := ⟨h.lo, h.hi, h.len, h.qs, hm, h.ep⟩
theorem pages_put (ps : List (List UInt8)) (i : Nat) (d : List UInt8) (h : ∀ p ∈ ps, p.length = 256) (hi : i < ps.length) (hd : d.length = 256) : splice (pagesC ps) (256 * i) (bvs d) = pagesC (ps.set i d) := by
  have h2 := flat_upd bvs 256 ps i (ps.getD i []) d 0 (bvs d) (fun y hy => by rw [length_bvs]; exact h y hy) (by rw [List.getD_eq_getElem?_getD, List.getElem?_eq_getElem hi]; rfl) (by rw [length_bvs, hd]; decide) (by rw [splice_all _ _ (by rw [length_bvs, length_bvs, hd]; exact pages_get h hi)])
  exact h2
theorem applyQ_take {ps : List (List UInt8)} {q : List Wr} {k : Nat} {x : Wr} (hx : q[k]? = some x) : applyQ ps (q.take (k + 1)) = (applyQ ps (q.take k)).set x.1 x.2 := by
  obtain ⟨hk, rfl⟩ := List.getElem?_eq_some_iff.1 hx
  rw [List.take_succ_eq_append_getElem hk, applyQ_snoc]
theorem flush_ok {D : DV} (h : DOk D) (s : Int) : DOk { D with pages := applyQ D.pages D.q, q := [], syncs := s } :=
  ⟨by rw [applyQ_len]; exact h.lo, by rw [applyQ_len]; exact h.hi, applyQ_each h.len D.q fun x hx => (h.qs x hx).2, by simp, h.arm, h.ep⟩
theorem flush_ok2 {D : DV} (h : DOk D) (s : Int) : DOk { D with pages := applyQ D.pages D.q, syncs := s } :=
  ⟨by rw [applyQ_len]; exact h.lo, by rw [applyQ_len]; exact h.hi, applyQ_each h.len D.q fun x hx => (h.qs x hx).2, fun x hx => ⟨by rw [applyQ_len]; exact (h.qs x hx).1, (h.qs x hx).2⟩, h.arm, h.ep⟩
theorem pagesC_len {ps : List (List UInt8)} (h : ∀ p ∈ ps, p.length = 256) : (pagesC ps).length = 256 * ps.length := flat_len bvs 256 ps fun y hy => by rw [length_bvs]; exact h y hy
theorem applyQ_take_each {D : DV} (h : DOk D) (k : Nat) : ∀ p ∈ applyQ D.pages (D.q.take k), p.length = 256 := applyQ_each h.len _ fun x hx => (h.qs x (List.mem_of_mem_take hx)).2
set_option maxRecDepth 100000 in
set_option maxHeartbeats 4000000 in
theorem sync_dead {D : DV} {p pg mb : Nat} {qv : Value} {w : World} (hM : Mem w (foots [disk D p pg mb qv]) w [disk D p pg mb qv]) (hd : D.dead = true) : Calls Try.prog 46 #[.pointer (some ⟨p, 0, none⟩)] w fun e w' => ∃ qv', e = .returned (.int .i64 (syncE D)) ∧ Mem w (foots [disk D p pg mb qv]) w' [disk (syncD D) p pg mb qv'] := by
  obtain ⟨hok, M⟩ := disk_open hM
  clear hM
  go_enter Try.func46, Try.ntmps46
  refine wp_seq_k (fun K1 hK1 => ?_)
  refine wp_region_lit ?_
  refine pl M (y_assign (v := .int .i64 0) rfl rfl rfl) ?_
  simp only [Act.put, zq1, zq2, zq3]
  refine wpList_nil ?_
  refine hK1 _ _ ?_
  clear hK1
  refine wp_seq_k (fun K2 hK2 => ?_)
  refine wp_seq_k (fun K3 hK3 => ?_)
  refine wp_region_lit ?_
  refine pl M (y_move (v := .pointer (some ⟨p, 0, none⟩)) rfl rfl rfl) ?_
  simp only [Act.put, zq1, zq2, zq3]
  refine pl M (y_nil rfl rfl rfl) ?_
  simp only [Act.put, zq1, zq2, zq3]
  refine pl M (y_fa (r := 8) rfl rfl rfl Try.underlying60 rfl Try.sizeOf4 rfl) ?_
  simp only [Act.put, zq1, zq2, zq3]
  refine pl M (y_load (v := .bool true) rfl rfl rfl Try.isAgg4 (fun W hW => hW.get 0 rfl) (congrArg (fun b => some (Value.bool b)) hd)) ?_
  simp only [Act.put, zq1, zq2, zq3]
  refine wpList_nil ?_
  refine hK3 _ _ ?_
  clear hK3
  refine wp_cond_true rfl ?_
  refine wp_seq_k (fun K4 hK4 => ?_)
  refine wp_region_lit ?_
  refine pl M (y_assign (v := .int .i64 2) rfl rfl rfl) ?_
  simp only [Act.put, zq1, zq2, zq3]
  refine wpList_nil ?_
  refine hK4 _ _ ?_
  clear hK4
  refine wp_ret ?_
  try simp only [Exit.inBlock, Exit.then]
  refine bodyPost_ret (v := .int .i64 2) (res1 rfl rfl) rfl ?_
  have e1 : syncE D = 2 := if_pos hd
  have e2 : syncD D = D := if_pos hd
  rw [e1, e2]
  exact ⟨_, rfl, disk_close hok M⟩
set_option maxRecDepth 100000 in
set_option maxHeartbeats 4000000 in
theorem sync_down {D : DV} {p pg mb : Nat} {qv : Value} {w : World} (hM : Mem w (foots [disk D p pg mb qv]) w [disk D p pg mb qv]) (hd : D.dead = false) (h1 : D.armed = 1) : Calls Try.prog 46 #[.pointer (some ⟨p, 0, none⟩)] w fun e w' => ∃ qv', e = .returned (.int .i64 (syncE D)) ∧ Mem w (foots [disk D p pg mb qv]) w' [disk (syncD D) p pg mb qv'] := by
  obtain ⟨hok, M⟩ := disk_open hM
  clear hM
  have he : actE D = 2 := if_pos h1
  go_enter Try.func46, Try.ntmps46
  refine wp_seq_k (fun K1 hK1 => ?_)
  refine wp_region_lit ?_
  refine pl M (y_assign (v := .int .i64 0) rfl rfl rfl) ?_
  simp only [Act.put, zq1, zq2, zq3]
  refine wpList_nil ?_
  refine hK1 _ _ ?_
  clear hK1
  refine wp_seq_k (fun K2 hK2 => ?_)
  refine wp_seq_k (fun K3 hK3 => ?_)
  refine wp_region_lit ?_
  refine pl M (y_move (v := .pointer (some ⟨p, 0, none⟩)) rfl rfl rfl) ?_
  simp only [Act.put, zq1, zq2, zq3]
  refine pl M (y_nil rfl rfl rfl) ?_
  simp only [Act.put, zq1, zq2, zq3]
  refine pl M (y_fa (r := 8) rfl rfl rfl Try.underlying60 rfl Try.sizeOf4 rfl) ?_
  simp only [Act.put, zq1, zq2, zq3]
  refine pl M (y_load (v := .bool false) rfl rfl rfl Try.isAgg4 (fun W hW => hW.get 0 rfl) (congrArg (fun b => some (Value.bool b)) hd)) ?_
  simp only [Act.put, zq1, zq2, zq3]
  refine wpList_nil ?_
  refine hK3 _ _ ?_
  clear hK3
  refine wp_cond_false rfl ?_
  refine wp_skip ?_
  refine hK2 _ _ ?_
  clear hK2
  refine wp_seq_k (fun K4 hK4 => ?_)
  refine wp_seq_k (fun K5 hK5 => ?_)
  refine wp_region_lit ?_
  refine pl M (y_move (v := .pointer (some ⟨p, 0, none⟩)) rfl rfl rfl) ?_
  simp only [Act.put, zq1, zq2, zq3]
  refine pe rfl (fun K hK => ?_)
  refine e_call 63 [.pointer (some ⟨p, 0, none⟩)] rfl rfl Try.call63 (act_any2 (rfl : actD D = actD D) he (Mem.here (L := [disk (D) p pg mb (qv)]) (R := []) (disk_close (D := D) (R := []) hok M)) ) ?_
  rintro e w6 ⟨rfl, H6⟩
  have M6 : Mem w _ w6 [disk (actD D) p pg mb qv] := (Mem.frame (Pre := [disk (D) p pg mb (qv)]) (Post := [disk (actD D) p pg mb (qv)]) (R := []) (disk_close (D := D) (R := []) hok M) H6)
  refine ⟨_, rfl, ?_⟩
  refine hK.out _ _ ?_
  clear hK K
  simp only [Act.put, zq1, zq2, zq3]
  refine pl M6 (y_assign (v := .int .i64 2) rfl rfl rfl) ?_
  simp only [Act.put, zq1, zq2, zq3]
  refine wpList_nil ?_
  refine hK5 _ _ ?_
  clear hK5
  refine wp_seq_k (fun K7 hK7 => ?_)
  refine wp_region_lit ?_
  refine pl M6 (y_move (v := .int .i64 2) rfl rfl rfl) ?_
  simp only [Act.put, zq1, zq2, zq3]
  refine pl M6 (y_neq (b := true) rfl rfl rfl rfl (by rw [decide_eq_false (by decide)]; rfl)) ?_
  simp only [Act.put, zq1, zq2, zq3]
  refine wpList_nil ?_
  refine hK7 _ _ ?_
  clear hK7
  refine wp_cond_true rfl ?_
  refine wp_seq_k (fun K8 hK8 => ?_)
  refine wp_region_lit ?_
  refine pl M6 (y_move (v := .int .i64 2) rfl rfl rfl) ?_
  simp only [Act.put, zq1, zq2, zq3]
  refine pl M6 (y_assign (v := .int .i64 2) rfl rfl rfl) ?_
  simp only [Act.put, zq1, zq2, zq3]
  refine wpList_nil ?_
  refine hK8 _ _ ?_
  clear hK8
  refine wp_ret ?_
  try simp only [Exit.inBlock, Exit.then]
  refine bodyPost_ret (v := .int .i64 2) (res1 rfl rfl) rfl ?_
  have hd' : ¬ D.dead = true := by rw [hd]; decide
  have e1 : syncE D = 2 := by unfold syncE; rw [if_neg hd']; exact he
  have e2 : syncD D = actD D := by unfold syncD; rw [if_neg hd', if_pos h1]
  rw [e1, e2]
  exact ⟨_, rfl, M6⟩
theorem queue_wr {q : List Wr} (hq : ∀ x ∈ q, x.2.length = 256) {i : Nat} {x : Wr} (hi : q[i]? = some x) : ((qC q).drop (257 * i)).take (wC x).length = wC x := by
  have hl : (wC x).length = 257 := by simp [wC, hq x (List.mem_of_getElem? hi)]
  rw [hl]
  exact flat_get wC 257 q i x (fun y hy => by simp [wC, hq y hy]) hi
set_option maxRecDepth 100000 in
set_option maxHeartbeats 4000000 in
theorem sync_some {D : DV} {p pg mb : Nat} {qv : Value} {w : World} (hM : Mem w (foots [disk D p pg mb qv]) w [disk D p pg mb qv]) (hd : D.dead = false) (h1 : D.armed ≠ 1) (gq cq : Nat) (hqv : qv = .slice (some ⟨gq, 0, none⟩) D.q.length cq) (hqm : D.q.length ≤ maxLen) : Calls Try.prog 46 #[.pointer (some ⟨p, 0, none⟩)] w fun e w' => ∃ qv', e = .returned (.int .i64 (syncE D)) ∧ Mem w (foots [disk D p pg mb qv]) w' [disk (syncD D) p pg mb qv'] := by
  obtain ⟨hok, M⟩ := disk_open hM
  clear hM
  subst hqv
  have hhi := hok.hi
  unfold maxLen at hqm
  have hq : ∀ y ∈ D.q, y.2.length = 256 := fun y hy => (hok.qs y hy).2
  obtain ⟨m, hm, hE, he⟩ := act_run hok hd h1
  go_enter Try.func46, Try.ntmps46
  refine wp_seq_k (fun K1 hK1 => ?_)
  refine wp_region_lit ?_
  refine pl M (y_assign (v := .int .i64 0) rfl rfl rfl) ?_
  simp only [Act.put, zq1, zq2, zq3]
  refine wpList_nil ?_
  refine hK1 _ _ ?_
  clear hK1
  refine wp_seq_k (fun K2 hK2 => ?_)
  refine wp_seq_k (fun K3 hK3 => ?_)
  refine wp_region_lit ?_
  refine pl M (y_move (v := .pointer (some ⟨p, 0, none⟩)) rfl rfl rfl) ?_
  simp only [Act.put, zq1, zq2, zq3]
  refine pl M (y_nil rfl rfl rfl) ?_
  simp only [Act.put, zq1, zq2, zq3]
  refine pl M (y_fa (r := 8) rfl rfl rfl Try.underlying60 rfl Try.sizeOf4 rfl) ?_
  simp only [Act.put, zq1, zq2, zq3]
  refine pl M (y_load (v := .bool false) rfl rfl rfl Try.isAgg4 (fun W hW => hW.get 0 rfl) (congrArg (fun b => some (Value.bool b)) hd)) ?_
  simp only [Act.put, zq1, zq2, zq3]
  refine wpList_nil ?_
  refine hK3 _ _ ?_
  clear hK3
  refine wp_cond_false rfl ?_
  refine wp_skip ?_
  refine hK2 _ _ ?_
  clear hK2
  refine wp_seq_k (fun K4 hK4 => ?_)
  refine wp_seq_k (fun K5 hK5 => ?_)
  refine wp_region_lit ?_
  refine pl M (y_move (v := .pointer (some ⟨p, 0, none⟩)) rfl rfl rfl) ?_
  simp only [Act.put, zq1, zq2, zq3]
  refine pe rfl (fun K hK => ?_)
  refine e_call 63 [.pointer (some ⟨p, 0, none⟩)] rfl rfl Try.call63 (act_any2 hE he (Mem.here (L := [disk (D) p pg mb (.slice (some ⟨gq, 0, none⟩) D.q.length cq)]) (R := []) (disk_close (D := D) (R := []) hok M)) ) ?_
  rintro e w6 ⟨rfl, H6⟩
  have M6 : Mem w _ w6 [blk p 60 (dC ({ D with armed := m } : DV) pg mb (.slice (some ⟨gq, 0, none⟩) D.q.length cq)), blk pg 92 (pagesC ({ D with armed := m } : DV).pages), lst 94 257 (.slice (some ⟨gq, 0, none⟩) D.q.length cq) (({ D with armed := m } : DV).q.length) (qC ({ D with armed := m } : DV).q), mapq mb (({ D with armed := m } : DV).q)] := (disk_open (Mem.frame (Pre := [disk (D) p pg mb (.slice (some ⟨gq, 0, none⟩) D.q.length cq)]) (Post := [disk (({ D with armed := m } : DV)) p pg mb (.slice (some ⟨gq, 0, none⟩) D.q.length cq)]) (R := []) (disk_close (D := D) (R := []) hok M) H6)).2
  refine ⟨_, rfl, ?_⟩
  refine hK.out _ _ ?_
  clear hK K
  simp only [Act.put, zq1, zq2, zq3]
  refine pl M6 (y_assign (v := .int .i64 0) rfl rfl rfl) ?_
  simp only [Act.put, zq1, zq2, zq3]
  refine wpList_nil ?_
  refine hK5 _ _ ?_
  clear hK5
  refine wp_seq_k (fun K7 hK7 => ?_)
  refine wp_region_lit ?_
  refine pl M6 (y_move (v := .int .i64 0) rfl rfl rfl) ?_
  simp only [Act.put, zq1, zq2, zq3]
  refine pl M6 (y_neq (b := false) rfl rfl rfl rfl (by rw [decide_eq_true (by decide)]; rfl)) ?_
  simp only [Act.put, zq1, zq2, zq3]
  refine wpList_nil ?_
  refine hK7 _ _ ?_
  clear hK7
  refine wp_cond_false rfl ?_
  refine wp_skip ?_
  refine hK4 _ _ ?_
  clear hK4
  refine wp_seq_k (fun K8 hK8 => ?_)
  refine wp_seq_k (fun K9 hK9 => ?_)
  refine wp_region_lit ?_
  refine pl M6 (y_move (v := .pointer (some ⟨p, 0, none⟩)) rfl rfl rfl) ?_
  simp only [Act.put, zq1, zq2, zq3]
  refine pl M6 (y_nil rfl rfl rfl) ?_
  simp only [Act.put, zq1, zq2, zq3]
  refine pl M6 (y_fa (r := 5) rfl rfl rfl Try.underlying60 rfl Try.sizeOf57 rfl) ?_
  simp only [Act.put, zq1, zq2, zq3]
  refine pl M6 (y_load (v := .slice (some ⟨gq, 0, none⟩) D.q.length cq) rfl rfl rfl Try.isAgg57 (fun W hW => hW.get 0 rfl) (rfl)) ?_
  simp only [Act.put, zq1, zq2, zq3]
  refine pl M6 (y_len rfl rfl rfl Try.underlying57) ?_
  simp only [Act.put, zq1, zq2, zq3]
  refine pl M6 (y_move (v := .int .i64 0) rfl rfl rfl) ?_
  simp only [Act.put, zq1, zq2, zq3]
  refine wpList_nil ?_
  refine hK9 _ _ ?_
  clear hK9
  refine wp_block ?_
  refine wp_loop (fun a' w' => ∃ (k : Nat) (us10 : List Value), a' = (⟨#[.pointer (some ⟨p, 0, none⟩), undef, .int .i64 0, .int .i64 0, undef, (us10.getD 0 undef), .pointer (some ⟨p, 0, none⟩), .pointer (some ⟨p, 0, none⟩), .pointer (some ⟨p, 8, none⟩), .bool false, .pointer (some ⟨p, 0, none⟩), .int .i64 0, .int .i64 0, .bool false, undef, .pointer (some ⟨p, 0, none⟩), .pointer (some ⟨p, 0, none⟩), .pointer (some ⟨p, 5, none⟩), .slice (some ⟨gq, 0, none⟩) D.q.length cq, .int .i64 (D.q.length : Int), .int .i64 (k : Int), (us10.getD 1 undef), (us10.getD 2 undef), (us10.getD 3 undef), (us10.getD 4 undef), (us10.getD 5 undef), (us10.getD 6 undef), (us10.getD 7 undef), (us10.getD 8 undef), (us10.getD 9 undef), (us10.getD 10 undef), (us10.getD 11 undef), (us10.getD 12 undef), (us10.getD 13 undef), undef, undef, undef, undef, undef, undef, undef, undef, undef, undef, undef], []⟩ : Act) ∧ (k ≤ D.q.length) ∧ Mem w (foots [disk D p pg mb (.slice (some ⟨gq, 0, none⟩) D.q.length cq)]) w' [blk p 60 (dC ({ D with armed := m } : DV) pg mb (.slice (some ⟨gq, 0, none⟩) D.q.length cq)), blk pg 92 (pagesC (applyQ D.pages (D.q.take k))), lst 94 257 (.slice (some ⟨gq, 0, none⟩) D.q.length cq) (({ D with armed := m } : DV).q.length) (qC ({ D with armed := m } : DV).q), mapq mb (({ D with armed := m } : DV).q)]) (fun a' _ => D.q.length - (intOf (a'.tmps.getD 20 undef)).toNat) ⟨0, [undef, undef, undef, undef, undef, undef, undef, undef, undef, undef, undef, undef, undef, undef], rfl, Nat.zero_le _, M6⟩ ?_
  clear M6
  rintro a' w12 ⟨k, us10, rfl, f11, M12⟩
  refine wp_seq_k (fun K13 hK13 => ?_)
  refine wp_region_lit ?_
  rcases Decidable.em ((k : Int) < (D.q.length : Int)) with h14 | h14
  · have hkl : k < D.q.length := by omega
    obtain ⟨x, hx⟩ : ∃ x, D.q[k]? = some x := ⟨_, List.getElem?_eq_getElem hkl⟩
    have hxp := hok.qs x (List.mem_of_getElem? hx)
    have hxl : x.2.length = 256 := hxp.2
    have hps := applyQ_take_each hok k
    have hpl : (applyQ D.pages (D.q.take k)).length = D.pages.length := applyQ_len _ _
    refine pl M12 (y_lss (b := true) rfl rfl rfl rfl (decide_eq_true h14)) ?_
    simp only [Act.put, zq1, zq2, zq3]
    refine wpList_nil ?_
    refine hK13 _ _ ?_
    clear hK13
    refine wp_seq_k (fun K15 hK15 => ?_)
    refine wp_cond_true rfl ?_
    refine wp_skip ?_
    refine hK15 _ _ ?_
    clear hK15
    refine wp_seq_k (fun K16 hK16 => ?_)
    refine wp_block ?_
    refine wp_seq_k (fun K17 hK17 => ?_)
    refine wp_region_lit ?_
    refine pl M12 (y_ias (r := 257 * k) rfl rfl rfl rfl Try.underlying57 Try.sizeOf94 (by omega) (by omega)) ?_
    simp only [Act.put, zq1, zq2, zq3]
    refine pl M12 (y_loadr (cs := (wC x)) rfl rfl rfl Try.underlying94 rfl (size_write _ hxl) (fun W hW => lst_range (hW.get 2 rfl) (257 * k) (queue_wr hq hx))) ?_
    simp only [Act.put, zq1, zq2, zq3]
    refine pe rfl (fun K hK => ?_)
    refine e_alloc M12 (wC (0, zeroPage)) rfl zero_write ?_
    intro gw w18 (M18 : Mem w _ w18 [blk gw 94 (wC (0, zeroPage)), blk p 60 (dC ({ D with armed := m } : DV) pg mb (.slice (some ⟨gq, 0, none⟩) D.q.length cq)), blk pg 92 (pagesC (applyQ D.pages (D.q.take k))), lst 94 257 (.slice (some ⟨gq, 0, none⟩) D.q.length cq) (({ D with armed := m } : DV).q.length) (qC ({ D with armed := m } : DV).q), mapq mb (({ D with armed := m } : DV).q)])
    clear M12
    refine hK.out _ _ ?_
    clear hK K
    simp only [Act.put, zq1, zq2, zq3]
    refine pe rfl (fun K hK => ?_)
    refine e_storew M18 0 (cs := (wC x)) rfl rfl rfl rfl (size_write _ hxl) (wC_all _) rfl (by simp [wC, hxl, zeroPage_len]) ?_
    intro w19 (M19 : Mem w _ w19 [blk gw 94 (wC x), blk p 60 (dC ({ D with armed := m } : DV) pg mb (.slice (some ⟨gq, 0, none⟩) D.q.length cq)), blk pg 92 (pagesC (applyQ D.pages (D.q.take k))), lst 94 257 (.slice (some ⟨gq, 0, none⟩) D.q.length cq) (({ D with armed := m } : DV).q.length) (qC ({ D with armed := m } : DV).q), mapq mb (({ D with armed := m } : DV).q)])
    clear M18
    refine hK.out _ _ ?_
    clear hK K
    simp only [Act.put, zq1, zq2, zq3]
    refine wpList_nil ?_
    refine hK17 _ _ ?_
    clear hK17
    have M20 : Mem w _ w19.drew [blk gw 94 (wC x), blk p 60 (dC ({ D with armed := m } : DV) pg mb (.slice (some ⟨gq, 0, none⟩) D.q.length cq)), blk pg 92 (pagesC (applyQ D.pages (D.q.take k))), lst 94 257 (.slice (some ⟨gq, 0, none⟩) D.q.length cq) (({ D with armed := m } : DV).q.length) (qC ({ D with armed := m } : DV).q), mapq mb (({ D with armed := m } : DV).q)] := M19.drew
    clear M19
    refine wp_region_tail 9 (by kernel_rfl) (by kernel_rfl) ?_
    simp only [List.take_succ_cons, List.take_zero, List.drop_succ_cons, List.drop_zero]
    refine ps M20 (y_move (v := .pointer (some ⟨p, 0, none⟩)) rfl rfl rfl) ?_
    simp only [Act.put, zq1, zq2, zq3]
    refine ps M20 (y_nil rfl rfl rfl) ?_
    simp only [Act.put, zq1, zq2, zq3]
    refine ps M20 (y_fa (r := 4) rfl rfl rfl Try.underlying60 rfl Try.sizeOf56 rfl) ?_
    simp only [Act.put, zq1, zq2, zq3]
    refine ps M20 (y_load (v := .slice (some ⟨pg, 0, none⟩) (({ D with armed := m } : DV).pages.length) (({ D with armed := m } : DV).pages.length)) rfl rfl rfl Try.isAgg56 (fun W hW => hW.get 1 rfl) (rfl)) ?_
    simp only [Act.put, zq1, zq2, zq3]
    refine ps M20 (y_fa (r := 0) rfl rfl rfl Try.underlying94 rfl Try.sizeOf3 rfl) ?_
    simp only [Act.put, zq1, zq2, zq3]
    refine ps M20 (y_load (v := .int .i64 (x.1 : Int)) rfl rfl rfl Try.isAgg3 (fun W hW => hW.get 0 rfl) (rfl)) ?_
    simp only [Act.put, zq1, zq2, zq3]
    refine ps M20 (y_fa (r := 1) rfl rfl rfl Try.underlying94 rfl Try.sizeOf92 rfl) ?_
    simp only [Act.put, zq1, zq2, zq3]
    refine ps M20 (y_loadb (cs := (bvs x.2)) rfl rfl rfl Try.underlying92 rfl (size_page _ hxl) (fun W hW => hW.get 0 rfl) (by rw [show (wC x).drop 1 = bvs x.2 from rfl, List.take_length])) ?_
    simp only [Act.put, zq1, zq2, zq3]
    refine ps M20 (y_ias (r := 256 * x.1) rfl rfl rfl rfl Try.underlying56 Try.sizeOf92 (by omega) (by omega)) ?_
    simp only [Act.put, zq1, zq2, zq3]
    refine wpStill_nil ?_
    refine pe rfl (fun K hK => ?_)
    refine e_storer M20 2 (cs := (bvs x.2)) rfl rfl rfl rfl (size_page _ hxl) (bvs_all _) rfl (by rw [length_bvs, pagesC_len hps, hxl, hpl]; omega) ?_
    intro w21 M21
    replace M21 : Mem w (foots [disk D p pg mb (.slice (some ⟨gq, 0, none⟩) D.q.length cq)]) w21 [blk gw 94 (wC x), blk p 60 (dC ({ D with armed := m } : DV) pg mb (.slice (some ⟨gq, 0, none⟩) D.q.length cq)), blk pg 92 (pagesC (applyQ D.pages (D.q.take (k + 1)))), lst 94 257 (.slice (some ⟨gq, 0, none⟩) D.q.length cq) (({ D with armed := m } : DV).q.length) (qC ({ D with armed := m } : DV).q), mapq mb (({ D with armed := m } : DV).q)] := by rw [pages_put _ _ _ hps (by omega) hxl, ← applyQ_take hx] at M21; exact M21
    clear M20
    have M22 : Mem w _ w21 [blk p 60 (dC ({ D with armed := m } : DV) pg mb (.slice (some ⟨gq, 0, none⟩) D.q.length cq)), blk pg 92 (pagesC (applyQ D.pages (D.q.take (k + 1)))), lst 94 257 (.slice (some ⟨gq, 0, none⟩) D.q.length cq) (({ D with armed := m } : DV).q.length) (qC ({ D with armed := m } : DV).q), mapq mb (({ D with armed := m } : DV).q)] := M21.arr [1, 2, 3, 4] (by decide)
    clear M21
    refine hK.out _ _ ?_
    clear hK K
    simp only [Act.put, zq1, zq2, zq3]
    refine wpList_nil ?_
    refine hK16 _ _ ?_
    clear hK16
    refine wp_region_lit ?_
    refine pl M22 (y_add (r := (k : Int) + 1) rfl rfl rfl rfl (rfl) (by omega)) ?_
    simp only [Act.put, zq1, zq2, zq3]
    refine pl M22 (y_move (v := .int .i64 ((k : Int) + 1)) rfl rfl rfl) ?_
    simp only [Act.put, zq1, zq2, zq3]
    refine wpList_nil ?_
    refine ⟨⟨k + 1, [.pointer (some ⟨gw, 0, none⟩), .bool true, .pointer (some ⟨gq, 257 * k, none⟩), .agg ((wC x)).toArray, .pointer (some ⟨p, 0, none⟩), .pointer (some ⟨p, 0, none⟩), .pointer (some ⟨p, 4, none⟩), .slice (some ⟨pg, 0, none⟩) (({ D with armed := m } : DV).pages.length) (({ D with armed := m } : DV).pages.length), .pointer (some ⟨gw, 0, none⟩), .int .i64 (x.1 : Int), .pointer (some ⟨gw, 1, none⟩), .agg ((bvs x.2)).toArray, .pointer (some ⟨pg, 256 * x.1, none⟩), .int .i64 ((k : Int) + 1)], rfl, by omega, M22⟩, ?_⟩
    simp [intOf]; omega
  · obtain rfl : k = D.q.length := by omega
    have hta : D.q.take D.q.length = D.q := List.take_length
    rw [hta] at M12
    refine pl M12 (y_lss (b := false) rfl rfl rfl rfl (decide_eq_false h14)) ?_
    simp only [Act.put, zq1, zq2, zq3]
    refine wpList_nil ?_
    refine hK13 _ _ ?_
    clear hK13
    refine wp_seq_k (fun K23 hK23 => ?_)
    refine wp_cond_false rfl ?_
    refine wp_exit ?_
    refine hK8 _ _ ?_
    clear hK8
    refine wp_seq_k (fun K24 hK24 => ?_)
    refine wp_region_lit ?_
    refine pl M12 (y_move (v := .pointer (some ⟨p, 0, none⟩)) rfl rfl rfl) ?_
    simp only [Act.put, zq1, zq2, zq3]
    refine pl M12 (y_nil rfl rfl rfl) ?_
    simp only [Act.put, zq1, zq2, zq3]
    refine pl M12 (y_fa (r := 0) rfl rfl rfl Try.underlying60 rfl Try.sizeOf55 rfl) ?_
    simp only [Act.put, zq1, zq2, zq3]
    refine pl M12 (y_fa (r := 2) rfl rfl rfl Try.underlying55 rfl Try.sizeOf3 rfl) ?_
    simp only [Act.put, zq1, zq2, zq3]
    refine pl M12 (y_load (v := .int .i64 (({ D with armed := m } : DV).syncs)) rfl rfl rfl Try.isAgg3 (fun W hW => hW.get 0 rfl) (rfl)) ?_
    simp only [Act.put, zq1, zq2, zq3]
    refine pl M12 (y_addw rfl rfl rfl rfl) ?_
    simp only [Act.put, zq1, zq2, zq3]
    refine pl M12 (y_nil rfl rfl rfl) ?_
    simp only [Act.put, zq1, zq2, zq3]
    refine pl M12 (y_fa (r := 0) rfl rfl rfl Try.underlying60 rfl Try.sizeOf55 rfl) ?_
    simp only [Act.put, zq1, zq2, zq3]
    refine pl M12 (y_fa (r := 2) rfl rfl rfl Try.underlying55 rfl Try.sizeOf3 rfl) ?_
    simp only [Act.put, zq1, zq2, zq3]
    refine pe rfl (fun K hK => ?_)
    refine e_store M12 0 (v := .int .i64 (wrap64 (({ D with armed := m } : DV).syncs + 1))) rfl rfl rfl rfl rfl rfl Try.sizeOf3 rfl (show (2 : Nat) < 10 by decide) ?_
    intro w25 (M25 : Mem w _ w25 [blk p 60 ([.int .i64 (({ D with armed := m } : DV).reads), .int .i64 (({ D with armed := m } : DV).writes), .int .i64 (wrap64 (({ D with armed := m } : DV).syncs + 1)), .int .i64 (({ D with armed := m } : DV).q.length : Int), .slice (some ⟨pg, 0, none⟩) (({ D with armed := m } : DV).pages.length) (({ D with armed := m } : DV).pages.length), .slice (some ⟨gq, 0, none⟩) D.q.length cq, .map (some mb), .int .i64 (({ D with armed := m } : DV).armed), .bool (({ D with armed := m } : DV).dead), .int .i64 (({ D with armed := m } : DV).epoch)]), blk pg 92 (pagesC (applyQ D.pages D.q)), lst 94 257 (.slice (some ⟨gq, 0, none⟩) D.q.length cq) (({ D with armed := m } : DV).q.length) (qC ({ D with armed := m } : DV).q), mapq mb (({ D with armed := m } : DV).q)])
    clear M12
    refine hK.out _ _ ?_
    clear hK K
    simp only [Act.put, zq1, zq2, zq3]
    refine wpList_nil ?_
    refine hK24 _ _ ?_
    clear hK24
    refine wp_seq_k (fun K26 hK26 => ?_)
    refine wp_region_lit ?_
    refine pl M25 (y_move (v := .pointer (some ⟨p, 0, none⟩)) rfl rfl rfl) ?_
    simp only [Act.put, zq1, zq2, zq3]
    have M27 : Mem w (foots [disk D p pg mb (.slice (some ⟨gq, 0, none⟩) D.q.length cq)]) w25 [blk p 60 ([.int .i64 (({ D with armed := m } : DV).reads), .int .i64 (({ D with armed := m } : DV).writes), .int .i64 (wrap64 (({ D with armed := m } : DV).syncs + 1)), .int .i64 (({ D with armed := m } : DV).q.length : Int), .slice (some ⟨pg, 0, none⟩) ((applyQ D.pages D.q).length) ((applyQ D.pages D.q).length), .slice (some ⟨gq, 0, none⟩) D.q.length cq, .map (some mb), .int .i64 (({ D with armed := m } : DV).armed), .bool (({ D with armed := m } : DV).dead), .int .i64 (({ D with armed := m } : DV).epoch)]), blk pg 92 (pagesC (applyQ D.pages D.q)), lst 94 257 (.slice (some ⟨gq, 0, none⟩) D.q.length cq) (({ D with armed := m } : DV).q.length) (qC ({ D with armed := m } : DV).q), mapq mb (({ D with armed := m } : DV).q)] := by rw [applyQ_len]; exact M25
    refine pe rfl (fun K hK => ?_)
    refine e_call 47 [.pointer (some ⟨p, 0, none⟩)] rfl rfl Try.call47 (close_any (Mem.here (L := [disk (({ D with armed := m, pages := applyQ D.pages D.q, syncs := wrap64 (D.syncs + 1) } : DV)) p pg mb (.slice (some ⟨gq, 0, none⟩) D.q.length cq)]) (R := []) (disk_close (D := ({ D with armed := m, pages := applyQ D.pages D.q, syncs := wrap64 (D.syncs + 1) } : DV)) (R := []) (flush_ok2 (armed_ok hok hm) _) M27)) ) ?_
    rintro e w28 ⟨rfl, H28⟩
    have M28 : Mem w _ w28 [disk ({ ({ D with armed := m, pages := applyQ D.pages D.q, syncs := wrap64 (D.syncs + 1) } : DV) with q := [] }) p pg mb (.slice none 0 0)] := (Mem.frame (Pre := [disk (({ D with armed := m, pages := applyQ D.pages D.q, syncs := wrap64 (D.syncs + 1) } : DV)) p pg mb (.slice (some ⟨gq, 0, none⟩) D.q.length cq)]) (Post := [disk ({ ({ D with armed := m, pages := applyQ D.pages D.q, syncs := wrap64 (D.syncs + 1) } : DV) with q := [] }) p pg mb (.slice none 0 0)]) (R := []) (disk_close (D := ({ D with armed := m, pages := applyQ D.pages D.q, syncs := wrap64 (D.syncs + 1) } : DV)) (R := []) (flush_ok2 (armed_ok hok hm) _) M27) H28)
    refine ⟨_, rfl, ?_⟩
    refine hK.out _ _ ?_
    clear hK K
    simp only [Act.put, zq1, zq2, zq3]
    refine wpList_nil ?_
    refine hK26 _ _ ?_
    clear hK26
    refine wp_seq_k (fun K29 hK29 => ?_)
    refine wp_region_lit ?_
    refine pl M28 (y_assign (v := .int .i64 0) rfl rfl rfl) ?_
    simp only [Act.put, zq1, zq2, zq3]
    refine wpList_nil ?_
    refine hK29 _ _ ?_
    clear hK29
    refine wp_ret ?_
    try simp only [Exit.inBlock, Exit.then]
    refine bodyPost_ret (v := .int .i64 0) (res1 rfl rfl) rfl ?_
    have hd' : ¬ D.dead = true := by rw [hd]; decide
    have e1 : syncE D = 0 := by unfold syncE; rw [if_neg hd']; exact he
    have e2 : syncD D = { D with armed := m, pages := applyQ D.pages D.q, q := [], syncs := wrap64 (D.syncs + 1) } := by unfold syncD; rw [if_neg hd', if_neg h1, hE]; rfl
    rw [e1, e2]
    exact ⟨_, rfl, M28⟩
set_option maxRecDepth 100000 in
set_option maxHeartbeats 4000000 in
theorem sync_nil {D : DV} {p pg mb : Nat} {qv : Value} {w : World} (hM : Mem w (foots [disk D p pg mb qv]) w [disk D p pg mb qv]) (hd : D.dead = false) (h1 : D.armed ≠ 1) (hqv : qv = .slice none 0 0) (h0 : D.q = []) : Calls Try.prog 46 #[.pointer (some ⟨p, 0, none⟩)] w fun e w' => ∃ qv', e = .returned (.int .i64 (syncE D)) ∧ Mem w (foots [disk D p pg mb qv]) w' [disk (syncD D) p pg mb qv'] := by
  obtain ⟨hok, M⟩ := disk_open hM
  clear hM
  subst hqv
  have hap : applyQ D.pages D.q = D.pages := by rw [h0]; rfl
  obtain ⟨m, hm, hE, he⟩ := act_run hok hd h1
  go_enter Try.func46, Try.ntmps46
  refine wp_seq_k (fun K1 hK1 => ?_)
  refine wp_region_lit ?_
  refine pl M (y_assign (v := .int .i64 0) rfl rfl rfl) ?_
  simp only [Act.put, zq1, zq2, zq3]
  refine wpList_nil ?_
  refine hK1 _ _ ?_
  clear hK1
  refine wp_seq_k (fun K2 hK2 => ?_)
  refine wp_seq_k (fun K3 hK3 => ?_)
  refine wp_region_lit ?_
  refine pl M (y_move (v := .pointer (some ⟨p, 0, none⟩)) rfl rfl rfl) ?_
  simp only [Act.put, zq1, zq2, zq3]
  refine pl M (y_nil rfl rfl rfl) ?_
  simp only [Act.put, zq1, zq2, zq3]
  refine pl M (y_fa (r := 8) rfl rfl rfl Try.underlying60 rfl Try.sizeOf4 rfl) ?_
  simp only [Act.put, zq1, zq2, zq3]
  refine pl M (y_load (v := .bool false) rfl rfl rfl Try.isAgg4 (fun W hW => hW.get 0 rfl) (congrArg (fun b => some (Value.bool b)) hd)) ?_
  simp only [Act.put, zq1, zq2, zq3]
  refine wpList_nil ?_
  refine hK3 _ _ ?_
  clear hK3
  refine wp_cond_false rfl ?_
  refine wp_skip ?_
  refine hK2 _ _ ?_
  clear hK2
  refine wp_seq_k (fun K4 hK4 => ?_)
  refine wp_seq_k (fun K5 hK5 => ?_)
  refine wp_region_lit ?_
  refine pl M (y_move (v := .pointer (some ⟨p, 0, none⟩)) rfl rfl rfl) ?_
  simp only [Act.put, zq1, zq2, zq3]
  refine pe rfl (fun K hK => ?_)
  refine e_call 63 [.pointer (some ⟨p, 0, none⟩)] rfl rfl Try.call63 (act_any2 hE he (Mem.here (L := [disk (D) p pg mb (.slice none 0 0)]) (R := []) (disk_close (D := D) (R := []) hok M)) ) ?_
  rintro e w6 ⟨rfl, H6⟩
  have M6 : Mem w _ w6 [blk p 60 (dC ({ D with armed := m } : DV) pg mb (.slice none 0 0)), blk pg 92 (pagesC ({ D with armed := m } : DV).pages), lst 94 257 (.slice none 0 0) (({ D with armed := m } : DV).q.length) (qC ({ D with armed := m } : DV).q), mapq mb (({ D with armed := m } : DV).q)] := (disk_open (Mem.frame (Pre := [disk (D) p pg mb (.slice none 0 0)]) (Post := [disk (({ D with armed := m } : DV)) p pg mb (.slice none 0 0)]) (R := []) (disk_close (D := D) (R := []) hok M) H6)).2
  refine ⟨_, rfl, ?_⟩
  refine hK.out _ _ ?_
  clear hK K
  simp only [Act.put, zq1, zq2, zq3]
  refine pl M6 (y_assign (v := .int .i64 0) rfl rfl rfl) ?_
  simp only [Act.put, zq1, zq2, zq3]
  refine wpList_nil ?_
  refine hK5 _ _ ?_
  clear hK5
  refine wp_seq_k (fun K7 hK7 => ?_)
  refine wp_region_lit ?_
  refine pl M6 (y_move (v := .int .i64 0) rfl rfl rfl) ?_
  simp only [Act.put, zq1, zq2, zq3]
  refine pl M6 (y_neq (b := false) rfl rfl rfl rfl (by rw [decide_eq_true (by decide)]; rfl)) ?_
  simp only [Act.put, zq1, zq2, zq3]
  refine wpList_nil ?_
  refine hK7 _ _ ?_
  clear hK7
  refine wp_cond_false rfl ?_
  refine wp_skip ?_
  refine hK4 _ _ ?_
  clear hK4
  refine wp_seq_k (fun K8 hK8 => ?_)
  refine wp_seq_k (fun K9 hK9 => ?_)
  refine wp_region_lit ?_
  refine pl M6 (y_move (v := .pointer (some ⟨p, 0, none⟩)) rfl rfl rfl) ?_
  simp only [Act.put, zq1, zq2, zq3]
  refine pl M6 (y_nil rfl rfl rfl) ?_
  simp only [Act.put, zq1, zq2, zq3]
  refine pl M6 (y_fa (r := 5) rfl rfl rfl Try.underlying60 rfl Try.sizeOf57 rfl) ?_
  simp only [Act.put, zq1, zq2, zq3]
  refine pl M6 (y_load (v := .slice none 0 0) rfl rfl rfl Try.isAgg57 (fun W hW => hW.get 0 rfl) (rfl)) ?_
  simp only [Act.put, zq1, zq2, zq3]
  refine pl M6 (y_len rfl rfl rfl Try.underlying57) ?_
  simp only [Act.put, zq1, zq2, zq3]
  refine pl M6 (y_move (v := .int .i64 0) rfl rfl rfl) ?_
  simp only [Act.put, zq1, zq2, zq3]
  refine wpList_nil ?_
  refine hK9 _ _ ?_
  clear hK9
  refine wp_block ?_
  refine wp_loop (fun a' w' => ∃  (us10 : List Value), a' = (⟨#[.pointer (some ⟨p, 0, none⟩), undef, .int .i64 0, .int .i64 0, undef, (us10.getD 0 undef), .pointer (some ⟨p, 0, none⟩), .pointer (some ⟨p, 0, none⟩), .pointer (some ⟨p, 8, none⟩), .bool false, .pointer (some ⟨p, 0, none⟩), .int .i64 0, .int .i64 0, .bool false, undef, .pointer (some ⟨p, 0, none⟩), .pointer (some ⟨p, 0, none⟩), .pointer (some ⟨p, 5, none⟩), .slice none 0 0, .int .i64 0, .int .i64 0, (us10.getD 1 undef), (us10.getD 2 undef), (us10.getD 3 undef), (us10.getD 4 undef), (us10.getD 5 undef), (us10.getD 6 undef), (us10.getD 7 undef), (us10.getD 8 undef), (us10.getD 9 undef), (us10.getD 10 undef), (us10.getD 11 undef), (us10.getD 12 undef), (us10.getD 13 undef), undef, undef, undef, undef, undef, undef, undef, undef, undef, undef, undef], []⟩ : Act) ∧ Mem w (foots [disk D p pg mb (.slice none 0 0)]) w' [blk p 60 (dC ({ D with armed := m } : DV) pg mb (.slice none 0 0)), blk pg 92 (pagesC ({ D with armed := m } : DV).pages), lst 94 257 (.slice none 0 0) (({ D with armed := m } : DV).q.length) (qC ({ D with armed := m } : DV).q), mapq mb (({ D with armed := m } : DV).q)]) (fun _ _ => 0) ⟨[undef, undef, undef, undef, undef, undef, undef, undef, undef, undef, undef, undef, undef, undef], rfl, M6⟩ ?_
  clear M6
  rintro a' w11 ⟨us10, rfl, M11⟩
  refine wp_seq_k (fun K12 hK12 => ?_)
  refine wp_region_lit ?_
  refine pl M11 (y_lss (b := false) rfl rfl rfl rfl (decide_eq_false (by decide))) ?_
  simp only [Act.put, zq1, zq2, zq3]
  refine wpList_nil ?_
  refine hK12 _ _ ?_
  clear hK12
  refine wp_seq_k (fun K13 hK13 => ?_)
  refine wp_cond_false rfl ?_
  refine wp_exit ?_
  refine hK8 _ _ ?_
  clear hK8
  refine wp_seq_k (fun K14 hK14 => ?_)
  refine wp_region_lit ?_
  refine pl M11 (y_move (v := .pointer (some ⟨p, 0, none⟩)) rfl rfl rfl) ?_
  simp only [Act.put, zq1, zq2, zq3]
  refine pl M11 (y_nil rfl rfl rfl) ?_
  simp only [Act.put, zq1, zq2, zq3]
  refine pl M11 (y_fa (r := 0) rfl rfl rfl Try.underlying60 rfl Try.sizeOf55 rfl) ?_
  simp only [Act.put, zq1, zq2, zq3]
  refine pl M11 (y_fa (r := 2) rfl rfl rfl Try.underlying55 rfl Try.sizeOf3 rfl) ?_
  simp only [Act.put, zq1, zq2, zq3]
  refine pl M11 (y_load (v := .int .i64 (({ D with armed := m } : DV).syncs)) rfl rfl rfl Try.isAgg3 (fun W hW => hW.get 0 rfl) (rfl)) ?_
  simp only [Act.put, zq1, zq2, zq3]
  refine pl M11 (y_addw rfl rfl rfl rfl) ?_
  simp only [Act.put, zq1, zq2, zq3]
  refine pl M11 (y_nil rfl rfl rfl) ?_
  simp only [Act.put, zq1, zq2, zq3]
  refine pl M11 (y_fa (r := 0) rfl rfl rfl Try.underlying60 rfl Try.sizeOf55 rfl) ?_
  simp only [Act.put, zq1, zq2, zq3]
  refine pl M11 (y_fa (r := 2) rfl rfl rfl Try.underlying55 rfl Try.sizeOf3 rfl) ?_
  simp only [Act.put, zq1, zq2, zq3]
  refine pe rfl (fun K hK => ?_)
  refine e_store M11 0 (v := .int .i64 (wrap64 (({ D with armed := m } : DV).syncs + 1))) rfl rfl rfl rfl rfl rfl Try.sizeOf3 rfl (show (2 : Nat) < 10 by decide) ?_
  intro w15 (M15 : Mem w _ w15 [blk p 60 ([.int .i64 (({ D with armed := m } : DV).reads), .int .i64 (({ D with armed := m } : DV).writes), .int .i64 (wrap64 (({ D with armed := m } : DV).syncs + 1)), .int .i64 (({ D with armed := m } : DV).q.length : Int), .slice (some ⟨pg, 0, none⟩) (({ D with armed := m } : DV).pages.length) (({ D with armed := m } : DV).pages.length), .slice none 0 0, .map (some mb), .int .i64 (({ D with armed := m } : DV).armed), .bool (({ D with armed := m } : DV).dead), .int .i64 (({ D with armed := m } : DV).epoch)]), blk pg 92 (pagesC ({ D with armed := m } : DV).pages), lst 94 257 (.slice none 0 0) (({ D with armed := m } : DV).q.length) (qC ({ D with armed := m } : DV).q), mapq mb (({ D with armed := m } : DV).q)])
  clear M11
  refine hK.out _ _ ?_
  clear hK K
  simp only [Act.put, zq1, zq2, zq3]
  refine wpList_nil ?_
  refine hK14 _ _ ?_
  clear hK14
  refine wp_seq_k (fun K16 hK16 => ?_)
  refine wp_region_lit ?_
  refine pl M15 (y_move (v := .pointer (some ⟨p, 0, none⟩)) rfl rfl rfl) ?_
  simp only [Act.put, zq1, zq2, zq3]
  have M17 : Mem w (foots [disk D p pg mb (.slice none 0 0)]) w15 [blk p 60 ([.int .i64 (({ D with armed := m } : DV).reads), .int .i64 (({ D with armed := m } : DV).writes), .int .i64 (wrap64 (({ D with armed := m } : DV).syncs + 1)), .int .i64 (({ D with armed := m } : DV).q.length : Int), .slice (some ⟨pg, 0, none⟩) ((applyQ D.pages D.q).length) ((applyQ D.pages D.q).length), .slice none 0 0, .map (some mb), .int .i64 (({ D with armed := m } : DV).armed), .bool (({ D with armed := m } : DV).dead), .int .i64 (({ D with armed := m } : DV).epoch)]), blk pg 92 (pagesC (applyQ D.pages D.q)), lst 94 257 (.slice none 0 0) (({ D with armed := m } : DV).q.length) (qC ({ D with armed := m } : DV).q), mapq mb (({ D with armed := m } : DV).q)] := by rw [hap]; exact M15
  refine pe rfl (fun K hK => ?_)
  refine e_call 47 [.pointer (some ⟨p, 0, none⟩)] rfl rfl Try.call47 (close_any (Mem.here (L := [disk (({ D with armed := m, pages := applyQ D.pages D.q, syncs := wrap64 (D.syncs + 1) } : DV)) p pg mb (.slice none 0 0)]) (R := []) (disk_close (D := ({ D with armed := m, pages := applyQ D.pages D.q, syncs := wrap64 (D.syncs + 1) } : DV)) (R := []) (flush_ok2 (armed_ok hok hm) _) M17)) ) ?_
  rintro e w18 ⟨rfl, H18⟩
  have M18 : Mem w _ w18 [disk ({ ({ D with armed := m, pages := applyQ D.pages D.q, syncs := wrap64 (D.syncs + 1) } : DV) with q := [] }) p pg mb (.slice none 0 0)] := (Mem.frame (Pre := [disk (({ D with armed := m, pages := applyQ D.pages D.q, syncs := wrap64 (D.syncs + 1) } : DV)) p pg mb (.slice none 0 0)]) (Post := [disk ({ ({ D with armed := m, pages := applyQ D.pages D.q, syncs := wrap64 (D.syncs + 1) } : DV) with q := [] }) p pg mb (.slice none 0 0)]) (R := []) (disk_close (D := ({ D with armed := m, pages := applyQ D.pages D.q, syncs := wrap64 (D.syncs + 1) } : DV)) (R := []) (flush_ok2 (armed_ok hok hm) _) M17) H18)
  refine ⟨_, rfl, ?_⟩
  refine hK.out _ _ ?_
  clear hK K
  simp only [Act.put, zq1, zq2, zq3]
  refine wpList_nil ?_
  refine hK16 _ _ ?_
  clear hK16
  refine wp_seq_k (fun K19 hK19 => ?_)
  refine wp_region_lit ?_
  refine pl M18 (y_assign (v := .int .i64 0) rfl rfl rfl) ?_
  simp only [Act.put, zq1, zq2, zq3]
  refine wpList_nil ?_
  refine hK19 _ _ ?_
  clear hK19
  refine wp_ret ?_
  try simp only [Exit.inBlock, Exit.then]
  refine bodyPost_ret (v := .int .i64 0) (res1 rfl rfl) rfl ?_
  have hd' : ¬ D.dead = true := by rw [hd]; decide
  have e1 : syncE D = 0 := by unfold syncE; rw [if_neg hd']; exact he
  have e2 : syncD D = { D with armed := m, pages := applyQ D.pages D.q, q := [], syncs := wrap64 (D.syncs + 1) } := by unfold syncD; rw [if_neg hd', if_neg h1, hE]; rfl
  rw [e1, e2]
  exact ⟨_, rfl, M18⟩
theorem sync_any {D : DV} {p pg mb : Nat} {qv : Value} {w : World} (hM : Mem w (foots [disk D p pg mb qv]) w [disk D p pg mb qv]) : Calls Try.prog 46 #[.pointer (some ⟨p, 0, none⟩)] w fun e w' => ∃ qv', e = .returned (.int .i64 (syncE D)) ∧ Mem w (foots [disk D p pg mb qv]) w' [disk (syncD D) p pg mb qv'] := by
  cases hd : D.dead with
  | true => exact sync_dead hM hd
  | false =>
    by_cases h1 : D.armed = 1
    · exact sync_down hM hd h1
    · rcases lst_at ((disk_open hM).2.get 2 rfl) with ⟨hv, h0, _⟩ | ⟨g, c, hv, hc, hm⟩
      · exact sync_nil hM hd h1 hv (List.eq_nil_of_length_eq_zero h0)
      · exact sync_some hM hd h1 g c hv (by omega)
end Go.Proofs.Ytehnnnohoaapdaa
