/- Texts joined: Disk10, File1, File2, File3. -/
import Derived.Test.YtdnahagibodnpaaNL12
import Derived.Test.YtdnahagibodnpaaNL13
/- The program's disk: Load. -/
namespace Go.Proofs.Ytdnahagibodnpaa
set_option linter.unusedSectionVars false
open Go Go.RowKit
set_option linter.unusedVariables false
set_option linter.unusedSimpArgs false
end Go.Proofs.Ytdnahagibodnpaa

/- The file: slots. -/
namespace Go.Proofs.Ytdnahagibodnpaa
set_option linter.unusedSectionVars false
open Go Go.RowKit
set_option linter.unusedVariables false
set_option linter.unusedSimpArgs false
theorem readD_ok {D : DV} (h : DOk D) (p : Int) : DOk (readD D p) := by
  unfold readD
  split
  · exact h
  · split
    · exact ⟨h.lo, h.hi, h.len, h.qs, h.arm, h.ep⟩
    · exact h
def slotsD (D : DV) : DV := if D.dead then D else readD (readD D 0) 1
def slotsE (D : DV) : Int := if D.dead then 2 else chooseE (D.cur 0) (D.cur 1)
def slotsS (D : DV) : SupV := if D.dead then noSup else chooseS (D.cur 0) (D.cur 1)
theorem read_alive {D : DV} (hd : D.dead = false) {n : Nat} (hn : n < D.pages.length) : readE D n = 0 ∧ readL D n = D.cur n ∧ (readD D n).dead = false ∧ (readD D n).pages = D.pages ∧ (readD D n).q = D.q := by
  have hd' : ¬ D.dead = true := by rw [hd]; decide
  have hh : D.has n := ⟨by omega, by omega⟩
  refine ⟨by unfold readE; rw [if_neg hd', if_pos hh], by unfold readL; rw [if_neg hd', if_pos hh]; rfl, ?_, ?_, ?_⟩ <;> unfold readD <;> rw [if_neg hd', if_pos hh]
  exact hd
theorem lst_slice {e : TypeId} {v : Value} {n : Nat} {xs : List Value} {w : World} (h : (lst e 1 v n xs).holds w) (hn : 0 < n) : ∃ g c, v = .slice (some ⟨g, 0, none⟩) n c ∧ n ≤ c ∧ c ≤ 9223372036854775807 := by
  rcases lst_at h with ⟨_, h0, _⟩ | ⟨g, c, rfl, h1, h2⟩
  · omega
  · exact ⟨g, c, rfl, h1, by unfold maxLen at h2; omega⟩
set_option maxRecDepth 100000 in
set_option maxHeartbeats 4000000 in
theorem slots_dead {D : DV} {p pg mb : Nat} {qv : Value} {w : World} (hM : Mem w (foots [disk D p pg mb qv]) w [disk D p pg mb qv]) (hd : D.dead = true) : Calls Try.prog 16 #[.pointer (some ⟨p, 0, none⟩)] w fun e w' => e = .returned (.tuple #[.agg (supC (slotsS D)).toArray, .int .i64 (slotsE D)]) ∧ Mem w (foots [disk D p pg mb qv]) w' [disk (slotsD D) p pg mb qv] := by
  obtain ⟨hok, M⟩ := disk_open hM
  clear hM
  go_enter Try.func16, Try.ntmps16
  refine wp_seq_k (fun K1 hK1 => ?_)
  refine wp_region_lit ?_
  refine pe rfl (fun K hK => ?_)
  refine e_alloc M (supC noSup) rfl zero_sup ?_
  intro gr w2 (M2 : Mem w _ w2 [blk gr 60 (supC noSup), blk p 57 (dC D pg mb qv), blk pg 77 (pagesC D.pages), lst 79 257 qv D.q.length (qC D.q), mapq mb D.q])
  clear M
  refine hK.out _ _ ?_
  clear hK K
  simp only [Act.put, zq1, zq2, zq3]
  refine pl M2 (y_assign (v := .int .i64 0) rfl rfl rfl) ?_
  simp only [Act.put, zq1, zq2, zq3]
  refine wpList_nil ?_
  refine hK1 _ _ ?_
  clear hK1
  refine wp_seq_k (fun K3 hK3 => ?_)
  refine wp_seq_k (fun K4 hK4 => ?_)
  refine wp_region_lit ?_
  refine pl M2 (y_move (v := .pointer (some ⟨p, 0, none⟩)) rfl rfl rfl) ?_
  simp only [Act.put, zq1, zq2, zq3]
  have M5 : Mem w _ w2 [blk p 57 (dC D pg mb qv), blk pg 77 (pagesC D.pages), lst 79 257 qv D.q.length (qC D.q), mapq mb D.q, blk gr 60 (supC noSup)] := M2.arr [1, 2, 3, 4, 0] (by decide)
  clear M2
  refine pe rfl (fun K hK => ?_)
  refine e_call 15 [.pointer (some ⟨p, 0, none⟩)] rfl rfl Try.call15 (power_any (Mem.here (L := [disk (D) p pg mb (qv)]) (R := [blk gr 60 (supC noSup)]) (disk_close (D := D) (R := [blk gr 60 (supC noSup)]) hok M5)) ) ?_
  rintro e w6 ⟨rfl, H6⟩
  have M6 : Mem w _ w6 [blk p 57 (dC D pg mb qv), blk pg 77 (pagesC D.pages), lst 79 257 qv D.q.length (qC D.q), mapq mb D.q, blk gr 60 (supC noSup)] := (disk_open (Mem.frame (Pre := [disk (D) p pg mb (qv)]) (Post := [disk (D) p pg mb (qv)]) (R := [blk gr 60 (supC noSup)]) (disk_close (D := D) (R := [blk gr 60 (supC noSup)]) hok M5) H6)).2
  rw [(show (!D.dead) = false by rw [hd]; rfl)]
  refine ⟨_, rfl, ?_⟩
  refine hK.out _ _ ?_
  clear hK K
  simp only [Act.put, zq1, zq2, zq3]
  refine pl M6 (y_not rfl rfl rfl rfl) ?_
  simp only [Act.put, zq1, zq2, zq3]
  refine wpList_nil ?_
  refine hK4 _ _ ?_
  clear hK4
  refine wp_cond_true rfl ?_
  refine wp_seq_k (fun K7 hK7 => ?_)
  refine wp_region_lit ?_
  refine pl M6 (y_build (ps := []) (pv := []) (cs := (supC noSup)) rfl rfl rfl (by kernel_rfl)) ?_
  simp only [Act.put, zq1, zq2, zq3]
  refine pe rfl (fun K hK => ?_)
  refine e_storew M6 4 (cs := (supC noSup)) rfl rfl rfl rfl (size_sup _) (sup_all _) rfl (rfl) ?_
  intro w8 (M8 : Mem w _ w8 [blk p 57 (dC D pg mb qv), blk pg 77 (pagesC D.pages), lst 79 257 qv D.q.length (qC D.q), mapq mb D.q, blk gr 60 (supC noSup)])
  clear M6
  refine hK.out _ _ ?_
  clear hK K
  simp only [Act.put, zq1, zq2, zq3]
  refine pl M8 (y_assign (v := .int .i64 2) rfl rfl rfl) ?_
  simp only [Act.put, zq1, zq2, zq3]
  refine wpList_nil ?_
  refine hK7 _ _ ?_
  clear hK7
  refine wp_ret ?_
  try simp only [Exit.inBlock, Exit.then]
  refine bodyPost_ret (v := .tuple #[.agg ((supC noSup)).toArray, .int .i64 2]) (resc2 _ rfl rfl rfl (M8.get 4 rfl) Try.underlying60 (size_sup _) rfl) rfl ?_
  have e1 : slotsE D = 2 := if_pos hd
  have e2 : slotsD D = D := if_pos hd
  have e3 : slotsS D = noSup := if_pos hd
  rw [e1, e2, e3]
  exact ⟨rfl, disk_close hok (M8.arr [0, 1, 2, 3] (by decide))⟩
set_option maxRecDepth 100000 in
set_option maxHeartbeats 4000000 in
theorem slots_ok {D : DV} {p pg mb : Nat} {qv : Value} {w : World} (hM : Mem w (foots [disk D p pg mb qv]) w [disk D p pg mb qv]) (hd : D.dead = false) : Calls Try.prog 16 #[.pointer (some ⟨p, 0, none⟩)] w fun e w' => e = .returned (.tuple #[.agg (supC (slotsS D)).toArray, .int .i64 (slotsE D)]) ∧ Mem w (foots [disk D p pg mb qv]) w' [disk (slotsD D) p pg mb qv] := by
  obtain ⟨hok, M⟩ := disk_open hM
  clear hM
  have hlo := hok.lo
  have r0 := read_alive hd (n := 0) (by omega)
  have r1 := read_alive (D := readD D 0) r0.2.2.1 (n := 1) (by rw [show readD D 0 = readD D ((0 : Nat) : Int) from rfl, r0.2.2.2.1]; omega)
  have hcur : (readD D 0).cur 1 = D.cur 1 := by
    unfold DV.cur DV.pg
    rw [show readD D 0 = readD D ((0 : Nat) : Int) from rfl, r0.2.2.2.1, r0.2.2.2.2]
  have l0 : (D.cur 0).length = 256 := cur_len hok (by omega)
  have l1 : (D.cur 1).length = 256 := cur_len hok (by omega)
  have r0 : readE D 0 = 0 ∧ readL D 0 = D.cur 0 := ⟨r0.1, r0.2.1⟩
  have r1 : readE (readD D 0) 1 = 0 ∧ readL (readD D 0) 1 = (readD D 0).cur 1 := ⟨r1.1, r1.2.1⟩
  go_enter Try.func16, Try.ntmps16
  refine wp_seq_k (fun K1 hK1 => ?_)
  refine wp_region_lit ?_
  refine pe rfl (fun K hK => ?_)
  refine e_alloc M (supC noSup) rfl zero_sup ?_
  intro gr w2 (M2 : Mem w _ w2 [blk gr 60 (supC noSup), blk p 57 (dC D pg mb qv), blk pg 77 (pagesC D.pages), lst 79 257 qv D.q.length (qC D.q), mapq mb D.q])
  clear M
  refine hK.out _ _ ?_
  clear hK K
  simp only [Act.put, zq1, zq2, zq3]
  refine pl M2 (y_assign (v := .int .i64 0) rfl rfl rfl) ?_
  simp only [Act.put, zq1, zq2, zq3]
  refine wpList_nil ?_
  refine hK1 _ _ ?_
  clear hK1
  refine wp_seq_k (fun K3 hK3 => ?_)
  refine wp_seq_k (fun K4 hK4 => ?_)
  refine wp_region_lit ?_
  refine pl M2 (y_move (v := .pointer (some ⟨p, 0, none⟩)) rfl rfl rfl) ?_
  simp only [Act.put, zq1, zq2, zq3]
  have M5 : Mem w _ w2 [blk p 57 (dC D pg mb qv), blk pg 77 (pagesC D.pages), lst 79 257 qv D.q.length (qC D.q), mapq mb D.q, blk gr 60 (supC noSup)] := M2.arr [1, 2, 3, 4, 0] (by decide)
  clear M2
  refine pe rfl (fun K hK => ?_)
  refine e_call 15 [.pointer (some ⟨p, 0, none⟩)] rfl rfl Try.call15 (power_any (Mem.here (L := [disk (D) p pg mb (qv)]) (R := [blk gr 60 (supC noSup)]) (disk_close (D := D) (R := [blk gr 60 (supC noSup)]) hok M5)) ) ?_
  rintro e w6 ⟨rfl, H6⟩
  have M6 : Mem w _ w6 [blk p 57 (dC D pg mb qv), blk pg 77 (pagesC D.pages), lst 79 257 qv D.q.length (qC D.q), mapq mb D.q, blk gr 60 (supC noSup)] := (disk_open (Mem.frame (Pre := [disk (D) p pg mb (qv)]) (Post := [disk (D) p pg mb (qv)]) (R := [blk gr 60 (supC noSup)]) (disk_close (D := D) (R := [blk gr 60 (supC noSup)]) hok M5) H6)).2
  rw [(show (!D.dead) = true by rw [hd]; rfl)]
  refine ⟨_, rfl, ?_⟩
  refine hK.out _ _ ?_
  clear hK K
  simp only [Act.put, zq1, zq2, zq3]
  refine pl M6 (y_not rfl rfl rfl rfl) ?_
  simp only [Act.put, zq1, zq2, zq3]
  refine wpList_nil ?_
  refine hK4 _ _ ?_
  clear hK4
  refine wp_cond_false rfl ?_
  refine wp_skip ?_
  refine hK3 _ _ ?_
  clear hK3
  refine wp_seq_k (fun K7 hK7 => ?_)
  refine wp_region_lit ?_
  refine pl M6 (y_move (v := .pointer (some ⟨p, 0, none⟩)) rfl rfl rfl) ?_
  simp only [Act.put, zq1, zq2, zq3]
  refine pe rfl (fun K hK => ?_)
  refine e_call 28 [.pointer (some ⟨p, 0, none⟩), .int .i64 0] rfl rfl Try.call28 (read_any (Mem.here (L := [disk (D) p pg mb (qv)]) (R := [blk gr 60 (supC noSup)]) (disk_close (D := D) (R := [blk gr 60 (supC noSup)]) hok M6)) 0) ?_
  rintro e w8 ⟨v, rfl, H8⟩
  rw [r0.2] at H8
  rw [r0.1]
  obtain ⟨ga, ca, rfl, hca, hca2⟩ := lst_slice (H8.get 1 rfl) (by rw [l0]; decide)
  rw [l0] at H8
  rw [l0] at hca
  rw [l0]
  have M80 := Mem.frame (Pre := [disk (D) p pg mb (qv)]) (Post := [disk (readD D 0) p pg mb (qv), lst 5 1 (.slice (some ⟨ga, 0, none⟩) 256 ca) 256 (bvs (D.cur 0))]) (R := [blk gr 60 (supC noSup)]) (disk_close (D := D) (R := [blk gr 60 (supC noSup)]) hok M6) H8
  have M8 : Mem w _ w8 [blk p 57 (dC (readD D 0) pg mb qv), blk pg 77 (pagesC (readD D 0).pages), lst 79 257 qv ((readD D 0).q.length) (qC (readD D 0).q), mapq mb ((readD D 0).q), lst 5 1 (.slice (some ⟨ga, 0, none⟩) 256 ca) 256 (bvs (D.cur 0)), blk gr 60 (supC noSup)] := (disk_open (R := [lst 5 1 (.slice (some ⟨ga, 0, none⟩) 256 ca) 256 (bvs (D.cur 0)), blk gr 60 (supC noSup)]) M80).2
  clear H8 M80 M6
  refine ⟨_, rfl, ?_⟩
  refine hK.out _ _ ?_
  clear hK K
  simp only [Act.put, zq1, zq2, zq3]
  refine pl M8 (y_move (v := .tuple #[.slice (some ⟨ga, 0, none⟩) 256 ca, .int .i64 0]) rfl rfl rfl) ?_
  simp only [Act.put, zq1, zq2, zq3]
  refine pl M8 (y_ext (v := .slice (some ⟨ga, 0, none⟩) 256 ca) rfl rfl rfl rfl) ?_
  simp only [Act.put, zq1, zq2, zq3]
  refine pl M8 (y_ext (v := .int .i64 0) rfl rfl rfl rfl) ?_
  simp only [Act.put, zq1, zq2, zq3]
  refine pl M8 (y_assign (v := .slice (some ⟨ga, 0, none⟩) 256 ca) rfl rfl rfl) ?_
  simp only [Act.put, zq1, zq2, zq3]
  refine pl M8 (y_assign (v := .int .i64 0) rfl rfl rfl) ?_
  simp only [Act.put, zq1, zq2, zq3]
  refine wpList_nil ?_
  refine hK7 _ _ ?_
  clear hK7
  refine wp_seq_k (fun K9 hK9 => ?_)
  refine wp_seq_k (fun K10 hK10 => ?_)
  refine wp_region_lit ?_
  refine pl M8 (y_move (v := .int .i64 0) rfl rfl rfl) ?_
  simp only [Act.put, zq1, zq2, zq3]
  refine pl M8 (y_neq (b := false) rfl rfl rfl rfl (by rw [decide_eq_true rfl]; rfl)) ?_
  simp only [Act.put, zq1, zq2, zq3]
  refine wpList_nil ?_
  refine hK10 _ _ ?_
  clear hK10
  refine wp_cond_false rfl ?_
  refine wp_skip ?_
  refine hK9 _ _ ?_
  clear hK9
  refine wp_seq_k (fun K11 hK11 => ?_)
  refine wp_region_lit ?_
  refine pl M8 (y_move (v := .pointer (some ⟨p, 0, none⟩)) rfl rfl rfl) ?_
  simp only [Act.put, zq1, zq2, zq3]
  refine pe rfl (fun K hK => ?_)
  refine e_call 28 [.pointer (some ⟨p, 0, none⟩), .int .i64 1] rfl rfl Try.call28 (read_any (Mem.here (L := [disk (readD D 0) p pg mb (qv)]) (R := [lst 5 1 (.slice (some ⟨ga, 0, none⟩) 256 ca) 256 (bvs (D.cur 0)), blk gr 60 (supC noSup)]) (disk_close (D := readD D 0) (R := [lst 5 1 (.slice (some ⟨ga, 0, none⟩) 256 ca) 256 (bvs (D.cur 0)), blk gr 60 (supC noSup)]) (readD_ok hok 0) M8)) 1) ?_
  rintro e w12 ⟨v, rfl, H12⟩
  rw [r1.2, hcur] at H12
  rw [r1.1]
  obtain ⟨gb, cb, rfl, hcb, hcb2⟩ := lst_slice (H12.get 1 rfl) (by rw [l1]; decide)
  rw [l1] at H12
  rw [l1] at hcb
  rw [l1]
  have M120 := Mem.frame (Pre := [disk (readD D 0) p pg mb (qv)]) (Post := [disk (readD (readD D 0) 1) p pg mb (qv), lst 5 1 (.slice (some ⟨gb, 0, none⟩) 256 cb) 256 (bvs (D.cur 1))]) (R := [lst 5 1 (.slice (some ⟨ga, 0, none⟩) 256 ca) 256 (bvs (D.cur 0)), blk gr 60 (supC noSup)]) (disk_close (D := readD D 0) (R := [lst 5 1 (.slice (some ⟨ga, 0, none⟩) 256 ca) 256 (bvs (D.cur 0)), blk gr 60 (supC noSup)]) (readD_ok hok 0) M8) H12
  have M12 : Mem w _ w12 [blk p 57 (dC (readD (readD D 0) 1) pg mb qv), blk pg 77 (pagesC (readD (readD D 0) 1).pages), lst 79 257 qv ((readD (readD D 0) 1).q.length) (qC (readD (readD D 0) 1).q), mapq mb ((readD (readD D 0) 1).q), lst 5 1 (.slice (some ⟨gb, 0, none⟩) 256 cb) 256 (bvs (D.cur 1)), lst 5 1 (.slice (some ⟨ga, 0, none⟩) 256 ca) 256 (bvs (D.cur 0)), blk gr 60 (supC noSup)] := (disk_open (R := [lst 5 1 (.slice (some ⟨gb, 0, none⟩) 256 cb) 256 (bvs (D.cur 1)), lst 5 1 (.slice (some ⟨ga, 0, none⟩) 256 ca) 256 (bvs (D.cur 0)), blk gr 60 (supC noSup)]) M120).2
  clear H12 M120 M8
  refine ⟨_, rfl, ?_⟩
  refine hK.out _ _ ?_
  clear hK K
  simp only [Act.put, zq1, zq2, zq3]
  refine pl M12 (y_move (v := .tuple #[.slice (some ⟨gb, 0, none⟩) 256 cb, .int .i64 0]) rfl rfl rfl) ?_
  simp only [Act.put, zq1, zq2, zq3]
  refine pl M12 (y_ext (v := .slice (some ⟨gb, 0, none⟩) 256 cb) rfl rfl rfl rfl) ?_
  simp only [Act.put, zq1, zq2, zq3]
  refine pl M12 (y_ext (v := .int .i64 0) rfl rfl rfl rfl) ?_
  simp only [Act.put, zq1, zq2, zq3]
  refine pl M12 (y_assign (v := .slice (some ⟨gb, 0, none⟩) 256 cb) rfl rfl rfl) ?_
  simp only [Act.put, zq1, zq2, zq3]
  refine pl M12 (y_assign (v := .int .i64 0) rfl rfl rfl) ?_
  simp only [Act.put, zq1, zq2, zq3]
  refine wpList_nil ?_
  refine hK11 _ _ ?_
  clear hK11
  refine wp_seq_k (fun K13 hK13 => ?_)
  refine wp_seq_k (fun K14 hK14 => ?_)
  refine wp_region_lit ?_
  refine pl M12 (y_move (v := .int .i64 0) rfl rfl rfl) ?_
  simp only [Act.put, zq1, zq2, zq3]
  refine pl M12 (y_neq (b := false) rfl rfl rfl rfl (by rw [decide_eq_true rfl]; rfl)) ?_
  simp only [Act.put, zq1, zq2, zq3]
  refine wpList_nil ?_
  refine hK14 _ _ ?_
  clear hK14
  refine wp_cond_false rfl ?_
  refine wp_skip ?_
  refine hK13 _ _ ?_
  clear hK13
  refine wp_seq_k (fun K15 hK15 => ?_)
  refine wp_region_lit ?_
  refine pl M12 (y_move (v := .slice (some ⟨ga, 0, none⟩) 256 ca) rfl rfl rfl) ?_
  simp only [Act.put, zq1, zq2, zq3]
  refine pl M12 (y_move (v := .slice (some ⟨gb, 0, none⟩) 256 cb) rfl rfl rfl) ?_
  simp only [Act.put, zq1, zq2, zq3]
  refine pe rfl (fun K hK => ?_)
  refine e_call 33 [.slice (some ⟨ga, 0, none⟩) 256 ca, .slice (some ⟨gb, 0, none⟩) 256 cb] rfl rfl Try.call33 (choose_any ga 0 ca gb 0 cb (D.cur 0) (D.cur 1) _ (lst_row (M12.get 5 rfl)) (lst_row (M12.get 4 rfl)) hca hca2 hcb hcb2) ?_
  rintro e w16 ⟨rfl, H⟩
  have M16 : Mem w _ w16 [blk p 57 (dC (readD (readD D 0) 1) pg mb qv), blk pg 77 (pagesC (readD (readD D 0) 1).pages), lst 79 257 qv ((readD (readD D 0) 1).q.length) (qC (readD (readD D 0) 1).q), mapq mb ((readD (readD D 0) 1).q), lst 5 1 (.slice (some ⟨gb, 0, none⟩) 256 cb) 256 (bvs (D.cur 1)), lst 5 1 (.slice (some ⟨ga, 0, none⟩) 256 ca) 256 (bvs (D.cur 0)), blk gr 60 (supC noSup)] := M12.step H
  refine ⟨_, rfl, ?_⟩
  refine hK.out _ _ ?_
  clear hK K
  simp only [Act.put, zq1, zq2, zq3]
  refine pl M16 (y_ext (v := .agg ((supC (chooseS (D.cur 0) (D.cur 1)))).toArray) rfl rfl rfl rfl) ?_
  simp only [Act.put, zq1, zq2, zq3]
  refine pl M16 (y_ext (v := .int .i64 (chooseE (D.cur 0) (D.cur 1))) rfl rfl rfl rfl) ?_
  simp only [Act.put, zq1, zq2, zq3]
  refine pe rfl (fun K hK => ?_)
  refine e_storew M16 6 (cs := (supC (chooseS (D.cur 0) (D.cur 1)))) rfl rfl rfl rfl (size_sup _) (sup_all _) rfl (rfl) ?_
  intro w17 (M17 : Mem w _ w17 [blk p 57 (dC (readD (readD D 0) 1) pg mb qv), blk pg 77 (pagesC (readD (readD D 0) 1).pages), lst 79 257 qv ((readD (readD D 0) 1).q.length) (qC (readD (readD D 0) 1).q), mapq mb ((readD (readD D 0) 1).q), lst 5 1 (.slice (some ⟨gb, 0, none⟩) 256 cb) 256 (bvs (D.cur 1)), lst 5 1 (.slice (some ⟨ga, 0, none⟩) 256 ca) 256 (bvs (D.cur 0)), blk gr 60 (supC (chooseS (D.cur 0) (D.cur 1)))])
  clear M16
  refine hK.out _ _ ?_
  clear hK K
  simp only [Act.put, zq1, zq2, zq3]
  refine pl M17 (y_assign (v := .int .i64 (chooseE (D.cur 0) (D.cur 1))) rfl rfl rfl) ?_
  simp only [Act.put, zq1, zq2, zq3]
  refine wpList_nil ?_
  refine hK15 _ _ ?_
  clear hK15
  refine wp_ret ?_
  try simp only [Exit.inBlock, Exit.then]
  refine bodyPost_ret (v := .tuple #[.agg ((supC (chooseS (D.cur 0) (D.cur 1)))).toArray, .int .i64 (chooseE (D.cur 0) (D.cur 1))]) (resc2 _ rfl rfl rfl (M17.get 6 rfl) Try.underlying60 (size_sup _) rfl) rfl ?_
  have hd' : ¬ D.dead = true := by rw [hd]; decide
  have e1 : slotsE D = chooseE (D.cur 0) (D.cur 1) := if_neg hd'
  have e2 : slotsD D = readD (readD D 0) 1 := if_neg hd'
  have e3 : slotsS D = chooseS (D.cur 0) (D.cur 1) := if_neg hd'
  rw [e1, e2, e3]
  exact ⟨rfl, disk_close (readD_ok (readD_ok hok 0) 1) (M17.arr [0, 1, 2, 3] (by decide))⟩
theorem slots_any {D : DV} {p pg mb : Nat} {qv : Value} {w : World} (hM : Mem w (foots [disk D p pg mb qv]) w [disk D p pg mb qv]) : Calls Try.prog 16 #[.pointer (some ⟨p, 0, none⟩)] w fun e w' => e = .returned (.tuple #[.agg (supC (slotsS D)).toArray, .int .i64 (slotsE D)]) ∧ Mem w (foots [disk D p pg mb qv]) w' [disk (slotsD D) p pg mb qv] := by
  cases hd : D.dead with
  | true => exact slots_dead hM hd
  | false => exact slots_ok hM hd
end Go.Proofs.Ytdnahagibodnpaa

/- The file: lay, inOrder. -/
namespace Go.Proofs.Ytdnahagibodnpaa
set_option linter.unusedSectionVars false
open Go Go.RowKit
set_option linter.unusedVariables false
set_option linter.unusedSimpArgs false
structure Stp where
  f : FuncId
  fi : List Value
  ca : List Value
def stpV (x : Stp) : Value := .func (.func x.f) x.fi.toArray x.ca.toArray
set_option maxRecDepth 100000 in
set_option maxHeartbeats 4000000 in
theorem lay_any (p : Nat) (s : SupV) (w : World) : Calls Try.prog 19 #[.pointer (some ⟨p, 0, none⟩), .agg (supC s).toArray] w fun e w' => ∃ gs gd, e = .returned (stpV ⟨34, [], [.pointer (some ⟨gs, 0, none⟩), .pointer (some ⟨gd, 0, none⟩)]⟩) ∧ Mem w [] w' [blk gs 60 (supC s), blk gd 24 [.pointer (some ⟨p, 0, none⟩)]] := by
  have M := Mem.nil w
  go_enter Try.func19, Try.ntmps19
  refine wp_seq_k (fun K1 hK1 => ?_)
  refine wp_region_lit ?_
  refine pe rfl (fun K hK => ?_)
  refine e_box1 M (.pointer (some ⟨p, 0, none⟩)) rfl rfl rfl ?_
  intro gd w2 (M2 : Mem w [] w2 [blk gd 24 ([.pointer (some ⟨p, 0, none⟩)])])
  clear M
  refine hK.out _ _ ?_
  clear hK K
  simp only [Act.put, zq1, zq2, zq3]
  refine pe rfl (fun K hK => ?_)
  refine e_box M2 (supC s) rfl rfl ?_
  intro gs w3 (M3 : Mem w [] w3 [blk gs 60 (supC s), blk gd 24 ([.pointer (some ⟨p, 0, none⟩)])])
  clear M2
  refine hK.out _ _ ?_
  clear hK K
  simp only [Act.put, zq1, zq2, zq3]
  refine pl M3 (y_assign (v := .nilFunc) rfl rfl rfl) ?_
  simp only [Act.put, zq1, zq2, zq3]
  refine wpList_nil ?_
  refine hK1 _ _ ?_
  clear hK1
  refine wp_seq_k (fun K4 hK4 => ?_)
  refine wp_region_lit ?_
  refine pl M3 (y_func (fv := []) (cv := [.pointer (some ⟨gs, 0, none⟩), .pointer (some ⟨gd, 0, none⟩)]) rfl rfl rfl rfl) ?_
  simp only [Act.put, zq1, zq2, zq3]
  refine pl M3 (y_assign (v := .func (.func 34) #[] #[.pointer (some ⟨gs, 0, none⟩), .pointer (some ⟨gd, 0, none⟩)]) rfl rfl rfl) ?_
  simp only [Act.put, zq1, zq2, zq3]
  refine wpList_nil ?_
  refine hK4 _ _ ?_
  clear hK4
  refine wp_ret ?_
  try simp only [Exit.inBlock, Exit.then]
  refine bodyPost_ret (v := .func (.func 34) #[] #[.pointer (some ⟨gs, 0, none⟩), .pointer (some ⟨gd, 0, none⟩)]) (res1 rfl rfl) rfl ?_
  exact ⟨_, _, rfl, M3⟩
set_option maxRecDepth 100000 in
set_option maxHeartbeats 4000000 in
theorem laid_any {D : DV} {p pg mb : Nat} {qv : Value} {gs gd : Nat} {s : SupV} {w : World} (hM : Mem w (foots [disk D p pg mb qv, blk gs 60 (supC s), blk gd 24 [.pointer (some ⟨p, 0, none⟩)]]) w [disk D p pg mb qv, blk gs 60 (supC s), blk gd 24 [.pointer (some ⟨p, 0, none⟩)]]) (hv : ValidS s) (hq : D.q.length ≤ 500000000000) : Calls Try.prog 34 #[.pointer (some ⟨gs, 0, none⟩), .pointer (some ⟨gd, 0, none⟩)] w fun e w' => ∃ qv', e = .returned (.int .i64 (writeE D (s.gen % 2) (superB s))) ∧ Mem w (foots [disk D p pg mb qv, blk gs 60 (supC s), blk gd 24 [.pointer (some ⟨p, 0, none⟩)]]) w' [disk (writeD D (s.gen % 2) (superB s)) p pg mb qv', blk gs 60 (supC s), blk gd 24 [.pointer (some ⟨p, 0, none⟩)]] := by
  obtain ⟨hok, M⟩ := disk_open hM
  clear hM
  have hg := hv.2.2.1
  go_enter Try.func34, Try.ntmps34
  refine wp_seq_k (fun K1 hK1 => ?_)
  refine wp_region_lit ?_
  refine pl M (y_assign (v := .int .i64 0) rfl rfl rfl) ?_
  simp only [Act.put, zq1, zq2, zq3]
  refine wpList_nil ?_
  refine hK1 _ _ ?_
  clear hK1
  refine wp_seq_k (fun K2 hK2 => ?_)
  refine wp_region_lit ?_
  refine pl M (y_loadb (cs := supC s) rfl rfl rfl Try.underlying60 rfl (size_sup _) (fun W hW => hW.get 4 rfl) (List.take_of_length_le (Nat.le_refl _))) ?_
  simp only [Act.put, zq1, zq2, zq3]
  refine pe rfl (fun K hK => ?_)
  refine e_call 35 [.agg (supC s).toArray] rfl rfl Try.call35 (packSuper_ok s _ hv) ?_
  rintro e w3 ⟨gp, rfl, H3⟩
  have M3 : Mem w _ w3 [blk gp 5 (bvs (superB s)), blk p 57 (dC D pg mb qv), blk pg 77 (pagesC D.pages), lst 79 257 qv D.q.length (qC D.q), mapq mb D.q, blk gs 60 (supC s), blk gd 24 ([.pointer (some ⟨p, 0, none⟩)])] := M.step H3
  refine ⟨_, rfl, ?_⟩
  refine hK.out _ _ ?_
  clear hK K
  simp only [Act.put, zq1, zq2, zq3]
  refine pl M3 (y_move (v := .tuple #[.slice (some ⟨gp, 0, none⟩) 256 256, .int .i64 0]) rfl rfl rfl) ?_
  simp only [Act.put, zq1, zq2, zq3]
  refine pl M3 (y_ext (v := .slice (some ⟨gp, 0, none⟩) 256 256) rfl rfl rfl rfl) ?_
  simp only [Act.put, zq1, zq2, zq3]
  refine pl M3 (y_ext (v := .int .i64 0) rfl rfl rfl rfl) ?_
  simp only [Act.put, zq1, zq2, zq3]
  refine pl M3 (y_assign (v := .slice (some ⟨gp, 0, none⟩) 256 256) rfl rfl rfl) ?_
  simp only [Act.put, zq1, zq2, zq3]
  refine pl M3 (y_assign (v := .int .i64 0) rfl rfl rfl) ?_
  simp only [Act.put, zq1, zq2, zq3]
  refine wpList_nil ?_
  refine hK2 _ _ ?_
  clear hK2
  refine wp_seq_k (fun K4 hK4 => ?_)
  refine wp_seq_k (fun K5 hK5 => ?_)
  refine wp_region_lit ?_
  refine pl M3 (y_move (v := .int .i64 0) rfl rfl rfl) ?_
  simp only [Act.put, zq1, zq2, zq3]
  refine pl M3 (y_neq (b := false) rfl rfl rfl rfl (by rw [decide_eq_true rfl]; rfl)) ?_
  simp only [Act.put, zq1, zq2, zq3]
  refine wpList_nil ?_
  refine hK5 _ _ ?_
  clear hK5
  refine wp_cond_false rfl ?_
  refine wp_skip ?_
  refine hK4 _ _ ?_
  clear hK4
  refine wp_seq_k (fun K6 hK6 => ?_)
  refine wp_region_lit ?_
  refine pl M3 (y_load (v := .pointer (some ⟨p, 0, none⟩)) rfl rfl rfl Try.isAgg24 (fun W hW => hW.get 6 rfl) (rfl)) ?_
  simp only [Act.put, zq1, zq2, zq3]
  refine pl M3 (y_fa (r := 1) rfl rfl rfl Try.underlying60 rfl Try.sizeOf3 rfl) ?_
  simp only [Act.put, zq1, zq2, zq3]
  refine pl M3 (y_load (v := .int .i64 s.gen) rfl rfl rfl Try.isAgg3 (fun W hW => hW.get 5 rfl) (rfl)) ?_
  simp only [Act.put, zq1, zq2, zq3]
  refine pl M3 (y_rem (r := s.gen % 2) rfl rfl rfl rfl (by omega) (by rw [Int.tmod_eq_emod_of_nonneg (by omega)])) ?_
  simp only [Act.put, zq1, zq2, zq3]
  refine pl M3 (y_move (v := .slice (some ⟨gp, 0, none⟩) 256 256) rfl rfl rfl) ?_
  simp only [Act.put, zq1, zq2, zq3]
  have M7 : Mem w _ w3 [blk p 57 (dC D pg mb qv), blk pg 77 (pagesC D.pages), lst 79 257 qv D.q.length (qC D.q), mapq mb D.q, blk gp 5 (bvs (superB s)), blk gs 60 (supC s), blk gd 24 ([.pointer (some ⟨p, 0, none⟩)])] := M3.arr [1, 2, 3, 4, 0, 5, 6] (by decide)
  clear M3
  refine pe rfl (fun K hK => ?_)
  have hnd : Mem w _ w3 [disk D p pg mb qv, blk gp 5 (bvs (superB s)), blk gs 60 (supC s), blk gd 24 ([.pointer (some ⟨p, 0, none⟩)])] := (disk_close (D := D) (R := [blk gp 5 (bvs (superB s)), blk gs 60 (supC s), blk gd 24 ([.pointer (some ⟨p, 0, none⟩)])]) hok M7)
  refine e_call 26 [.pointer (some ⟨p, 0, none⟩), .int .i64 (s.gen % 2), .slice (some ⟨gp, 0, none⟩) 256 256] rfl rfl Try.call26 (write_any (Mem.here (L := [disk D p pg mb qv]) (R := [blk gp 5 (bvs (superB s)), blk gs 60 (supC s), blk gd 24 ([.pointer (some ⟨p, 0, none⟩)])]) hnd) (s.gen % 2) (some ⟨gp, 0, none⟩) 256 256 (superB s) (by have := blk_row (M7.get 4 rfl); rwa [length_superB] at this) (fun b o e _ hb => by cases e; exact hnd.apart 0 1 (by decide) rfl rfl (by simp [foots] at hb; exact hb) (by simp [blk])) (by omega) hq) ?_
  rintro e w8 ⟨qv', rfl, H⟩
  have M8 : Mem w _ w8 [disk (writeD D (s.gen % 2) (superB s)) p pg mb qv', blk gp 5 (bvs (superB s)), blk gs 60 (supC s), blk gd 24 ([.pointer (some ⟨p, 0, none⟩)])] := Mem.frame (Pre := [disk D p pg mb qv]) (Post := [disk (writeD D (s.gen % 2) (superB s)) p pg mb qv']) (R := [blk gp 5 (bvs (superB s)), blk gs 60 (supC s), blk gd 24 ([.pointer (some ⟨p, 0, none⟩)])]) hnd H
  clear H hnd M7
  refine ⟨_, rfl, ?_⟩
  refine hK.out _ _ ?_
  clear hK K
  simp only [Act.put, zq1, zq2, zq3]
  refine pl M8 (y_assign (v := .int .i64 (writeE D (s.gen % 2) (superB s))) rfl rfl rfl) ?_
  simp only [Act.put, zq1, zq2, zq3]
  refine wpList_nil ?_
  refine hK6 _ _ ?_
  clear hK6
  refine wp_ret ?_
  try simp only [Exit.inBlock, Exit.then]
  refine bodyPost_ret (v := .int .i64 (writeE D (s.gen % 2) (superB s))) (res1 rfl rfl) rfl ?_
  exact ⟨qv', rfl, M8.arr [0, 2, 3] (by decide)⟩
structure Steps (P : Program) (xs : List Stp) (gt : Nat) (R : Nat → World → Prop) (E : Int → World → Prop) : Prop where
  calls : ∀ i x, xs[i]? = some x → ∀ w, R i w → Calls P x.f (x.fi ++ x.ca).toArray w fun e w' => ∃ z : Int, e = .returned (.int .i64 z) ∧ (z = 0 → R (i + 1) w') ∧ (z ≠ 0 → E z w')
  call : ∀ x ∈ xs, ∀ ar w, (callFunc x.f ar).run P w = .ok (.enter x.f ar) w
  row : ∀ i x, xs[i]? = some x → ∀ w, R i w → w.cell? ⟨gt, i, none⟩ = some (stpV x)
set_option maxRecDepth 100000 in
set_option maxHeartbeats 4000000 in
theorem inOrder_any {xs : List Stp} {gt : Nat} {R : Nat → World → Prop} {E : Int → World → Prop} (hS : Steps Try.prog xs gt R E) (hn : xs.length ≤ 1000) (w : World) (h0 : R 0 w) : Calls Try.prog 18 #[.slice (some ⟨gt, 0, none⟩) xs.length xs.length] w fun e w' => ∃ z : Int, e = .returned (.int .i64 z) ∧ (z = 0 → R xs.length w') ∧ (z ≠ 0 → E z w') := by
  have M := Mem.nil w
  go_enter Try.func18, Try.ntmps18
  refine wp_seq_k (fun K1 hK1 => ?_)
  refine wp_region_lit ?_
  refine pl M (y_assign (v := .int .i64 0) rfl rfl rfl) ?_
  simp only [Act.put, zq1, zq2, zq3]
  refine wpList_nil ?_
  refine hK1 _ _ ?_
  clear hK1
  refine wp_seq_k (fun K2 hK2 => ?_)
  refine wp_seq_k (fun K3 hK3 => ?_)
  refine wp_region_lit ?_
  refine pl M (y_move (v := .slice (some ⟨gt, 0, none⟩) xs.length xs.length) rfl rfl rfl) ?_
  simp only [Act.put, zq1, zq2, zq3]
  refine pl M (y_len rfl rfl rfl Try.underlying86) ?_
  simp only [Act.put, zq1, zq2, zq3]
  refine pl M (y_move (v := .int .i64 0) rfl rfl rfl) ?_
  simp only [Act.put, zq1, zq2, zq3]
  refine wpList_nil ?_
  refine hK3 _ _ ?_
  clear hK3
  refine wp_block ?_
  refine wp_loop (fun a' w' => ∃ (k : Nat) (us4 : List Value), a' = (⟨#[.slice (some ⟨gt, 0, none⟩) xs.length xs.length, undef, (us4.getD 0 undef), undef, (us4.getD 1 undef), (us4.getD 2 undef), .slice (some ⟨gt, 0, none⟩) xs.length xs.length, .int .i64 (xs.length : Int), .int .i64 (k : Int), (us4.getD 3 undef), (us4.getD 4 undef), (us4.getD 5 undef), (us4.getD 6 undef), (us4.getD 7 undef), (us4.getD 8 undef), (us4.getD 9 undef), (us4.getD 10 undef), (us4.getD 11 undef)], []⟩ : Act) ∧ (k ≤ xs.length) ∧ (R k w') ∧ True) (fun a' _ => xs.length - (intOf (a'.tmps.getD 8 undef)).toNat) ⟨0, [.int .i64 0, undef, undef, undef, undef, undef, undef, undef, undef, undef, undef, undef], rfl, Nat.zero_le _, h0, trivial⟩ ?_
  rintro a' w5 ⟨k, us4, rfl, hk, hR, M5⟩
  clear M5
  have M5 := Mem.nil w5
  refine wp_seq_k (fun K6 hK6 => ?_)
  refine wp_region_lit ?_
  rcases Decidable.em ((k : Int) < (xs.length : Int)) with h7 | h7
  · have hkl : k < xs.length := by omega
    obtain ⟨x, hx⟩ : ∃ x, xs[k]? = some x := ⟨_, List.getElem?_eq_getElem hkl⟩
    have hcell := hS.row k x hx _ hR
    refine pl M5 (y_lss (b := true) rfl rfl rfl rfl (decide_eq_true h7)) ?_
    simp only [Act.put, zq1, zq2, zq3]
    refine wpList_nil ?_
    refine hK6 _ _ ?_
    clear hK6
    refine wp_seq_k (fun K8 hK8 => ?_)
    refine wp_cond_true rfl ?_
    refine wp_skip ?_
    refine hK8 _ _ ?_
    clear hK8
    refine wp_seq_k (fun K9 hK9 => ?_)
    refine wp_block ?_
    refine wp_seq_k (fun K10 hK10 => ?_)
    refine wp_region_lit ?_
    refine pl M5 (y_ias (r := k) rfl rfl rfl rfl Try.underlying86 Try.sizeOf66 (by omega) (by omega)) ?_
    simp only [Act.put, zq1, zq2, zq3]
    refine pl M5 (y_loadc (v := stpV x) rfl rfl rfl Try.isAgg66 (fun W hW => by rw [World.cell?_of_block (w := w5) (w' := W) (hW.old (block_lt_of_cell hcell) (by simp))]; exact hcell)) ?_
    simp only [Act.put, zq1, zq2, zq3]
    refine pl M5 (y_assign (v := (stpV x)) rfl rfl rfl) ?_
    simp only [Act.put, zq1, zq2, zq3]
    refine wpList_nil ?_
    refine hK10 _ _ ?_
    clear hK10
    refine wp_seq_k (fun K11 hK11 => ?_)
    refine wp_region_lit ?_
    refine pl M5 (y_move (v := (stpV x)) rfl rfl rfl) ?_
    simp only [Act.put, zq1, zq2, zq3]
    refine pe rfl (fun K hK => ?_)
    refine e_callv x.f (x.fi ++ x.ca) rfl rfl (by simp) (hS.call x (List.mem_of_getElem? hx)) (hS.calls k x hx _ hR) ?_
    rintro e w12 ⟨z, rfl, hz1, hz2⟩
    have M12 := Mem.nil w12
    refine ⟨_, rfl, ?_⟩
    refine hK.out _ _ ?_
    clear hK K
    simp only [Act.put, zq1, zq2, zq3]
    refine pl M12 (y_assign (v := .int .i64 z) rfl rfl rfl) ?_
    simp only [Act.put, zq1, zq2, zq3]
    refine wpList_nil ?_
    refine hK11 _ _ ?_
    clear hK11
    refine wp_seq_k (fun K13 hK13 => ?_)
    refine wp_region_lit ?_
    refine pl M12 (y_move (v := .int .i64 z) rfl rfl rfl) ?_
    simp only [Act.put, zq1, zq2, zq3]
    rcases Decidable.em (z = 0) with h14 | h14
    · have hR2 := hz1 h14
      refine pl M12 (y_neq (b := false) rfl rfl rfl rfl (by rw [decide_eq_true h14]; rfl)) ?_
      simp only [Act.put, zq1, zq2, zq3]
      refine wpList_nil ?_
      refine hK13 _ _ ?_
      clear hK13
      refine wp_cond_false rfl ?_
      refine wp_skip ?_
      refine hK9 _ _ ?_
      clear hK9
      refine wp_region_lit ?_
      refine pl M12 (y_add (r := (k : Int) + 1) rfl rfl rfl rfl (rfl) (by omega)) ?_
      simp only [Act.put, zq1, zq2, zq3]
      refine pl M12 (y_move (v := .int .i64 ((k : Int) + 1)) rfl rfl rfl) ?_
      simp only [Act.put, zq1, zq2, zq3]
      refine wpList_nil ?_
      refine ⟨⟨k + 1, [(us4.getD 0 undef), (stpV x), .int .i64 z, .bool true, .pointer (some ⟨gt, k, none⟩), (stpV x), (stpV x), .int .i64 z, .int .i64 z, .bool false, (us4.getD 10 undef), .int .i64 ((k : Int) + 1)], rfl, by omega, hR2, trivial⟩, ?_⟩
      simp [intOf]; omega
    · refine pl M12 (y_neq (b := true) rfl rfl rfl rfl (by rw [decide_eq_false h14]; rfl)) ?_
      simp only [Act.put, zq1, zq2, zq3]
      refine wpList_nil ?_
      refine hK13 _ _ ?_
      clear hK13
      refine wp_cond_true rfl ?_
      refine wp_seq_k (fun K15 hK15 => ?_)
      refine wp_region_lit ?_
      refine pl M12 (y_move (v := .int .i64 z) rfl rfl rfl) ?_
      simp only [Act.put, zq1, zq2, zq3]
      refine pl M12 (y_assign (v := .int .i64 z) rfl rfl rfl) ?_
      simp only [Act.put, zq1, zq2, zq3]
      refine wpList_nil ?_
      refine hK15 _ _ ?_
      clear hK15
      refine wp_ret ?_
      try simp only [Exit.inBlock, Exit.then]
      refine bodyPost_ret (v := .int .i64 z) (res1 rfl rfl) rfl ?_
      exact ⟨z, rfl, fun h => absurd h h14, hz2⟩
  · obtain rfl : k = xs.length := by omega
    refine pl M5 (y_lss (b := false) rfl rfl rfl rfl (decide_eq_false h7)) ?_
    simp only [Act.put, zq1, zq2, zq3]
    refine wpList_nil ?_
    refine hK6 _ _ ?_
    clear hK6
    refine wp_seq_k (fun K16 hK16 => ?_)
    refine wp_cond_false rfl ?_
    refine wp_exit ?_
    refine hK2 _ _ ?_
    clear hK2
    refine wp_seq_k (fun K17 hK17 => ?_)
    refine wp_region_lit ?_
    refine pl M5 (y_assign (v := .int .i64 0) rfl rfl rfl) ?_
    simp only [Act.put, zq1, zq2, zq3]
    refine wpList_nil ?_
    refine hK17 _ _ ?_
    clear hK17
    refine wp_ret ?_
    try simp only [Exit.inBlock, Exit.then]
    refine bodyPost_ret (v := .int .i64 0) (res1 rfl rfl) rfl ?_
    exact ⟨0, rfl, fun _ => hR, fun h => absurd rfl h⟩
end Go.Proofs.Ytdnahagibodnpaa

/- The file: Format. -/
namespace Go.Proofs.Ytdnahagibodnpaa
set_option linter.unusedSectionVars false
open Go Go.RowKit
set_option linter.unusedVariables false
set_option linter.unusedSimpArgs false
def runS : List (DV → DV × Int) → DV → DV × Int
  | [], D => (D, 0)
  | f :: fs, D => if (f D).2 = 0 then runS fs (f D).1 else f D
def wS (s : SupV) (D : DV) : DV × Int := (writeD D (s.gen % 2) (superB s), writeE D (s.gen % 2) (superB s))
def yS (D : DV) : DV × Int := (syncD D, syncE D)
def stAt (fs : List (DV → DV × Int)) (D : DV) : Nat → DV
  | 0 => D
  | i + 1 => ((fs.getD i yS) (stAt fs D i)).1
def resAt (fs : List (DV → DV × Int)) (D : DV) (i : Nat) : Int := ((fs.getD i yS) (stAt fs D i)).2
theorem stAt_cons (f : DV → DV × Int) (fs : List (DV → DV × Int)) (D : DV) : ∀ i, stAt (f :: fs) D (i + 1) = stAt fs (f D).1 i
  | 0 => rfl
  | i + 1 => by
    show ((f :: fs).getD (i + 1) yS (stAt (f :: fs) D (i + 1))).1 = _
    rw [stAt_cons f fs D i]; rfl
theorem resAt_cons (f : DV → DV × Int) (fs : List (DV → DV × Int)) (D : DV) (i : Nat) : resAt (f :: fs) D (i + 1) = resAt fs (f D).1 i := by
  unfold resAt
  rw [stAt_cons]; rfl
theorem runS_ok : ∀ (fs : List (DV → DV × Int)) (D : DV), (∀ j, j < fs.length → resAt fs D j = 0) → runS fs D = (stAt fs D fs.length, 0)
  | [], _, _ => rfl
  | f :: fs, D, h => by
    have h0 : (f D).2 = 0 := h 0 (by simp)
    rw [runS, if_pos h0, runS_ok fs (f D).1 fun j hj => by rw [← resAt_cons]; exact h (j + 1) (by simpa using hj), List.length_cons, stAt_cons]
theorem runS_no : ∀ (fs : List (DV → DV × Int)) (D : DV) (j : Nat), j < fs.length → (∀ i, i < j → resAt fs D i = 0) → resAt fs D j ≠ 0 → runS fs D = (stAt fs D (j + 1), resAt fs D j)
  | f :: fs, D, 0, _, _, h => by
    have h0 : ¬ (f D).2 = 0 := h
    rw [runS, if_neg h0]; rfl
  | f :: fs, D, j + 1, hj, hi, h => by
    have h0 : (f D).2 = 0 := hi 0 (by omega)
    rw [resAt_cons] at h
    rw [runS, if_pos h0, runS_no fs (f D).1 j (by simpa using hj) (fun i h' => by rw [← resAt_cons]; exact hi (i + 1) (by omega)) h, stAt_cons, resAt_cons]
theorem stAt_q (fs : List (DV → DV × Int)) (hq : ∀ f ∈ fs, ∀ E, (f E).1.q.length ≤ E.q.length + 1) (D : DV) : ∀ i, i ≤ fs.length → (stAt fs D i).q.length ≤ D.q.length + i
  | 0, _ => Nat.le_refl _
  | i + 1, h => by
    have ih := stAt_q fs hq D i (by omega)
    have := hq (fs.getD i yS) (by rw [List.getD_eq_getElem?_getD, List.getElem?_eq_getElem (by omega)]; exact List.getElem_mem _) (stAt fs D i)
    show ((fs.getD i yS) (stAt fs D i)).1.q.length ≤ _
    omega
theorem actD_q (D : DV) : (actD D).q = D.q := by
  unfold actD
  split <;> rfl
theorem wS_q (s : SupV) (E : DV) : (wS s E).1.q.length ≤ E.q.length + 1 := by
  show (writeD _ _ _).q.length ≤ _
  unfold writeD
  split
  · omega
  · split
    · split
      · rw [actD_q]; simp [openW]
      · omega
    · omega
theorem yS_q (E : DV) : (yS E).1.q.length ≤ E.q.length + 1 := by
  show (syncD _).q.length ≤ _
  unfold syncD
  split
  · omega
  · split
    · rw [actD_q]; omega
    · simp [flushD]
theorem disk_steps {p pg mb gt : Nat} {w0 : World} {F : List Nat} {X : List Asn} (xs : List Stp) (fs : List (DV → DV × Int)) (hl : xs.length = fs.length) (hn : xs.length ≤ 1000)
    (hrow : ∀ W, (∀ A ∈ X, A.holds W) → ∀ (i : Nat) (x : Stp), xs[i]? = some x → W.cell? ⟨gt, i, none⟩ = some (stpV x)) (hcall : ∀ x ∈ xs, ∀ ar w, (callFunc x.f ar).run Try.prog w = .ok (.enter x.f ar) w)
    (each : ∀ (i : Nat) (x : Stp) (f : DV → DV × Int), xs[i]? = some x → fs[i]? = some f → ∀ (E : DV) (qv : Value) (W : World), E.q.length ≤ 499999999999 → Mem w0 F W (disk E p pg mb qv :: X) → Calls Try.prog x.f (x.fi ++ x.ca).toArray W fun e w' => ∃ qv', e = .returned (.int .i64 (f E).2) ∧ Mem w0 F w' (disk (f E).1 p pg mb qv' :: X))
    (hq : ∀ f ∈ fs, ∀ E, (f E).1.q.length ≤ E.q.length + 1) {D : DV} {qv : Value} {w : World} (hD : D.q.length ≤ 400000000000) (hM : Mem w0 F w (disk D p pg mb qv :: X)) :
    Calls Try.prog 18 #[.slice (some ⟨gt, 0, none⟩) xs.length xs.length] w fun e w' => ∃ qv', e = .returned (.int .i64 (runS fs D).2) ∧ Mem w0 F w' (disk (runS fs D).1 p pg mb qv' :: X) := by
  have hget : ∀ i, i < fs.length → fs[i]? = some (fs.getD i yS) := fun i hi => by rw [List.getD_eq_getElem?_getD, List.getElem?_eq_getElem hi]; rfl
  refine (inOrder_any (xs := xs) (gt := gt) (R := fun i W => (∀ j, j < i → resAt fs D j = 0) ∧ ∃ qv', Mem w0 F W (disk (stAt fs D i) p pg mb qv' :: X))
    (E := fun z W => ∃ j, j < fs.length ∧ (∀ i, i < j → resAt fs D i = 0) ∧ resAt fs D j = z ∧ ∃ qv', Mem w0 F W (disk (stAt fs D (j + 1)) p pg mb qv' :: X)) ⟨?_, hcall, ?_⟩ hn w ⟨fun j hj => by omega, qv, hM⟩).mono ?_
  · rintro i x hx W ⟨h1, qv', h2⟩
    have hi : i < fs.length := by rw [← hl]; exact (List.getElem?_eq_some_iff.1 hx).1
    have hqi := stAt_q fs hq D i (by omega)
    refine (each i x _ hx (hget i hi) _ _ W (by omega) h2).mono ?_
    rintro e W' ⟨qv2, rfl, h3⟩
    refine ⟨_, rfl, fun hz => ⟨fun j hj => ?_, qv2, h3⟩, fun hz => ⟨i, hi, h1, rfl, qv2, h3⟩⟩
    rcases Nat.lt_or_ge j i with h | h
    · exact h1 j h
    · obtain rfl : j = i := by omega
      exact hz
  · rintro i x hx W ⟨_, qv', h2⟩
    exact hrow W (fun A hA => h2.all A (List.mem_cons_of_mem _ hA)) i x hx
  · rintro e W ⟨z, rfl, h1, h2⟩
    by_cases hz : z = 0
    · obtain ⟨h3, qv', h4⟩ := h1 hz
      rw [hl] at h3 h4
      rw [runS_ok fs D h3]
      exact ⟨qv', by rw [hz], h4⟩
    · obtain ⟨j, hj, h3, h4, qv', h5⟩ := h2 hz
      rw [runS_no fs D j hj h3 (by rw [h4]; exact hz)]
      exact ⟨qv', by rw [h4], h5⟩
theorem sync_each {p pg mb : Nat} {w0 : World} {F : List Nat} {X : List Asn} (E : DV) (qv : Value) (W : World) (hM : Mem w0 F W (disk E p pg mb qv :: X)) :
    Calls Try.prog 20 #[.pointer (some ⟨p, 0, none⟩)] W fun e w' => ∃ qv', e = .returned (.int .i64 (yS E).2) ∧ Mem w0 F w' (disk (yS E).1 p pg mb qv' :: X) := by
  refine (sync_any (Mem.here (L := [disk E p pg mb qv]) (R := X) hM)).mono ?_
  rintro e w' ⟨qv', rfl, h⟩
  exact ⟨qv', rfl, Mem.frame (Pre := [disk E p pg mb qv]) (Post := [disk (yS E).1 p pg mb qv']) (R := X) hM h⟩
theorem laid_each {p pg mb gs gd : Nat} {s : SupV} {w0 : World} {F : List Nat} {X : List Asn} (hv : ValidS s) (E : DV) (qv : Value) (W : World) (hq : E.q.length ≤ 499999999999) (hM : Mem w0 F W (disk E p pg mb qv :: blk gs 60 (supC s) :: blk gd 24 [.pointer (some ⟨p, 0, none⟩)] :: X)) :
    Calls Try.prog 34 #[.pointer (some ⟨gs, 0, none⟩), .pointer (some ⟨gd, 0, none⟩)] W fun e w' => ∃ qv', e = .returned (.int .i64 (wS s E).2) ∧ Mem w0 F w' (disk (wS s E).1 p pg mb qv' :: blk gs 60 (supC s) :: blk gd 24 [.pointer (some ⟨p, 0, none⟩)] :: X) := by
  refine (laid_any (Mem.here (L := [disk E p pg mb qv, blk gs 60 (supC s), blk gd 24 [.pointer (some ⟨p, 0, none⟩)]]) (R := X) hM) hv (by omega)).mono ?_
  rintro e w' ⟨qv', rfl, h⟩
  exact ⟨qv', rfl, Mem.frame (Pre := [disk E p pg mb qv, blk gs 60 (supC s), blk gd 24 [.pointer (some ⟨p, 0, none⟩)]]) (Post := [disk (wS s E).1 p pg mb qv', blk gs 60 (supC s), blk gd 24 [.pointer (some ⟨p, 0, none⟩)]]) (R := X) hM h⟩
theorem valid_new {width g : Int} {n : Nat} (hw : 1 ≤ width ∧ width ≤ 32) (hn : 3 ≤ n ∧ n ≤ 4096) (hg : 0 ≤ g ∧ g ≤ 1) : ValidS ⟨width, g, 2, 0, n⟩ :=
  ⟨hw.1, hw.2, hg.1, by show g ≤ _; omega, by show (3 : Int) ≤ (n : Int); omega, by show (n : Int) ≤ 4096; omega, by show (2 : Int) ≤ 2; omega, by show (2 : Int) ≤ (n : Int); omega, .inl rfl⟩
def formatR (D : DV) (width : Int) : DV × Int :=
  if D.dead then (D, 2) else if width < 1 ∨ 32 < width then (D, 1) else if slotsE D ≠ 55 then (slotsD D, 60)
  else runS [wS ⟨width, 0, 2, 0, D.pages.length⟩, yS, wS ⟨width, 1, 2, 0, D.pages.length⟩, yS] (slotsD D)
theorem slotsD_facts (D : DV) (h : DOk D) : (slotsD D).pages = D.pages ∧ (slotsD D).q = D.q ∧ DOk (slotsD D) := by
  unfold slotsD
  split
  · exact ⟨rfl, rfl, h⟩
  · refine ⟨?_, ?_, readD_ok (readD_ok h 0) 1⟩ <;> unfold readD <;> (repeat' split) <;> rfl
set_option maxRecDepth 100000 in
set_option maxHeartbeats 4000000 in
theorem format_dead {D : DV} {p pg mb : Nat} {qv : Value} {w : World} (hM : Mem w (foots [disk D p pg mb qv]) w [disk D p pg mb qv]) (width : Int) (hq : D.q.length ≤ 400000000000) (hd : D.dead = true) : Calls Try.prog 5 #[.pointer (some ⟨p, 0, none⟩), .int .i64 width] w fun e w' => ∃ qv', e = .returned (.int .i64 (formatR D width).2) ∧ Mem w (foots [disk D p pg mb qv]) w' [disk (formatR D width).1 p pg mb qv'] := by
  obtain ⟨hok, M⟩ := disk_open hM
  clear hM
  go_enter Try.func5, Try.ntmps5
  refine wp_seq_k (fun K1 hK1 => ?_)
  refine wp_region_lit ?_
  refine pl M (y_assign (v := .int .i64 0) rfl rfl rfl) ?_
  simp only [Act.put, zq1, zq2, zq3]
  refine wpList_nil ?_
  refine hK1 _ _ ?_
  clear hK1
  refine wp_seq_k (fun K2 hK2 => ?_)
  refine wp_seq_k (fun K3 hK3 => ?_)
  refine wp_region_lit ?_
  refine pl M (y_move (v := .pointer (some ⟨p, 0, none⟩)) rfl rfl rfl) ?_
  simp only [Act.put, zq1, zq2, zq3]
  refine pl M (y_eqnil (r := false) rfl rfl rfl rfl Try.underlying24 rfl) ?_
  simp only [Act.put, zq1, zq2, zq3]
  refine wpList_nil ?_
  refine hK3 _ _ ?_
  clear hK3
  refine wp_cond_false rfl ?_
  refine wp_skip ?_
  refine hK2 _ _ ?_
  clear hK2
  refine wp_seq_k (fun K4 hK4 => ?_)
  refine wp_seq_k (fun K5 hK5 => ?_)
  refine wp_region_lit ?_
  refine pl M (y_move (v := .pointer (some ⟨p, 0, none⟩)) rfl rfl rfl) ?_
  simp only [Act.put, zq1, zq2, zq3]
  refine pe rfl (fun K hK => ?_)
  refine e_call 15 [.pointer (some ⟨p, 0, none⟩)] rfl rfl Try.call15 (power_any (Mem.here (L := [disk (D) p pg mb (qv)]) (R := []) (disk_close (D := D) (R := []) hok M)) ) ?_
  rintro e w6 ⟨rfl, H6⟩
  have M6 : Mem w _ w6 [blk p 57 (dC D pg mb qv), blk pg 77 (pagesC D.pages), lst 79 257 qv D.q.length (qC D.q), mapq mb D.q] := (disk_open (Mem.frame (Pre := [disk (D) p pg mb (qv)]) (Post := [disk (D) p pg mb (qv)]) (R := []) (disk_close (D := D) (R := []) hok M) H6)).2
  rw [(show (!D.dead) = false by rw [hd]; rfl)]
  refine ⟨_, rfl, ?_⟩
  refine hK.out _ _ ?_
  clear hK K
  simp only [Act.put, zq1, zq2, zq3]
  refine pl M6 (y_not rfl rfl rfl rfl) ?_
  simp only [Act.put, zq1, zq2, zq3]
  refine wpList_nil ?_
  refine hK5 _ _ ?_
  clear hK5
  refine wp_cond_true rfl ?_
  refine wp_seq_k (fun K7 hK7 => ?_)
  refine wp_region_lit ?_
  refine pl M6 (y_assign (v := .int .i64 2) rfl rfl rfl) ?_
  simp only [Act.put, zq1, zq2, zq3]
  refine wpList_nil ?_
  refine hK7 _ _ ?_
  clear hK7
  refine wp_ret ?_
  try simp only [Exit.inBlock, Exit.then]
  refine bodyPost_ret (v := .int .i64 2) (res1 rfl rfl) rfl ?_
  have e1 : formatR D width = (D, 2) := if_pos hd
  rw [e1]
  exact ⟨_, rfl, disk_close hok M6⟩
set_option maxRecDepth 100000 in
set_option maxHeartbeats 4000000 in
theorem format_low {D : DV} {p pg mb : Nat} {qv : Value} {w : World} (hM : Mem w (foots [disk D p pg mb qv]) w [disk D p pg mb qv]) (width : Int) (hq : D.q.length ≤ 400000000000) (hd : D.dead = false) (hw : width < 1) : Calls Try.prog 5 #[.pointer (some ⟨p, 0, none⟩), .int .i64 width] w fun e w' => ∃ qv', e = .returned (.int .i64 (formatR D width).2) ∧ Mem w (foots [disk D p pg mb qv]) w' [disk (formatR D width).1 p pg mb qv'] := by
  obtain ⟨hok, M⟩ := disk_open hM
  clear hM
  go_enter Try.func5, Try.ntmps5
  refine wp_seq_k (fun K1 hK1 => ?_)
  refine wp_region_lit ?_
  refine pl M (y_assign (v := .int .i64 0) rfl rfl rfl) ?_
  simp only [Act.put, zq1, zq2, zq3]
  refine wpList_nil ?_
  refine hK1 _ _ ?_
  clear hK1
  refine wp_seq_k (fun K2 hK2 => ?_)
  refine wp_seq_k (fun K3 hK3 => ?_)
  refine wp_region_lit ?_
  refine pl M (y_move (v := .pointer (some ⟨p, 0, none⟩)) rfl rfl rfl) ?_
  simp only [Act.put, zq1, zq2, zq3]
  refine pl M (y_eqnil (r := false) rfl rfl rfl rfl Try.underlying24 rfl) ?_
  simp only [Act.put, zq1, zq2, zq3]
  refine wpList_nil ?_
  refine hK3 _ _ ?_
  clear hK3
  refine wp_cond_false rfl ?_
  refine wp_skip ?_
  refine hK2 _ _ ?_
  clear hK2
  refine wp_seq_k (fun K4 hK4 => ?_)
  refine wp_seq_k (fun K5 hK5 => ?_)
  refine wp_region_lit ?_
  refine pl M (y_move (v := .pointer (some ⟨p, 0, none⟩)) rfl rfl rfl) ?_
  simp only [Act.put, zq1, zq2, zq3]
  refine pe rfl (fun K hK => ?_)
  refine e_call 15 [.pointer (some ⟨p, 0, none⟩)] rfl rfl Try.call15 (power_any (Mem.here (L := [disk (D) p pg mb (qv)]) (R := []) (disk_close (D := D) (R := []) hok M)) ) ?_
  rintro e w6 ⟨rfl, H6⟩
  have M6 : Mem w _ w6 [blk p 57 (dC D pg mb qv), blk pg 77 (pagesC D.pages), lst 79 257 qv D.q.length (qC D.q), mapq mb D.q] := (disk_open (Mem.frame (Pre := [disk (D) p pg mb (qv)]) (Post := [disk (D) p pg mb (qv)]) (R := []) (disk_close (D := D) (R := []) hok M) H6)).2
  rw [(show (!D.dead) = true by rw [hd]; rfl)]
  refine ⟨_, rfl, ?_⟩
  refine hK.out _ _ ?_
  clear hK K
  simp only [Act.put, zq1, zq2, zq3]
  refine pl M6 (y_not rfl rfl rfl rfl) ?_
  simp only [Act.put, zq1, zq2, zq3]
  refine wpList_nil ?_
  refine hK5 _ _ ?_
  clear hK5
  refine wp_cond_false rfl ?_
  refine wp_skip ?_
  refine hK4 _ _ ?_
  clear hK4
  refine wp_seq_k (fun K7 hK7 => ?_)
  refine wp_seq_k (fun K8 hK8 => ?_)
  refine wp_region_lit ?_
  refine pl M6 (y_move (v := .int .i64 width) rfl rfl rfl) ?_
  simp only [Act.put, zq1, zq2, zq3]
  refine pl M6 (y_lss (b := true) rfl rfl rfl rfl (decide_eq_true (by omega))) ?_
  simp only [Act.put, zq1, zq2, zq3]
  refine pl M6 (y_move (v := .bool true) rfl rfl rfl) ?_
  simp only [Act.put, zq1, zq2, zq3]
  with_reducible refine pskip ?_ ?_
  · rfl
  simp only [Act.put, zq1, zq2, zq3]
  with_reducible refine pskip ?_ ?_
  · rfl
  simp only [Act.put, zq1, zq2, zq3]
  refine pl M6 (y_pickT (v := .bool true) rfl rfl rfl rfl) ?_
  simp only [Act.put, zq1, zq2, zq3]
  refine wpList_nil ?_
  refine hK8 _ _ ?_
  clear hK8
  refine wp_cond_true rfl ?_
  refine wp_seq_k (fun K9 hK9 => ?_)
  refine wp_region_lit ?_
  refine pl M6 (y_assign (v := .int .i64 1) rfl rfl rfl) ?_
  simp only [Act.put, zq1, zq2, zq3]
  refine wpList_nil ?_
  refine hK9 _ _ ?_
  clear hK9
  refine wp_ret ?_
  try simp only [Exit.inBlock, Exit.then]
  refine bodyPost_ret (v := .int .i64 1) (res1 rfl rfl) rfl ?_
  have hd' : ¬ D.dead = true := by rw [hd]; decide
  have e1 : formatR D width = (D, 1) := by unfold formatR; rw [if_neg hd', if_pos (by omega)]
  rw [e1]
  exact ⟨_, rfl, disk_close hok M6⟩
set_option maxRecDepth 100000 in
set_option maxHeartbeats 4000000 in
theorem format_high {D : DV} {p pg mb : Nat} {qv : Value} {w : World} (hM : Mem w (foots [disk D p pg mb qv]) w [disk D p pg mb qv]) (width : Int) (hq : D.q.length ≤ 400000000000) (hd : D.dead = false) (hw : 32 < width) : Calls Try.prog 5 #[.pointer (some ⟨p, 0, none⟩), .int .i64 width] w fun e w' => ∃ qv', e = .returned (.int .i64 (formatR D width).2) ∧ Mem w (foots [disk D p pg mb qv]) w' [disk (formatR D width).1 p pg mb qv'] := by
  obtain ⟨hok, M⟩ := disk_open hM
  clear hM
  go_enter Try.func5, Try.ntmps5
  refine wp_seq_k (fun K1 hK1 => ?_)
  refine wp_region_lit ?_
  refine pl M (y_assign (v := .int .i64 0) rfl rfl rfl) ?_
  simp only [Act.put, zq1, zq2, zq3]
  refine wpList_nil ?_
  refine hK1 _ _ ?_
  clear hK1
  refine wp_seq_k (fun K2 hK2 => ?_)
  refine wp_seq_k (fun K3 hK3 => ?_)
  refine wp_region_lit ?_
  refine pl M (y_move (v := .pointer (some ⟨p, 0, none⟩)) rfl rfl rfl) ?_
  simp only [Act.put, zq1, zq2, zq3]
  refine pl M (y_eqnil (r := false) rfl rfl rfl rfl Try.underlying24 rfl) ?_
  simp only [Act.put, zq1, zq2, zq3]
  refine wpList_nil ?_
  refine hK3 _ _ ?_
  clear hK3
  refine wp_cond_false rfl ?_
  refine wp_skip ?_
  refine hK2 _ _ ?_
  clear hK2
  refine wp_seq_k (fun K4 hK4 => ?_)
  refine wp_seq_k (fun K5 hK5 => ?_)
  refine wp_region_lit ?_
  refine pl M (y_move (v := .pointer (some ⟨p, 0, none⟩)) rfl rfl rfl) ?_
  simp only [Act.put, zq1, zq2, zq3]
  refine pe rfl (fun K hK => ?_)
  refine e_call 15 [.pointer (some ⟨p, 0, none⟩)] rfl rfl Try.call15 (power_any (Mem.here (L := [disk (D) p pg mb (qv)]) (R := []) (disk_close (D := D) (R := []) hok M)) ) ?_
  rintro e w6 ⟨rfl, H6⟩
  have M6 : Mem w _ w6 [blk p 57 (dC D pg mb qv), blk pg 77 (pagesC D.pages), lst 79 257 qv D.q.length (qC D.q), mapq mb D.q] := (disk_open (Mem.frame (Pre := [disk (D) p pg mb (qv)]) (Post := [disk (D) p pg mb (qv)]) (R := []) (disk_close (D := D) (R := []) hok M) H6)).2
  rw [(show (!D.dead) = true by rw [hd]; rfl)]
  refine ⟨_, rfl, ?_⟩
  refine hK.out _ _ ?_
  clear hK K
  simp only [Act.put, zq1, zq2, zq3]
  refine pl M6 (y_not rfl rfl rfl rfl) ?_
  simp only [Act.put, zq1, zq2, zq3]
  refine wpList_nil ?_
  refine hK5 _ _ ?_
  clear hK5
  refine wp_cond_false rfl ?_
  refine wp_skip ?_
  refine hK4 _ _ ?_
  clear hK4
  refine wp_seq_k (fun K7 hK7 => ?_)
  refine wp_seq_k (fun K8 hK8 => ?_)
  refine wp_region_lit ?_
  refine pl M6 (y_move (v := .int .i64 width) rfl rfl rfl) ?_
  simp only [Act.put, zq1, zq2, zq3]
  refine pl M6 (y_lss (b := false) rfl rfl rfl rfl (decide_eq_false (by omega))) ?_
  simp only [Act.put, zq1, zq2, zq3]
  refine pl M6 (y_move (v := .bool false) rfl rfl rfl) ?_
  simp only [Act.put, zq1, zq2, zq3]
  refine pl M6 (y_move (v := .int .i64 width) rfl rfl rfl) ?_
  simp only [Act.put, zq1, zq2, zq3]
  refine pl M6 (y_gtr (b := true) rfl rfl rfl rfl (decide_eq_true (by omega))) ?_
  simp only [Act.put, zq1, zq2, zq3]
  refine pl M6 (y_pickF (v := .bool true) rfl rfl rfl rfl) ?_
  simp only [Act.put, zq1, zq2, zq3]
  refine wpList_nil ?_
  refine hK8 _ _ ?_
  clear hK8
  refine wp_cond_true rfl ?_
  refine wp_seq_k (fun K9 hK9 => ?_)
  refine wp_region_lit ?_
  refine pl M6 (y_assign (v := .int .i64 1) rfl rfl rfl) ?_
  simp only [Act.put, zq1, zq2, zq3]
  refine wpList_nil ?_
  refine hK9 _ _ ?_
  clear hK9
  refine wp_ret ?_
  try simp only [Exit.inBlock, Exit.then]
  refine bodyPost_ret (v := .int .i64 1) (res1 rfl rfl) rfl ?_
  have hd' : ¬ D.dead = true := by rw [hd]; decide
  have e1 : formatR D width = (D, 1) := by unfold formatR; rw [if_neg hd', if_pos (by omega)]
  rw [e1]
  exact ⟨_, rfl, disk_close hok M6⟩
set_option maxRecDepth 100000 in
set_option maxHeartbeats 4000000 in
theorem format_taken {D : DV} {p pg mb : Nat} {qv : Value} {w : World} (hM : Mem w (foots [disk D p pg mb qv]) w [disk D p pg mb qv]) (width : Int) (hq : D.q.length ≤ 400000000000) (hd : D.dead = false) (hw : 1 ≤ width ∧ width ≤ 32) (h5 : slotsE D ≠ 55) : Calls Try.prog 5 #[.pointer (some ⟨p, 0, none⟩), .int .i64 width] w fun e w' => ∃ qv', e = .returned (.int .i64 (formatR D width).2) ∧ Mem w (foots [disk D p pg mb qv]) w' [disk (formatR D width).1 p pg mb qv'] := by
  obtain ⟨hok, M⟩ := disk_open hM
  clear hM
  have hd' : ¬ D.dead = true := by rw [hd]; decide
  obtain ⟨sp1, sp2, sok⟩ := slotsD_facts D hok
  have hlo := hok.lo
  have hhi := hok.hi
  go_enter Try.func5, Try.ntmps5
  refine wp_seq_k (fun K1 hK1 => ?_)
  refine wp_region_lit ?_
  refine pl M (y_assign (v := .int .i64 0) rfl rfl rfl) ?_
  simp only [Act.put, zq1, zq2, zq3]
  refine wpList_nil ?_
  refine hK1 _ _ ?_
  clear hK1
  refine wp_seq_k (fun K2 hK2 => ?_)
  refine wp_seq_k (fun K3 hK3 => ?_)
  refine wp_region_lit ?_
  refine pl M (y_move (v := .pointer (some ⟨p, 0, none⟩)) rfl rfl rfl) ?_
  simp only [Act.put, zq1, zq2, zq3]
  refine pl M (y_eqnil (r := false) rfl rfl rfl rfl Try.underlying24 rfl) ?_
  simp only [Act.put, zq1, zq2, zq3]
  refine wpList_nil ?_
  refine hK3 _ _ ?_
  clear hK3
  refine wp_cond_false rfl ?_
  refine wp_skip ?_
  refine hK2 _ _ ?_
  clear hK2
  refine wp_seq_k (fun K4 hK4 => ?_)
  refine wp_seq_k (fun K5 hK5 => ?_)
  refine wp_region_lit ?_
  refine pl M (y_move (v := .pointer (some ⟨p, 0, none⟩)) rfl rfl rfl) ?_
  simp only [Act.put, zq1, zq2, zq3]
  refine pe rfl (fun K hK => ?_)
  refine e_call 15 [.pointer (some ⟨p, 0, none⟩)] rfl rfl Try.call15 (power_any (Mem.here (L := [disk (D) p pg mb (qv)]) (R := []) (disk_close (D := D) (R := []) hok M)) ) ?_
  rintro e w6 ⟨rfl, H6⟩
  have M6 : Mem w _ w6 [blk p 57 (dC D pg mb qv), blk pg 77 (pagesC D.pages), lst 79 257 qv D.q.length (qC D.q), mapq mb D.q] := (disk_open (Mem.frame (Pre := [disk (D) p pg mb (qv)]) (Post := [disk (D) p pg mb (qv)]) (R := []) (disk_close (D := D) (R := []) hok M) H6)).2
  rw [(show (!D.dead) = true by rw [hd]; rfl)]
  refine ⟨_, rfl, ?_⟩
  refine hK.out _ _ ?_
  clear hK K
  simp only [Act.put, zq1, zq2, zq3]
  refine pl M6 (y_not rfl rfl rfl rfl) ?_
  simp only [Act.put, zq1, zq2, zq3]
  refine wpList_nil ?_
  refine hK5 _ _ ?_
  clear hK5
  refine wp_cond_false rfl ?_
  refine wp_skip ?_
  refine hK4 _ _ ?_
  clear hK4
  refine wp_seq_k (fun K7 hK7 => ?_)
  refine wp_seq_k (fun K8 hK8 => ?_)
  refine wp_region_lit ?_
  refine pl M6 (y_move (v := .int .i64 width) rfl rfl rfl) ?_
  simp only [Act.put, zq1, zq2, zq3]
  refine pl M6 (y_lss (b := false) rfl rfl rfl rfl (decide_eq_false (by omega))) ?_
  simp only [Act.put, zq1, zq2, zq3]
  refine pl M6 (y_move (v := .bool false) rfl rfl rfl) ?_
  simp only [Act.put, zq1, zq2, zq3]
  refine pl M6 (y_move (v := .int .i64 width) rfl rfl rfl) ?_
  simp only [Act.put, zq1, zq2, zq3]
  refine pl M6 (y_gtr (b := false) rfl rfl rfl rfl (decide_eq_false (by omega))) ?_
  simp only [Act.put, zq1, zq2, zq3]
  refine pl M6 (y_pickF (v := .bool false) rfl rfl rfl rfl) ?_
  simp only [Act.put, zq1, zq2, zq3]
  refine wpList_nil ?_
  refine hK8 _ _ ?_
  clear hK8
  refine wp_cond_false rfl ?_
  refine wp_skip ?_
  refine hK7 _ _ ?_
  clear hK7
  refine wp_seq_k (fun K9 hK9 => ?_)
  refine wp_seq_k (fun K10 hK10 => ?_)
  refine wp_region_lit ?_
  refine pl M6 (y_move (v := .pointer (some ⟨p, 0, none⟩)) rfl rfl rfl) ?_
  simp only [Act.put, zq1, zq2, zq3]
  refine pe rfl (fun K hK => ?_)
  refine e_call 16 [.pointer (some ⟨p, 0, none⟩)] rfl rfl Try.call16 (slots_any (Mem.here (L := [disk (D) p pg mb (qv)]) (R := []) (disk_close (D := D) (R := []) hok M6)) ) ?_
  rintro e w11 ⟨rfl, H11⟩
  have M11 : Mem w _ w11 [blk p 57 (dC (slotsD D) pg mb qv), blk pg 77 (pagesC (slotsD D).pages), lst 79 257 qv ((slotsD D).q.length) (qC (slotsD D).q), mapq mb ((slotsD D).q)] := (disk_open (Mem.frame (Pre := [disk (D) p pg mb (qv)]) (Post := [disk (slotsD D) p pg mb (qv)]) (R := []) (disk_close (D := D) (R := []) hok M6) H11)).2
  refine ⟨_, rfl, ?_⟩
  refine hK.out _ _ ?_
  clear hK K
  simp only [Act.put, zq1, zq2, zq3]
  refine pl M11 (y_move (v := .tuple #[.agg ((supC (slotsS D))).toArray, .int .i64 (slotsE D)]) rfl rfl rfl) ?_
  simp only [Act.put, zq1, zq2, zq3]
  refine pl M11 (y_ext (v := .agg ((supC (slotsS D))).toArray) rfl rfl rfl rfl) ?_
  simp only [Act.put, zq1, zq2, zq3]
  refine pl M11 (y_ext (v := .int .i64 (slotsE D)) rfl rfl rfl rfl) ?_
  simp only [Act.put, zq1, zq2, zq3]
  refine pe rfl (fun K hK => ?_)
  refine e_alloc M11 (supC noSup) rfl zero_sup ?_
  intro g5 w12 (M12 : Mem w _ w12 [blk g5 60 (supC noSup), blk p 57 (dC (slotsD D) pg mb qv), blk pg 77 (pagesC (slotsD D).pages), lst 79 257 qv ((slotsD D).q.length) (qC (slotsD D).q), mapq mb ((slotsD D).q)])
  clear M11
  refine hK.out _ _ ?_
  clear hK K
  simp only [Act.put, zq1, zq2, zq3]
  refine pe rfl (fun K hK => ?_)
  refine e_storew M12 0 (cs := (supC (slotsS D))) rfl rfl rfl rfl (size_sup _) (sup_all _) rfl (rfl) ?_
  intro w13 (M13 : Mem w _ w13 [blk g5 60 (supC (slotsS D)), blk p 57 (dC (slotsD D) pg mb qv), blk pg 77 (pagesC (slotsD D).pages), lst 79 257 qv ((slotsD D).q.length) (qC (slotsD D).q), mapq mb ((slotsD D).q)])
  clear M12
  have M14 : Mem w _ w13 [blk p 57 (dC (slotsD D) pg mb qv), blk pg 77 (pagesC (slotsD D).pages), lst 79 257 qv ((slotsD D).q.length) (qC (slotsD D).q), mapq mb ((slotsD D).q)] := M13.arr [1, 2, 3, 4] (by decide)
  clear M13
  refine hK.out _ _ ?_
  clear hK K
  simp only [Act.put, zq1, zq2, zq3]
  refine pl M14 (y_assign (v := .int .i64 (slotsE D)) rfl rfl rfl) ?_
  simp only [Act.put, zq1, zq2, zq3]
  refine wpList_nil ?_
  refine hK10 _ _ ?_
  clear hK10
  refine wp_seq_k (fun K15 hK15 => ?_)
  refine wp_region_lit ?_
  refine pl M14 (y_move (v := .int .i64 (slotsE D)) rfl rfl rfl) ?_
  simp only [Act.put, zq1, zq2, zq3]
  refine pl M14 (y_neq (b := true) rfl rfl rfl rfl (by rw [decide_eq_false (by omega)]; rfl)) ?_
  simp only [Act.put, zq1, zq2, zq3]
  refine wpList_nil ?_
  refine hK15 _ _ ?_
  clear hK15
  refine wp_cond_true rfl ?_
  refine wp_seq_k (fun K16 hK16 => ?_)
  refine wp_region_lit ?_
  refine pl M14 (y_assign (v := .int .i64 60) rfl rfl rfl) ?_
  simp only [Act.put, zq1, zq2, zq3]
  refine wpList_nil ?_
  refine hK16 _ _ ?_
  clear hK16
  refine wp_ret ?_
  try simp only [Exit.inBlock, Exit.then]
  refine bodyPost_ret (v := .int .i64 60) (res1 rfl rfl) rfl ?_
  have e1 : formatR D width = (slotsD D, 60) := by unfold formatR; rw [if_neg hd', if_neg (by omega), if_pos h5]
  rw [e1]
  exact ⟨_, rfl, disk_close sok M14⟩
set_option maxRecDepth 100000 in
set_option maxHeartbeats 4000000 in
theorem format_ok {D : DV} {p pg mb : Nat} {qv : Value} {w : World} (hM : Mem w (foots [disk D p pg mb qv]) w [disk D p pg mb qv]) (width : Int) (hq : D.q.length ≤ 400000000000) (hd : D.dead = false) (hw : 1 ≤ width ∧ width ≤ 32) (h5 : slotsE D = 55) : Calls Try.prog 5 #[.pointer (some ⟨p, 0, none⟩), .int .i64 width] w fun e w' => ∃ qv', e = .returned (.int .i64 (formatR D width).2) ∧ Mem w (foots [disk D p pg mb qv]) w' [disk (formatR D width).1 p pg mb qv'] := by
  obtain ⟨hok, M⟩ := disk_open hM
  clear hM
  have hd' : ¬ D.dead = true := by rw [hd]; decide
  obtain ⟨sp1, sp2, sok⟩ := slotsD_facts D hok
  have hlo := hok.lo
  have hhi := hok.hi
  have hv1 : ValidS (⟨width, 0, 2, 0, D.pages.length⟩ : SupV) := valid_new hw ⟨hlo, hhi⟩ (by omega)
  have hv2 : ValidS (⟨width, 1, 2, 0, D.pages.length⟩ : SupV) := valid_new hw ⟨hlo, hhi⟩ (by omega)
  go_enter Try.func5, Try.ntmps5
  refine wp_seq_k (fun K1 hK1 => ?_)
  refine wp_region_lit ?_
  refine pl M (y_assign (v := .int .i64 0) rfl rfl rfl) ?_
  simp only [Act.put, zq1, zq2, zq3]
  refine wpList_nil ?_
  refine hK1 _ _ ?_
  clear hK1
  refine wp_seq_k (fun K2 hK2 => ?_)
  refine wp_seq_k (fun K3 hK3 => ?_)
  refine wp_region_lit ?_
  refine pl M (y_move (v := .pointer (some ⟨p, 0, none⟩)) rfl rfl rfl) ?_
  simp only [Act.put, zq1, zq2, zq3]
  refine pl M (y_eqnil (r := false) rfl rfl rfl rfl Try.underlying24 rfl) ?_
  simp only [Act.put, zq1, zq2, zq3]
  refine wpList_nil ?_
  refine hK3 _ _ ?_
  clear hK3
  refine wp_cond_false rfl ?_
  refine wp_skip ?_
  refine hK2 _ _ ?_
  clear hK2
  refine wp_seq_k (fun K4 hK4 => ?_)
  refine wp_seq_k (fun K5 hK5 => ?_)
  refine wp_region_lit ?_
  refine pl M (y_move (v := .pointer (some ⟨p, 0, none⟩)) rfl rfl rfl) ?_
  simp only [Act.put, zq1, zq2, zq3]
  refine pe rfl (fun K hK => ?_)
  refine e_call 15 [.pointer (some ⟨p, 0, none⟩)] rfl rfl Try.call15 (power_any (Mem.here (L := [disk (D) p pg mb (qv)]) (R := []) (disk_close (D := D) (R := []) hok M)) ) ?_
  rintro e w6 ⟨rfl, H6⟩
  have M6 : Mem w _ w6 [blk p 57 (dC D pg mb qv), blk pg 77 (pagesC D.pages), lst 79 257 qv D.q.length (qC D.q), mapq mb D.q] := (disk_open (Mem.frame (Pre := [disk (D) p pg mb (qv)]) (Post := [disk (D) p pg mb (qv)]) (R := []) (disk_close (D := D) (R := []) hok M) H6)).2
  rw [(show (!D.dead) = true by rw [hd]; rfl)]
  refine ⟨_, rfl, ?_⟩
  refine hK.out _ _ ?_
  clear hK K
  simp only [Act.put, zq1, zq2, zq3]
  refine pl M6 (y_not rfl rfl rfl rfl) ?_
  simp only [Act.put, zq1, zq2, zq3]
  refine wpList_nil ?_
  refine hK5 _ _ ?_
  clear hK5
  refine wp_cond_false rfl ?_
  refine wp_skip ?_
  refine hK4 _ _ ?_
  clear hK4
  refine wp_seq_k (fun K7 hK7 => ?_)
  refine wp_seq_k (fun K8 hK8 => ?_)
  refine wp_region_lit ?_
  refine pl M6 (y_move (v := .int .i64 width) rfl rfl rfl) ?_
  simp only [Act.put, zq1, zq2, zq3]
  refine pl M6 (y_lss (b := false) rfl rfl rfl rfl (decide_eq_false (by omega))) ?_
  simp only [Act.put, zq1, zq2, zq3]
  refine pl M6 (y_move (v := .bool false) rfl rfl rfl) ?_
  simp only [Act.put, zq1, zq2, zq3]
  refine pl M6 (y_move (v := .int .i64 width) rfl rfl rfl) ?_
  simp only [Act.put, zq1, zq2, zq3]
  refine pl M6 (y_gtr (b := false) rfl rfl rfl rfl (decide_eq_false (by omega))) ?_
  simp only [Act.put, zq1, zq2, zq3]
  refine pl M6 (y_pickF (v := .bool false) rfl rfl rfl rfl) ?_
  simp only [Act.put, zq1, zq2, zq3]
  refine wpList_nil ?_
  refine hK8 _ _ ?_
  clear hK8
  refine wp_cond_false rfl ?_
  refine wp_skip ?_
  refine hK7 _ _ ?_
  clear hK7
  refine wp_seq_k (fun K9 hK9 => ?_)
  refine wp_seq_k (fun K10 hK10 => ?_)
  refine wp_region_lit ?_
  refine pl M6 (y_move (v := .pointer (some ⟨p, 0, none⟩)) rfl rfl rfl) ?_
  simp only [Act.put, zq1, zq2, zq3]
  refine pe rfl (fun K hK => ?_)
  refine e_call 16 [.pointer (some ⟨p, 0, none⟩)] rfl rfl Try.call16 (slots_any (Mem.here (L := [disk (D) p pg mb (qv)]) (R := []) (disk_close (D := D) (R := []) hok M6)) ) ?_
  rintro e w11 ⟨rfl, H11⟩
  have M11 : Mem w _ w11 [blk p 57 (dC (slotsD D) pg mb qv), blk pg 77 (pagesC (slotsD D).pages), lst 79 257 qv ((slotsD D).q.length) (qC (slotsD D).q), mapq mb ((slotsD D).q)] := (disk_open (Mem.frame (Pre := [disk (D) p pg mb (qv)]) (Post := [disk (slotsD D) p pg mb (qv)]) (R := []) (disk_close (D := D) (R := []) hok M6) H11)).2
  refine ⟨_, rfl, ?_⟩
  refine hK.out _ _ ?_
  clear hK K
  simp only [Act.put, zq1, zq2, zq3]
  refine pl M11 (y_move (v := .tuple #[.agg ((supC (slotsS D))).toArray, .int .i64 (slotsE D)]) rfl rfl rfl) ?_
  simp only [Act.put, zq1, zq2, zq3]
  refine pl M11 (y_ext (v := .agg ((supC (slotsS D))).toArray) rfl rfl rfl rfl) ?_
  simp only [Act.put, zq1, zq2, zq3]
  refine pl M11 (y_ext (v := .int .i64 (slotsE D)) rfl rfl rfl rfl) ?_
  simp only [Act.put, zq1, zq2, zq3]
  refine pe rfl (fun K hK => ?_)
  refine e_alloc M11 (supC noSup) rfl zero_sup ?_
  intro g5 w12 (M12 : Mem w _ w12 [blk g5 60 (supC noSup), blk p 57 (dC (slotsD D) pg mb qv), blk pg 77 (pagesC (slotsD D).pages), lst 79 257 qv ((slotsD D).q.length) (qC (slotsD D).q), mapq mb ((slotsD D).q)])
  clear M11
  refine hK.out _ _ ?_
  clear hK K
  simp only [Act.put, zq1, zq2, zq3]
  refine pe rfl (fun K hK => ?_)
  refine e_storew M12 0 (cs := (supC (slotsS D))) rfl rfl rfl rfl (size_sup _) (sup_all _) rfl (rfl) ?_
  intro w13 (M13 : Mem w _ w13 [blk g5 60 (supC (slotsS D)), blk p 57 (dC (slotsD D) pg mb qv), blk pg 77 (pagesC (slotsD D).pages), lst 79 257 qv ((slotsD D).q.length) (qC (slotsD D).q), mapq mb ((slotsD D).q)])
  clear M12
  have M14 : Mem w _ w13 [blk p 57 (dC (slotsD D) pg mb qv), blk pg 77 (pagesC (slotsD D).pages), lst 79 257 qv ((slotsD D).q.length) (qC (slotsD D).q), mapq mb ((slotsD D).q)] := M13.arr [1, 2, 3, 4] (by decide)
  clear M13
  refine hK.out _ _ ?_
  clear hK K
  simp only [Act.put, zq1, zq2, zq3]
  refine pl M14 (y_assign (v := .int .i64 (slotsE D)) rfl rfl rfl) ?_
  simp only [Act.put, zq1, zq2, zq3]
  refine wpList_nil ?_
  refine hK10 _ _ ?_
  clear hK10
  refine wp_seq_k (fun K15 hK15 => ?_)
  refine wp_region_lit ?_
  refine pl M14 (y_move (v := .int .i64 (slotsE D)) rfl rfl rfl) ?_
  simp only [Act.put, zq1, zq2, zq3]
  refine pl M14 (y_neq (b := false) rfl rfl rfl rfl (by rw [decide_eq_true h5]; rfl)) ?_
  simp only [Act.put, zq1, zq2, zq3]
  refine wpList_nil ?_
  refine hK15 _ _ ?_
  clear hK15
  refine wp_cond_false rfl ?_
  refine wp_skip ?_
  refine hK9 _ _ ?_
  clear hK9
  refine wp_seq_k (fun K16 hK16 => ?_)
  refine wp_region_lit ?_
  refine pl M14 (y_move (v := .int .i64 width) rfl rfl rfl) ?_
  simp only [Act.put, zq1, zq2, zq3]
  refine pl M14 (y_move (v := .pointer (some ⟨p, 0, none⟩)) rfl rfl rfl) ?_
  simp only [Act.put, zq1, zq2, zq3]
  refine pe rfl (fun K hK => ?_)
  refine e_call 17 [.pointer (some ⟨p, 0, none⟩)] rfl rfl Try.call17 (pages_any (Mem.here (L := [disk (slotsD D) p pg mb (qv)]) (R := []) (disk_close (D := slotsD D) (R := []) sok M14)) ) ?_
  rintro e w17 ⟨rfl, H17⟩
  have M17 : Mem w _ w17 [blk p 57 (dC (slotsD D) pg mb qv), blk pg 77 (pagesC (slotsD D).pages), lst 79 257 qv ((slotsD D).q.length) (qC (slotsD D).q), mapq mb ((slotsD D).q)] := (disk_open (Mem.frame (Pre := [disk (slotsD D) p pg mb (qv)]) (Post := [disk (slotsD D) p pg mb (qv)]) (R := []) (disk_close (D := slotsD D) (R := []) sok M14) H17)).2
  refine ⟨_, rfl, ?_⟩
  refine hK.out _ _ ?_
  clear hK K
  simp only [Act.put, zq1, zq2, zq3]
  refine pl M17 (y_build (ps := [(0, .tmp 27), (2, .const (.int .i64 2)), (4, .tmp 29)]) (pv := [(0, .int .i64 width), (2, .int .i64 2), (4, .int .i64 ((slotsD D).pages.length : Int))]) (cs := (supC (⟨width, 0, 2, 0, D.pages.length⟩ : SupV))) rfl rfl rfl (by rw [← sp1]; kernel_rfl)) ?_
  simp only [Act.put, zq1, zq2, zq3]
  refine pe rfl (fun K hK => ?_)
  refine e_alloc M17 (supC noSup) rfl zero_sup ?_
  intro g7 w18 (M18 : Mem w _ w18 [blk g7 60 (supC noSup), blk p 57 (dC (slotsD D) pg mb qv), blk pg 77 (pagesC (slotsD D).pages), lst 79 257 qv ((slotsD D).q.length) (qC (slotsD D).q), mapq mb ((slotsD D).q)])
  clear M17
  refine hK.out _ _ ?_
  clear hK K
  simp only [Act.put, zq1, zq2, zq3]
  refine pe rfl (fun K hK => ?_)
  refine e_storew M18 0 (cs := (supC (⟨width, 0, 2, 0, D.pages.length⟩ : SupV))) rfl rfl rfl rfl (size_sup _) (sup_all _) rfl (rfl) ?_
  intro w19 (M19 : Mem w _ w19 [blk g7 60 (supC (⟨width, 0, 2, 0, D.pages.length⟩ : SupV)), blk p 57 (dC (slotsD D) pg mb qv), blk pg 77 (pagesC (slotsD D).pages), lst 79 257 qv ((slotsD D).q.length) (qC (slotsD D).q), mapq mb ((slotsD D).q)])
  clear M18
  refine hK.out _ _ ?_
  clear hK K
  simp only [Act.put, zq1, zq2, zq3]
  refine wpList_nil ?_
  refine hK16 _ _ ?_
  clear hK16
  refine wp_seq_k (fun K20 hK20 => ?_)
  refine wp_region_lit ?_
  refine pl M19 (y_loadb (cs := (supC (⟨width, 0, 2, 0, D.pages.length⟩ : SupV))) rfl rfl rfl Try.underlying60 rfl (size_sup _) (fun W hW => hW.get 0 rfl) (List.take_of_length_le (Nat.le_refl _))) ?_
  simp only [Act.put, zq1, zq2, zq3]
  refine pe rfl (fun K hK => ?_)
  refine e_alloc M19 (supC noSup) rfl zero_sup ?_
  intro g8 w21 (M21 : Mem w _ w21 [blk g8 60 (supC noSup), blk g7 60 (supC (⟨width, 0, 2, 0, D.pages.length⟩ : SupV)), blk p 57 (dC (slotsD D) pg mb qv), blk pg 77 (pagesC (slotsD D).pages), lst 79 257 qv ((slotsD D).q.length) (qC (slotsD D).q), mapq mb ((slotsD D).q)])
  clear M19
  refine hK.out _ _ ?_
  clear hK K
  simp only [Act.put, zq1, zq2, zq3]
  refine pe rfl (fun K hK => ?_)
  refine e_storew M21 0 (cs := (supC (⟨width, 0, 2, 0, D.pages.length⟩ : SupV))) rfl rfl rfl rfl (size_sup _) (sup_all _) rfl (rfl) ?_
  intro w22 (M22 : Mem w _ w22 [blk g8 60 (supC (⟨width, 0, 2, 0, D.pages.length⟩ : SupV)), blk g7 60 (supC (⟨width, 0, 2, 0, D.pages.length⟩ : SupV)), blk p 57 (dC (slotsD D) pg mb qv), blk pg 77 (pagesC (slotsD D).pages), lst 79 257 qv ((slotsD D).q.length) (qC (slotsD D).q), mapq mb ((slotsD D).q)])
  clear M21
  refine hK.out _ _ ?_
  clear hK K
  simp only [Act.put, zq1, zq2, zq3]
  refine wpList_nil ?_
  refine hK20 _ _ ?_
  clear hK20
  refine wp_seq_k (fun K23 hK23 => ?_)
  refine wp_region_lit ?_
  refine pl M22 (y_fa (r := 1) rfl rfl rfl Try.underlying60 rfl Try.sizeOf3 rfl) ?_
  simp only [Act.put, zq1, zq2, zq3]
  refine pe rfl (fun K hK => ?_)
  refine e_store M22 0 (v := .int .i64 1) rfl rfl rfl rfl rfl rfl Try.sizeOf3 rfl (show (1 : Nat) < 5 by decide) ?_
  intro w24 (M24 : Mem w _ w24 [blk g8 60 (supC (⟨width, 1, 2, 0, D.pages.length⟩ : SupV)), blk g7 60 (supC (⟨width, 0, 2, 0, D.pages.length⟩ : SupV)), blk p 57 (dC (slotsD D) pg mb qv), blk pg 77 (pagesC (slotsD D).pages), lst 79 257 qv ((slotsD D).q.length) (qC (slotsD D).q), mapq mb ((slotsD D).q)])
  clear M22
  refine hK.out _ _ ?_
  clear hK K
  simp only [Act.put, zq1, zq2, zq3]
  refine wpList_nil ?_
  refine hK23 _ _ ?_
  clear hK23
  refine wp_seq_k (fun K25 hK25 => ?_)
  have M26 := M24.drew
  refine held_begin (fun W => Mem w (foots [disk D p pg mb qv]) W [blk g8 60 (supC (⟨width, 1, 2, 0, D.pages.length⟩ : SupV)), blk g7 60 (supC (⟨width, 0, 2, 0, D.pages.length⟩ : SupV))]) (by kernel_rfl) (M26.arr [0, 1] (by decide)) (fun hS => ?_)
  refine held_take 0 _ rfl (by kernel_rfl) (by kernel_rfl) (by kernel_rfl) (y_move (v := .pointer (some ⟨p, 0, none⟩)) rfl rfl rfl) hS ?_
  simp only [Act.put, zq1, zq2, zq3]
  refine held_take 1 _ rfl (by kernel_rfl) (by kernel_rfl) (by kernel_rfl) (y_loadb (cs := (supC (⟨width, 0, 2, 0, D.pages.length⟩ : SupV))) rfl rfl rfl Try.underlying60 rfl (size_sup _) (fun W hW => hW.get 1 rfl) (List.take_of_length_le (Nat.le_refl _))) hS ?_
  simp only [Act.put, zq1, zq2, zq3]
  refine held_take 3 _ rfl (by kernel_rfl) (by kernel_rfl) (by kernel_rfl) (y_move (v := .pointer (some ⟨p, 0, none⟩)) rfl rfl rfl) hS ?_
  simp only [Act.put, zq1, zq2, zq3]
  refine held_take 4 _ rfl (by kernel_rfl) (by kernel_rfl) (by kernel_rfl) (y_func (fv := [.pointer (some ⟨p, 0, none⟩)]) (cv := []) rfl rfl rfl rfl) hS ?_
  simp only [Act.put, zq1, zq2, zq3]
  refine held_take 5 _ rfl (by kernel_rfl) (by kernel_rfl) (by kernel_rfl) (y_move (v := .pointer (some ⟨p, 0, none⟩)) rfl rfl rfl) hS ?_
  simp only [Act.put, zq1, zq2, zq3]
  refine held_take 6 _ rfl (by kernel_rfl) (by kernel_rfl) (by kernel_rfl) (y_loadb (cs := supC (⟨width, 1, 2, 0, D.pages.length⟩ : SupV)) rfl rfl rfl Try.underlying60 rfl (size_sup _) (fun W hW => hW.get 0 rfl) (List.take_of_length_le (Nat.le_refl _))) hS ?_
  simp only [Act.put, zq1, zq2, zq3]
  refine held_take 8 _ rfl (by kernel_rfl) (by kernel_rfl) (by kernel_rfl) (y_move (v := .pointer (some ⟨p, 0, none⟩)) rfl rfl rfl) hS ?_
  simp only [Act.put, zq1, zq2, zq3]
  refine held_take 9 _ rfl (by kernel_rfl) (by kernel_rfl) (by kernel_rfl) (y_func (fv := [.pointer (some ⟨p, 0, none⟩)]) (cv := []) rfl rfl rfl rfl) hS ?_
  simp only [Act.put, zq1, zq2, zq3]
  refine held_step 2 (by kernel_rfl) rfl (by rfl) (fun K hK => ?_)
  refine e_call 19 [.pointer (some ⟨p, 0, none⟩), .agg ((supC (⟨width, 0, 2, 0, D.pages.length⟩ : SupV))).toArray] rfl rfl Try.call19 (lay_any p (⟨width, 0, 2, 0, D.pages.length⟩ : SupV) _) ?_
  rintro e w27 ⟨gs1, gd1, rfl, H⟩
  have M27 : Mem w _ w27 [blk gs1 60 (supC (⟨width, 0, 2, 0, D.pages.length⟩ : SupV)), blk gd1 24 ([.pointer (some ⟨p, 0, none⟩)]), blk g8 60 (supC (⟨width, 1, 2, 0, D.pages.length⟩ : SupV)), blk g7 60 (supC (⟨width, 0, 2, 0, D.pages.length⟩ : SupV)), blk p 57 (dC (slotsD D) pg mb qv), blk pg 77 (pagesC (slotsD D).pages), lst 79 257 qv ((slotsD D).q.length) (qC (slotsD D).q), mapq mb ((slotsD D).q)] := M26.step H
  refine ⟨_, rfl, ?_⟩
  refine hK.out _ _ (M27.arr [2, 3] (by decide)) (fun hS => ?_)
  clear hK K
  simp only [Act.put, zq1, zq2, zq3]
  refine held_step 7 (by kernel_rfl) rfl (by rfl) (fun K hK => ?_)
  refine e_call 19 [.pointer (some ⟨p, 0, none⟩), .agg (supC (⟨width, 1, 2, 0, D.pages.length⟩ : SupV)).toArray] rfl rfl Try.call19 (lay_any p (⟨width, 1, 2, 0, D.pages.length⟩ : SupV) _) ?_
  rintro e w28 ⟨gs2, gd2, rfl, H⟩
  have M28 : Mem w _ w28 [blk gs2 60 (supC (⟨width, 1, 2, 0, D.pages.length⟩ : SupV)), blk gd2 24 ([.pointer (some ⟨p, 0, none⟩)]), blk gs1 60 (supC (⟨width, 0, 2, 0, D.pages.length⟩ : SupV)), blk gd1 24 ([.pointer (some ⟨p, 0, none⟩)]), blk g8 60 (supC (⟨width, 1, 2, 0, D.pages.length⟩ : SupV)), blk g7 60 (supC (⟨width, 0, 2, 0, D.pages.length⟩ : SupV)), blk p 57 (dC (slotsD D) pg mb qv), blk pg 77 (pagesC (slotsD D).pages), lst 79 257 qv ((slotsD D).q.length) (qC (slotsD D).q), mapq mb ((slotsD D).q)] := M27.step H
  refine ⟨_, rfl, ?_⟩
  refine hK.out _ _ (M28.arr [4, 5] (by decide)) (fun hS => ?_)
  clear hK K
  simp only [Act.put, zq1, zq2, zq3]
  refine held_step 10 (by kernel_rfl) rfl (by rfl) (fun K hK => ?_)
  refine e_bslice M28 ([.func (.func 34) #[] #[.pointer (some ⟨gs1, 0, none⟩), .pointer (some ⟨gd1, 0, none⟩)], .func (.func 20) #[.pointer (some ⟨p, 0, none⟩)] #[], .func (.func 34) #[] #[.pointer (some ⟨gs2, 0, none⟩), .pointer (some ⟨gd2, 0, none⟩)], .func (.func 20) #[.pointer (some ⟨p, 0, none⟩)] #[]]) (pv := [(0, .func (.func 34) #[] #[.pointer (some ⟨gs1, 0, none⟩), .pointer (some ⟨gd1, 0, none⟩)]), (1, .func (.func 20) #[.pointer (some ⟨p, 0, none⟩)] #[]), (2, .func (.func 34) #[] #[.pointer (some ⟨gs2, 0, none⟩), .pointer (some ⟨gd2, 0, none⟩)]), (3, .func (.func 20) #[.pointer (some ⟨p, 0, none⟩)] #[])]) rfl rfl Try.underlying86 Try.sizeOf66 Try.zeroValue66 (by decide) (by kernel_rfl) ?_
  intro g29 w30 (M30 : Mem w _ w30 [blk g29 66 ([.func (.func 34) #[] #[.pointer (some ⟨gs1, 0, none⟩), .pointer (some ⟨gd1, 0, none⟩)], .func (.func 20) #[.pointer (some ⟨p, 0, none⟩)] #[], .func (.func 34) #[] #[.pointer (some ⟨gs2, 0, none⟩), .pointer (some ⟨gd2, 0, none⟩)], .func (.func 20) #[.pointer (some ⟨p, 0, none⟩)] #[]]), blk gs2 60 (supC (⟨width, 1, 2, 0, D.pages.length⟩ : SupV)), blk gd2 24 ([.pointer (some ⟨p, 0, none⟩)]), blk gs1 60 (supC (⟨width, 0, 2, 0, D.pages.length⟩ : SupV)), blk gd1 24 ([.pointer (some ⟨p, 0, none⟩)]), blk g8 60 (supC (⟨width, 1, 2, 0, D.pages.length⟩ : SupV)), blk g7 60 (supC (⟨width, 0, 2, 0, D.pages.length⟩ : SupV)), blk p 57 (dC (slotsD D) pg mb qv), blk pg 77 (pagesC (slotsD D).pages), lst 79 257 qv ((slotsD D).q.length) (qC (slotsD D).q), mapq mb ((slotsD D).q)])
  clear M28
  refine hK.out _ _ (M30.arr [5, 6] (by decide)) (fun hS => ?_)
  clear hK K
  simp only [Act.put, zq1, zq2, zq3]
  have M31 : Mem w _ w30 [blk p 57 (dC (slotsD D) pg mb qv), blk pg 77 (pagesC (slotsD D).pages), lst 79 257 qv ((slotsD D).q.length) (qC (slotsD D).q), mapq mb ((slotsD D).q), blk g29 66 ([.func (.func 34) #[] #[.pointer (some ⟨gs1, 0, none⟩), .pointer (some ⟨gd1, 0, none⟩)], .func (.func 20) #[.pointer (some ⟨p, 0, none⟩)] #[], .func (.func 34) #[] #[.pointer (some ⟨gs2, 0, none⟩), .pointer (some ⟨gd2, 0, none⟩)], .func (.func 20) #[.pointer (some ⟨p, 0, none⟩)] #[]]), blk gs2 60 (supC (⟨width, 1, 2, 0, D.pages.length⟩ : SupV)), blk gd2 24 ([.pointer (some ⟨p, 0, none⟩)]), blk gs1 60 (supC (⟨width, 0, 2, 0, D.pages.length⟩ : SupV)), blk gd1 24 ([.pointer (some ⟨p, 0, none⟩)]), blk g8 60 (supC (⟨width, 1, 2, 0, D.pages.length⟩ : SupV)), blk g7 60 (supC (⟨width, 0, 2, 0, D.pages.length⟩ : SupV))] := M30.arr [7, 8, 9, 10, 0, 1, 2, 3, 4, 5, 6] (by decide)
  clear M30
  refine held_step 11 (by kernel_rfl) rfl (by rfl) (fun K hK => ?_)
  have hino := fun (W0 : World) (qv0 : Value) (hM0 : Mem w (foots [disk D p pg mb qv]) W0 (disk (slotsD D) p pg mb qv0 :: [blk g29 66 ([.func (.func 34) #[] #[.pointer (some ⟨gs1, 0, none⟩), .pointer (some ⟨gd1, 0, none⟩)], .func (.func 20) #[.pointer (some ⟨p, 0, none⟩)] #[], .func (.func 34) #[] #[.pointer (some ⟨gs2, 0, none⟩), .pointer (some ⟨gd2, 0, none⟩)], .func (.func 20) #[.pointer (some ⟨p, 0, none⟩)] #[]]), blk gs2 60 (supC (⟨width, 1, 2, 0, D.pages.length⟩ : SupV)), blk gd2 24 ([.pointer (some ⟨p, 0, none⟩)]), blk gs1 60 (supC (⟨width, 0, 2, 0, D.pages.length⟩ : SupV)), blk gd1 24 ([.pointer (some ⟨p, 0, none⟩)]), blk g8 60 (supC (⟨width, 1, 2, 0, D.pages.length⟩ : SupV)), blk g7 60 (supC (⟨width, 0, 2, 0, D.pages.length⟩ : SupV))])) => disk_steps (p := p) (pg := pg) (mb := mb) (gt := g29) (X := [blk g29 66 ([.func (.func 34) #[] #[.pointer (some ⟨gs1, 0, none⟩), .pointer (some ⟨gd1, 0, none⟩)], .func (.func 20) #[.pointer (some ⟨p, 0, none⟩)] #[], .func (.func 34) #[] #[.pointer (some ⟨gs2, 0, none⟩), .pointer (some ⟨gd2, 0, none⟩)], .func (.func 20) #[.pointer (some ⟨p, 0, none⟩)] #[]]), blk gs2 60 (supC (⟨width, 1, 2, 0, D.pages.length⟩ : SupV)), blk gd2 24 ([.pointer (some ⟨p, 0, none⟩)]), blk gs1 60 (supC (⟨width, 0, 2, 0, D.pages.length⟩ : SupV)), blk gd1 24 ([.pointer (some ⟨p, 0, none⟩)]), blk g8 60 (supC (⟨width, 1, 2, 0, D.pages.length⟩ : SupV)), blk g7 60 (supC (⟨width, 0, 2, 0, D.pages.length⟩ : SupV))]) [(⟨34, [], [.pointer (some ⟨gs1, 0, none⟩), .pointer (some ⟨gd1, 0, none⟩)]⟩ : Stp), (⟨20, [.pointer (some ⟨p, 0, none⟩)], []⟩ : Stp), (⟨34, [], [.pointer (some ⟨gs2, 0, none⟩), .pointer (some ⟨gd2, 0, none⟩)]⟩ : Stp), (⟨20, [.pointer (some ⟨p, 0, none⟩)], []⟩ : Stp)] [wS (⟨width, 0, 2, 0, D.pages.length⟩ : SupV), yS, wS (⟨width, 1, 2, 0, D.pages.length⟩ : SupV), yS] rfl (by simp)
    (fun W hX i x hx => by
      have hb : (blk g29 66 ([.func (.func 34) #[] #[.pointer (some ⟨gs1, 0, none⟩), .pointer (some ⟨gd1, 0, none⟩)], .func (.func 20) #[.pointer (some ⟨p, 0, none⟩)] #[], .func (.func 34) #[] #[.pointer (some ⟨gs2, 0, none⟩), .pointer (some ⟨gd2, 0, none⟩)], .func (.func 20) #[.pointer (some ⟨p, 0, none⟩)] #[]])).holds W := hX _ (List.mem_of_getElem? (i := 0) rfl)
      match i, hx with
      | 0, hx => cases hx; exact cell_of_blk hb rfl
      | 1, hx => cases hx; exact cell_of_blk hb rfl
      | 2, hx => cases hx; exact cell_of_blk hb rfl
      | 3, hx => cases hx; exact cell_of_blk hb rfl
      | i + 4, hx => simp at hx)
    (fun x hx ar w => by
      simp only [List.mem_cons, List.not_mem_nil, or_false] at hx
      rcases hx with rfl | rfl | rfl | rfl
      · exact Try.call34 ar w
      · exact Try.call20 ar w
      · exact Try.call34 ar w
      · exact Try.call20 ar w
      )
    (fun i x f hx hf E qvx W hE hM => by
    match i, hx, hf with
    | 0, hx, hf =>
      cases hx; cases hf
      have h2 : Mem w _ W (disk E p pg mb qvx :: blk gs1 60 (supC (⟨width, 0, 2, 0, D.pages.length⟩ : SupV)) :: blk gd1 24 [.pointer (some ⟨p, 0, none⟩)] :: [blk g29 66 ([.func (.func 34) #[] #[.pointer (some ⟨gs1, 0, none⟩), .pointer (some ⟨gd1, 0, none⟩)], .func (.func 20) #[.pointer (some ⟨p, 0, none⟩)] #[], .func (.func 34) #[] #[.pointer (some ⟨gs2, 0, none⟩), .pointer (some ⟨gd2, 0, none⟩)], .func (.func 20) #[.pointer (some ⟨p, 0, none⟩)] #[]]), blk gs2 60 (supC (⟨width, 1, 2, 0, D.pages.length⟩ : SupV)), blk gd2 24 ([.pointer (some ⟨p, 0, none⟩)]), blk g8 60 (supC (⟨width, 1, 2, 0, D.pages.length⟩ : SupV)), blk g7 60 (supC (⟨width, 0, 2, 0, D.pages.length⟩ : SupV))]) := hM.arr [0, 4, 5, 1, 2, 3, 6, 7] (by decide)
      refine (laid_each (X := [blk g29 66 ([.func (.func 34) #[] #[.pointer (some ⟨gs1, 0, none⟩), .pointer (some ⟨gd1, 0, none⟩)], .func (.func 20) #[.pointer (some ⟨p, 0, none⟩)] #[], .func (.func 34) #[] #[.pointer (some ⟨gs2, 0, none⟩), .pointer (some ⟨gd2, 0, none⟩)], .func (.func 20) #[.pointer (some ⟨p, 0, none⟩)] #[]]), blk gs2 60 (supC (⟨width, 1, 2, 0, D.pages.length⟩ : SupV)), blk gd2 24 ([.pointer (some ⟨p, 0, none⟩)]), blk g8 60 (supC (⟨width, 1, 2, 0, D.pages.length⟩ : SupV)), blk g7 60 (supC (⟨width, 0, 2, 0, D.pages.length⟩ : SupV))]) hv1 E qvx W hE h2).mono ?_
      rintro e w' ⟨qv', rfl, h3⟩
      exact ⟨qv', rfl, h3.arr [0, 3, 4, 5, 1, 2, 6, 7] (by decide)⟩
    | 1, hx, hf =>
      cases hx; cases hf; exact sync_each E qvx W hM
    | 2, hx, hf =>
      cases hx; cases hf
      have h2 : Mem w _ W (disk E p pg mb qvx :: blk gs2 60 (supC (⟨width, 1, 2, 0, D.pages.length⟩ : SupV)) :: blk gd2 24 [.pointer (some ⟨p, 0, none⟩)] :: [blk g29 66 ([.func (.func 34) #[] #[.pointer (some ⟨gs1, 0, none⟩), .pointer (some ⟨gd1, 0, none⟩)], .func (.func 20) #[.pointer (some ⟨p, 0, none⟩)] #[], .func (.func 34) #[] #[.pointer (some ⟨gs2, 0, none⟩), .pointer (some ⟨gd2, 0, none⟩)], .func (.func 20) #[.pointer (some ⟨p, 0, none⟩)] #[]]), blk gs1 60 (supC (⟨width, 0, 2, 0, D.pages.length⟩ : SupV)), blk gd1 24 ([.pointer (some ⟨p, 0, none⟩)]), blk g8 60 (supC (⟨width, 1, 2, 0, D.pages.length⟩ : SupV)), blk g7 60 (supC (⟨width, 0, 2, 0, D.pages.length⟩ : SupV))]) := hM.arr [0, 2, 3, 1, 4, 5, 6, 7] (by decide)
      refine (laid_each (X := [blk g29 66 ([.func (.func 34) #[] #[.pointer (some ⟨gs1, 0, none⟩), .pointer (some ⟨gd1, 0, none⟩)], .func (.func 20) #[.pointer (some ⟨p, 0, none⟩)] #[], .func (.func 34) #[] #[.pointer (some ⟨gs2, 0, none⟩), .pointer (some ⟨gd2, 0, none⟩)], .func (.func 20) #[.pointer (some ⟨p, 0, none⟩)] #[]]), blk gs1 60 (supC (⟨width, 0, 2, 0, D.pages.length⟩ : SupV)), blk gd1 24 ([.pointer (some ⟨p, 0, none⟩)]), blk g8 60 (supC (⟨width, 1, 2, 0, D.pages.length⟩ : SupV)), blk g7 60 (supC (⟨width, 0, 2, 0, D.pages.length⟩ : SupV))]) hv2 E qvx W hE h2).mono ?_
      rintro e w' ⟨qv', rfl, h3⟩
      exact ⟨qv', rfl, h3.arr [0, 3, 1, 2, 4, 5, 6, 7] (by decide)⟩
    | 3, hx, hf =>
      cases hx; cases hf; exact sync_each E qvx W hM
    | i + 4, hx, hf => simp at hx)
    (fun f hf E => by
      simp only [List.mem_cons, List.not_mem_nil, or_false] at hf
      rcases hf with rfl | rfl | rfl | rfl
      · exact wS_q _ E
      · exact yS_q E
      · exact wS_q _ E
      · exact yS_q E
      ) (qv := qv0) (by rw [sp2]; exact hq) hM0
  refine e_call 18 [.slice (some ⟨g29, 0, none⟩) 4 4] rfl rfl Try.call18 (hino _ _ (disk_close (D := slotsD D) (R := [blk g29 66 ([.func (.func 34) #[] #[.pointer (some ⟨gs1, 0, none⟩), .pointer (some ⟨gd1, 0, none⟩)], .func (.func 20) #[.pointer (some ⟨p, 0, none⟩)] #[], .func (.func 34) #[] #[.pointer (some ⟨gs2, 0, none⟩), .pointer (some ⟨gd2, 0, none⟩)], .func (.func 20) #[.pointer (some ⟨p, 0, none⟩)] #[]]), blk gs2 60 (supC (⟨width, 1, 2, 0, D.pages.length⟩ : SupV)), blk gd2 24 ([.pointer (some ⟨p, 0, none⟩)]), blk gs1 60 (supC (⟨width, 0, 2, 0, D.pages.length⟩ : SupV)), blk gd1 24 ([.pointer (some ⟨p, 0, none⟩)]), blk g8 60 (supC (⟨width, 1, 2, 0, D.pages.length⟩ : SupV)), blk g7 60 (supC (⟨width, 0, 2, 0, D.pages.length⟩ : SupV))]) sok M31)) ?_
  rintro e w32 ⟨qv', rfl, H⟩
  have M32 : Mem w _ w32 [disk (runS [wS (⟨width, 0, 2, 0, D.pages.length⟩ : SupV), yS, wS (⟨width, 1, 2, 0, D.pages.length⟩ : SupV), yS] (slotsD D)).1 p pg mb qv', blk g29 66 ([.func (.func 34) #[] #[.pointer (some ⟨gs1, 0, none⟩), .pointer (some ⟨gd1, 0, none⟩)], .func (.func 20) #[.pointer (some ⟨p, 0, none⟩)] #[], .func (.func 34) #[] #[.pointer (some ⟨gs2, 0, none⟩), .pointer (some ⟨gd2, 0, none⟩)], .func (.func 20) #[.pointer (some ⟨p, 0, none⟩)] #[]]), blk gs2 60 (supC (⟨width, 1, 2, 0, D.pages.length⟩ : SupV)), blk gd2 24 ([.pointer (some ⟨p, 0, none⟩)]), blk gs1 60 (supC (⟨width, 0, 2, 0, D.pages.length⟩ : SupV)), blk gd1 24 ([.pointer (some ⟨p, 0, none⟩)]), blk g8 60 (supC (⟨width, 1, 2, 0, D.pages.length⟩ : SupV)), blk g7 60 (supC (⟨width, 0, 2, 0, D.pages.length⟩ : SupV))] := H
  clear H hino M31
  refine ⟨_, rfl, ?_⟩
  refine hK.out _ _ (M32.arr [6, 7] (by decide)) (fun hS => ?_)
  clear hK K
  simp only [Act.put, zq1, zq2, zq3]
  refine held_take 12 _ rfl (by kernel_rfl) (by kernel_rfl) (by kernel_rfl) (y_assign (v := .int .i64 ((runS [wS (⟨width, 0, 2, 0, D.pages.length⟩ : SupV), yS, wS (⟨width, 1, 2, 0, D.pages.length⟩ : SupV), yS] (slotsD D)).2)) rfl rfl rfl) hS ?_
  simp only [Act.put, zq1, zq2, zq3]
  refine held_done (by kernel_rfl) ?_ _
  refine hK25 _ _ ?_
  clear hK25
  refine wp_ret ?_
  try simp only [Exit.inBlock, Exit.then]
  refine bodyPost_ret (v := .int .i64 ((runS [wS (⟨width, 0, 2, 0, D.pages.length⟩ : SupV), yS, wS (⟨width, 1, 2, 0, D.pages.length⟩ : SupV), yS] (slotsD D)).2)) (res1 rfl rfl) rfl ?_
  have e1 : formatR D width = runS [wS (⟨width, 0, 2, 0, D.pages.length⟩ : SupV), yS, wS (⟨width, 1, 2, 0, D.pages.length⟩ : SupV), yS] (slotsD D) := by unfold formatR; rw [if_neg hd', if_neg (by omega), if_neg (fun h => h h5)]
  rw [e1]
  exact ⟨_, rfl, M32.arr [0] (by decide)⟩
theorem format_any {D : DV} {p pg mb : Nat} {qv : Value} {w : World} (hM : Mem w (foots [disk D p pg mb qv]) w [disk D p pg mb qv]) (width : Int) (hq : D.q.length ≤ 400000000000) : Calls Try.prog 5 #[.pointer (some ⟨p, 0, none⟩), .int .i64 width] w fun e w' => ∃ qv', e = .returned (.int .i64 (formatR D width).2) ∧ Mem w (foots [disk D p pg mb qv]) w' [disk (formatR D width).1 p pg mb qv'] := by
  cases hd : D.dead with
  | true => exact format_dead hM width hq hd
  | false =>
    rcases Int.lt_or_le width 1 with h1 | h1
    · exact format_low hM width hq hd h1
    · rcases Int.lt_or_le 32 width with h2 | h2
      · exact format_high hM width hq hd h2
      · by_cases h5 : slotsE D = 55
        · exact format_ok hM width hq hd ⟨h1, h2⟩ h5
        · exact format_taken hM width hq hd ⟨h1, h2⟩ h5
end Go.Proofs.Ytdnahagibodnpaa
