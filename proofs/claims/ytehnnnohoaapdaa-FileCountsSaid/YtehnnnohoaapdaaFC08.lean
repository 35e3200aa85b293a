/- Texts joined: Disk7, Disk8, Disk9, Page2. -/
import Derived.Test.YtehnnnohoaapdaaFC07
import Derived.Test.YtehnnnohoaapdaaFC03
import Derived.Test.YtehnnnohoaapdaaFC05
import Derived.Test.YtehnnnohoaapdaaFC06
/- The program's disk: New, Counts. -/
namespace Go.Proofs.Ytehnnnohoaapdaa
set_option linter.unusedSectionVars false
open Go Go.RowKit
set_option linter.unusedVariables false
set_option linter.unusedSimpArgs false
theorem size_cnt : Box ((Try.prog.info? 52).map (·.size) = some 4) := ⟨by kernel_rfl⟩
theorem pages_zero (n : Nat) : madeCells (Value.agg (bvs zeroPage).toArray).cells (n * 256) = (pagesC (List.replicate n zeroPage)).toArray := by
  have hz : (bvs zeroPage).length = 256 := by rw [length_bvs, zeroPage_len]
  have hb : ∀ (i : Nat), i < 256 → (bvs zeroPage)[i]? = some (Value.int .u8 0) := fun i hi => by
    rw [bvs_getElem?, zeroPage, List.getElem?_replicate, if_pos hi]; rfl
  have hz2 : bvs zeroPage = List.replicate 256 (Value.int .u8 0) := by
    apply List.ext_getElem?
    intro i
    rcases Nat.lt_or_ge i 256 with h | h
    · rw [hb i h, List.getElem?_replicate, if_pos h]
    · rw [List.getElem?_eq_none (by omega), List.getElem?_eq_none (by rw [List.length_replicate]; omega)]
  have hp : ∀ n, pagesC (List.replicate n zeroPage) = List.replicate (n * 256) (Value.int .u8 0) := by
    intro n
    induction n with
    | zero => rfl
    | succ n ih =>
      rw [List.replicate_succ, show pagesC (zeroPage :: List.replicate n zeroPage) = bvs zeroPage ++ pagesC (List.replicate n zeroPage) from rfl, ih, Nat.add_mul, Nat.one_mul, Nat.add_comm, ← List.replicate_append_replicate]
      rw [hz2]
  rw [hp]
  apply Array.ext'
  unfold madeCells
  rw [Array.toList_map, Array.toList_range]
  apply List.ext_getElem
  · simp
  · intro i h1 h2
    simp only [List.getElem_map, List.getElem_range, List.getElem_replicate]
    have hs : (Value.agg (bvs zeroPage).toArray).cells.size = 256 := by simp [Value.cells, hz]
    rw [hs]
    have hm : i % 256 < 256 := Nat.mod_lt _ (by decide)
    have := hb (i % 256) hm
    show (bvs zeroPage).toArray[i % 256]! = _
    rw [getElem!_def]
    simp [this]
set_option maxRecDepth 100000 in
set_option maxHeartbeats 4000000 in
theorem new_low (n : Int) (hn : n < 3) (w : World) : Calls Try.prog 12 #[.int .i64 n] w fun e w' => (¬ (3 ≤ n ∧ n ≤ 4096) ∧ e = .returned (.tuple #[.pointer none, .int .i64 40]) ∧ Mem w [] w' []) ∨ (3 ≤ n ∧ n ≤ 4096 ∧ ∃ p pg mb, e = .returned (.tuple #[.pointer (some ⟨p, 0, none⟩), .int .i64 0]) ∧ Mem w [] w' [disk (newD n.toNat) p pg mb (.slice none 0 0)]) := by
  have M := Mem.nil w
  go_enter Try.func12, Try.ntmps12
  refine wp_seq_k (fun K1 hK1 => ?_)
  refine wp_region_lit ?_
  refine pl M (y_assign (v := .pointer none) rfl rfl rfl) ?_
  simp only [Act.put, zq1, zq2, zq3]
  refine pl M (y_assign (v := .int .i64 0) rfl rfl rfl) ?_
  simp only [Act.put, zq1, zq2, zq3]
  refine wpList_nil ?_
  refine hK1 _ _ ?_
  clear hK1
  refine wp_seq_k (fun K2 hK2 => ?_)
  refine wp_seq_k (fun K3 hK3 => ?_)
  refine wp_region_lit ?_
  refine pl M (y_move (v := .int .i64 n) rfl rfl rfl) ?_
  simp only [Act.put, zq1, zq2, zq3]
  refine pl M (y_lss (b := true) rfl rfl rfl rfl (decide_eq_true (by omega))) ?_
  simp only [Act.put, zq1, zq2, zq3]
  refine pl M (y_move (v := .bool true) rfl rfl rfl) ?_
  simp only [Act.put, zq1, zq2, zq3]
  with_reducible refine pskip ?_ ?_
  · rfl
  simp only [Act.put, zq1, zq2, zq3]
  with_reducible refine pskip ?_ ?_
  · rfl
  simp only [Act.put, zq1, zq2, zq3]
  refine pl M (y_pickT (v := .bool true) rfl rfl rfl rfl) ?_
  simp only [Act.put, zq1, zq2, zq3]
  refine wpList_nil ?_
  refine hK3 _ _ ?_
  clear hK3
  refine wp_cond_true rfl ?_
  refine wp_seq_k (fun K4 hK4 => ?_)
  refine wp_region_lit ?_
  refine pl M (y_assign (v := .pointer none) rfl rfl rfl) ?_
  simp only [Act.put, zq1, zq2, zq3]
  refine pl M (y_assign (v := .int .i64 40) rfl rfl rfl) ?_
  simp only [Act.put, zq1, zq2, zq3]
  refine wpList_nil ?_
  refine hK4 _ _ ?_
  clear hK4
  refine wp_ret ?_
  try simp only [Exit.inBlock, Exit.then]
  refine bodyPost_ret (v := .tuple #[.pointer none, .int .i64 40]) (res2 rfl rfl rfl) rfl ?_
  exact Or.inl ⟨by omega, rfl, M⟩
set_option maxRecDepth 100000 in
set_option maxHeartbeats 4000000 in
theorem new_high (n : Int) (hn : 4096 < n) (w : World) : Calls Try.prog 12 #[.int .i64 n] w fun e w' => (¬ (3 ≤ n ∧ n ≤ 4096) ∧ e = .returned (.tuple #[.pointer none, .int .i64 40]) ∧ Mem w [] w' []) ∨ (3 ≤ n ∧ n ≤ 4096 ∧ ∃ p pg mb, e = .returned (.tuple #[.pointer (some ⟨p, 0, none⟩), .int .i64 0]) ∧ Mem w [] w' [disk (newD n.toNat) p pg mb (.slice none 0 0)]) := by
  have M := Mem.nil w
  go_enter Try.func12, Try.ntmps12
  refine wp_seq_k (fun K1 hK1 => ?_)
  refine wp_region_lit ?_
  refine pl M (y_assign (v := .pointer none) rfl rfl rfl) ?_
  simp only [Act.put, zq1, zq2, zq3]
  refine pl M (y_assign (v := .int .i64 0) rfl rfl rfl) ?_
  simp only [Act.put, zq1, zq2, zq3]
  refine wpList_nil ?_
  refine hK1 _ _ ?_
  clear hK1
  refine wp_seq_k (fun K2 hK2 => ?_)
  refine wp_seq_k (fun K3 hK3 => ?_)
  refine wp_region_lit ?_
  refine pl M (y_move (v := .int .i64 n) rfl rfl rfl) ?_
  simp only [Act.put, zq1, zq2, zq3]
  refine pl M (y_lss (b := false) rfl rfl rfl rfl (decide_eq_false (by omega))) ?_
  simp only [Act.put, zq1, zq2, zq3]
  refine pl M (y_move (v := .bool false) rfl rfl rfl) ?_
  simp only [Act.put, zq1, zq2, zq3]
  refine pl M (y_move (v := .int .i64 n) rfl rfl rfl) ?_
  simp only [Act.put, zq1, zq2, zq3]
  refine pl M (y_gtr (b := true) rfl rfl rfl rfl (decide_eq_true (by omega))) ?_
  simp only [Act.put, zq1, zq2, zq3]
  refine pl M (y_pickF (v := .bool true) rfl rfl rfl rfl) ?_
  simp only [Act.put, zq1, zq2, zq3]
  refine wpList_nil ?_
  refine hK3 _ _ ?_
  clear hK3
  refine wp_cond_true rfl ?_
  refine wp_seq_k (fun K4 hK4 => ?_)
  refine wp_region_lit ?_
  refine pl M (y_assign (v := .pointer none) rfl rfl rfl) ?_
  simp only [Act.put, zq1, zq2, zq3]
  refine pl M (y_assign (v := .int .i64 40) rfl rfl rfl) ?_
  simp only [Act.put, zq1, zq2, zq3]
  refine wpList_nil ?_
  refine hK4 _ _ ?_
  clear hK4
  refine wp_ret ?_
  try simp only [Exit.inBlock, Exit.then]
  refine bodyPost_ret (v := .tuple #[.pointer none, .int .i64 40]) (res2 rfl rfl rfl) rfl ?_
  exact Or.inl ⟨by omega, rfl, M⟩
set_option maxRecDepth 100000 in
set_option maxHeartbeats 4000000 in
theorem new_ok (k : Nat) (hk : 3 ≤ k ∧ k ≤ 4096) (w : World) : Calls Try.prog 12 #[.int .i64 (k : Int)] w fun e w' => (¬ (3 ≤ (k : Int) ∧ (k : Int) ≤ 4096) ∧ e = .returned (.tuple #[.pointer none, .int .i64 40]) ∧ Mem w [] w' []) ∨ (3 ≤ (k : Int) ∧ (k : Int) ≤ 4096 ∧ ∃ p pg mb, e = .returned (.tuple #[.pointer (some ⟨p, 0, none⟩), .int .i64 0]) ∧ Mem w [] w' [disk (newD k) p pg mb (.slice none 0 0)]) := by
  have M := Mem.nil w
  go_enter Try.func12, Try.ntmps12
  refine wp_seq_k (fun K1 hK1 => ?_)
  refine wp_region_lit ?_
  refine pl M (y_assign (v := .pointer none) rfl rfl rfl) ?_
  simp only [Act.put, zq1, zq2, zq3]
  refine pl M (y_assign (v := .int .i64 0) rfl rfl rfl) ?_
  simp only [Act.put, zq1, zq2, zq3]
  refine wpList_nil ?_
  refine hK1 _ _ ?_
  clear hK1
  refine wp_seq_k (fun K2 hK2 => ?_)
  refine wp_seq_k (fun K3 hK3 => ?_)
  refine wp_region_lit ?_
  refine pl M (y_move (v := .int .i64 (k : Int)) rfl rfl rfl) ?_
  simp only [Act.put, zq1, zq2, zq3]
  refine pl M (y_lss (b := false) rfl rfl rfl rfl (decide_eq_false (by omega))) ?_
  simp only [Act.put, zq1, zq2, zq3]
  refine pl M (y_move (v := .bool false) rfl rfl rfl) ?_
  simp only [Act.put, zq1, zq2, zq3]
  refine pl M (y_move (v := .int .i64 (k : Int)) rfl rfl rfl) ?_
  simp only [Act.put, zq1, zq2, zq3]
  refine pl M (y_gtr (b := false) rfl rfl rfl rfl (decide_eq_false (by omega))) ?_
  simp only [Act.put, zq1, zq2, zq3]
  refine pl M (y_pickF (v := .bool false) rfl rfl rfl rfl) ?_
  simp only [Act.put, zq1, zq2, zq3]
  refine wpList_nil ?_
  refine hK3 _ _ ?_
  clear hK3
  refine wp_cond_false rfl ?_
  refine wp_skip ?_
  refine hK2 _ _ ?_
  clear hK2
  refine wp_seq_k (fun K4 hK4 => ?_)
  refine wp_region_lit ?_
  refine pl M (y_move (v := .int .i64 (k : Int)) rfl rfl rfl) ?_
  simp only [Act.put, zq1, zq2, zq3]
  refine pe rfl (fun K hK => ?_)
  refine e_make M pagesT (pagesC (List.replicate k zeroPage)) (n := k) (m := k) rfl rfl rfl (rfl) (rfl) (by omega) (by omega) (by omega) (fun z hz => by
    have e : z = Value.agg (bvs zeroPage).toArray := by
      have h2 : (Try.prog.info? 92).bind (·.zero) = some (.agg (bvs zeroPage).toArray) := by kernel_rfl
      rw [h2] at hz; exact (Option.some.inj hz).symm
    rw [e]; exact pages_zero k) ?_
  intro gpg w5 (M5 : Mem w [] w5 [blk gpg 92 (pagesC (List.replicate k zeroPage))])
  clear M
  refine hK.out _ _ ?_
  clear hK K
  simp only [Act.put, zq1, zq2, zq3]
  refine pe rfl (fun K hK => ?_)
  refine e_makemap (kt := 3) (et := 3) M5 rfl ?_
  intro g6 w7 (M7 : Mem w [] w7 [mapq g6 ([]), blk gpg 92 (pagesC (List.replicate k zeroPage))])
  clear M5
  refine hK.out _ _ ?_
  clear hK K
  simp only [Act.put, zq1, zq2, zq3]
  refine pl M7 (y_build (ps := [(1, .tmp 11), (3, .tmp 12)]) (pv := [(1, .slice (some ⟨gpg, 0, none⟩) k k), (3, .map (some g6))]) (cs := [.int .i64 0, .int .i64 0, .int .i64 0, .int .i64 0, .slice (some ⟨gpg, 0, none⟩) k k, .slice none 0 0, .map (some g6), .int .i64 0, .bool false, .int .i64 0]) rfl rfl rfl (by kernel_rfl)) ?_
  simp only [Act.put, zq1, zq2, zq3]
  refine pe rfl (fun K hK => ?_)
  refine e_box M7 ([.int .i64 0, .int .i64 0, .int .i64 0, .int .i64 0, .slice (some ⟨gpg, 0, none⟩) k k, .slice none 0 0, .map (some g6), .int .i64 0, .bool false, .int .i64 0]) rfl rfl ?_
  intro g8 w9 (M9 : Mem w [] w9 [blk g8 60 ([.int .i64 0, .int .i64 0, .int .i64 0, .int .i64 0, .slice (some ⟨gpg, 0, none⟩) k k, .slice none 0 0, .map (some g6), .int .i64 0, .bool false, .int .i64 0]), mapq g6 ([]), blk gpg 92 (pagesC (List.replicate k zeroPage))])
  clear M7
  refine hK.out _ _ ?_
  clear hK K
  simp only [Act.put, zq1, zq2, zq3]
  refine pl M9 (y_assign (v := .pointer (some ⟨g8, 0, none⟩)) rfl rfl rfl) ?_
  simp only [Act.put, zq1, zq2, zq3]
  refine pl M9 (y_assign (v := .int .i64 0) rfl rfl rfl) ?_
  simp only [Act.put, zq1, zq2, zq3]
  refine wpList_nil ?_
  refine hK4 _ _ ?_
  clear hK4
  refine wp_ret ?_
  try simp only [Exit.inBlock, Exit.then]
  refine bodyPost_ret (v := .tuple #[.pointer (some ⟨g8, 0, none⟩), .int .i64 0]) (res2 rfl rfl rfl) rfl ?_
  have N := M9.nilst 94 257
  have N2 := N.arr [1, 3, 0, 2] (by decide)
  exact Or.inr ⟨by omega, by omega, g8, gpg, g6, rfl, disk_close (D := newD k) (newD_ok (by omega) (by omega)) (by
    have hl : (newD k).pages.length = k := List.length_replicate
    show Mem w [] w9 [blk g8 60 (dC (newD k) gpg g6 (.slice none 0 0)), blk gpg 92 (pagesC (newD k).pages), _, _]
    unfold dC
    rw [hl]
    exact N2)⟩
theorem new_any (n : Int) (w : World) : Calls Try.prog 12 #[.int .i64 n] w fun e w' => (¬ (3 ≤ n ∧ n ≤ 4096) ∧ e = .returned (.tuple #[.pointer none, .int .i64 40]) ∧ Mem w [] w' []) ∨ (3 ≤ n ∧ n ≤ 4096 ∧ ∃ p pg mb, e = .returned (.tuple #[.pointer (some ⟨p, 0, none⟩), .int .i64 0]) ∧ Mem w [] w' [disk (newD n.toNat) p pg mb (.slice none 0 0)]) := by
  by_cases h1 : n < 3
  · exact new_low n h1 w
  · by_cases h2 : 4096 < n
    · exact new_high n h2 w
    · obtain ⟨k, rfl⟩ := Int.eq_ofNat_of_zero_le (show 0 ≤ n by omega)
      exact new_ok k ⟨by omega, by omega⟩ w
set_option maxRecDepth 100000 in
set_option maxHeartbeats 4000000 in
theorem counts_any {D : DV} {p pg mb : Nat} {qv : Value} {w : World} (hM : Mem w (foots [disk D p pg mb qv]) w [disk D p pg mb qv])  : Calls Try.prog 23 #[.pointer (some ⟨p, 0, none⟩)] w fun e w' => e = .returned (.agg (cntC D).toArray) ∧ Mem w (foots [disk D p pg mb qv]) w' [disk (D) p pg mb qv] := by
  obtain ⟨hok, M⟩ := disk_open hM
  clear hM
  go_enter Try.func23, Try.ntmps23
  refine wp_seq_k (fun K1 hK1 => ?_)
  refine wp_region_lit ?_
  refine pe rfl (fun K hK => ?_)
  refine e_alloc M ([.int .i64 0, .int .i64 0, .int .i64 0, .int .i64 0]) rfl Try.zeroValue52 ?_
  intro gc w2 (M2 : Mem w _ w2 [blk gc 52 ([.int .i64 0, .int .i64 0, .int .i64 0, .int .i64 0]), blk p 60 (dC D pg mb qv), blk pg 92 (pagesC D.pages), lst 94 257 qv D.q.length (qC D.q), mapq mb D.q])
  clear M
  refine hK.out _ _ ?_
  clear hK K
  simp only [Act.put, zq1, zq2, zq3]
  refine wpList_nil ?_
  refine hK1 _ _ ?_
  clear hK1
  refine wp_seq_k (fun K3 hK3 => ?_)
  have M4 : Mem w _ w2.drew [blk gc 52 ([.int .i64 0, .int .i64 0, .int .i64 0, .int .i64 0]), blk p 60 (dC D pg mb qv), blk pg 92 (pagesC D.pages), lst 94 257 qv D.q.length (qC D.q), mapq mb D.q] := M2.drew
  clear M2
  refine wp_region_tail 17 (by kernel_rfl) (by kernel_rfl) ?_
  simp only [List.take_succ_cons, List.take_zero, List.drop_succ_cons, List.drop_zero]
  refine ps M4 (y_move (v := .pointer (some ⟨p, 0, none⟩)) rfl rfl rfl) ?_
  simp only [Act.put, zq1, zq2, zq3]
  refine ps M4 (y_nil rfl rfl rfl) ?_
  simp only [Act.put, zq1, zq2, zq3]
  refine ps M4 (y_fa (r := 0) rfl rfl rfl Try.underlying55 rfl Try.sizeOf3 rfl) ?_
  simp only [Act.put, zq1, zq2, zq3]
  refine ps M4 (y_load (v := .int .i64 D.reads) rfl rfl rfl Try.isAgg3 (fun W hW => hW.get 1 rfl) (rfl)) ?_
  simp only [Act.put, zq1, zq2, zq3]
  refine ps M4 (y_move (v := .pointer (some ⟨p, 0, none⟩)) rfl rfl rfl) ?_
  simp only [Act.put, zq1, zq2, zq3]
  refine ps M4 (y_nil rfl rfl rfl) ?_
  simp only [Act.put, zq1, zq2, zq3]
  refine ps M4 (y_fa (r := 1) rfl rfl rfl Try.underlying55 rfl Try.sizeOf3 rfl) ?_
  simp only [Act.put, zq1, zq2, zq3]
  refine ps M4 (y_load (v := .int .i64 D.writes) rfl rfl rfl Try.isAgg3 (fun W hW => hW.get 1 rfl) (rfl)) ?_
  simp only [Act.put, zq1, zq2, zq3]
  refine ps M4 (y_move (v := .pointer (some ⟨p, 0, none⟩)) rfl rfl rfl) ?_
  simp only [Act.put, zq1, zq2, zq3]
  refine ps M4 (y_nil rfl rfl rfl) ?_
  simp only [Act.put, zq1, zq2, zq3]
  refine ps M4 (y_fa (r := 2) rfl rfl rfl Try.underlying55 rfl Try.sizeOf3 rfl) ?_
  simp only [Act.put, zq1, zq2, zq3]
  refine ps M4 (y_load (v := .int .i64 D.syncs) rfl rfl rfl Try.isAgg3 (fun W hW => hW.get 1 rfl) (rfl)) ?_
  simp only [Act.put, zq1, zq2, zq3]
  refine ps M4 (y_move (v := .pointer (some ⟨p, 0, none⟩)) rfl rfl rfl) ?_
  simp only [Act.put, zq1, zq2, zq3]
  refine ps M4 (y_nil rfl rfl rfl) ?_
  simp only [Act.put, zq1, zq2, zq3]
  refine ps M4 (y_fa (r := 3) rfl rfl rfl Try.underlying55 rfl Try.sizeOf3 rfl) ?_
  simp only [Act.put, zq1, zq2, zq3]
  refine ps M4 (y_load (v := .int .i64 (D.q.length : Int)) rfl rfl rfl Try.isAgg3 (fun W hW => hW.get 1 rfl) (rfl)) ?_
  simp only [Act.put, zq1, zq2, zq3]
  refine ps M4 (y_build (ps := [(0, .tmp 6), (1, .tmp 10), (2, .tmp 14), (3, .tmp 18)]) (pv := [(0, .int .i64 D.reads), (1, .int .i64 D.writes), (2, .int .i64 D.syncs), (3, .int .i64 (D.q.length : Int))]) (cs := (cntC D)) rfl rfl rfl (by kernel_rfl)) ?_
  simp only [Act.put, zq1, zq2, zq3]
  refine wpStill_nil ?_
  refine pe rfl (fun K hK => ?_)
  refine e_storew M4 0 (cs := (cntC D)) rfl rfl rfl rfl size_cnt (list_all _ rfl) rfl (rfl) ?_
  intro w5 (M5 : Mem w _ w5 [blk gc 52 (cntC D), blk p 60 (dC D pg mb qv), blk pg 92 (pagesC D.pages), lst 94 257 qv D.q.length (qC D.q), mapq mb D.q])
  clear M4
  refine hK.out _ _ ?_
  clear hK K
  simp only [Act.put, zq1, zq2, zq3]
  refine wpList_nil ?_
  refine hK3 _ _ ?_
  clear hK3
  refine wp_ret ?_
  try simp only [Exit.inBlock, Exit.then]
  refine bodyPost_ret (v := .agg ((cntC D)).toArray) (resc1 _ rfl rfl rfl (M5.get 0 rfl) Try.underlying52 size_cnt) rfl ?_
  have N : Mem w _ w5 [blk p 60 (dC D pg mb qv), blk pg 92 (pagesC D.pages), lst 94 257 qv D.q.length (qC D.q), mapq mb D.q] := M5.arr [1, 2, 3, 4] (by decide)
  exact ⟨rfl, disk_close hok N⟩
end Go.Proofs.Ytehnnnohoaapdaa

/- The program's disk: Image, Flip. -/
namespace Go.Proofs.Ytehnnnohoaapdaa
set_option linter.unusedSectionVars false
open Go Go.RowKit
set_option linter.unusedVariables false
set_option linter.unusedSimpArgs false
end Go.Proofs.Ytehnnnohoaapdaa

/- The program's disk: Crash. -/
namespace Go.Proofs.Ytehnnnohoaapdaa
set_option linter.unusedSectionVars false
open Go Go.RowKit
set_option linter.unusedVariables false
set_option linter.unusedSimpArgs false
theorem Row.getD {w : World} {b o n : Nat} {l : List UInt8} (h : Row w (some ⟨b, o, none⟩) n l) (i : Nat) (hi : i < n) : w.cell? ⟨b, o + i, none⟩ = some (.int .u8 ((l.getD i 0).toNat : Int)) := by
  have hl : i < l.length := by rw [h.1]; exact hi
  rw [h.cell i hl, List.getD_eq_getElem?_getD, List.getElem?_eq_getElem hl]
  rfl
theorem zip_in {D : DV} (h : DOk D) (l : List UInt8) : ∀ x ∈ D.q.zip l, x.1.1 < D.pages.length ∧ x.1.2.length = 256 := fun x hx => h.qs x.1 (List.of_mem_zip (a := x.1) (b := x.2) hx).1
theorem crash_ok {D : DV} (h : DOk D) (l : List UInt8) : DOk (crashD D l) :=
  ⟨by show 3 ≤ (crashP _ _).length; rw [crashP_len]; exact h.lo, by show (crashP _ _).length ≤ _; rw [crashP_len]; exact h.hi, crashP_each h.len _ (zip_in h l), by simp [crashD], ⟨by show (0 : Int) ≤ 0; omega, by show (0 : Int) ≤ _; omega⟩, inI_wrap _⟩
end Go.Proofs.Ytehnnnohoaapdaa

/- Pages as bytes: Unpack. -/
namespace Go.Proofs.Ytehnnnohoaapdaa
set_option linter.unusedSectionVars false
open Go Go.RowKit
set_option linter.unusedVariables false
set_option linter.unusedSimpArgs false
theorem unpg_cases {page : Nat} {l : List UInt8} (hp : 2 ≤ page ∧ page < 4096) (hl : l.length = 256) :
    (wholeB l = false → unpgE page l = 52) ∧ (wholeB l = true → ¬ KindOk ((l.getD 0 0).toNat : Int) → unpgE page l = 50) ∧
    (wholeB l = true → KindOk ((l.getD 0 0).toNat : Int) → 246 < (l.getD 1 0).toNat → unpgE page l = 51) ∧
    (wholeB l = true → KindOk ((l.getD 0 0).toNat : Int) → ¬ 246 < (l.getD 1 0).toNat → ((decN ((l.drop 2).take 4) : Nat) : Int) ≠ page → unpgE page l = 54) ∧
    (wholeB l = true → KindOk ((l.getD 0 0).toNat : Int) → ¬ 246 < (l.getD 1 0).toNat → ((decN ((l.drop 2).take 4) : Nat) : Int) = page → allZ ((l.drop (6 + (l.getD 1 0).toNat)).take (246 - (l.getD 1 0).toNat)) = false → unpgE page l = 53) ∧
    (wholeB l = true → KindOk ((l.getD 0 0).toNat : Int) → ¬ 246 < (l.getD 1 0).toNat → ((decN ((l.drop 2).take 4) : Nat) : Int) = page → allZ ((l.drop (6 + (l.getD 1 0).toNat)).take (246 - (l.getD 1 0).toNat)) = true → unpgE page l = 0) := by
  have h1 : ¬ ¬ PlaceOk (page : Int) := fun h => h ⟨by omega, by omega⟩
  have h2 : ¬ (l.length ≠ 256) := fun h => h hl
  refine ⟨fun a => ?_, fun a b => ?_, fun a b c => ?_, fun a b c d => ?_, fun a b c d e => ?_, fun a b c d e => ?_⟩ <;> unfold unpgE <;> rw [if_neg h1, if_neg h2]
  · rw [if_pos a]
  · rw [if_neg (by rw [a]; decide), if_pos b]
  · rw [if_neg (by rw [a]; decide), if_neg (fun h => h b), if_pos c]
  · rw [if_neg (by rw [a]; decide), if_neg (fun h => h b), if_neg c, if_pos d]
  · rw [if_neg (by rw [a]; decide), if_neg (fun h => h b), if_neg c, if_neg (fun h => h d), if_pos e]
  · rw [if_neg (by rw [a]; decide), if_neg (fun h => h b), if_neg c, if_neg (fun h => h d), if_neg (by rw [e]; decide)]
set_option maxRecDepth 100000 in
set_option maxHeartbeats 4000000 in
theorem unpack_ok (page rb ro c : Nat) (l : List UInt8) (w : World) (hr : Row w (some ⟨rb, ro, none⟩) 256 l) (hp : 2 ≤ page ∧ page < 4096) (hc : 256 ≤ c) (hcm : c ≤ 9223372036854775807) : Calls Try.prog 49 #[.int .i64 (page : Int), .slice (some ⟨rb, ro, none⟩) 256 c] w fun e w' => ∃ v, e = .returned (.tuple #[.int .i64 (unpgK page l), v, .int .i64 (unpgE page l)]) ∧ Mem w [] w' [lst 5 1 v (unpgL page l).length (bvs (unpgL page l))] := by
  have M := Mem.nil w
  have hl := hr.1
  have hp1 := hp.1
  have hp2 := hp.2
  have hb1 := (l.getD 1 0).toNat_lt
  have hb0 := (l.getD 0 0).toNat_lt
  have hpl : 246 < (l.getD 1 0).toNat ∨ ((l.drop 6).take (l.getD 1 0).toNat).length = (l.getD 1 0).toNat := by rw [List.length_take, List.length_drop]; omega
  go_enter Try.func49, Try.ntmps49
  refine wp_seq_k (fun K1 hK1 => ?_)
  refine wp_region_lit ?_
  refine pl M (y_assign (v := .int .i64 0) rfl rfl rfl) ?_
  simp only [Act.put, zq1, zq2, zq3]
  refine pl M (y_assign (v := .slice none 0 0) rfl rfl rfl) ?_
  simp only [Act.put, zq1, zq2, zq3]
  refine pl M (y_assign (v := .int .i64 0) rfl rfl rfl) ?_
  simp only [Act.put, zq1, zq2, zq3]
  refine wpList_nil ?_
  refine hK1 _ _ ?_
  clear hK1
  refine wp_seq_k (fun K2 hK2 => ?_)
  refine wp_seq_k (fun K3 hK3 => ?_)
  refine wp_region_lit ?_
  refine pl M (y_move (v := .int .i64 (page : Int)) rfl rfl rfl) ?_
  simp only [Act.put, zq1, zq2, zq3]
  refine pe rfl (fun K hK => ?_)
  refine e_call 64 [.int .i64 (page : Int)] rfl rfl Try.call64 (place_any (page : Int) _) ?_
  rintro e w4 ⟨rfl, H4⟩
  have M4 : Mem w [] w4 [] := M.step H4
  rw [(decide_eq_true (show PlaceOk page from ⟨by omega, by omega⟩))]
  refine ⟨_, rfl, ?_⟩
  refine hK.out _ _ ?_
  clear hK K
  simp only [Act.put, zq1, zq2, zq3]
  refine pl M4 (y_not rfl rfl rfl rfl) ?_
  simp only [Act.put, zq1, zq2, zq3]
  refine wpList_nil ?_
  refine hK3 _ _ ?_
  clear hK3
  refine wp_cond_false rfl ?_
  refine wp_skip ?_
  refine hK2 _ _ ?_
  clear hK2
  refine wp_seq_k (fun K5 hK5 => ?_)
  refine wp_seq_k (fun K6 hK6 => ?_)
  refine wp_region_lit ?_
  refine pl M4 (y_move (v := .slice (some ⟨rb, ro, none⟩) 256 c) rfl rfl rfl) ?_
  simp only [Act.put, zq1, zq2, zq3]
  refine pl M4 (y_len rfl rfl rfl Try.underlying22) ?_
  simp only [Act.put, zq1, zq2, zq3]
  refine pl M4 (y_neq (b := false) rfl rfl rfl rfl (by rw [decide_eq_true (by omega)]; rfl)) ?_
  simp only [Act.put, zq1, zq2, zq3]
  refine wpList_nil ?_
  refine hK6 _ _ ?_
  clear hK6
  refine wp_cond_false rfl ?_
  refine wp_skip ?_
  refine hK5 _ _ ?_
  clear hK5
  refine wp_seq_k (fun K7 hK7 => ?_)
  refine wp_seq_k (fun K8 hK8 => ?_)
  refine wp_region_lit ?_
  refine pl M4 (y_move (v := .slice (some ⟨rb, ro, none⟩) 256 c) rfl rfl rfl) ?_
  simp only [Act.put, zq1, zq2, zq3]
  refine pe rfl (fun K hK => ?_)
  refine e_call 56 [.slice (some ⟨rb, ro, none⟩) 256 c] rfl rfl Try.call56 (whole_any (some ⟨rb, ro, none⟩) 256 c l _ (M4.row hr (by simp)) (by unfold maxLen; omega) hc (by unfold maxLen; omega)) ?_
  rintro e w9 ⟨rfl, H9⟩
  have M9 : Mem w [] w9 [] := M4.low H9
  rcases Bool.eq_false_or_eq_true (wholeB l) with h10 | h10
  · rw [h10]
    refine ⟨_, rfl, ?_⟩
    refine hK.out _ _ ?_
    clear hK K
    simp only [Act.put, zq1, zq2, zq3]
    refine pl M9 (y_not rfl rfl rfl rfl) ?_
    simp only [Act.put, zq1, zq2, zq3]
    refine wpList_nil ?_
    refine hK8 _ _ ?_
    clear hK8
    refine wp_cond_false rfl ?_
    refine wp_skip ?_
    refine hK7 _ _ ?_
    clear hK7
    refine wp_seq_k (fun K11 hK11 => ?_)
    have M12 : Mem w [] w9.drew [] := M9.drew
    clear M9
    refine wp_region_tail 9 (by kernel_rfl) (by kernel_rfl) ?_
    simp only [List.take_succ_cons, List.take_zero, List.drop_succ_cons, List.drop_zero]
    refine ps M12 (y_move (v := .slice (some ⟨rb, ro, none⟩) 256 c) rfl rfl rfl) ?_
    simp only [Act.put, zq1, zq2, zq3]
    refine ps M12 (y_ias (r := ro) rfl rfl rfl rfl Try.underlying22 Try.sizeOf5 (by omega) (by omega)) ?_
    simp only [Act.put, zq1, zq2, zq3]
    refine ps M12 (y_loadc (v := .int .u8 ((l.getD 0 0).toNat : Int)) rfl rfl rfl Try.isAgg5 (fun W hW => (hW.row hr (by simp)).getD 0 (by omega))) ?_
    simp only [Act.put, zq1, zq2, zq3]
    refine ps M12 (y_conv (r := ((l.getD 0 0).toNat : Int)) rfl rfl rfl Try.underlying5 Try.underlying3 (wrap64_of (by omega))) ?_
    simp only [Act.put, zq1, zq2, zq3]
    refine ps M12 (y_move (v := .slice (some ⟨rb, ro, none⟩) 256 c) rfl rfl rfl) ?_
    simp only [Act.put, zq1, zq2, zq3]
    refine ps M12 (y_ias (r := ro + 1) rfl rfl rfl rfl Try.underlying22 Try.sizeOf5 (by omega) (by omega)) ?_
    simp only [Act.put, zq1, zq2, zq3]
    refine ps M12 (y_loadc (v := .int .u8 ((l.getD 1 0).toNat : Int)) rfl rfl rfl Try.isAgg5 (fun W hW => (hW.row hr (by simp)).getD 1 (by omega))) ?_
    simp only [Act.put, zq1, zq2, zq3]
    refine ps M12 (y_conv (r := ((l.getD 1 0).toNat : Int)) rfl rfl rfl Try.underlying5 Try.underlying3 (wrap64_of (by omega))) ?_
    simp only [Act.put, zq1, zq2, zq3]
    refine ps M12 (y_assign (v := .int .i64 ((l.getD 0 0).toNat : Int)) rfl rfl rfl) ?_
    simp only [Act.put, zq1, zq2, zq3]
    refine wpStill_nil ?_
    refine pl M12 (y_assign (v := .int .i64 ((l.getD 1 0).toNat : Int)) rfl rfl rfl) ?_
    simp only [Act.put, zq1, zq2, zq3]
    refine wpList_nil ?_
    refine hK11 _ _ ?_
    clear hK11
    refine wp_seq_k (fun K13 hK13 => ?_)
    refine wp_block ?_
    refine wp_seq_k (fun K14 hK14 => ?_)
    refine wp_region_lit ?_
    refine pl M12 (y_move (v := .int .i64 ((l.getD 0 0).toNat : Int)) rfl rfl rfl) ?_
    simp only [Act.put, zq1, zq2, zq3]
    refine pe rfl (fun K hK => ?_)
    refine e_call 65 [.int .i64 ((l.getD 0 0).toNat : Int)] rfl rfl Try.call65 (kindOf_any ((l.getD 0 0).toNat : Int) _) ?_
    rintro e w15 ⟨rfl, H15⟩
    have M15 : Mem w [] w15 [] := M12.step H15
    rcases Bool.eq_false_or_eq_true (decide (KindOk ((l.getD 0 0).toNat : Int))) with h16 | h16
    · rw [h16]
      refine ⟨_, rfl, ?_⟩
      refine hK.out _ _ ?_
      clear hK K
      simp only [Act.put, zq1, zq2, zq3]
      refine pl M15 (y_not rfl rfl rfl rfl) ?_
      simp only [Act.put, zq1, zq2, zq3]
      refine pl M15 (y_assign (v := .bool false) rfl rfl rfl) ?_
      simp only [Act.put, zq1, zq2, zq3]
      refine wpList_nil ?_
      refine hK14 _ _ ?_
      clear hK14
      refine wp_cond_false rfl ?_
      refine wp_seq_k (fun K17 hK17 => ?_)
      refine wp_region_lit ?_
      refine pl M15 (y_move (v := .int .i64 ((l.getD 1 0).toNat : Int)) rfl rfl rfl) ?_
      simp only [Act.put, zq1, zq2, zq3]
      rcases Decidable.em ((246 : Int) < ((l.getD 1 0).toNat : Int)) with h18 | h18
      · refine pl M15 (y_gtr (b := true) rfl rfl rfl rfl (decide_eq_true h18)) ?_
        simp only [Act.put, zq1, zq2, zq3]
        refine pl M15 (y_assign (v := .bool true) rfl rfl rfl) ?_
        simp only [Act.put, zq1, zq2, zq3]
        refine wpList_nil ?_
        refine hK17 _ _ ?_
        clear hK17
        refine wp_cond_true rfl ?_
        refine wp_seq_k (fun K19 hK19 => ?_)
        refine wp_region_lit ?_
        refine pl M15 (y_assign (v := .int .i64 0) rfl rfl rfl) ?_
        simp only [Act.put, zq1, zq2, zq3]
        refine pl M15 (y_assign (v := .slice none 0 0) rfl rfl rfl) ?_
        simp only [Act.put, zq1, zq2, zq3]
        refine pl M15 (y_assign (v := .int .i64 51) rfl rfl rfl) ?_
        simp only [Act.put, zq1, zq2, zq3]
        refine wpList_nil ?_
        refine hK19 _ _ ?_
        clear hK19
        refine wp_ret ?_
        try simp only [Exit.inBlock, Exit.then]
        refine bodyPost_ret (v := .tuple #[.int .i64 0, .slice none 0 0, .int .i64 51]) (res3 rfl rfl rfl rfl) rfl ?_
        have N := (M15.nilst 5 1)
        have e1 : unpgE (page : Int) l = 51 := (unpg_cases hp hl).2.2.1 h10 (of_decide_eq_true h16) (by omega)
        obtain ⟨e2, e3⟩ := unpg_no e1 (by decide)
        rw [e1, e2, e3]
        exact ⟨_, rfl, N⟩
      · refine pl M15 (y_gtr (b := false) rfl rfl rfl rfl (decide_eq_false h18)) ?_
        simp only [Act.put, zq1, zq2, zq3]
        refine pl M15 (y_assign (v := .bool false) rfl rfl rfl) ?_
        simp only [Act.put, zq1, zq2, zq3]
        refine wpList_nil ?_
        refine hK17 _ _ ?_
        clear hK17
        refine wp_cond_false rfl ?_
        refine wp_seq_k (fun K20 hK20 => ?_)
        refine wp_region_lit ?_
        refine pl M15 (y_move (v := .slice (some ⟨rb, ro, none⟩) 256 c) rfl rfl rfl) ?_
        simp only [Act.put, zq1, zq2, zq3]
        refine pl M15 (y_sls (l := 2) (h := 256) (r := ro + 2) (n' := 254) (c' := c - 2) rfl rfl rfl rfl rfl Try.underlying22 Try.sizeOf5 (by exact ⟨rfl, ⟨_, _, rfl, by omega, by omega⟩⟩) (by split <;> omega) (by omega) (by omega)) ?_
        simp only [Act.put, zq1, zq2, zq3]
        refine pe rfl (fun K hK => ?_)
        refine e_call 58 [.slice (some ⟨rb, ro + 2, none⟩) 254 (c - 2), .int .i64 4] rfl rfl Try.call58 (get_any (some ⟨rb, ro + 2, none⟩) 254 (c - 2) (l.drop 2) 4 _ ((M15.row hr (by simp)).drop 2 (by omega)) (by omega) (by omega) (by unfold maxLen; omega)) ?_
        rintro e w21 ⟨rfl, H21⟩
        have M21 : Mem w [] w21 [] := M15.same H21
        refine ⟨_, rfl, ?_⟩
        refine hK.out _ _ ?_
        clear hK K
        simp only [Act.put, zq1, zq2, zq3]
        refine pl M21 (y_move (v := .int .i64 (page : Int)) rfl rfl rfl) ?_
        simp only [Act.put, zq1, zq2, zq3]
        rcases Decidable.em (((decN ((l.drop 2).take 4) : Nat) : Int) = (page : Int)) with h22 | h22
        · refine pl M21 (y_neq (b := false) rfl rfl rfl rfl (by rw [decide_eq_true h22]; rfl)) ?_
          simp only [Act.put, zq1, zq2, zq3]
          refine pl M21 (y_assign (v := .bool false) rfl rfl rfl) ?_
          simp only [Act.put, zq1, zq2, zq3]
          refine wpList_nil ?_
          refine hK20 _ _ ?_
          clear hK20
          refine wp_cond_false rfl ?_
          refine wp_seq_k (fun K23 hK23 => ?_)
          refine wp_region_lit ?_
          refine pl M21 (y_move (v := .slice (some ⟨rb, ro, none⟩) 256 c) rfl rfl rfl) ?_
          simp only [Act.put, zq1, zq2, zq3]
          refine pl M21 (y_move (v := .int .i64 ((l.getD 1 0).toNat : Int)) rfl rfl rfl) ?_
          simp only [Act.put, zq1, zq2, zq3]
          refine pl M21 (y_add (r := ((6 + (l.getD 1 0).toNat : Nat) : Int)) rfl rfl rfl rfl (by omega) (by omega)) ?_
          simp only [Act.put, zq1, zq2, zq3]
          refine pl M21 (y_sls (l := 6 + (l.getD 1 0).toNat) (h := 252) (r := ro + (6 + (l.getD 1 0).toNat)) (n' := 246 - (l.getD 1 0).toNat) (c' := c - (6 + (l.getD 1 0).toNat)) rfl rfl rfl rfl rfl Try.underlying22 Try.sizeOf5 (by exact ⟨⟨_, _, rfl, by omega, by omega⟩, ⟨_, _, rfl, by omega, by omega⟩⟩) (by split <;> omega) (by omega) (by omega)) ?_
          simp only [Act.put, zq1, zq2, zq3]
          refine pe rfl (fun K hK => ?_)
          refine e_call 57 [.slice (some ⟨rb, ro + (6 + (l.getD 1 0).toNat), none⟩) (246 - (l.getD 1 0).toNat) (c - (6 + (l.getD 1 0).toNat))] rfl rfl Try.call57 (allZero_any (some ⟨rb, ro + (6 + (l.getD 1 0).toNat), none⟩) (246 - (l.getD 1 0).toNat) (c - (6 + (l.getD 1 0).toNat)) ((l.drop (6 + (l.getD 1 0).toNat)).take (246 - (l.getD 1 0).toNat)) _ (((M21.row hr (by simp)).drop (6 + (l.getD 1 0).toNat) (by omega)).take (246 - (l.getD 1 0).toNat) (by omega)) (by unfold maxLen; omega)) ?_
          rintro e w24 ⟨rfl, H24⟩
          have M24 : Mem w [] w24 [] := M21.same H24
          rcases Bool.eq_false_or_eq_true (allZ ((l.drop (6 + (l.getD 1 0).toNat)).take (246 - (l.getD 1 0).toNat))) with h25 | h25
          · rw [h25]
            refine ⟨_, rfl, ?_⟩
            refine hK.out _ _ ?_
            clear hK K
            simp only [Act.put, zq1, zq2, zq3]
            refine pl M24 (y_not rfl rfl rfl rfl) ?_
            simp only [Act.put, zq1, zq2, zq3]
            refine pl M24 (y_assign (v := .bool false) rfl rfl rfl) ?_
            simp only [Act.put, zq1, zq2, zq3]
            refine wpList_nil ?_
            refine hK23 _ _ ?_
            clear hK23
            refine wp_cond_false rfl ?_
            refine wp_skip ?_
            refine hK13 _ _ ?_
            clear hK13
            refine wp_seq_k (fun K26 hK26 => ?_)
            refine wp_region_lit ?_
            refine pl M24 (y_move (v := .int .i64 ((l.getD 0 0).toNat : Int)) rfl rfl rfl) ?_
            simp only [Act.put, zq1, zq2, zq3]
            refine pl M24 (y_move (v := .slice (some ⟨rb, ro, none⟩) 256 c) rfl rfl rfl) ?_
            simp only [Act.put, zq1, zq2, zq3]
            refine pl M24 (y_move (v := .int .i64 ((l.getD 1 0).toNat : Int)) rfl rfl rfl) ?_
            simp only [Act.put, zq1, zq2, zq3]
            refine pl M24 (y_add (r := ((6 + (l.getD 1 0).toNat : Nat) : Int)) rfl rfl rfl rfl (by omega) (by omega)) ?_
            simp only [Act.put, zq1, zq2, zq3]
            refine pl M24 (y_sls (l := 6) (h := 6 + (l.getD 1 0).toNat) (r := ro + 6) (n' := (l.getD 1 0).toNat) (c' := c - 6) rfl rfl rfl rfl rfl Try.underlying22 Try.sizeOf5 (by exact ⟨⟨_, _, rfl, by omega, by omega⟩, ⟨_, _, rfl, by omega, by omega⟩⟩) (by split <;> omega) (by omega) (by omega)) ?_
            simp only [Act.put, zq1, zq2, zq3]
            have M27 : Mem w [] w24 [lst 5 1 (.slice none 0 0) 0 ([])] := M24.nilst 5 1
            refine pe rfl (fun K hK => ?_)
            refine e_append M27 0 bytesT (by decide) (news := bvs ((l.drop 6).take (l.getD 1 0).toNat)) rfl rfl rfl rfl (by rw [length_bvs, hpl.resolve_left (by omega), Nat.mul_one]) (by intro h; cases h) ((((M27.row hr (by simp)).drop 6 (by omega)).take (l.getD 1 0).toNat (by omega)).news) (bvs_oneCell _) (⟨by unfold maxLen; omega, by omega⟩) ?_
            intro v28 w28 M28
            replace M28 : Mem w [] w28 [lst 5 1 v28 ((l.getD 1 0).toNat) (bvs ((l.drop 6).take (l.getD 1 0).toNat))] := (by have h := M28; rw [Nat.zero_add] at h; exact h)
            clear M27
            obtain ⟨a28, c28, rfl⟩ := qv_at (M28.get 0 rfl)
            refine hK.out _ _ ?_
            clear hK K
            simp only [Act.put, zq1, zq2, zq3]
            refine pl M28 (y_assign (v := .int .i64 ((l.getD 0 0).toNat : Int)) rfl rfl rfl) ?_
            simp only [Act.put, zq1, zq2, zq3]
            refine pl M28 (y_assign (v := .slice a28 ((l.getD 1 0).toNat) c28) rfl rfl rfl) ?_
            simp only [Act.put, zq1, zq2, zq3]
            refine pl M28 (y_assign (v := .int .i64 0) rfl rfl rfl) ?_
            simp only [Act.put, zq1, zq2, zq3]
            refine wpList_nil ?_
            refine hK26 _ _ ?_
            clear hK26
            refine wp_ret ?_
            try simp only [Exit.inBlock, Exit.then]
            refine bodyPost_ret (v := .tuple #[.int .i64 ((l.getD 0 0).toNat : Int), .slice a28 ((l.getD 1 0).toNat) c28, .int .i64 0]) (res3 rfl rfl rfl rfl) rfl ?_
            have e1 : unpgE (page : Int) l = 0 := (unpg_cases hp hl).2.2.2.2.2 h10 (of_decide_eq_true h16) (by omega) h22 h25
            obtain ⟨e2, e3⟩ := unpg_yes e1
            rw [e1, e2, e3, hpl.resolve_left (by omega)]
            exact ⟨_, rfl, M28⟩
          · rw [h25]
            refine ⟨_, rfl, ?_⟩
            refine hK.out _ _ ?_
            clear hK K
            simp only [Act.put, zq1, zq2, zq3]
            refine pl M24 (y_not rfl rfl rfl rfl) ?_
            simp only [Act.put, zq1, zq2, zq3]
            refine pl M24 (y_assign (v := .bool true) rfl rfl rfl) ?_
            simp only [Act.put, zq1, zq2, zq3]
            refine wpList_nil ?_
            refine hK23 _ _ ?_
            clear hK23
            refine wp_cond_true rfl ?_
            refine wp_seq_k (fun K29 hK29 => ?_)
            refine wp_region_lit ?_
            refine pl M24 (y_assign (v := .int .i64 0) rfl rfl rfl) ?_
            simp only [Act.put, zq1, zq2, zq3]
            refine pl M24 (y_assign (v := .slice none 0 0) rfl rfl rfl) ?_
            simp only [Act.put, zq1, zq2, zq3]
            refine pl M24 (y_assign (v := .int .i64 53) rfl rfl rfl) ?_
            simp only [Act.put, zq1, zq2, zq3]
            refine wpList_nil ?_
            refine hK29 _ _ ?_
            clear hK29
            refine wp_ret ?_
            try simp only [Exit.inBlock, Exit.then]
            refine bodyPost_ret (v := .tuple #[.int .i64 0, .slice none 0 0, .int .i64 53]) (res3 rfl rfl rfl rfl) rfl ?_
            have N := (M24.nilst 5 1)
            have e1 : unpgE (page : Int) l = 53 := (unpg_cases hp hl).2.2.2.2.1 h10 (of_decide_eq_true h16) (by omega) h22 h25
            obtain ⟨e2, e3⟩ := unpg_no e1 (by decide)
            rw [e1, e2, e3]
            exact ⟨_, rfl, N⟩
        · refine pl M21 (y_neq (b := true) rfl rfl rfl rfl (by rw [decide_eq_false h22]; rfl)) ?_
          simp only [Act.put, zq1, zq2, zq3]
          refine pl M21 (y_assign (v := .bool true) rfl rfl rfl) ?_
          simp only [Act.put, zq1, zq2, zq3]
          refine wpList_nil ?_
          refine hK20 _ _ ?_
          clear hK20
          refine wp_cond_true rfl ?_
          refine wp_seq_k (fun K30 hK30 => ?_)
          refine wp_region_lit ?_
          refine pl M21 (y_assign (v := .int .i64 0) rfl rfl rfl) ?_
          simp only [Act.put, zq1, zq2, zq3]
          refine pl M21 (y_assign (v := .slice none 0 0) rfl rfl rfl) ?_
          simp only [Act.put, zq1, zq2, zq3]
          refine pl M21 (y_assign (v := .int .i64 54) rfl rfl rfl) ?_
          simp only [Act.put, zq1, zq2, zq3]
          refine wpList_nil ?_
          refine hK30 _ _ ?_
          clear hK30
          refine wp_ret ?_
          try simp only [Exit.inBlock, Exit.then]
          refine bodyPost_ret (v := .tuple #[.int .i64 0, .slice none 0 0, .int .i64 54]) (res3 rfl rfl rfl rfl) rfl ?_
          have N := (M21.nilst 5 1)
          have e1 : unpgE (page : Int) l = 54 := (unpg_cases hp hl).2.2.2.1 h10 (of_decide_eq_true h16) (by omega) h22
          obtain ⟨e2, e3⟩ := unpg_no e1 (by decide)
          rw [e1, e2, e3]
          exact ⟨_, rfl, N⟩
    · rw [h16]
      refine ⟨_, rfl, ?_⟩
      refine hK.out _ _ ?_
      clear hK K
      simp only [Act.put, zq1, zq2, zq3]
      refine pl M15 (y_not rfl rfl rfl rfl) ?_
      simp only [Act.put, zq1, zq2, zq3]
      refine pl M15 (y_assign (v := .bool true) rfl rfl rfl) ?_
      simp only [Act.put, zq1, zq2, zq3]
      refine wpList_nil ?_
      refine hK14 _ _ ?_
      clear hK14
      refine wp_cond_true rfl ?_
      refine wp_seq_k (fun K31 hK31 => ?_)
      refine wp_region_lit ?_
      refine pl M15 (y_assign (v := .int .i64 0) rfl rfl rfl) ?_
      simp only [Act.put, zq1, zq2, zq3]
      refine pl M15 (y_assign (v := .slice none 0 0) rfl rfl rfl) ?_
      simp only [Act.put, zq1, zq2, zq3]
      refine pl M15 (y_assign (v := .int .i64 50) rfl rfl rfl) ?_
      simp only [Act.put, zq1, zq2, zq3]
      refine wpList_nil ?_
      refine hK31 _ _ ?_
      clear hK31
      refine wp_ret ?_
      try simp only [Exit.inBlock, Exit.then]
      refine bodyPost_ret (v := .tuple #[.int .i64 0, .slice none 0 0, .int .i64 50]) (res3 rfl rfl rfl rfl) rfl ?_
      have N := (M15.nilst 5 1)
      have e1 : unpgE (page : Int) l = 50 := (unpg_cases hp hl).2.1 h10 (of_decide_eq_false h16)
      obtain ⟨e2, e3⟩ := unpg_no e1 (by decide)
      rw [e1, e2, e3]
      exact ⟨_, rfl, N⟩
  · rw [h10]
    refine ⟨_, rfl, ?_⟩
    refine hK.out _ _ ?_
    clear hK K
    simp only [Act.put, zq1, zq2, zq3]
    refine pl M9 (y_not rfl rfl rfl rfl) ?_
    simp only [Act.put, zq1, zq2, zq3]
    refine wpList_nil ?_
    refine hK8 _ _ ?_
    clear hK8
    refine wp_cond_true rfl ?_
    refine wp_seq_k (fun K32 hK32 => ?_)
    refine wp_region_lit ?_
    refine pl M9 (y_assign (v := .int .i64 0) rfl rfl rfl) ?_
    simp only [Act.put, zq1, zq2, zq3]
    refine pl M9 (y_assign (v := .slice none 0 0) rfl rfl rfl) ?_
    simp only [Act.put, zq1, zq2, zq3]
    refine pl M9 (y_assign (v := .int .i64 52) rfl rfl rfl) ?_
    simp only [Act.put, zq1, zq2, zq3]
    refine wpList_nil ?_
    refine hK32 _ _ ?_
    clear hK32
    refine wp_ret ?_
    try simp only [Exit.inBlock, Exit.then]
    refine bodyPost_ret (v := .tuple #[.int .i64 0, .slice none 0 0, .int .i64 52]) (res3 rfl rfl rfl rfl) rfl ?_
    have N := (M9.nilst 5 1)
    have e1 : unpgE (page : Int) l = 52 := (unpg_cases hp hl).1 h10
    obtain ⟨e2, e3⟩ := unpg_no e1 (by decide)
    rw [e1, e2, e3]
    exact ⟨_, rfl, N⟩
end Go.Proofs.Ytehnnnohoaapdaa
