/- Texts joined: Law1, Law2, Law3, Law4. -/
import Derived.Test.YtehnnnohoaapdaaFC13
import Derived.Test.YtehnnnohoaapdaaFC12
/- The statements' own fits and place. -/
namespace Go.Proofs.Ytehnnnohoaapdaa
set_option linter.unusedSectionVars false
open Go Go.RowKit
set_option linter.unusedVariables false
set_option linter.unusedSimpArgs false
def Fits (pages width : Int) : Prop := 3 ≤ pages ∧ pages ≤ 64 ∧ 1 ≤ width ∧ width ≤ 32
instance (p w : Int) : Decidable (Fits p w) := inferInstanceAs (Decidable (_ ∧ _))
theorem tmod_place (i n : Int) (hn : 0 < n) : (if i.tmod n < 0 then i.tmod n + n else i.tmod n) = i % n := by
  have h := Int.tmod_eq_emod (a := i) (b := n)
  have h1 := Int.emod_nonneg i (show n ≠ 0 by omega)
  have h2 := Int.emod_lt_of_pos i hn
  rw [h]
  split <;> split <;> simp_all <;> omega
theorem tmod_in (i n : Int) (hn : 0 < n) (hn2 : n ≤ 4096) : -4096 ≤ i.tmod n ∧ i.tmod n ≤ 4096 := by
  have h := Int.tmod_eq_emod (a := i) (b := n)
  have h1 := Int.emod_nonneg i (show n ≠ 0 by omega)
  have h2 := Int.emod_lt_of_pos i hn
  rw [h]
  split <;> omega
set_option maxRecDepth 100000 in
set_option maxHeartbeats 4000000 in
theorem fits_any (pages width : Int) (w : World) : Calls Try.prog 11 #[.int .i64 pages, .int .i64 width] w fun e w' => e = .returned (.bool (decide (Fits pages width))) ∧ Mem w [] w' [] := by
  have M := Mem.nil w
  go_enter Try.func11, Try.ntmps11
  refine wp_seq_k (fun K1 hK1 => ?_)
  refine wp_region_lit ?_
  refine pl M (y_assign (v := .bool false) rfl rfl rfl) ?_
  simp only [Act.put, zq1, zq2, zq3]
  refine wpList_nil ?_
  refine hK1 _ _ ?_
  clear hK1
  refine wp_seq_k (fun K2 hK2 => ?_)
  refine wp_region_lit ?_
  refine pl M (y_move (v := .int .i64 pages) rfl rfl rfl) ?_
  simp only [Act.put, zq1, zq2, zq3]
  rcases Decidable.em ((3 : Int) ≤ pages) with h3 | h3
  · refine pl M (y_geq (b := true) rfl rfl rfl rfl (decide_eq_true h3)) ?_
    simp only [Act.put, zq1, zq2, zq3]
    refine pl M (y_move (v := .bool true) rfl rfl rfl) ?_
    simp only [Act.put, zq1, zq2, zq3]
    refine pl M (y_move (v := .int .i64 pages) rfl rfl rfl) ?_
    simp only [Act.put, zq1, zq2, zq3]
    rcases Decidable.em (pages ≤ 64) with h4 | h4
    · refine pl M (y_leq (b := true) rfl rfl rfl rfl (decide_eq_true h4)) ?_
      simp only [Act.put, zq1, zq2, zq3]
      refine pl M (y_pickT (v := .bool true) rfl rfl rfl rfl) ?_
      simp only [Act.put, zq1, zq2, zq3]
      refine pl M (y_move (v := .bool true) rfl rfl rfl) ?_
      simp only [Act.put, zq1, zq2, zq3]
      refine pl M (y_move (v := .int .i64 width) rfl rfl rfl) ?_
      simp only [Act.put, zq1, zq2, zq3]
      rcases Decidable.em ((1 : Int) ≤ width) with h5 | h5
      · refine pl M (y_geq (b := true) rfl rfl rfl rfl (decide_eq_true h5)) ?_
        simp only [Act.put, zq1, zq2, zq3]
        refine pl M (y_pickT (v := .bool true) rfl rfl rfl rfl) ?_
        simp only [Act.put, zq1, zq2, zq3]
        refine pl M (y_move (v := .bool true) rfl rfl rfl) ?_
        simp only [Act.put, zq1, zq2, zq3]
        refine pl M (y_move (v := .int .i64 width) rfl rfl rfl) ?_
        simp only [Act.put, zq1, zq2, zq3]
        refine pl M (y_leq rfl rfl rfl rfl rfl) ?_
        simp only [Act.put, zq1, zq2, zq3]
        refine pl M (y_pickT (v := .bool (decide (width ≤ 32))) rfl rfl rfl rfl) ?_
        simp only [Act.put, zq1, zq2, zq3]
        refine pl M (y_assign (v := .bool (decide (width ≤ 32))) rfl rfl rfl) ?_
        simp only [Act.put, zq1, zq2, zq3]
        refine wpList_nil ?_
        refine hK2 _ _ ?_
        clear hK2
        refine wp_ret ?_
        try simp only [Exit.inBlock, Exit.then]
        refine bodyPost_ret (v := .bool (decide (width ≤ 32))) (res1 rfl rfl) rfl ?_
        have e : decide (width ≤ 32) = decide (Fits pages width) := decide_eq_decide.2 ⟨fun h => ⟨by omega, by omega, by omega, h⟩, fun h => h.2.2.2⟩
        rw [e]
        exact ⟨rfl, M⟩
      · refine pl M (y_geq (b := false) rfl rfl rfl rfl (decide_eq_false h5)) ?_
        simp only [Act.put, zq1, zq2, zq3]
        refine pl M (y_pickT (v := .bool false) rfl rfl rfl rfl) ?_
        simp only [Act.put, zq1, zq2, zq3]
        refine pl M (y_move (v := .bool false) rfl rfl rfl) ?_
        simp only [Act.put, zq1, zq2, zq3]
        with_reducible refine pskip ?_ ?_
        · rfl
        simp only [Act.put, zq1, zq2, zq3]
        with_reducible refine pskip ?_ ?_
        · rfl
        simp only [Act.put, zq1, zq2, zq3]
        refine pl M (y_pickF (v := .bool false) rfl rfl rfl rfl) ?_
        simp only [Act.put, zq1, zq2, zq3]
        refine pl M (y_assign (v := .bool false) rfl rfl rfl) ?_
        simp only [Act.put, zq1, zq2, zq3]
        refine wpList_nil ?_
        refine hK2 _ _ ?_
        clear hK2
        refine wp_ret ?_
        try simp only [Exit.inBlock, Exit.then]
        refine bodyPost_ret (v := .bool false) (res1 rfl rfl) rfl ?_
        have e : decide (Fits pages width) = false := decide_eq_false fun h => by obtain ⟨h1, h2, h3, h4⟩ := h; omega
        rw [e]
        exact ⟨rfl, M⟩
    · refine pl M (y_leq (b := false) rfl rfl rfl rfl (decide_eq_false h4)) ?_
      simp only [Act.put, zq1, zq2, zq3]
      refine pl M (y_pickT (v := .bool false) rfl rfl rfl rfl) ?_
      simp only [Act.put, zq1, zq2, zq3]
      refine pl M (y_move (v := .bool false) rfl rfl rfl) ?_
      simp only [Act.put, zq1, zq2, zq3]
      with_reducible refine pskip ?_ ?_
      · rfl
      simp only [Act.put, zq1, zq2, zq3]
      with_reducible refine pskip ?_ ?_
      · rfl
      simp only [Act.put, zq1, zq2, zq3]
      refine pl M (y_pickF (v := .bool false) rfl rfl rfl rfl) ?_
      simp only [Act.put, zq1, zq2, zq3]
      refine pl M (y_move (v := .bool false) rfl rfl rfl) ?_
      simp only [Act.put, zq1, zq2, zq3]
      with_reducible refine pskip ?_ ?_
      · rfl
      simp only [Act.put, zq1, zq2, zq3]
      with_reducible refine pskip ?_ ?_
      · rfl
      simp only [Act.put, zq1, zq2, zq3]
      refine pl M (y_pickF (v := .bool false) rfl rfl rfl rfl) ?_
      simp only [Act.put, zq1, zq2, zq3]
      refine pl M (y_assign (v := .bool false) rfl rfl rfl) ?_
      simp only [Act.put, zq1, zq2, zq3]
      refine wpList_nil ?_
      refine hK2 _ _ ?_
      clear hK2
      refine wp_ret ?_
      try simp only [Exit.inBlock, Exit.then]
      refine bodyPost_ret (v := .bool false) (res1 rfl rfl) rfl ?_
      have e : decide (Fits pages width) = false := decide_eq_false fun h => by obtain ⟨h1, h2, h3, h4⟩ := h; omega
      rw [e]
      exact ⟨rfl, M⟩
  · refine pl M (y_geq (b := false) rfl rfl rfl rfl (decide_eq_false h3)) ?_
    simp only [Act.put, zq1, zq2, zq3]
    refine pl M (y_move (v := .bool false) rfl rfl rfl) ?_
    simp only [Act.put, zq1, zq2, zq3]
    with_reducible refine pskip ?_ ?_
    · rfl
    simp only [Act.put, zq1, zq2, zq3]
    with_reducible refine pskip ?_ ?_
    · rfl
    simp only [Act.put, zq1, zq2, zq3]
    refine pl M (y_pickF (v := .bool false) rfl rfl rfl rfl) ?_
    simp only [Act.put, zq1, zq2, zq3]
    refine pl M (y_move (v := .bool false) rfl rfl rfl) ?_
    simp only [Act.put, zq1, zq2, zq3]
    with_reducible refine pskip ?_ ?_
    · rfl
    simp only [Act.put, zq1, zq2, zq3]
    with_reducible refine pskip ?_ ?_
    · rfl
    simp only [Act.put, zq1, zq2, zq3]
    refine pl M (y_pickF (v := .bool false) rfl rfl rfl rfl) ?_
    simp only [Act.put, zq1, zq2, zq3]
    refine pl M (y_move (v := .bool false) rfl rfl rfl) ?_
    simp only [Act.put, zq1, zq2, zq3]
    with_reducible refine pskip ?_ ?_
    · rfl
    simp only [Act.put, zq1, zq2, zq3]
    with_reducible refine pskip ?_ ?_
    · rfl
    simp only [Act.put, zq1, zq2, zq3]
    refine pl M (y_pickF (v := .bool false) rfl rfl rfl rfl) ?_
    simp only [Act.put, zq1, zq2, zq3]
    refine pl M (y_assign (v := .bool false) rfl rfl rfl) ?_
    simp only [Act.put, zq1, zq2, zq3]
    refine wpList_nil ?_
    refine hK2 _ _ ?_
    clear hK2
    refine wp_ret ?_
    try simp only [Exit.inBlock, Exit.then]
    refine bodyPost_ret (v := .bool false) (res1 rfl rfl) rfl ?_
    have e : decide (Fits pages width) = false := decide_eq_false fun h => by obtain ⟨h1, h2, h3, h4⟩ := h; omega
    rw [e]
    exact ⟨rfl, M⟩
set_option maxRecDepth 100000 in
set_option maxHeartbeats 4000000 in
theorem place3_any (i n : Int) (hn : 0 < n) (hn2 : n ≤ 4096) (w : World) : Calls Try.prog 13 #[.int .i64 i, .int .i64 n] w fun e w' => e = .returned (.int .i64 (i % n)) ∧ Mem w [] w' [] := by
  have M := Mem.nil w
  have hin := tmod_in i n hn hn2
  go_enter Try.func13, Try.ntmps13
  refine wp_seq_k (fun K1 hK1 => ?_)
  refine wp_region_lit ?_
  refine pl M (y_assign (v := .int .i64 0) rfl rfl rfl) ?_
  simp only [Act.put, zq1, zq2, zq3]
  refine wpList_nil ?_
  refine hK1 _ _ ?_
  clear hK1
  refine wp_seq_k (fun K2 hK2 => ?_)
  refine wp_region_lit ?_
  refine pl M (y_move (v := .int .i64 i) rfl rfl rfl) ?_
  simp only [Act.put, zq1, zq2, zq3]
  refine pl M (y_move (v := .int .i64 n) rfl rfl rfl) ?_
  simp only [Act.put, zq1, zq2, zq3]
  refine pl M (y_rem (r := i.tmod n) rfl rfl rfl rfl (by omega) (rfl)) ?_
  simp only [Act.put, zq1, zq2, zq3]
  refine pl M (y_assign (v := .int .i64 (i.tmod n)) rfl rfl rfl) ?_
  simp only [Act.put, zq1, zq2, zq3]
  refine wpList_nil ?_
  refine hK2 _ _ ?_
  clear hK2
  refine wp_seq_k (fun K3 hK3 => ?_)
  refine wp_seq_k (fun K4 hK4 => ?_)
  refine wp_region_lit ?_
  refine pl M (y_move (v := .int .i64 (i.tmod n)) rfl rfl rfl) ?_
  simp only [Act.put, zq1, zq2, zq3]
  rcases Decidable.em (i.tmod n < 0) with h5 | h5
  · refine pl M (y_lss (b := true) rfl rfl rfl rfl (decide_eq_true h5)) ?_
    simp only [Act.put, zq1, zq2, zq3]
    refine wpList_nil ?_
    refine hK4 _ _ ?_
    clear hK4
    refine wp_cond_true rfl ?_
    refine wp_region_lit ?_
    refine pl M (y_move (v := .int .i64 (i.tmod n)) rfl rfl rfl) ?_
    simp only [Act.put, zq1, zq2, zq3]
    refine pl M (y_move (v := .int .i64 n) rfl rfl rfl) ?_
    simp only [Act.put, zq1, zq2, zq3]
    refine pl M (y_add (r := i.tmod n + n) rfl rfl rfl rfl (rfl) (by omega)) ?_
    simp only [Act.put, zq1, zq2, zq3]
    refine pl M (y_assign (v := .int .i64 (i.tmod n + n)) rfl rfl rfl) ?_
    simp only [Act.put, zq1, zq2, zq3]
    refine wpList_nil ?_
    refine hK3 _ _ ?_
    clear hK3
    refine wp_seq_k (fun K6 hK6 => ?_)
    refine wp_region_lit ?_
    refine pl M (y_move (v := .int .i64 (i.tmod n + n)) rfl rfl rfl) ?_
    simp only [Act.put, zq1, zq2, zq3]
    refine pl M (y_assign (v := .int .i64 (i.tmod n + n)) rfl rfl rfl) ?_
    simp only [Act.put, zq1, zq2, zq3]
    refine wpList_nil ?_
    refine hK6 _ _ ?_
    clear hK6
    refine wp_ret ?_
    try simp only [Exit.inBlock, Exit.then]
    refine bodyPost_ret (v := .int .i64 (i.tmod n + n)) (res1 rfl rfl) rfl ?_
    have e := tmod_place i n hn
    rw [if_pos h5] at e
    rw [e]
    exact ⟨rfl, M⟩
  · refine pl M (y_lss (b := false) rfl rfl rfl rfl (decide_eq_false h5)) ?_
    simp only [Act.put, zq1, zq2, zq3]
    refine wpList_nil ?_
    refine hK4 _ _ ?_
    clear hK4
    refine wp_cond_false rfl ?_
    refine wp_skip ?_
    refine hK3 _ _ ?_
    clear hK3
    refine wp_seq_k (fun K7 hK7 => ?_)
    refine wp_region_lit ?_
    refine pl M (y_move (v := .int .i64 (i.tmod n)) rfl rfl rfl) ?_
    simp only [Act.put, zq1, zq2, zq3]
    refine pl M (y_assign (v := .int .i64 (i.tmod n)) rfl rfl rfl) ?_
    simp only [Act.put, zq1, zq2, zq3]
    refine wpList_nil ?_
    refine hK7 _ _ ?_
    clear hK7
    refine wp_ret ?_
    try simp only [Exit.inBlock, Exit.then]
    refine bodyPost_ret (v := .int .i64 (i.tmod n)) (res1 rfl rfl) rfl ?_
    have e := tmod_place i n hn
    rw [if_neg h5] at e
    rw [e]
    exact ⟨rfl, M⟩
end Go.Proofs.Ytehnnnohoaapdaa

/- The statements' own fresh. -/
namespace Go.Proofs.Ytehnnnohoaapdaa
set_option linter.unusedSectionVars false
open Go Go.RowKit
set_option linter.unusedVariables false
set_option linter.unusedSimpArgs false
theorem new_fit (k : Nat) (h : 3 ≤ k ∧ k ≤ 4096) (w : World) : Calls Try.prog 12 #[.int .i64 (k : Int)] w fun e w' => ∃ p pg mb, e = .returned (.tuple #[.pointer (some ⟨p, 0, none⟩), .int .i64 0]) ∧ Mem w [] w' [disk (newD k) p pg mb (.slice none 0 0)] := by
  refine (new_any (k : Int) w).mono ?_
  rintro e w' (⟨h1, _⟩ | ⟨_, _, p, pg, mb, rfl, h2⟩)
  · omega
  · exact ⟨p, pg, mb, rfl, h2⟩
end Go.Proofs.Ytehnnnohoaapdaa

/- The book: one more page. -/
namespace Go.Proofs.Ytehnnnohoaapdaa
set_option linter.unusedSectionVars false
open Go Go.RowKit
set_option linter.unusedVariables false
set_option linter.unusedSimpArgs false
end Go.Proofs.Ytehnnnohoaapdaa

/- The book: does the file hold what stands in it? -/
namespace Go.Proofs.Ytehnnnohoaapdaa
set_option linter.unusedSectionVars false
open Go Go.RowKit
set_option linter.unusedVariables false
set_option linter.unusedSimpArgs false
theorem fread_fit {D : DV} {V : FV} {ps : Pgs} {f p pg mb : Nat} {qv : Value} {w : World} (hM : Mem w (foots [disk D p pg mb qv, blk f 96 (fC V p)]) w [disk D p pg mb qv, blk f 96 (fC V p)]) (h : Inv D V ps) (n : Nat) (h1 : 2 ≤ n) (h2 : (n : Int) < V.next) :
    Calls Try.prog 25 #[.pointer (some ⟨f, 0, none⟩), .int .i64 (n : Int)] w fun e w' => ∃ a c r, e = .returned (.tuple #[.int .i64 ((pgAt ps n).1 : Int), .slice a (pgAt ps n).2.length c, .int .i64 0]) ∧ Mem w (foots [disk D p pg mb qv, blk f 96 (fC V p)]) w' [disk (D.rd r) p pg mb qv, blk f 96 (fC V p), bytesL (.slice a (pgAt ps n).2.length c) (pgAt ps n).2] ∧ r = wrap64 (D.reads + 1) := by
  obtain ⟨r1, r2, r3, r4, r5⟩ := h.read h1 h2
  refine (fread_any hM n h.fok).mono ?_
  rintro e w' ⟨v, rfl, h3⟩
  rw [r3, r5] at h3
  rw [r1, r2]
  obtain ⟨a, c, rfl⟩ := qv_at (h3.get 2 rfl)
  exact ⟨a, c, _, rfl, h3, rfl⟩
end Go.Proofs.Ytehnnnohoaapdaa
