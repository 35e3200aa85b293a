/- Texts joined: Law1, Law2, Law3, Law4. -/
import Derived.Test.YtehnnnohoaapdaaFF14
import Derived.Test.YtehnnnohoaapdaaFF13
/- The statements' own fits and place. -/
namespace Go.Proofs.Ytehnnnohoaapdaa
set_option linter.unusedSectionVars false
open Go Go.RowKit
set_option linter.unusedVariables false
set_option linter.unusedSimpArgs false
def Fits (pages width : Int) : Prop := 3 ≤ pages ∧ pages ≤ 64 ∧ 1 ≤ width ∧ width ≤ 32
instance (p w : Int) : Decidable (Fits p w) := inferInstanceAs (Decidable (_ ∧ _))
theorem tmod_place (i n : Int) (hn : 0 < n) : (if i.tmod n < 0 then i.tmod n + n else i.tmod n) = i % n := by
  have h := Int.tmod_eq_emod (a := i) (b := n)
  have h1 := Int.emod_nonneg i (show n ≠ 0 by omega)
  have h2 := Int.emod_lt_of_pos i hn
  rw [h]
  split <;> split <;> simp_all <;> omega
theorem tmod_in (i n : Int) (hn : 0 < n) (hn2 : n ≤ 4096) : -4096 ≤ i.tmod n ∧ i.tmod n ≤ 4096 := by
  have h := Int.tmod_eq_emod (a := i) (b := n)
  have h1 := Int.emod_nonneg i (show n ≠ 0 by omega)
  have h2 := Int.emod_lt_of_pos i hn
  rw [h]
  split <;> omega
set_option maxRecDepth 100000 in
set_option maxHeartbeats 4000000 in
theorem fits_any (pages width : Int) (w : World) : Calls Try.prog 11 #[.int .i64 pages, .int .i64 width] w fun e w' => e = .returned (.bool (decide (Fits pages width))) ∧ Mem w [] w' [] := by
  have M := Mem.nil w
  go_enter Try.func11, Try.ntmps11
  refine wp_seq_k (fun K1 hK1 => ?_)
  refine wp_region_lit ?_
  refine pl M (y_assign (v := .bool false) rfl rfl rfl) ?_
  simp only [Act.put, z1, z2, z3]
  refine wpList_nil ?_
  refine hK1 _ _ ?_
  clear hK1
  refine wp_seq_k (fun K2 hK2 => ?_)
  refine wp_region_lit ?_
  refine pl M (y_move (v := .int .i64 pages) rfl rfl rfl) ?_
  simp only [Act.put, z1, z2, z3]
  rcases Decidable.em ((3 : Int) ≤ pages) with h3 | h3
  · refine pl M (y_geq (b := true) rfl rfl rfl rfl (decide_eq_true h3)) ?_
    simp only [Act.put, z1, z2, z3]
    refine pl M (y_move (v := .bool true) rfl rfl rfl) ?_
    simp only [Act.put, z1, z2, z3]
    refine pl M (y_move (v := .int .i64 pages) rfl rfl rfl) ?_
    simp only [Act.put, z1, z2, z3]
    rcases Decidable.em (pages ≤ 64) with h4 | h4
    · refine pl M (y_leq (b := true) rfl rfl rfl rfl (decide_eq_true h4)) ?_
      simp only [Act.put, z1, z2, z3]
      refine pl M (y_pickT (v := .bool true) rfl rfl rfl rfl) ?_
      simp only [Act.put, z1, z2, z3]
      refine pl M (y_move (v := .bool true) rfl rfl rfl) ?_
      simp only [Act.put, z1, z2, z3]
      refine pl M (y_move (v := .int .i64 width) rfl rfl rfl) ?_
      simp only [Act.put, z1, z2, z3]
      rcases Decidable.em ((1 : Int) ≤ width) with h5 | h5
      · refine pl M (y_geq (b := true) rfl rfl rfl rfl (decide_eq_true h5)) ?_
        simp only [Act.put, z1, z2, z3]
        refine pl M (y_pickT (v := .bool true) rfl rfl rfl rfl) ?_
        simp only [Act.put, z1, z2, z3]
        refine pl M (y_move (v := .bool true) rfl rfl rfl) ?_
        simp only [Act.put, z1, z2, z3]
        refine pl M (y_move (v := .int .i64 width) rfl rfl rfl) ?_
        simp only [Act.put, z1, z2, z3]
        refine pl M (y_leq rfl rfl rfl rfl rfl) ?_
        simp only [Act.put, z1, z2, z3]
        refine pl M (y_pickT (v := .bool (decide (width ≤ 32))) rfl rfl rfl rfl) ?_
        simp only [Act.put, z1, z2, z3]
        refine pl M (y_assign (v := .bool (decide (width ≤ 32))) rfl rfl rfl) ?_
        simp only [Act.put, z1, z2, z3]
        refine wpList_nil ?_
        refine hK2 _ _ ?_
        clear hK2
        refine wp_ret ?_
        try simp only [Exit.inBlock, Exit.then]
        refine bodyPost_ret (v := .bool (decide (width ≤ 32))) (res1 rfl rfl) rfl ?_
        have e : decide (width ≤ 32) = decide (Fits pages width) := decide_eq_decide.2 ⟨fun h => ⟨by omega, by omega, by omega, h⟩, fun h => h.2.2.2⟩
        rw [e]
        exact ⟨rfl, M⟩
      · refine pl M (y_geq (b := false) rfl rfl rfl rfl (decide_eq_false h5)) ?_
        simp only [Act.put, z1, z2, z3]
        refine pl M (y_pickT (v := .bool false) rfl rfl rfl rfl) ?_
        simp only [Act.put, z1, z2, z3]
        refine pl M (y_move (v := .bool false) rfl rfl rfl) ?_
        simp only [Act.put, z1, z2, z3]
        with_reducible refine pskip ?_ ?_
        · rfl
        simp only [Act.put, z1, z2, z3]
        with_reducible refine pskip ?_ ?_
        · rfl
        simp only [Act.put, z1, z2, z3]
        refine pl M (y_pickF (v := .bool false) rfl rfl rfl rfl) ?_
        simp only [Act.put, z1, z2, z3]
        refine pl M (y_assign (v := .bool false) rfl rfl rfl) ?_
        simp only [Act.put, z1, z2, z3]
        refine wpList_nil ?_
        refine hK2 _ _ ?_
        clear hK2
        refine wp_ret ?_
        try simp only [Exit.inBlock, Exit.then]
        refine bodyPost_ret (v := .bool false) (res1 rfl rfl) rfl ?_
        have e : decide (Fits pages width) = false := decide_eq_false fun h => by obtain ⟨h1, h2, h3, h4⟩ := h; omega
        rw [e]
        exact ⟨rfl, M⟩
    · refine pl M (y_leq (b := false) rfl rfl rfl rfl (decide_eq_false h4)) ?_
      simp only [Act.put, z1, z2, z3]
      refine pl M (y_pickT (v := .bool false) rfl rfl rfl rfl) ?_
      simp only [Act.put, z1, z2, z3]
      refine pl M (y_move (v := .bool false) rfl rfl rfl) ?_
      simp only [Act.put, z1, z2, z3]
      with_reducible refine pskip ?_ ?_
      · rfl
      simp only [Act.put, z1, z2, z3]
      with_reducible refine pskip ?_ ?_
      · rfl
      simp only [Act.put, z1, z2, z3]
      refine pl M (y_pickF (v := .bool false) rfl rfl rfl rfl) ?_
      simp only [Act.put, z1, z2, z3]
      refine pl M (y_move (v := .bool false) rfl rfl rfl) ?_
      simp only [Act.put, z1, z2, z3]
      with_reducible refine pskip ?_ ?_
      · rfl
      simp only [Act.put, z1, z2, z3]
      with_reducible refine pskip ?_ ?_
      · rfl
      simp only [Act.put, z1, z2, z3]
      refine pl M (y_pickF (v := .bool false) rfl rfl rfl rfl) ?_
      simp only [Act.put, z1, z2, z3]
      refine pl M (y_assign (v := .bool false) rfl rfl rfl) ?_
      simp only [Act.put, z1, z2, z3]
      refine wpList_nil ?_
      refine hK2 _ _ ?_
      clear hK2
      refine wp_ret ?_
      try simp only [Exit.inBlock, Exit.then]
      refine bodyPost_ret (v := .bool false) (res1 rfl rfl) rfl ?_
      have e : decide (Fits pages width) = false := decide_eq_false fun h => by obtain ⟨h1, h2, h3, h4⟩ := h; omega
      rw [e]
      exact ⟨rfl, M⟩
  · refine pl M (y_geq (b := false) rfl rfl rfl rfl (decide_eq_false h3)) ?_
    simp only [Act.put, z1, z2, z3]
    refine pl M (y_move (v := .bool false) rfl rfl rfl) ?_
    simp only [Act.put, z1, z2, z3]
    with_reducible refine pskip ?_ ?_
    · rfl
    simp only [Act.put, z1, z2, z3]
    with_reducible refine pskip ?_ ?_
    · rfl
    simp only [Act.put, z1, z2, z3]
    refine pl M (y_pickF (v := .bool false) rfl rfl rfl rfl) ?_
    simp only [Act.put, z1, z2, z3]
    refine pl M (y_move (v := .bool false) rfl rfl rfl) ?_
    simp only [Act.put, z1, z2, z3]
    with_reducible refine pskip ?_ ?_
    · rfl
    simp only [Act.put, z1, z2, z3]
    with_reducible refine pskip ?_ ?_
    · rfl
    simp only [Act.put, z1, z2, z3]
    refine pl M (y_pickF (v := .bool false) rfl rfl rfl rfl) ?_
    simp only [Act.put, z1, z2, z3]
    refine pl M (y_move (v := .bool false) rfl rfl rfl) ?_
    simp only [Act.put, z1, z2, z3]
    with_reducible refine pskip ?_ ?_
    · rfl
    simp only [Act.put, z1, z2, z3]
    with_reducible refine pskip ?_ ?_
    · rfl
    simp only [Act.put, z1, z2, z3]
    refine pl M (y_pickF (v := .bool false) rfl rfl rfl rfl) ?_
    simp only [Act.put, z1, z2, z3]
    refine pl M (y_assign (v := .bool false) rfl rfl rfl) ?_
    simp only [Act.put, z1, z2, z3]
    refine wpList_nil ?_
    refine hK2 _ _ ?_
    clear hK2
    refine wp_ret ?_
    try simp only [Exit.inBlock, Exit.then]
    refine bodyPost_ret (v := .bool false) (res1 rfl rfl) rfl ?_
    have e : decide (Fits pages width) = false := decide_eq_false fun h => by obtain ⟨h1, h2, h3, h4⟩ := h; omega
    rw [e]
    exact ⟨rfl, M⟩
set_option maxRecDepth 100000 in
set_option maxHeartbeats 4000000 in
theorem place3_any (i n : Int) (hn : 0 < n) (hn2 : n ≤ 4096) (w : World) : Calls Try.prog 13 #[.int .i64 i, .int .i64 n] w fun e w' => e = .returned (.int .i64 (i % n)) ∧ Mem w [] w' [] := by
  have M := Mem.nil w
  have hin := tmod_in i n hn hn2
  go_enter Try.func13, Try.ntmps13
  refine wp_seq_k (fun K1 hK1 => ?_)
  refine wp_region_lit ?_
  refine pl M (y_assign (v := .int .i64 0) rfl rfl rfl) ?_
  simp only [Act.put, z1, z2, z3]
  refine wpList_nil ?_
  refine hK1 _ _ ?_
  clear hK1
  refine wp_seq_k (fun K2 hK2 => ?_)
  refine wp_region_lit ?_
  refine pl M (y_move (v := .int .i64 i) rfl rfl rfl) ?_
  simp only [Act.put, z1, z2, z3]
  refine pl M (y_move (v := .int .i64 n) rfl rfl rfl) ?_
  simp only [Act.put, z1, z2, z3]
  refine pl M (y_rem (r := i.tmod n) rfl rfl rfl rfl (by omega) (rfl)) ?_
  simp only [Act.put, z1, z2, z3]
  refine pl M (y_assign (v := .int .i64 (i.tmod n)) rfl rfl rfl) ?_
  simp only [Act.put, z1, z2, z3]
  refine wpList_nil ?_
  refine hK2 _ _ ?_
  clear hK2
  refine wp_seq_k (fun K3 hK3 => ?_)
  refine wp_seq_k (fun K4 hK4 => ?_)
  refine wp_region_lit ?_
  refine pl M (y_move (v := .int .i64 (i.tmod n)) rfl rfl rfl) ?_
  simp only [Act.put, z1, z2, z3]
  rcases Decidable.em (i.tmod n < 0) with h5 | h5
  · refine pl M (y_lss (b := true) rfl rfl rfl rfl (decide_eq_true h5)) ?_
    simp only [Act.put, z1, z2, z3]
    refine wpList_nil ?_
    refine hK4 _ _ ?_
    clear hK4
    refine wp_cond_true rfl ?_
    refine wp_region_lit ?_
    refine pl M (y_move (v := .int .i64 (i.tmod n)) rfl rfl rfl) ?_
    simp only [Act.put, z1, z2, z3]
    refine pl M (y_move (v := .int .i64 n) rfl rfl rfl) ?_
    simp only [Act.put, z1, z2, z3]
    refine pl M (y_add (r := i.tmod n + n) rfl rfl rfl rfl (rfl) (by omega)) ?_
    simp only [Act.put, z1, z2, z3]
    refine pl M (y_assign (v := .int .i64 (i.tmod n + n)) rfl rfl rfl) ?_
    simp only [Act.put, z1, z2, z3]
    refine wpList_nil ?_
    refine hK3 _ _ ?_
    clear hK3
    refine wp_seq_k (fun K6 hK6 => ?_)
    refine wp_region_lit ?_
    refine pl M (y_move (v := .int .i64 (i.tmod n + n)) rfl rfl rfl) ?_
    simp only [Act.put, z1, z2, z3]
    refine pl M (y_assign (v := .int .i64 (i.tmod n + n)) rfl rfl rfl) ?_
    simp only [Act.put, z1, z2, z3]
    refine wpList_nil ?_
    refine hK6 _ _ ?_
    clear hK6
    refine wp_ret ?_
    try simp only [Exit.inBlock, Exit.then]
    refine bodyPost_ret (v := .int .i64 (i.tmod n + n)) (res1 rfl rfl) rfl ?_
    have e := tmod_place i n hn
    rw [if_pos h5] at e
    rw [e]
    exact ⟨rfl, M⟩
  · refine pl M (y_lss (b := false) rfl rfl rfl rfl (decide_eq_false h5)) ?_
    simp only [Act.put, z1, z2, z3]
    refine wpList_nil ?_
    refine hK4 _ _ ?_
    clear hK4
    refine wp_cond_false rfl ?_
    refine wp_skip ?_
    refine hK3 _ _ ?_
    clear hK3
    refine wp_seq_k (fun K7 hK7 => ?_)
    refine wp_region_lit ?_
    refine pl M (y_move (v := .int .i64 (i.tmod n)) rfl rfl rfl) ?_
    simp only [Act.put, z1, z2, z3]
    refine pl M (y_assign (v := .int .i64 (i.tmod n)) rfl rfl rfl) ?_
    simp only [Act.put, z1, z2, z3]
    refine wpList_nil ?_
    refine hK7 _ _ ?_
    clear hK7
    refine wp_ret ?_
    try simp only [Exit.inBlock, Exit.then]
    refine bodyPost_ret (v := .int .i64 (i.tmod n)) (res1 rfl rfl) rfl ?_
    have e := tmod_place i n hn
    rw [if_neg h5] at e
    rw [e]
    exact ⟨rfl, M⟩
end Go.Proofs.Ytehnnnohoaapdaa

/- The statements' own fresh. -/
namespace Go.Proofs.Ytehnnnohoaapdaa
set_option linter.unusedSectionVars false
open Go Go.RowKit
set_option linter.unusedVariables false
set_option linter.unusedSimpArgs false
theorem new_fit (k : Nat) (h : 3 ≤ k ∧ k ≤ 4096) (w : World) : Calls Try.prog 12 #[.int .i64 (k : Int)] w fun e w' => ∃ p pg mb, e = .returned (.tuple #[.pointer (some ⟨p, 0, none⟩), .int .i64 0]) ∧ Mem w [] w' [disk (newD k) p pg mb (.slice none 0 0)] := by
  refine (new_any (k : Int) w).mono ?_
  rintro e w' (⟨h1, _⟩ | ⟨_, _, p, pg, mb, rfl, h2⟩)
  · omega
  · exact ⟨p, pg, mb, rfl, h2⟩
theorem format_fit {D : DV} {p pg mb : Nat} {qv : Value} {w : World} (hM : Mem w (foots [disk D p pg mb qv]) w [disk D p pg mb qv]) (hB : Blank D) (ha : D.armed = 0) {width : Int} (hw : 1 ≤ width ∧ width ≤ 32) :
    Calls Try.prog 15 #[.pointer (some ⟨p, 0, none⟩), .int .i64 width] w fun e w' => ∃ E qv', e = .returned (.int .i64 0) ∧ Mem w (foots [disk D p pg mb qv]) w' [disk E p pg mb qv'] ∧ Plat E (secondS width D.pages.length) [] ∧ E.q = [] ∧ E.dead = false ∧ E.epoch = D.epoch ∧ E.armed = 0 ∧ E.pages.length = D.pages.length := by
  refine (format_any hM width (by rw [hB.que]; decide)).mono ?_
  rintro e w' ⟨qv', rfl, h2⟩
  rcases hB.format hw with ⟨_, h3, h4, h5, h6, h7, h8, h9⟩ | ⟨h3, _⟩
  · rw [h3]
    exact ⟨_, qv', rfl, h2, h4, h5, h6, h7, h8 ha, h9⟩
  · omega
theorem open_fit {D : DV} {p pg mb : Nat} {qv : Value} {S : SupV} {ps : Pgs} {w : World} (hM : Mem w (foots [disk D p pg mb qv]) w [disk D p pg mb qv]) (hP : Plat D S ps) (hd : D.dead = false) :
    Calls Try.prog 18 #[.pointer (some ⟨p, 0, none⟩)] w fun e w' => ∃ f E m, e = .returned (.tuple #[.pointer (some ⟨f, 0, none⟩), .int .i64 0]) ∧ Mem w (foots [disk D p pg mb qv]) w' [disk E p pg mb qv, blk f 96 (fC ⟨S, S.mark, m⟩ p)] ∧ Inv E ⟨S, S.mark, m⟩ ps ∧ E.q = D.q ∧ E.pages = D.pages ∧ E.armed = D.armed ∧ E.epoch = wrap64 (D.epoch + 1) := by
  obtain ⟨e1, e2, e3, e4, e5, e6, e7, e8⟩ := hP.open hd
  refine (open_any hM).mono ?_
  rintro e w' (⟨h1, _⟩ | ⟨_, f, rfl, h2⟩)
  · exact absurd e1 h1
  · have hV : openV D = ⟨S, S.mark, (openV D).mine⟩ := by
      have h0 : openV D = ⟨(openV D).s, (openV D).next, (openV D).mine⟩ := rfl
      rw [e2, e3] at h0
      exact h0
    rw [hV] at h2 e4
    exact ⟨f, openD D, (openV D).mine, rfl, h2, e4, e5, e6, e7, e8⟩
set_option maxRecDepth 100000 in
set_option maxHeartbeats 4000000 in
theorem fresh_any (n : Nat) (width : Int) (hn : 3 ≤ n ∧ n ≤ 64) (hw : 1 ≤ width ∧ width ≤ 32) (w : World) : Calls Try.prog 22 #[.int .i64 (n : Int), .int .i64 width] w fun e w' => ∃ p pg mb qv f E m, e = .returned (.tuple #[.pointer (some ⟨p, 0, none⟩), .pointer (some ⟨f, 0, none⟩)]) ∧ Mem w [] w' [disk E p pg mb qv, blk f 96 (fC ⟨secondS width n, 2, m⟩ p)] ∧ Inv E ⟨secondS width n, 2, m⟩ [] ∧ E.q = [] ∧ E.armed = 0 ∧ E.pages.length = n := by
  have M := Mem.nil w
  go_enter Try.func22, Try.ntmps22
  refine wp_seq_k (fun K1 hK1 => ?_)
  refine wp_region_lit ?_
  refine pl M (y_assign (v := .pointer none) rfl rfl rfl) ?_
  simp only [Act.put, z1, z2, z3]
  refine pl M (y_assign (v := .pointer none) rfl rfl rfl) ?_
  simp only [Act.put, z1, z2, z3]
  refine wpList_nil ?_
  refine hK1 _ _ ?_
  clear hK1
  refine wp_seq_k (fun K2 hK2 => ?_)
  refine wp_region_lit ?_
  refine pl M (y_move (v := .int .i64 (n : Int)) rfl rfl rfl) ?_
  simp only [Act.put, z1, z2, z3]
  refine pe rfl (fun K hK => ?_)
  refine e_call 12 [.int .i64 (n : Int)] rfl rfl Try.call12 (new_fit n ⟨by omega, by omega⟩ _) ?_
  rintro e w3 ⟨p, pg, mb, rfl, H3⟩
  have M3 : Mem w [] w3 [disk (newD n) p pg mb (.slice none 0 0)] := M.step H3
  refine ⟨_, rfl, ?_⟩
  refine hK.out _ _ ?_
  clear hK K
  simp only [Act.put, z1, z2, z3]
  refine pl M3 (y_move (v := .tuple #[.pointer (some ⟨p, 0, none⟩), .int .i64 0]) rfl rfl rfl) ?_
  simp only [Act.put, z1, z2, z3]
  refine pl M3 (y_ext (v := .pointer (some ⟨p, 0, none⟩)) rfl rfl rfl rfl) ?_
  simp only [Act.put, z1, z2, z3]
  refine pl M3 (y_ext (v := .int .i64 0) rfl rfl rfl rfl) ?_
  simp only [Act.put, z1, z2, z3]
  refine pl M3 (y_assign (v := .pointer (some ⟨p, 0, none⟩)) rfl rfl rfl) ?_
  simp only [Act.put, z1, z2, z3]
  refine pl M3 (y_assign (v := .int .i64 0) rfl rfl rfl) ?_
  simp only [Act.put, z1, z2, z3]
  refine wpList_nil ?_
  refine hK2 _ _ ?_
  clear hK2
  refine wp_seq_k (fun K4 hK4 => ?_)
  refine wp_seq_k (fun K5 hK5 => ?_)
  refine wp_region_lit ?_
  refine pl M3 (y_move (v := .int .i64 0) rfl rfl rfl) ?_
  simp only [Act.put, z1, z2, z3]
  refine pl M3 (y_neq (b := false) rfl rfl rfl rfl (by rw [decide_eq_true (by decide)]; rfl)) ?_
  simp only [Act.put, z1, z2, z3]
  refine pl M3 (y_move (v := .bool false) rfl rfl rfl) ?_
  simp only [Act.put, z1, z2, z3]
  refine pl M3 (y_move (v := .pointer (some ⟨p, 0, none⟩)) rfl rfl rfl) ?_
  simp only [Act.put, z1, z2, z3]
  refine pl M3 (y_eqnil (r := false) rfl rfl rfl rfl Try.underlying24 rfl) ?_
  simp only [Act.put, z1, z2, z3]
  refine pl M3 (y_pickF (v := .bool false) rfl rfl rfl rfl) ?_
  simp only [Act.put, z1, z2, z3]
  refine pl M3 (y_move (v := .bool false) rfl rfl rfl) ?_
  simp only [Act.put, z1, z2, z3]
  refine pl M3 (y_move (v := .pointer (some ⟨p, 0, none⟩)) rfl rfl rfl) ?_
  simp only [Act.put, z1, z2, z3]
  refine pl M3 (y_move (v := .int .i64 width) rfl rfl rfl) ?_
  simp only [Act.put, z1, z2, z3]
  have hX6 : Mem w [] w3 ([disk (newD n) p pg mb (.slice none 0 0)] ++ []) := M3.arr [0] (by decide)
  refine pe rfl (fun K hK => ?_)
  refine e_call 15 [.pointer (some ⟨p, 0, none⟩), .int .i64 width] rfl rfl Try.call15 (format_fit (Mem.here hX6) (newD_blank (by omega) (by omega) 0 (by decide)) rfl hw) ?_
  rintro e w6 ⟨E1, qv1, rfl, H6, hP1, hq1, hd1, he1, ha1, hl1⟩
  have M6 : Mem w [] w6 [disk E1 p pg mb qv1] := Mem.frame hX6 H6
  have hn1 : (newD n).pages.length = n := List.length_replicate
  rw [hn1] at hP1 hl1
  refine ⟨_, rfl, ?_⟩
  refine hK.out _ _ ?_
  clear hK K
  simp only [Act.put, z1, z2, z3]
  refine pl M6 (y_neq (b := false) rfl rfl rfl rfl (by rw [decide_eq_true (by decide)]; rfl)) ?_
  simp only [Act.put, z1, z2, z3]
  refine pl M6 (y_pickF (v := .bool false) rfl rfl rfl rfl) ?_
  simp only [Act.put, z1, z2, z3]
  refine wpList_nil ?_
  refine hK5 _ _ ?_
  clear hK5
  refine wp_cond_false rfl ?_
  refine wp_skip ?_
  refine hK4 _ _ ?_
  clear hK4
  refine wp_seq_k (fun K7 hK7 => ?_)
  refine wp_region_lit ?_
  refine pl M6 (y_move (v := .pointer (some ⟨p, 0, none⟩)) rfl rfl rfl) ?_
  simp only [Act.put, z1, z2, z3]
  have hX8 : Mem w [] w6 ([disk E1 p pg mb qv1] ++ []) := M6.arr [0] (by decide)
  refine pe rfl (fun K hK => ?_)
  refine e_call 18 [.pointer (some ⟨p, 0, none⟩)] rfl rfl Try.call18 (open_fit (Mem.here hX8) hP1 hd1) ?_
  rintro e w8 ⟨f, E, m, rfl, H8, hI, hq2, hp2, ha2, he2⟩
  have M8 : Mem w [] w8 [disk E p pg mb qv1, blk f 96 (fC (⟨secondS width n, 2, m⟩ : FV) p)] := Mem.frame hX8 H8
  refine ⟨_, rfl, ?_⟩
  refine hK.out _ _ ?_
  clear hK K
  simp only [Act.put, z1, z2, z3]
  refine pl M8 (y_move (v := .tuple #[.pointer (some ⟨f, 0, none⟩), .int .i64 0]) rfl rfl rfl) ?_
  simp only [Act.put, z1, z2, z3]
  refine pl M8 (y_ext (v := .pointer (some ⟨f, 0, none⟩)) rfl rfl rfl rfl) ?_
  simp only [Act.put, z1, z2, z3]
  refine pl M8 (y_ext (v := .int .i64 0) rfl rfl rfl rfl) ?_
  simp only [Act.put, z1, z2, z3]
  refine pl M8 (y_assign (v := .pointer (some ⟨f, 0, none⟩)) rfl rfl rfl) ?_
  simp only [Act.put, z1, z2, z3]
  refine pl M8 (y_assign (v := .int .i64 0) rfl rfl rfl) ?_
  simp only [Act.put, z1, z2, z3]
  refine wpList_nil ?_
  refine hK7 _ _ ?_
  clear hK7
  refine wp_seq_k (fun K9 hK9 => ?_)
  refine wp_seq_k (fun K10 hK10 => ?_)
  refine wp_region_lit ?_
  refine pl M8 (y_move (v := .int .i64 0) rfl rfl rfl) ?_
  simp only [Act.put, z1, z2, z3]
  refine pl M8 (y_neq (b := false) rfl rfl rfl rfl (by rw [decide_eq_true (by decide)]; rfl)) ?_
  simp only [Act.put, z1, z2, z3]
  refine pl M8 (y_move (v := .bool false) rfl rfl rfl) ?_
  simp only [Act.put, z1, z2, z3]
  refine pl M8 (y_move (v := .pointer (some ⟨f, 0, none⟩)) rfl rfl rfl) ?_
  simp only [Act.put, z1, z2, z3]
  refine pl M8 (y_eqnil (r := false) rfl rfl rfl rfl Try.underlying33 rfl) ?_
  simp only [Act.put, z1, z2, z3]
  refine pl M8 (y_pickF (v := .bool false) rfl rfl rfl rfl) ?_
  simp only [Act.put, z1, z2, z3]
  refine wpList_nil ?_
  refine hK10 _ _ ?_
  clear hK10
  refine wp_cond_false rfl ?_
  refine wp_skip ?_
  refine hK9 _ _ ?_
  clear hK9
  refine wp_seq_k (fun K11 hK11 => ?_)
  refine wp_region_lit ?_
  refine pl M8 (y_move (v := .int .i64 width) rfl rfl rfl) ?_
  simp only [Act.put, z1, z2, z3]
  refine pl M8 (y_move (v := .int .i64 (n : Int)) rfl rfl rfl) ?_
  simp only [Act.put, z1, z2, z3]
  refine pl M8 (y_build (ps := [(0, .tmp 39), (1, .const (.int .i64 1)), (2, .const (.int .i64 2)), (3, .const (.int .i64 0)), (4, .tmp 40)]) (pv := [(0, .int .i64 width), (1, .int .i64 1), (2, .int .i64 2), (3, .int .i64 0), (4, .int .i64 (n : Int))]) (cs := (supC (secondS width n))) rfl rfl rfl (rfl)) ?_
  simp only [Act.put, z1, z2, z3]
  refine pe rfl (fun K hK => ?_)
  refine e_alloc M8 (supC noSup) rfl zero_sup ?_
  intro g7 w12 (M12 : Mem w [] w12 [blk g7 37 (supC noSup), disk E p pg mb qv1, blk f 96 (fC (⟨secondS width n, 2, m⟩ : FV) p)])
  clear M8
  refine hK.out _ _ ?_
  clear hK K
  simp only [Act.put, z1, z2, z3]
  refine pe rfl (fun K hK => ?_)
  refine e_storew M12 0 (cs := (supC (secondS width n))) rfl rfl rfl rfl (size_sup _) (sup_all _) rfl (rfl) ?_
  intro w13 (M13 : Mem w [] w13 [blk g7 37 (supC (secondS width n)), disk E p pg mb qv1, blk f 96 (fC (⟨secondS width n, 2, m⟩ : FV) p)])
  clear M12
  refine hK.out _ _ ?_
  clear hK K
  simp only [Act.put, z1, z2, z3]
  refine wpList_nil ?_
  refine hK11 _ _ ?_
  clear hK11
  refine wp_seq_k (fun K14 hK14 => ?_)
  refine wp_seq_k (fun K15 hK15 => ?_)
  have M16 := M13.drew
  refine held_begin (fun W => Mem w [] W [blk g7 37 (supC (secondS width n)), blk f 96 (fC (⟨secondS width n, 2, m⟩ : FV) p)]) (by kernel_rfl) (M16.arr [0, 2] (by decide)) (fun hS => ?_)
  refine held_take 0 _ rfl (by kernel_rfl) (by kernel_rfl) (by kernel_rfl) (y_move (v := .pointer (some ⟨f, 0, none⟩)) rfl rfl rfl) hS ?_
  simp only [Act.put, z1, z2, z3]
  refine held_take 2 _ rfl (by kernel_rfl) (by kernel_rfl) (by kernel_rfl) (y_loadb (cs := (supC (secondS width n))) rfl rfl rfl Try.underlying37 rfl (size_sup _) (fun W hW => hW.get 0 rfl) (List.take_of_length_le (Nat.le_refl _))) hS ?_
  simp only [Act.put, z1, z2, z3]
  have hX17 : Mem w [] w13.drew ([disk E p pg mb qv1, blk f 96 (fC (⟨secondS width n, 2, m⟩ : FV) p)] ++ [blk g7 37 (supC (secondS width n))]) := M16.arr [1, 2, 0] (by decide)
  refine held_step 1 (by kernel_rfl) rfl (by rfl) (fun K hK => ?_)
  refine e_call 19 [.pointer (some ⟨f, 0, none⟩)] rfl rfl Try.call19 (super_any (Mem.here hX17)) ?_
  rintro e w17 ⟨rfl, H17⟩
  have M17 : Mem w [] w17 [disk E p pg mb qv1, blk f 96 (fC (⟨secondS width n, 2, m⟩ : FV) p), blk g7 37 (supC (secondS width n))] := Mem.frame hX17 H17
  refine ⟨_, rfl, ?_⟩
  refine hK.out _ _ (M17.arr [2, 1] (by decide)) (fun hS => ?_)
  clear hK K
  simp only [Act.put, z1, z2, z3]
  refine held_take 3 _ rfl (by kernel_rfl) (by kernel_rfl) (by kernel_rfl) (y_nes (r := false) rfl rfl rfl rfl sup_guard (fun W => sup_same _ W)) hS ?_
  simp only [Act.put, z1, z2, z3]
  refine held_take 4 _ rfl (by kernel_rfl) (by kernel_rfl) (by kernel_rfl) (y_move (v := .bool false) rfl rfl rfl) hS ?_
  simp only [Act.put, z1, z2, z3]
  refine held_take 5 _ rfl (by kernel_rfl) (by kernel_rfl) (by kernel_rfl) (y_move (v := .pointer (some ⟨f, 0, none⟩)) rfl rfl rfl) hS ?_
  simp only [Act.put, z1, z2, z3]
  have hX18 : Mem w [] w17 ([disk E p pg mb qv1, blk f 96 (fC (⟨secondS width n, 2, m⟩ : FV) p)] ++ [blk g7 37 (supC (secondS width n))]) := M17.arr [0, 1, 2] (by decide)
  refine held_step 6 (by kernel_rfl) rfl (by rfl) (fun K hK => ?_)
  refine e_call 20 [.pointer (some ⟨f, 0, none⟩)] rfl rfl Try.call20 (next_any (Mem.here hX18)) ?_
  rintro e w18 ⟨rfl, H18⟩
  have M18 : Mem w [] w18 [disk E p pg mb qv1, blk f 96 (fC (⟨secondS width n, 2, m⟩ : FV) p), blk g7 37 (supC (secondS width n))] := Mem.frame hX18 H18
  refine ⟨_, rfl, ?_⟩
  refine hK.out _ _ (M18.arr [2, 1] (by decide)) (fun hS => ?_)
  clear hK K
  simp only [Act.put, z1, z2, z3]
  refine held_take 7 _ rfl (by kernel_rfl) (by kernel_rfl) (by kernel_rfl) (y_neq (b := false) rfl rfl rfl rfl (by rw [decide_eq_true (show (2 : Int) = 2 from rfl)]; rfl)) hS ?_
  simp only [Act.put, z1, z2, z3]
  refine held_take 8 _ rfl (by kernel_rfl) (by kernel_rfl) (by kernel_rfl) (y_pickF (v := .bool false) rfl rfl rfl rfl) hS ?_
  simp only [Act.put, z1, z2, z3]
  refine held_take 9 _ rfl (by kernel_rfl) (by kernel_rfl) (by kernel_rfl) (y_move (v := .bool false) rfl rfl rfl) hS ?_
  simp only [Act.put, z1, z2, z3]
  refine held_take 10 _ rfl (by kernel_rfl) (by kernel_rfl) (by kernel_rfl) (y_move (v := .pointer (some ⟨f, 0, none⟩)) rfl rfl rfl) hS ?_
  simp only [Act.put, z1, z2, z3]
  refine held_take 11 _ rfl (by kernel_rfl) (by kernel_rfl) (by kernel_rfl) (y_nil rfl rfl rfl) hS ?_
  simp only [Act.put, z1, z2, z3]
  refine held_take 12 _ rfl (by kernel_rfl) (by kernel_rfl) (by kernel_rfl) (y_fa (r := 0) rfl rfl rfl Try.underlying96 rfl Try.sizeOf24 rfl) hS ?_
  simp only [Act.put, z1, z2, z3]
  refine held_take 13 _ rfl (by kernel_rfl) (by kernel_rfl) (by kernel_rfl) (y_load (v := .pointer (some ⟨p, 0, none⟩)) rfl rfl rfl Try.isAgg24 (fun W hW => hW.get 1 rfl) (rfl)) hS ?_
  simp only [Act.put, z1, z2, z3]
  refine held_take 15 _ rfl (by kernel_rfl) (by kernel_rfl) (by kernel_rfl) (y_move (v := .int .i64 (n : Int)) rfl rfl rfl) hS ?_
  simp only [Act.put, z1, z2, z3]
  have hX19 : Mem w [] w18 ([disk E p pg mb qv1] ++ [blk f 96 (fC (⟨secondS width n, 2, m⟩ : FV) p), blk g7 37 (supC (secondS width n))]) := M18.arr [0, 1, 2] (by decide)
  refine held_step 14 (by kernel_rfl) rfl (by rfl) (fun K hK => ?_)
  refine e_call 24 [.pointer (some ⟨p, 0, none⟩)] rfl rfl Try.call24 (pages_any (Mem.here hX19)) ?_
  rintro e w19 ⟨rfl, H19⟩
  have M19 : Mem w [] w19 [disk E p pg mb qv1, blk f 96 (fC (⟨secondS width n, 2, m⟩ : FV) p), blk g7 37 (supC (secondS width n))] := Mem.frame hX19 H19
  refine ⟨_, rfl, ?_⟩
  refine hK.out _ _ (M19.arr [2, 1] (by decide)) (fun hS => ?_)
  clear hK K
  simp only [Act.put, z1, z2, z3]
  refine held_take 16 _ rfl (by kernel_rfl) (by kernel_rfl) (by kernel_rfl) (y_neq (b := false) rfl rfl rfl rfl (by rw [decide_eq_true (show (E.pages.length : Int) = (n : Int) by rw [hp2, hl1])]; rfl)) hS ?_
  simp only [Act.put, z1, z2, z3]
  refine held_take 17 _ rfl (by kernel_rfl) (by kernel_rfl) (by kernel_rfl) (y_pickF (v := .bool false) rfl rfl rfl rfl) hS ?_
  simp only [Act.put, z1, z2, z3]
  refine held_done (by kernel_rfl) ?_ _
  refine hK15 _ _ ?_
  clear hK15
  refine wp_cond_false rfl ?_
  refine wp_skip ?_
  refine hK14 _ _ ?_
  clear hK14
  refine wp_seq_k (fun K20 hK20 => ?_)
  refine wp_region_lit ?_
  refine pl M19 (y_move (v := .pointer (some ⟨p, 0, none⟩)) rfl rfl rfl) ?_
  simp only [Act.put, z1, z2, z3]
  refine pl M19 (y_move (v := .pointer (some ⟨f, 0, none⟩)) rfl rfl rfl) ?_
  simp only [Act.put, z1, z2, z3]
  refine pl M19 (y_assign (v := .pointer (some ⟨p, 0, none⟩)) rfl rfl rfl) ?_
  simp only [Act.put, z1, z2, z3]
  refine pl M19 (y_assign (v := .pointer (some ⟨f, 0, none⟩)) rfl rfl rfl) ?_
  simp only [Act.put, z1, z2, z3]
  refine wpList_nil ?_
  refine hK20 _ _ ?_
  clear hK20
  refine wp_ret ?_
  try simp only [Exit.inBlock, Exit.then]
  refine bodyPost_ret (v := .tuple #[.pointer (some ⟨p, 0, none⟩), .pointer (some ⟨f, 0, none⟩)]) (res2 rfl rfl rfl) rfl ?_
  exact ⟨p, pg, mb, qv1, f, E, m, rfl, M19.arr [0, 1] (by decide), hI, by rw [hq2, hq1], by rw [ha2, ha1], by rw [hp2, hl1]⟩
end Go.Proofs.Ytehnnnohoaapdaa

/- The book: one more page. -/
namespace Go.Proofs.Ytehnnnohoaapdaa
set_option linter.unusedSectionVars false
open Go Go.RowKit
set_option linter.unusedVariables false
set_option linter.unusedSimpArgs false
set_option maxRecDepth 100000 in
set_option maxHeartbeats 4000000 in
theorem bput_any {B : BV} {b : Nat} {bx : BX} (m k : Nat) (ao : Option Addr) (n c : Nat) (l : List UInt8) {w : World} (hM : Mem w (foots [book B b bx]) w [book B b bx]) (hr : Row w ao n l) (hF : ∀ b₁ o, ao = some ⟨b₁, o, none⟩ → 0 < n → b₁ ∉ foots [book B b bx]) (hn : n ≤ 140737488351400) (hm : m ≤ B.ps.length) (hps : B.ps.length ≤ 100000) : Calls Try.prog 52 #[.pointer (some ⟨b, 0, none⟩), .int .i64 ((m + 2 : Nat) : Int), .int .i64 (k : Int), .slice ao n c] w fun e w' => ∃ bx', e = .returned (.bool true) ∧ Mem w (foots [book B b bx]) w' [book { B with ps := putP B.ps (m + 2) (k, l) } b bx'] := by
  have M0 := book_open hM
  clear hM
  obtain ⟨la, lc, e1, hlc⟩ := rows_val (M0.get 1 rfl)
  obtain ⟨ka, kc, e2⟩ := qv_at (M0.get 2 rfl)
  have hkc : B.ps.length ≤ kc := by
    rcases lst_at (M0.get 2 rfl) with ⟨e3, e4, _⟩ | ⟨g, c', e3, e4, _⟩
    · rw [e4]; exact Nat.zero_le _
    · rw [e2] at e3; cases e3; exact e4
  obtain ⟨vs, hvs⟩ : ∃ v, bx.vs = v := ⟨_, rfl⟩
  have hll := B.loads_len
  have hmL : m ≤ B.loads.length := by omega
  have M : Mem w (foots [book B b bx]) w [blk b 48 (bC B ⟨.slice la B.loads.length lc, .slice ka B.ps.length kc, vs⟩), rows (.slice la B.loads.length lc) vs B.loads, lst 3 1 (.slice ka B.ps.length kc) B.ps.length B.kinds] := by rw [← e1, ← e2, ← hvs]; exact M0
  clear M0 e1 e2 hvs
  go_enter Try.func52, Try.ntmps52
  refine wp_seq_k (fun K1 hK1 => ?_)
  refine wp_region_lit ?_
  refine pl M (y_assign (v := .bool false) rfl rfl rfl) ?_
  simp only [Act.put, z1, z2, z3]
  refine wpList_nil ?_
  refine hK1 _ _ ?_
  clear hK1
  refine wp_seq_k (fun K2 hK2 => ?_)
  refine wp_seq_k (fun K3 hK3 => ?_)
  refine wp_region_lit ?_
  refine pl M (y_move (v := .int .i64 ((m + 2 : Nat) : Int)) rfl rfl rfl) ?_
  simp only [Act.put, z1, z2, z3]
  refine pl M (y_lss (b := false) rfl rfl rfl rfl (decide_eq_false (by omega))) ?_
  simp only [Act.put, z1, z2, z3]
  refine pl M (y_move (v := .bool false) rfl rfl rfl) ?_
  simp only [Act.put, z1, z2, z3]
  refine pl M (y_move (v := .int .i64 ((m + 2 : Nat) : Int)) rfl rfl rfl) ?_
  simp only [Act.put, z1, z2, z3]
  refine pl M (y_sub (r := (m : Int)) rfl rfl rfl rfl (by omega) (by omega)) ?_
  simp only [Act.put, z1, z2, z3]
  refine pl M (y_move (v := .pointer (some ⟨b, 0, none⟩)) rfl rfl rfl) ?_
  simp only [Act.put, z1, z2, z3]
  refine pl M (y_nil rfl rfl rfl) ?_
  simp only [Act.put, z1, z2, z3]
  refine pl M (y_fa (r := 0) rfl rfl rfl Try.underlying48 rfl Try.sizeOf45 rfl) ?_
  simp only [Act.put, z1, z2, z3]
  refine pl M (y_load (v := .slice la B.loads.length lc) rfl rfl rfl Try.isAgg45 (fun W hW => hW.get 0 rfl) (rfl)) ?_
  simp only [Act.put, z1, z2, z3]
  refine pl M (y_len rfl rfl rfl Try.underlying45) ?_
  simp only [Act.put, z1, z2, z3]
  refine pl M (y_gtr (b := false) rfl rfl rfl rfl (decide_eq_false (by rw [B.loads_len]; omega))) ?_
  simp only [Act.put, z1, z2, z3]
  refine pl M (y_pickF (v := .bool false) rfl rfl rfl rfl) ?_
  simp only [Act.put, z1, z2, z3]
  refine wpList_nil ?_
  refine hK3 _ _ ?_
  clear hK3
  refine wp_cond_false rfl ?_
  refine wp_skip ?_
  refine hK2 _ _ ?_
  clear hK2
  refine wp_seq_k (fun K4 hK4 => ?_)
  have M5 := M.drew
  refine held_begin (fun W => Mem w (foots [book B b bx]) W []) (by kernel_rfl) (M5.arr [] (by decide)) (fun hS => ?_)
  refine held_take 0 _ rfl (by kernel_rfl) (by kernel_rfl) (by kernel_rfl) (y_move (v := .pointer (some ⟨b, 0, none⟩)) rfl rfl rfl) hS ?_
  simp only [Act.put, z1, z2, z3]
  refine held_take 1 _ rfl (by kernel_rfl) (by kernel_rfl) (by kernel_rfl) (y_move (v := .pointer (some ⟨b, 0, none⟩)) rfl rfl rfl) hS ?_
  simp only [Act.put, z1, z2, z3]
  refine held_take 2 _ rfl (by kernel_rfl) (by kernel_rfl) (by kernel_rfl) (y_nil rfl rfl rfl) hS ?_
  simp only [Act.put, z1, z2, z3]
  refine held_take 3 _ rfl (by kernel_rfl) (by kernel_rfl) (by kernel_rfl) (y_fa (r := 0) rfl rfl rfl Try.underlying48 rfl Try.sizeOf45 rfl) hS ?_
  simp only [Act.put, z1, z2, z3]
  refine held_take 5 _ rfl (by kernel_rfl) (by kernel_rfl) (by kernel_rfl) (y_move (v := .int .i64 ((m + 2 : Nat) : Int)) rfl rfl rfl) hS ?_
  simp only [Act.put, z1, z2, z3]
  refine held_take 6 _ rfl (by kernel_rfl) (by kernel_rfl) (by kernel_rfl) (y_sub (r := (m : Int)) rfl rfl rfl rfl (by omega) (by omega)) hS ?_
  simp only [Act.put, z1, z2, z3]
  refine held_take 8 _ rfl (by kernel_rfl) (by kernel_rfl) (by kernel_rfl) (y_move (v := .slice ao n c) rfl rfl rfl) hS ?_
  simp only [Act.put, z1, z2, z3]
  refine held_step2 4 9 (by kernel_rfl) rfl rfl (by rfl) (by rfl) (fun K hK => ?_) (fun K hK => ?_)
  · refine e_yield (ops := #[]) M5 (y_load (v := .slice la B.loads.length lc) rfl rfl rfl Try.isAgg45 (fun W hW => hW.get 0 rfl) (rfl)) rfl ?_
    refine hK.out _ _ (M5.arr [] (by decide)) (fun hS => ?_)
    clear hK K
    simp only [Act.put, z1, z2, z3]
    refine held_take 7 _ rfl (by kernel_rfl) (by kernel_rfl) (by kernel_rfl) (y_slt (h := m) rfl rfl rfl rfl Try.underlying45 Try.sizeOf22 (by omega)) hS ?_
    simp only [Act.put, z1, z2, z3]
    refine held_step 9 (by kernel_rfl) rfl (by rfl) (fun K hK => ?_)
    refine e_call 32 [.slice ao n c] rfl rfl Try.call32 (copy_any ao n c l _ (M5.row hr hF) (by omega)) ?_
    rintro e w6 ⟨a1, c1, rfl, H6⟩
    have M6 : Mem w _ w6 [bytesL (.slice a1 l.length c1) l, blk b 48 (bC B ⟨.slice la B.loads.length lc, .slice ka B.ps.length kc, vs⟩), rows (.slice la B.loads.length lc) vs B.loads, lst 3 1 (.slice ka B.ps.length kc) B.ps.length B.kinds] := M5.step H6
    refine ⟨_, rfl, ?_⟩
    refine hK.out _ _ (M6.arr [] (by decide)) (fun hS => ?_)
    clear hK K
    simp only [Act.put, z1, z2, z3]
    refine held_step 10 (by kernel_rfl) rfl (by rfl) (fun K hK => ?_)
    refine e_bslice M6 ([.slice a1 l.length c1]) (pv := [(0, .slice a1 l.length c1)]) rfl rfl Try.underlying45 Try.sizeOf22 Try.zeroValue22 (by decide) (by kernel_rfl) ?_
    intro g7 w8 (M8 : Mem w _ w8 [blk g7 22 ([.slice a1 l.length c1]), bytesL (.slice a1 l.length c1) l, blk b 48 (bC B ⟨.slice la B.loads.length lc, .slice ka B.ps.length kc, vs⟩), rows (.slice la B.loads.length lc) vs B.loads, lst 3 1 (.slice ka B.ps.length kc) B.ps.length B.kinds])
    clear M6
    refine hK.out _ _ (M8.arr [] (by decide)) (fun hS => ?_)
    clear hK K
    simp only [Act.put, z1, z2, z3]
    obtain ⟨hcut, M9⟩ := rows_cut (w0 := w) (F := (foots [book B b bx])) (w := w8) (R := [blk g7 22 ([.slice a1 l.length c1]), bytesL (.slice a1 l.length c1) l, blk b 48 (bC B ⟨.slice la B.loads.length lc, .slice ka B.ps.length kc, vs⟩), lst 3 1 (.slice ka B.ps.length kc) B.ps.length B.kinds]) (M8.arr [3, 0, 1, 2, 4] (by decide)) rfl hmL
    clear M8
    replace M9 : Mem w (foots [book B b bx]) w8 [lst 22 1 (.slice la m lc) m (vs.take m), innerA (vs.take m) (B.loads.take m), blk g7 22 ([.slice a1 l.length c1]), bytesL (.slice a1 l.length c1) l, blk b 48 (bC B ⟨.slice la B.loads.length lc, .slice ka B.ps.length kc, vs⟩), lst 3 1 (.slice ka B.ps.length kc) B.ps.length B.kinds] := M9
    refine held_step 11 (by kernel_rfl) rfl (by rfl) (fun K hK => ?_)
    refine e_append M9 0 rowsT (by decide) (news := [.slice a1 l.length c1]) rfl rfl rfl rfl (rfl) (by intro h; cases h) (fun ad e j u hj => by cases e; match j with | 0 => cases hj; exact cell_of_blk (M9.get 2 rfl) rfl | j + 1 => cases hj) (by intro u hu; cases hu with | head => rfl | tail _ h => cases h) (⟨by unfold maxLen; omega, by omega⟩) ?_
    intro v10 w10 (M10 : Mem w _ w10 [lst 22 1 v10 (m + 1) (vs.take m ++ [.slice a1 l.length c1]), innerA (vs.take m) (B.loads.take m), blk g7 22 ([.slice a1 l.length c1]), bytesL (.slice a1 l.length c1) l, blk b 48 (bC B ⟨.slice la B.loads.length lc, .slice ka B.ps.length kc, vs⟩), lst 3 1 (.slice ka B.ps.length kc) B.ps.length B.kinds])
    clear M9
    obtain ⟨a10, c10, rfl⟩ := qv_at (M10.get 0 rfl)
    refine hK.out _ _ (M10.arr [] (by decide)) (fun hS => ?_)
    clear hK K
    simp only [Act.put, z1, z2, z3]
    refine held_take 12 _ rfl (by kernel_rfl) (by kernel_rfl) (by kernel_rfl) (y_nil rfl rfl rfl) hS ?_
    simp only [Act.put, z1, z2, z3]
    refine held_take 13 _ rfl (by kernel_rfl) (by kernel_rfl) (by kernel_rfl) (y_fa (r := 0) rfl rfl rfl Try.underlying48 rfl Try.sizeOf45 rfl) hS ?_
    simp only [Act.put, z1, z2, z3]
    refine held_step 14 (by kernel_rfl) rfl (by rfl) (fun K hK => ?_)
    refine e_store M10 4 (v := .slice a10 (m + 1) c10) rfl rfl rfl rfl rfl rfl Try.sizeOf45 rfl (show (0 : Nat) < 7 by decide) ?_
    intro w11 (M11 : Mem w _ w11 [lst 22 1 (.slice a10 (m + 1) c10) (m + 1) (vs.take m ++ [.slice a1 l.length c1]), innerA (vs.take m) (B.loads.take m), blk g7 22 ([.slice a1 l.length c1]), bytesL (.slice a1 l.length c1) l, blk b 48 ([.slice a10 (m + 1) c10, .slice ka B.ps.length kc, .int .i64 B.mark, .int .i64 B.gen, .int .i64 B.head, .int .i64 B.inMark, .int .i64 B.inHead]), lst 3 1 (.slice ka B.ps.length kc) B.ps.length B.kinds])
    clear M10
    refine hK.out _ _ (M11.arr [] (by decide)) (fun hS => ?_)
    clear hK K
    simp only [Act.put, z1, z2, z3]
    refine held_done (by kernel_rfl) ?_ _
    refine hK4 _ _ ?_
    clear hK4
    refine wp_seq_k (fun K12 hK12 => ?_)
    refine wp_region_lit ?_
    refine pl M11 (y_move (v := .pointer (some ⟨b, 0, none⟩)) rfl rfl rfl) ?_
    simp only [Act.put, z1, z2, z3]
    refine pl M11 (y_move (v := .pointer (some ⟨b, 0, none⟩)) rfl rfl rfl) ?_
    simp only [Act.put, z1, z2, z3]
    refine pl M11 (y_nil rfl rfl rfl) ?_
    simp only [Act.put, z1, z2, z3]
    refine pl M11 (y_fa (r := 1) rfl rfl rfl Try.underlying48 rfl Try.sizeOf46 rfl) ?_
    simp only [Act.put, z1, z2, z3]
    refine pl M11 (y_load (v := .slice ka B.ps.length kc) rfl rfl rfl Try.isAgg46 (fun W hW => hW.get 4 rfl) (rfl)) ?_
    simp only [Act.put, z1, z2, z3]
    refine pl M11 (y_move (v := .int .i64 ((m + 2 : Nat) : Int)) rfl rfl rfl) ?_
    simp only [Act.put, z1, z2, z3]
    refine pl M11 (y_sub (r := (m : Int)) rfl rfl rfl rfl (by omega) (by omega)) ?_
    simp only [Act.put, z1, z2, z3]
    refine pl M11 (y_slt (h := m) rfl rfl rfl rfl Try.underlying46 Try.sizeOf3 (by omega)) ?_
    simp only [Act.put, z1, z2, z3]
    refine pl M11 (y_move (v := .int .i64 (k : Int)) rfl rfl rfl) ?_
    simp only [Act.put, z1, z2, z3]
    refine pe rfl (fun K hK => ?_)
    refine e_bslice M11 ([.int .i64 (k : Int)]) (pv := [(0, .int .i64 (k : Int))]) rfl rfl Try.underlying46 Try.sizeOf3 Try.zeroValue3 (by decide) (by kernel_rfl) ?_
    intro g13 w14 (M14 : Mem w _ w14 [blk g13 3 ([.int .i64 (k : Int)]), lst 22 1 (.slice a10 (m + 1) c10) (m + 1) (vs.take m ++ [.slice a1 l.length c1]), innerA (vs.take m) (B.loads.take m), blk g7 22 ([.slice a1 l.length c1]), bytesL (.slice a1 l.length c1) l, blk b 48 ([.slice a10 (m + 1) c10, .slice ka B.ps.length kc, .int .i64 B.mark, .int .i64 B.gen, .int .i64 B.head, .int .i64 B.inMark, .int .i64 B.inHead]), lst 3 1 (.slice ka B.ps.length kc) B.ps.length B.kinds])
    clear M11
    refine hK.out _ _ ?_
    clear hK K
    simp only [Act.put, z1, z2, z3]
    have M15 : Mem w _ w14 [blk g13 3 ([.int .i64 (k : Int)]), lst 22 1 (.slice a10 (m + 1) c10) (m + 1) (vs.take m ++ [.slice a1 l.length c1]), innerA (vs.take m) (B.loads.take m), blk g7 22 ([.slice a1 l.length c1]), bytesL (.slice a1 l.length c1) l, blk b 48 ([.slice a10 (m + 1) c10, .slice ka B.ps.length kc, .int .i64 B.mark, .int .i64 B.gen, .int .i64 B.head, .int .i64 B.inMark, .int .i64 B.inHead]), lst 3 1 (.slice ka m kc) m (B.kinds.take (m * 1))] := Mem.front M14 6 (m := m) rfl hm
    clear M14
    refine pe rfl (fun K hK => ?_)
    refine e_append M15 6 intsT (by decide) (news := [.int .i64 (k : Int)]) rfl rfl rfl rfl (rfl) (by intro h; cases h) (fun ad e j u hj => by cases e; match j with | 0 => cases hj; exact cell_of_blk (M15.get 0 rfl) rfl | j + 1 => cases hj) (by intro u hu; cases hu with | head => rfl | tail _ h => cases h) (⟨by unfold maxLen; omega, by omega⟩) ?_
    intro v16 w16 (M16 : Mem w _ w16 [blk g13 3 ([.int .i64 (k : Int)]), lst 22 1 (.slice a10 (m + 1) c10) (m + 1) (vs.take m ++ [.slice a1 l.length c1]), innerA (vs.take m) (B.loads.take m), blk g7 22 ([.slice a1 l.length c1]), bytesL (.slice a1 l.length c1) l, blk b 48 ([.slice a10 (m + 1) c10, .slice ka B.ps.length kc, .int .i64 B.mark, .int .i64 B.gen, .int .i64 B.head, .int .i64 B.inMark, .int .i64 B.inHead]), lst 3 1 v16 (m + 1) (B.kinds.take (m * 1) ++ [.int .i64 (k : Int)])])
    clear M15
    obtain ⟨a16, c16, rfl⟩ := qv_at (M16.get 6 rfl)
    refine hK.out _ _ ?_
    clear hK K
    simp only [Act.put, z1, z2, z3]
    refine pl M16 (y_nil rfl rfl rfl) ?_
    simp only [Act.put, z1, z2, z3]
    refine pl M16 (y_fa (r := 1) rfl rfl rfl Try.underlying48 rfl Try.sizeOf46 rfl) ?_
    simp only [Act.put, z1, z2, z3]
    refine pe rfl (fun K hK => ?_)
    refine e_store M16 5 (v := .slice a16 (m + 1) c16) rfl rfl rfl rfl rfl rfl Try.sizeOf46 rfl (show (1 : Nat) < 7 by decide) ?_
    intro w17 (M17 : Mem w _ w17 [blk g13 3 ([.int .i64 (k : Int)]), lst 22 1 (.slice a10 (m + 1) c10) (m + 1) (vs.take m ++ [.slice a1 l.length c1]), innerA (vs.take m) (B.loads.take m), blk g7 22 ([.slice a1 l.length c1]), bytesL (.slice a1 l.length c1) l, blk b 48 ([.slice a10 (m + 1) c10, .slice a16 (m + 1) c16, .int .i64 B.mark, .int .i64 B.gen, .int .i64 B.head, .int .i64 B.inMark, .int .i64 B.inHead]), lst 3 1 (.slice a16 (m + 1) c16) (m + 1) (B.kinds.take (m * 1) ++ [.int .i64 (k : Int)])])
    clear M16
    refine hK.out _ _ ?_
    clear hK K
    simp only [Act.put, z1, z2, z3]
    refine wpList_nil ?_
    refine hK12 _ _ ?_
    clear hK12
    refine wp_seq_k (fun K18 hK18 => ?_)
    refine wp_region_lit ?_
    refine pl M17 (y_assign (v := .bool true) rfl rfl rfl) ?_
    simp only [Act.put, z1, z2, z3]
    refine wpList_nil ?_
    refine hK18 _ _ ?_
    clear hK18
    refine wp_ret ?_
    try simp only [Exit.inBlock, Exit.then]
    refine bodyPost_ret (v := .bool true) (res1 rfl rfl) rfl ?_
    have N := rows_snoc hcut (M17.arr [1, 4, 2, 5, 6] (by decide))
    rw [← put_loads B m k l] at N
    have e1 : B.kinds.take (m * 1) ++ [.int .i64 (k : Int)] = ({ B with ps := putP B.ps (m + 2) (k, l) } : BV).kinds := by rw [put_kinds, Nat.mul_one]
    have e2 : m + 1 = (putP B.ps (m + 2) (k, l)).length := (putP_len B.ps (m + 2) (k, l) hm).symm
    rw [e1] at N
    refine ⟨⟨.slice a10 (m + 1) c10, .slice a16 (m + 1) c16, vs.take m ++ [.slice a1 l.length c1]⟩, rfl, book_close ?_⟩
    have N2 := N.arr [1, 0, 2] (by decide)
    show Mem _ _ _ [_, _, lst 3 1 _ (putP B.ps (m + 2) (k, l)).length _]
    rw [← e2]
    exact N2
  · refine e_call 32 [.slice ao n c] rfl rfl Try.call32 (copy_any ao n c l _ (M5.row hr hF) (by omega)) ?_
    rintro e w19 ⟨a1, c1, rfl, H19⟩
    have M19 : Mem w _ w19 [bytesL (.slice a1 l.length c1) l, blk b 48 (bC B ⟨.slice la B.loads.length lc, .slice ka B.ps.length kc, vs⟩), rows (.slice la B.loads.length lc) vs B.loads, lst 3 1 (.slice ka B.ps.length kc) B.ps.length B.kinds] := M5.step H19
    refine ⟨_, rfl, ?_⟩
    refine hK.out _ _ (M19.arr [] (by decide)) (fun hS => ?_)
    clear hK K
    simp only [Act.put, z1, z2, z3]
    refine held_step2 4 10 (by kernel_rfl) rfl rfl (by rfl) (by rfl) (fun K hK => ?_) (fun K hK => ?_)
    · refine e_yield (ops := #[]) M19 (y_load (v := .slice la B.loads.length lc) rfl rfl rfl Try.isAgg45 (fun W hW => hW.get 1 rfl) (rfl)) rfl ?_
      refine hK.out _ _ (M19.arr [] (by decide)) (fun hS => ?_)
      clear hK K
      simp only [Act.put, z1, z2, z3]
      refine held_take 7 _ rfl (by kernel_rfl) (by kernel_rfl) (by kernel_rfl) (y_slt (h := m) rfl rfl rfl rfl Try.underlying45 Try.sizeOf22 (by omega)) hS ?_
      simp only [Act.put, z1, z2, z3]
      refine held_step 10 (by kernel_rfl) rfl (by rfl) (fun K hK => ?_)
      refine e_bslice M19 ([.slice a1 l.length c1]) (pv := [(0, .slice a1 l.length c1)]) rfl rfl Try.underlying45 Try.sizeOf22 Try.zeroValue22 (by decide) (by kernel_rfl) ?_
      intro g20 w21 (M21 : Mem w _ w21 [blk g20 22 ([.slice a1 l.length c1]), bytesL (.slice a1 l.length c1) l, blk b 48 (bC B ⟨.slice la B.loads.length lc, .slice ka B.ps.length kc, vs⟩), rows (.slice la B.loads.length lc) vs B.loads, lst 3 1 (.slice ka B.ps.length kc) B.ps.length B.kinds])
      clear M19
      refine hK.out _ _ (M21.arr [] (by decide)) (fun hS => ?_)
      clear hK K
      simp only [Act.put, z1, z2, z3]
      obtain ⟨hcut, M22⟩ := rows_cut (w0 := w) (F := (foots [book B b bx])) (w := w21) (R := [blk g20 22 ([.slice a1 l.length c1]), bytesL (.slice a1 l.length c1) l, blk b 48 (bC B ⟨.slice la B.loads.length lc, .slice ka B.ps.length kc, vs⟩), lst 3 1 (.slice ka B.ps.length kc) B.ps.length B.kinds]) (M21.arr [3, 0, 1, 2, 4] (by decide)) rfl hmL
      clear M21
      replace M22 : Mem w (foots [book B b bx]) w21 [lst 22 1 (.slice la m lc) m (vs.take m), innerA (vs.take m) (B.loads.take m), blk g20 22 ([.slice a1 l.length c1]), bytesL (.slice a1 l.length c1) l, blk b 48 (bC B ⟨.slice la B.loads.length lc, .slice ka B.ps.length kc, vs⟩), lst 3 1 (.slice ka B.ps.length kc) B.ps.length B.kinds] := M22
      refine held_step 11 (by kernel_rfl) rfl (by rfl) (fun K hK => ?_)
      refine e_append M22 0 rowsT (by decide) (news := [.slice a1 l.length c1]) rfl rfl rfl rfl (rfl) (by intro h; cases h) (fun ad e j u hj => by cases e; match j with | 0 => cases hj; exact cell_of_blk (M22.get 2 rfl) rfl | j + 1 => cases hj) (by intro u hu; cases hu with | head => rfl | tail _ h => cases h) (⟨by unfold maxLen; omega, by omega⟩) ?_
      intro v23 w23 (M23 : Mem w _ w23 [lst 22 1 v23 (m + 1) (vs.take m ++ [.slice a1 l.length c1]), innerA (vs.take m) (B.loads.take m), blk g20 22 ([.slice a1 l.length c1]), bytesL (.slice a1 l.length c1) l, blk b 48 (bC B ⟨.slice la B.loads.length lc, .slice ka B.ps.length kc, vs⟩), lst 3 1 (.slice ka B.ps.length kc) B.ps.length B.kinds])
      clear M22
      obtain ⟨a23, c23, rfl⟩ := qv_at (M23.get 0 rfl)
      refine hK.out _ _ (M23.arr [] (by decide)) (fun hS => ?_)
      clear hK K
      simp only [Act.put, z1, z2, z3]
      refine held_take 12 _ rfl (by kernel_rfl) (by kernel_rfl) (by kernel_rfl) (y_nil rfl rfl rfl) hS ?_
      simp only [Act.put, z1, z2, z3]
      refine held_take 13 _ rfl (by kernel_rfl) (by kernel_rfl) (by kernel_rfl) (y_fa (r := 0) rfl rfl rfl Try.underlying48 rfl Try.sizeOf45 rfl) hS ?_
      simp only [Act.put, z1, z2, z3]
      refine held_step 14 (by kernel_rfl) rfl (by rfl) (fun K hK => ?_)
      refine e_store M23 4 (v := .slice a23 (m + 1) c23) rfl rfl rfl rfl rfl rfl Try.sizeOf45 rfl (show (0 : Nat) < 7 by decide) ?_
      intro w24 (M24 : Mem w _ w24 [lst 22 1 (.slice a23 (m + 1) c23) (m + 1) (vs.take m ++ [.slice a1 l.length c1]), innerA (vs.take m) (B.loads.take m), blk g20 22 ([.slice a1 l.length c1]), bytesL (.slice a1 l.length c1) l, blk b 48 ([.slice a23 (m + 1) c23, .slice ka B.ps.length kc, .int .i64 B.mark, .int .i64 B.gen, .int .i64 B.head, .int .i64 B.inMark, .int .i64 B.inHead]), lst 3 1 (.slice ka B.ps.length kc) B.ps.length B.kinds])
      clear M23
      refine hK.out _ _ (M24.arr [] (by decide)) (fun hS => ?_)
      clear hK K
      simp only [Act.put, z1, z2, z3]
      refine held_done (by kernel_rfl) ?_ _
      refine hK4 _ _ ?_
      clear hK4
      refine wp_seq_k (fun K25 hK25 => ?_)
      refine wp_region_lit ?_
      refine pl M24 (y_move (v := .pointer (some ⟨b, 0, none⟩)) rfl rfl rfl) ?_
      simp only [Act.put, z1, z2, z3]
      refine pl M24 (y_move (v := .pointer (some ⟨b, 0, none⟩)) rfl rfl rfl) ?_
      simp only [Act.put, z1, z2, z3]
      refine pl M24 (y_nil rfl rfl rfl) ?_
      simp only [Act.put, z1, z2, z3]
      refine pl M24 (y_fa (r := 1) rfl rfl rfl Try.underlying48 rfl Try.sizeOf46 rfl) ?_
      simp only [Act.put, z1, z2, z3]
      refine pl M24 (y_load (v := .slice ka B.ps.length kc) rfl rfl rfl Try.isAgg46 (fun W hW => hW.get 4 rfl) (rfl)) ?_
      simp only [Act.put, z1, z2, z3]
      refine pl M24 (y_move (v := .int .i64 ((m + 2 : Nat) : Int)) rfl rfl rfl) ?_
      simp only [Act.put, z1, z2, z3]
      refine pl M24 (y_sub (r := (m : Int)) rfl rfl rfl rfl (by omega) (by omega)) ?_
      simp only [Act.put, z1, z2, z3]
      refine pl M24 (y_slt (h := m) rfl rfl rfl rfl Try.underlying46 Try.sizeOf3 (by omega)) ?_
      simp only [Act.put, z1, z2, z3]
      refine pl M24 (y_move (v := .int .i64 (k : Int)) rfl rfl rfl) ?_
      simp only [Act.put, z1, z2, z3]
      refine pe rfl (fun K hK => ?_)
      refine e_bslice M24 ([.int .i64 (k : Int)]) (pv := [(0, .int .i64 (k : Int))]) rfl rfl Try.underlying46 Try.sizeOf3 Try.zeroValue3 (by decide) (by kernel_rfl) ?_
      intro g26 w27 (M27 : Mem w _ w27 [blk g26 3 ([.int .i64 (k : Int)]), lst 22 1 (.slice a23 (m + 1) c23) (m + 1) (vs.take m ++ [.slice a1 l.length c1]), innerA (vs.take m) (B.loads.take m), blk g20 22 ([.slice a1 l.length c1]), bytesL (.slice a1 l.length c1) l, blk b 48 ([.slice a23 (m + 1) c23, .slice ka B.ps.length kc, .int .i64 B.mark, .int .i64 B.gen, .int .i64 B.head, .int .i64 B.inMark, .int .i64 B.inHead]), lst 3 1 (.slice ka B.ps.length kc) B.ps.length B.kinds])
      clear M24
      refine hK.out _ _ ?_
      clear hK K
      simp only [Act.put, z1, z2, z3]
      have M28 : Mem w _ w27 [blk g26 3 ([.int .i64 (k : Int)]), lst 22 1 (.slice a23 (m + 1) c23) (m + 1) (vs.take m ++ [.slice a1 l.length c1]), innerA (vs.take m) (B.loads.take m), blk g20 22 ([.slice a1 l.length c1]), bytesL (.slice a1 l.length c1) l, blk b 48 ([.slice a23 (m + 1) c23, .slice ka B.ps.length kc, .int .i64 B.mark, .int .i64 B.gen, .int .i64 B.head, .int .i64 B.inMark, .int .i64 B.inHead]), lst 3 1 (.slice ka m kc) m (B.kinds.take (m * 1))] := Mem.front M27 6 (m := m) rfl hm
      clear M27
      refine pe rfl (fun K hK => ?_)
      refine e_append M28 6 intsT (by decide) (news := [.int .i64 (k : Int)]) rfl rfl rfl rfl (rfl) (by intro h; cases h) (fun ad e j u hj => by cases e; match j with | 0 => cases hj; exact cell_of_blk (M28.get 0 rfl) rfl | j + 1 => cases hj) (by intro u hu; cases hu with | head => rfl | tail _ h => cases h) (⟨by unfold maxLen; omega, by omega⟩) ?_
      intro v29 w29 (M29 : Mem w _ w29 [blk g26 3 ([.int .i64 (k : Int)]), lst 22 1 (.slice a23 (m + 1) c23) (m + 1) (vs.take m ++ [.slice a1 l.length c1]), innerA (vs.take m) (B.loads.take m), blk g20 22 ([.slice a1 l.length c1]), bytesL (.slice a1 l.length c1) l, blk b 48 ([.slice a23 (m + 1) c23, .slice ka B.ps.length kc, .int .i64 B.mark, .int .i64 B.gen, .int .i64 B.head, .int .i64 B.inMark, .int .i64 B.inHead]), lst 3 1 v29 (m + 1) (B.kinds.take (m * 1) ++ [.int .i64 (k : Int)])])
      clear M28
      obtain ⟨a29, c29, rfl⟩ := qv_at (M29.get 6 rfl)
      refine hK.out _ _ ?_
      clear hK K
      simp only [Act.put, z1, z2, z3]
      refine pl M29 (y_nil rfl rfl rfl) ?_
      simp only [Act.put, z1, z2, z3]
      refine pl M29 (y_fa (r := 1) rfl rfl rfl Try.underlying48 rfl Try.sizeOf46 rfl) ?_
      simp only [Act.put, z1, z2, z3]
      refine pe rfl (fun K hK => ?_)
      refine e_store M29 5 (v := .slice a29 (m + 1) c29) rfl rfl rfl rfl rfl rfl Try.sizeOf46 rfl (show (1 : Nat) < 7 by decide) ?_
      intro w30 (M30 : Mem w _ w30 [blk g26 3 ([.int .i64 (k : Int)]), lst 22 1 (.slice a23 (m + 1) c23) (m + 1) (vs.take m ++ [.slice a1 l.length c1]), innerA (vs.take m) (B.loads.take m), blk g20 22 ([.slice a1 l.length c1]), bytesL (.slice a1 l.length c1) l, blk b 48 ([.slice a23 (m + 1) c23, .slice a29 (m + 1) c29, .int .i64 B.mark, .int .i64 B.gen, .int .i64 B.head, .int .i64 B.inMark, .int .i64 B.inHead]), lst 3 1 (.slice a29 (m + 1) c29) (m + 1) (B.kinds.take (m * 1) ++ [.int .i64 (k : Int)])])
      clear M29
      refine hK.out _ _ ?_
      clear hK K
      simp only [Act.put, z1, z2, z3]
      refine wpList_nil ?_
      refine hK25 _ _ ?_
      clear hK25
      refine wp_seq_k (fun K31 hK31 => ?_)
      refine wp_region_lit ?_
      refine pl M30 (y_assign (v := .bool true) rfl rfl rfl) ?_
      simp only [Act.put, z1, z2, z3]
      refine wpList_nil ?_
      refine hK31 _ _ ?_
      clear hK31
      refine wp_ret ?_
      try simp only [Exit.inBlock, Exit.then]
      refine bodyPost_ret (v := .bool true) (res1 rfl rfl) rfl ?_
      have N := rows_snoc hcut (M30.arr [1, 4, 2, 5, 6] (by decide))
      rw [← put_loads B m k l] at N
      have e1 : B.kinds.take (m * 1) ++ [.int .i64 (k : Int)] = ({ B with ps := putP B.ps (m + 2) (k, l) } : BV).kinds := by rw [put_kinds, Nat.mul_one]
      have e2 : m + 1 = (putP B.ps (m + 2) (k, l)).length := (putP_len B.ps (m + 2) (k, l) hm).symm
      rw [e1] at N
      refine ⟨⟨.slice a23 (m + 1) c23, .slice a29 (m + 1) c29, vs.take m ++ [.slice a1 l.length c1]⟩, rfl, book_close ?_⟩
      have N2 := N.arr [1, 0, 2] (by decide)
      show Mem _ _ _ [_, _, lst 3 1 _ (putP B.ps (m + 2) (k, l)).length _]
      rw [← e2]
      exact N2
    · refine e_bslice M19 ([.slice a1 l.length c1]) (pv := [(0, .slice a1 l.length c1)]) rfl rfl Try.underlying45 Try.sizeOf22 Try.zeroValue22 (by decide) (by kernel_rfl) ?_
      intro g32 w33 (M33 : Mem w _ w33 [blk g32 22 ([.slice a1 l.length c1]), bytesL (.slice a1 l.length c1) l, blk b 48 (bC B ⟨.slice la B.loads.length lc, .slice ka B.ps.length kc, vs⟩), rows (.slice la B.loads.length lc) vs B.loads, lst 3 1 (.slice ka B.ps.length kc) B.ps.length B.kinds])
      clear M19
      refine hK.out _ _ (M33.arr [] (by decide)) (fun hS => ?_)
      clear hK K
      simp only [Act.put, z1, z2, z3]
      refine held_step 4 (by kernel_rfl) rfl (by rfl) (fun K hK => ?_)
      refine e_yield (ops := #[]) M33 (y_load (v := .slice la B.loads.length lc) rfl rfl rfl Try.isAgg45 (fun W hW => hW.get 2 rfl) (rfl)) rfl ?_
      refine hK.out _ _ (M33.arr [] (by decide)) (fun hS => ?_)
      clear hK K
      simp only [Act.put, z1, z2, z3]
      refine held_take 7 _ rfl (by kernel_rfl) (by kernel_rfl) (by kernel_rfl) (y_slt (h := m) rfl rfl rfl rfl Try.underlying45 Try.sizeOf22 (by omega)) hS ?_
      simp only [Act.put, z1, z2, z3]
      obtain ⟨hcut, M34⟩ := rows_cut (w0 := w) (F := (foots [book B b bx])) (w := w33) (R := [blk g32 22 ([.slice a1 l.length c1]), bytesL (.slice a1 l.length c1) l, blk b 48 (bC B ⟨.slice la B.loads.length lc, .slice ka B.ps.length kc, vs⟩), lst 3 1 (.slice ka B.ps.length kc) B.ps.length B.kinds]) (M33.arr [3, 0, 1, 2, 4] (by decide)) rfl hmL
      clear M33
      replace M34 : Mem w (foots [book B b bx]) w33 [lst 22 1 (.slice la m lc) m (vs.take m), innerA (vs.take m) (B.loads.take m), blk g32 22 ([.slice a1 l.length c1]), bytesL (.slice a1 l.length c1) l, blk b 48 (bC B ⟨.slice la B.loads.length lc, .slice ka B.ps.length kc, vs⟩), lst 3 1 (.slice ka B.ps.length kc) B.ps.length B.kinds] := M34
      refine held_step 11 (by kernel_rfl) rfl (by rfl) (fun K hK => ?_)
      refine e_append M34 0 rowsT (by decide) (news := [.slice a1 l.length c1]) rfl rfl rfl rfl (rfl) (by intro h; cases h) (fun ad e j u hj => by cases e; match j with | 0 => cases hj; exact cell_of_blk (M34.get 2 rfl) rfl | j + 1 => cases hj) (by intro u hu; cases hu with | head => rfl | tail _ h => cases h) (⟨by unfold maxLen; omega, by omega⟩) ?_
      intro v35 w35 (M35 : Mem w _ w35 [lst 22 1 v35 (m + 1) (vs.take m ++ [.slice a1 l.length c1]), innerA (vs.take m) (B.loads.take m), blk g32 22 ([.slice a1 l.length c1]), bytesL (.slice a1 l.length c1) l, blk b 48 (bC B ⟨.slice la B.loads.length lc, .slice ka B.ps.length kc, vs⟩), lst 3 1 (.slice ka B.ps.length kc) B.ps.length B.kinds])
      clear M34
      obtain ⟨a35, c35, rfl⟩ := qv_at (M35.get 0 rfl)
      refine hK.out _ _ (M35.arr [] (by decide)) (fun hS => ?_)
      clear hK K
      simp only [Act.put, z1, z2, z3]
      refine held_take 12 _ rfl (by kernel_rfl) (by kernel_rfl) (by kernel_rfl) (y_nil rfl rfl rfl) hS ?_
      simp only [Act.put, z1, z2, z3]
      refine held_take 13 _ rfl (by kernel_rfl) (by kernel_rfl) (by kernel_rfl) (y_fa (r := 0) rfl rfl rfl Try.underlying48 rfl Try.sizeOf45 rfl) hS ?_
      simp only [Act.put, z1, z2, z3]
      refine held_step 14 (by kernel_rfl) rfl (by rfl) (fun K hK => ?_)
      refine e_store M35 4 (v := .slice a35 (m + 1) c35) rfl rfl rfl rfl rfl rfl Try.sizeOf45 rfl (show (0 : Nat) < 7 by decide) ?_
      intro w36 (M36 : Mem w _ w36 [lst 22 1 (.slice a35 (m + 1) c35) (m + 1) (vs.take m ++ [.slice a1 l.length c1]), innerA (vs.take m) (B.loads.take m), blk g32 22 ([.slice a1 l.length c1]), bytesL (.slice a1 l.length c1) l, blk b 48 ([.slice a35 (m + 1) c35, .slice ka B.ps.length kc, .int .i64 B.mark, .int .i64 B.gen, .int .i64 B.head, .int .i64 B.inMark, .int .i64 B.inHead]), lst 3 1 (.slice ka B.ps.length kc) B.ps.length B.kinds])
      clear M35
      refine hK.out _ _ (M36.arr [] (by decide)) (fun hS => ?_)
      clear hK K
      simp only [Act.put, z1, z2, z3]
      refine held_done (by kernel_rfl) ?_ _
      refine hK4 _ _ ?_
      clear hK4
      refine wp_seq_k (fun K37 hK37 => ?_)
      refine wp_region_lit ?_
      refine pl M36 (y_move (v := .pointer (some ⟨b, 0, none⟩)) rfl rfl rfl) ?_
      simp only [Act.put, z1, z2, z3]
      refine pl M36 (y_move (v := .pointer (some ⟨b, 0, none⟩)) rfl rfl rfl) ?_
      simp only [Act.put, z1, z2, z3]
      refine pl M36 (y_nil rfl rfl rfl) ?_
      simp only [Act.put, z1, z2, z3]
      refine pl M36 (y_fa (r := 1) rfl rfl rfl Try.underlying48 rfl Try.sizeOf46 rfl) ?_
      simp only [Act.put, z1, z2, z3]
      refine pl M36 (y_load (v := .slice ka B.ps.length kc) rfl rfl rfl Try.isAgg46 (fun W hW => hW.get 4 rfl) (rfl)) ?_
      simp only [Act.put, z1, z2, z3]
      refine pl M36 (y_move (v := .int .i64 ((m + 2 : Nat) : Int)) rfl rfl rfl) ?_
      simp only [Act.put, z1, z2, z3]
      refine pl M36 (y_sub (r := (m : Int)) rfl rfl rfl rfl (by omega) (by omega)) ?_
      simp only [Act.put, z1, z2, z3]
      refine pl M36 (y_slt (h := m) rfl rfl rfl rfl Try.underlying46 Try.sizeOf3 (by omega)) ?_
      simp only [Act.put, z1, z2, z3]
      refine pl M36 (y_move (v := .int .i64 (k : Int)) rfl rfl rfl) ?_
      simp only [Act.put, z1, z2, z3]
      refine pe rfl (fun K hK => ?_)
      refine e_bslice M36 ([.int .i64 (k : Int)]) (pv := [(0, .int .i64 (k : Int))]) rfl rfl Try.underlying46 Try.sizeOf3 Try.zeroValue3 (by decide) (by kernel_rfl) ?_
      intro g38 w39 (M39 : Mem w _ w39 [blk g38 3 ([.int .i64 (k : Int)]), lst 22 1 (.slice a35 (m + 1) c35) (m + 1) (vs.take m ++ [.slice a1 l.length c1]), innerA (vs.take m) (B.loads.take m), blk g32 22 ([.slice a1 l.length c1]), bytesL (.slice a1 l.length c1) l, blk b 48 ([.slice a35 (m + 1) c35, .slice ka B.ps.length kc, .int .i64 B.mark, .int .i64 B.gen, .int .i64 B.head, .int .i64 B.inMark, .int .i64 B.inHead]), lst 3 1 (.slice ka B.ps.length kc) B.ps.length B.kinds])
      clear M36
      refine hK.out _ _ ?_
      clear hK K
      simp only [Act.put, z1, z2, z3]
      have M40 : Mem w _ w39 [blk g38 3 ([.int .i64 (k : Int)]), lst 22 1 (.slice a35 (m + 1) c35) (m + 1) (vs.take m ++ [.slice a1 l.length c1]), innerA (vs.take m) (B.loads.take m), blk g32 22 ([.slice a1 l.length c1]), bytesL (.slice a1 l.length c1) l, blk b 48 ([.slice a35 (m + 1) c35, .slice ka B.ps.length kc, .int .i64 B.mark, .int .i64 B.gen, .int .i64 B.head, .int .i64 B.inMark, .int .i64 B.inHead]), lst 3 1 (.slice ka m kc) m (B.kinds.take (m * 1))] := Mem.front M39 6 (m := m) rfl hm
      clear M39
      refine pe rfl (fun K hK => ?_)
      refine e_append M40 6 intsT (by decide) (news := [.int .i64 (k : Int)]) rfl rfl rfl rfl (rfl) (by intro h; cases h) (fun ad e j u hj => by cases e; match j with | 0 => cases hj; exact cell_of_blk (M40.get 0 rfl) rfl | j + 1 => cases hj) (by intro u hu; cases hu with | head => rfl | tail _ h => cases h) (⟨by unfold maxLen; omega, by omega⟩) ?_
      intro v41 w41 (M41 : Mem w _ w41 [blk g38 3 ([.int .i64 (k : Int)]), lst 22 1 (.slice a35 (m + 1) c35) (m + 1) (vs.take m ++ [.slice a1 l.length c1]), innerA (vs.take m) (B.loads.take m), blk g32 22 ([.slice a1 l.length c1]), bytesL (.slice a1 l.length c1) l, blk b 48 ([.slice a35 (m + 1) c35, .slice ka B.ps.length kc, .int .i64 B.mark, .int .i64 B.gen, .int .i64 B.head, .int .i64 B.inMark, .int .i64 B.inHead]), lst 3 1 v41 (m + 1) (B.kinds.take (m * 1) ++ [.int .i64 (k : Int)])])
      clear M40
      obtain ⟨a41, c41, rfl⟩ := qv_at (M41.get 6 rfl)
      refine hK.out _ _ ?_
      clear hK K
      simp only [Act.put, z1, z2, z3]
      refine pl M41 (y_nil rfl rfl rfl) ?_
      simp only [Act.put, z1, z2, z3]
      refine pl M41 (y_fa (r := 1) rfl rfl rfl Try.underlying48 rfl Try.sizeOf46 rfl) ?_
      simp only [Act.put, z1, z2, z3]
      refine pe rfl (fun K hK => ?_)
      refine e_store M41 5 (v := .slice a41 (m + 1) c41) rfl rfl rfl rfl rfl rfl Try.sizeOf46 rfl (show (1 : Nat) < 7 by decide) ?_
      intro w42 (M42 : Mem w _ w42 [blk g38 3 ([.int .i64 (k : Int)]), lst 22 1 (.slice a35 (m + 1) c35) (m + 1) (vs.take m ++ [.slice a1 l.length c1]), innerA (vs.take m) (B.loads.take m), blk g32 22 ([.slice a1 l.length c1]), bytesL (.slice a1 l.length c1) l, blk b 48 ([.slice a35 (m + 1) c35, .slice a41 (m + 1) c41, .int .i64 B.mark, .int .i64 B.gen, .int .i64 B.head, .int .i64 B.inMark, .int .i64 B.inHead]), lst 3 1 (.slice a41 (m + 1) c41) (m + 1) (B.kinds.take (m * 1) ++ [.int .i64 (k : Int)])])
      clear M41
      refine hK.out _ _ ?_
      clear hK K
      simp only [Act.put, z1, z2, z3]
      refine wpList_nil ?_
      refine hK37 _ _ ?_
      clear hK37
      refine wp_seq_k (fun K43 hK43 => ?_)
      refine wp_region_lit ?_
      refine pl M42 (y_assign (v := .bool true) rfl rfl rfl) ?_
      simp only [Act.put, z1, z2, z3]
      refine wpList_nil ?_
      refine hK43 _ _ ?_
      clear hK43
      refine wp_ret ?_
      try simp only [Exit.inBlock, Exit.then]
      refine bodyPost_ret (v := .bool true) (res1 rfl rfl) rfl ?_
      have N := rows_snoc hcut (M42.arr [1, 4, 2, 5, 6] (by decide))
      rw [← put_loads B m k l] at N
      have e1 : B.kinds.take (m * 1) ++ [.int .i64 (k : Int)] = ({ B with ps := putP B.ps (m + 2) (k, l) } : BV).kinds := by rw [put_kinds, Nat.mul_one]
      have e2 : m + 1 = (putP B.ps (m + 2) (k, l)).length := (putP_len B.ps (m + 2) (k, l) hm).symm
      rw [e1] at N
      refine ⟨⟨.slice a35 (m + 1) c35, .slice a41 (m + 1) c41, vs.take m ++ [.slice a1 l.length c1]⟩, rfl, book_close ?_⟩
      have N2 := N.arr [1, 0, 2] (by decide)
      show Mem _ _ _ [_, _, lst 3 1 _ (putP B.ps (m + 2) (k, l)).length _]
      rw [← e2]
      exact N2
end Go.Proofs.Ytehnnnohoaapdaa

/- The book: does the file hold what stands in it? -/
namespace Go.Proofs.Ytehnnnohoaapdaa
set_option linter.unusedSectionVars false
open Go Go.RowKit
set_option linter.unusedVariables false
set_option linter.unusedSimpArgs false
theorem fread_fit {D : DV} {V : FV} {ps : Pgs} {f p pg mb : Nat} {qv : Value} {w : World} (hM : Mem w (foots [disk D p pg mb qv, blk f 96 (fC V p)]) w [disk D p pg mb qv, blk f 96 (fC V p)]) (h : Inv D V ps) (n : Nat) (h1 : 2 ≤ n) (h2 : (n : Int) < V.next) :
    Calls Try.prog 25 #[.pointer (some ⟨f, 0, none⟩), .int .i64 (n : Int)] w fun e w' => ∃ a c r, e = .returned (.tuple #[.int .i64 ((pgAt ps n).1 : Int), .slice a (pgAt ps n).2.length c, .int .i64 0]) ∧ Mem w (foots [disk D p pg mb qv, blk f 96 (fC V p)]) w' [disk (D.rd r) p pg mb qv, blk f 96 (fC V p), bytesL (.slice a (pgAt ps n).2.length c) (pgAt ps n).2] ∧ r = wrap64 (D.reads + 1) := by
  obtain ⟨r1, r2, r3, r4, r5⟩ := h.read h1 h2
  refine (fread_any hM n h.fok).mono ?_
  rintro e w' ⟨v, rfl, h3⟩
  rw [r3, r5] at h3
  rw [r1, r2]
  obtain ⟨a, c, rfl⟩ := qv_at (h3.get 2 rfl)
  exact ⟨a, c, _, rfl, h3, rfl⟩
theorem pg_len {D : DV} {V : FV} {ps : Pgs} (h : Inv D V ps) {n : Nat} (h1 : 2 ≤ n) (h2 : (n : Int) < V.next) : (pgAt ps n).2.length ≤ 246 := by
  have := h.lenN
  exact (pgAt_ok h.plat.good (by omega)).2
set_option maxRecDepth 100000 in
set_option maxHeartbeats 4000000 in
theorem bholds_any {D : DV} {V : FV} {B : BV} {p pg mb f b : Nat} {qv : Value} {bx : BX} {w : World} (hM : Mem w (foots [disk D p pg mb qv, blk f 96 (fC V p), book B b bx]) w [disk D p pg mb qv, blk f 96 (fC V p), book B b bx]) (hI : Inv D V B.ps) (mk : Nat) (h2 : 2 ≤ mk) (hmk : (mk : Int) ≤ V.next) : Calls Try.prog 29 #[.pointer (some ⟨b, 0, none⟩), .pointer (some ⟨f, 0, none⟩), .int .i64 (mk : Int)] w fun e w' => ∃ r, e = .returned (.bool true) ∧ Mem w (foots [disk D p pg mb qv, blk f 96 (fC V p), book B b bx]) w' [disk (D.rd r) p pg mb qv, blk f 96 (fC V p), book B b bx] := by
  obtain ⟨lv, kv, vs⟩ := bx
  have M0 := book_open (hM.arr [2, 0, 1] (by decide))
  clear hM
  obtain ⟨la, lc, hlv, hlc⟩ := rows_val (M0.get 1 rfl)
  have hlen := hI.lenN
  have hnp := hI.nextp
  have hhi := hI.ok.hi
  have M : Mem w _ w [disk D p pg mb qv, blk f 96 (fC V p), blk b 48 (bC B ⟨lv, kv, vs⟩), rows lv vs B.loads, lst 3 1 kv B.ps.length B.kinds] := M0.arr [3, 4, 0, 1, 2] (by decide)
  clear M0
  go_enter Try.func29, Try.ntmps29
  refine wp_seq_k (fun K1 hK1 => ?_)
  refine wp_region_lit ?_
  refine pl M (y_assign (v := .bool false) rfl rfl rfl) ?_
  simp only [Act.put, z1, z2, z3]
  refine wpList_nil ?_
  refine hK1 _ _ ?_
  clear hK1
  refine wp_seq_k (fun K2 hK2 => ?_)
  refine wp_seq_k (fun K3 hK3 => ?_)
  refine wp_region_lit ?_
  refine pl M (y_move (v := .int .i64 (mk : Int)) rfl rfl rfl) ?_
  simp only [Act.put, z1, z2, z3]
  refine pl M (y_lss (b := false) rfl rfl rfl rfl (decide_eq_false (by omega))) ?_
  simp only [Act.put, z1, z2, z3]
  refine pl M (y_move (v := .bool false) rfl rfl rfl) ?_
  simp only [Act.put, z1, z2, z3]
  refine pl M (y_move (v := .int .i64 (mk : Int)) rfl rfl rfl) ?_
  simp only [Act.put, z1, z2, z3]
  refine pl M (y_sub (r := ((mk - 2 : Nat) : Int)) rfl rfl rfl rfl (by omega) (by omega)) ?_
  simp only [Act.put, z1, z2, z3]
  refine pl M (y_move (v := .pointer (some ⟨b, 0, none⟩)) rfl rfl rfl) ?_
  simp only [Act.put, z1, z2, z3]
  refine pl M (y_nil rfl rfl rfl) ?_
  simp only [Act.put, z1, z2, z3]
  refine pl M (y_fa (r := 0) rfl rfl rfl Try.underlying48 rfl Try.sizeOf45 rfl) ?_
  simp only [Act.put, z1, z2, z3]
  refine pl M (y_load (v := lv) rfl rfl rfl Try.isAgg45 (fun W hW => hW.get 2 rfl) (rfl)) ?_
  simp only [Act.put, z1, z2, z3]
  refine pl M (y_len rfl rfl hlv Try.underlying45) ?_
  simp only [Act.put, z1, z2, z3]
  refine pl M (y_gtr (b := false) rfl rfl rfl rfl (decide_eq_false (by rw [B.loads_len]; omega))) ?_
  simp only [Act.put, z1, z2, z3]
  refine pl M (y_pickF (v := .bool false) rfl rfl rfl rfl) ?_
  simp only [Act.put, z1, z2, z3]
  refine wpList_nil ?_
  refine hK3 _ _ ?_
  clear hK3
  refine wp_cond_false rfl ?_
  refine wp_skip ?_
  refine hK2 _ _ ?_
  clear hK2
  refine wp_seq_k (fun K4 hK4 => ?_)
  refine wp_seq_k (fun K5 hK5 => ?_)
  refine wp_region_lit ?_
  refine pl M (y_assign (v := .int .i64 2) rfl rfl rfl) ?_
  simp only [Act.put, z1, z2, z3]
  refine wpList_nil ?_
  refine hK5 _ _ ?_
  clear hK5
  refine wp_block ?_
  refine wp_loop (fun a' w' => ∃ (i : Nat) (r : Int) (us6 : List Value), a' = (⟨#[.pointer (some ⟨b, 0, none⟩), .pointer (some ⟨f, 0, none⟩), .int .i64 (mk : Int), undef, undef, undef, (us6.getD 0 undef), .int .i64 (i : Int), (us6.getD 1 undef), (us6.getD 2 undef), (us6.getD 3 undef), .int .i64 (mk : Int), .bool false, .bool false, .int .i64 (mk : Int), .int .i64 ((mk - 2 : Nat) : Int), .pointer (some ⟨b, 0, none⟩), .pointer (some ⟨b, 0, none⟩), .pointer (some ⟨b, 0, none⟩), lv, .int .i64 (B.loads.length : Int), .bool false, .bool false, (us6.getD 4 undef), (us6.getD 5 undef), (us6.getD 6 undef), (us6.getD 7 undef), (us6.getD 8 undef), (us6.getD 9 undef), (us6.getD 10 undef), (us6.getD 11 undef), (us6.getD 12 undef), (us6.getD 13 undef), (us6.getD 14 undef), (us6.getD 15 undef), (us6.getD 16 undef), (us6.getD 17 undef), (us6.getD 18 undef), (us6.getD 19 undef), (us6.getD 20 undef), (us6.getD 21 undef), (us6.getD 22 undef), (us6.getD 23 undef), (us6.getD 24 undef), (us6.getD 25 undef), (us6.getD 26 undef), (us6.getD 27 undef), (us6.getD 28 undef), (us6.getD 29 undef), (us6.getD 30 undef), (us6.getD 31 undef), (us6.getD 32 undef), (us6.getD 33 undef), (us6.getD 34 undef), (us6.getD 35 undef), (us6.getD 36 undef), (us6.getD 37 undef), (us6.getD 38 undef), (us6.getD 39 undef), (us6.getD 40 undef), (us6.getD 41 undef), (us6.getD 42 undef)], []⟩ : Act) ∧ (2 ≤ i ∧ i ≤ mk) ∧ Mem w (foots [disk D p pg mb qv, blk f 96 (fC V p), book B b ⟨lv, kv, vs⟩]) w' [disk (D.rd r) p pg mb qv, blk f 96 (fC V p), blk b 48 (bC B ⟨lv, kv, vs⟩), rows lv vs B.loads, lst 3 1 kv B.ps.length B.kinds]) (fun a' _ => mk - (intOf (a'.tmps.getD 7 undef)).toNat) ⟨2, D.reads, [.bool false, undef, undef, undef, undef, undef, undef, undef, undef, undef, undef, undef, undef, undef, undef, undef, undef, undef, undef, undef, undef, undef, undef, undef, undef, undef, undef, undef, undef, undef, undef, undef, undef, undef, undef, undef, undef, undef, undef, undef, undef, undef, undef], rfl, ⟨by omega, by omega⟩, M⟩ ?_
  clear M
  rintro a' w7 ⟨i, r, us6, rfl, hi, M7⟩
  refine wp_seq_k (fun K8 hK8 => ?_)
  refine wp_seq_k (fun K9 hK9 => ?_)
  refine wp_region_lit ?_
  refine pl M7 (y_move (v := .int .i64 (i : Int)) rfl rfl rfl) ?_
  simp only [Act.put, z1, z2, z3]
  refine pl M7 (y_move (v := .int .i64 (mk : Int)) rfl rfl rfl) ?_
  simp only [Act.put, z1, z2, z3]
  rcases Decidable.em ((i : Int) < (mk : Int)) with h10 | h10
  · have hib : i - 2 < B.ps.length := by omega
    obtain ⟨gk, ck, hk⟩ := lst_pt (M7.get 4 rfl) (B.kind_at hib)
    obtain ⟨gl, cl, ao, nn, hl, hv, hlen, hfo⟩ := rows_pt (M7.get 3 rfl) (i := i - 2) (by rw [B.loads_len]; exact hib)
    rw [B.load_at] at hv hlen
    have hpl := pg_len hI (n := i) (by omega) (by omega)
    refine pl M7 (y_lss (b := true) rfl rfl rfl rfl (decide_eq_true h10)) ?_
    simp only [Act.put, z1, z2, z3]
    refine wpList_nil ?_
    refine hK9 _ _ ?_
    clear hK9
    refine wp_cond_true rfl ?_
    refine wp_skip ?_
    refine hK8 _ _ ?_
    clear hK8
    refine wp_seq_k (fun K11 hK11 => ?_)
    refine wp_block ?_
    refine wp_seq_k (fun K12 hK12 => ?_)
    refine wp_region_lit ?_
    refine pl M7 (y_move (v := .pointer (some ⟨f, 0, none⟩)) rfl rfl rfl) ?_
    simp only [Act.put, z1, z2, z3]
    refine pl M7 (y_move (v := .int .i64 (i : Int)) rfl rfl rfl) ?_
    simp only [Act.put, z1, z2, z3]
    have hX13 : Mem w _ w7 ([disk (D.rd r) p pg mb qv, blk f 96 (fC V p)] ++ [blk b 48 (bC B ⟨lv, kv, vs⟩), rows lv vs B.loads, lst 3 1 kv B.ps.length B.kinds]) := M7.arr [0, 1, 2, 3, 4] (by decide)
    refine pe rfl (fun K hK => ?_)
    refine e_call 25 [.pointer (some ⟨f, 0, none⟩), .int .i64 (i : Int)] rfl rfl Try.call25 (fread_fit (Mem.here hX13) (hI.rd r) i (by omega) (by omega)) ?_
    rintro e w13 ⟨a2, c2, r2, rfl, H13, hr2⟩
    have M13 : Mem w _ w13 [disk (D.rd r2) p pg mb qv, blk f 96 (fC V p), bytesL (.slice a2 (pgAt B.ps i).2.length c2) (pgAt B.ps i).2, blk b 48 (bC B ⟨lv, kv, vs⟩), rows lv vs B.loads, lst 3 1 kv B.ps.length B.kinds] := Mem.frame hX13 H13
    refine ⟨_, rfl, ?_⟩
    refine hK.out _ _ ?_
    clear hK K
    simp only [Act.put, z1, z2, z3]
    refine pl M13 (y_move (v := .tuple #[.int .i64 ((pgAt B.ps i).1 : Int), .slice a2 ((pgAt B.ps i).2.length) c2, .int .i64 0]) rfl rfl rfl) ?_
    simp only [Act.put, z1, z2, z3]
    refine pl M13 (y_ext (v := .int .i64 ((pgAt B.ps i).1 : Int)) rfl rfl rfl rfl) ?_
    simp only [Act.put, z1, z2, z3]
    refine pl M13 (y_ext (v := .slice a2 ((pgAt B.ps i).2.length) c2) rfl rfl rfl rfl) ?_
    simp only [Act.put, z1, z2, z3]
    refine pl M13 (y_ext (v := .int .i64 0) rfl rfl rfl rfl) ?_
    simp only [Act.put, z1, z2, z3]
    refine pl M13 (y_assign (v := .int .i64 ((pgAt B.ps i).1 : Int)) rfl rfl rfl) ?_
    simp only [Act.put, z1, z2, z3]
    refine pl M13 (y_assign (v := .slice a2 ((pgAt B.ps i).2.length) c2) rfl rfl rfl) ?_
    simp only [Act.put, z1, z2, z3]
    refine pl M13 (y_assign (v := .int .i64 0) rfl rfl rfl) ?_
    simp only [Act.put, z1, z2, z3]
    refine wpList_nil ?_
    refine hK12 _ _ ?_
    clear hK12
    refine wp_seq_k (fun K14 hK14 => ?_)
    refine wp_region_lit ?_
    refine pl M13 (y_move (v := .int .i64 0) rfl rfl rfl) ?_
    simp only [Act.put, z1, z2, z3]
    refine pl M13 (y_neq (b := false) rfl rfl rfl rfl (by rw [decide_eq_true (by decide)]; rfl)) ?_
    simp only [Act.put, z1, z2, z3]
    refine pl M13 (y_move (v := .bool false) rfl rfl rfl) ?_
    simp only [Act.put, z1, z2, z3]
    refine pl M13 (y_move (v := .int .i64 ((pgAt B.ps i).1 : Int)) rfl rfl rfl) ?_
    simp only [Act.put, z1, z2, z3]
    refine pl M13 (y_move (v := .pointer (some ⟨b, 0, none⟩)) rfl rfl rfl) ?_
    simp only [Act.put, z1, z2, z3]
    refine pl M13 (y_nil rfl rfl rfl) ?_
    simp only [Act.put, z1, z2, z3]
    refine pl M13 (y_fa (r := 1) rfl rfl rfl Try.underlying48 rfl Try.sizeOf46 rfl) ?_
    simp only [Act.put, z1, z2, z3]
    refine pl M13 (y_load (v := kv) rfl rfl rfl Try.isAgg46 (fun W hW => hW.get 3 rfl) (rfl)) ?_
    simp only [Act.put, z1, z2, z3]
    refine pl M13 (y_move (v := .int .i64 (i : Int)) rfl rfl rfl) ?_
    simp only [Act.put, z1, z2, z3]
    refine pl M13 (y_sub (r := ((i - 2 : Nat) : Int)) rfl rfl rfl rfl (by omega) (by omega)) ?_
    simp only [Act.put, z1, z2, z3]
    refine pl M13 (y_ias (r := i - 2) rfl rfl hk rfl Try.underlying46 Try.sizeOf3 (by omega) (by omega)) ?_
    simp only [Act.put, z1, z2, z3]
    refine pl M13 (y_loadc (v := .int .i64 ((pgAt B.ps i).1 : Int)) rfl rfl rfl Try.isAgg3 (fun W hW => lst_cell_at (hW.get 5 rfl) hk (B.kind_at hib))) ?_
    simp only [Act.put, z1, z2, z3]
    refine pl M13 (y_neq (b := false) rfl rfl rfl rfl (by rw [decide_eq_true rfl]; rfl)) ?_
    simp only [Act.put, z1, z2, z3]
    refine pl M13 (y_pickF (v := .bool false) rfl rfl rfl rfl) ?_
    simp only [Act.put, z1, z2, z3]
    refine pl M13 (y_move (v := .bool false) rfl rfl rfl) ?_
    simp only [Act.put, z1, z2, z3]
    refine pl M13 (y_move (v := .slice a2 ((pgAt B.ps i).2.length) c2) rfl rfl rfl) ?_
    simp only [Act.put, z1, z2, z3]
    refine pl M13 (y_move (v := .pointer (some ⟨b, 0, none⟩)) rfl rfl rfl) ?_
    simp only [Act.put, z1, z2, z3]
    refine pl M13 (y_nil rfl rfl rfl) ?_
    simp only [Act.put, z1, z2, z3]
    refine pl M13 (y_fa (r := 0) rfl rfl rfl Try.underlying48 rfl Try.sizeOf45 rfl) ?_
    simp only [Act.put, z1, z2, z3]
    refine pl M13 (y_load (v := lv) rfl rfl rfl Try.isAgg45 (fun W hW => hW.get 3 rfl) (rfl)) ?_
    simp only [Act.put, z1, z2, z3]
    refine pl M13 (y_move (v := .int .i64 (i : Int)) rfl rfl rfl) ?_
    simp only [Act.put, z1, z2, z3]
    refine pl M13 (y_sub (r := ((i - 2 : Nat) : Int)) rfl rfl rfl rfl (by omega) (by omega)) ?_
    simp only [Act.put, z1, z2, z3]
    refine pl M13 (y_ias (r := i - 2) rfl rfl hl rfl Try.underlying45 Try.sizeOf22 (by rw [B.loads_len]; omega) (by omega)) ?_
    simp only [Act.put, z1, z2, z3]
    refine pl M13 (y_loadc (v := .slice ao ((pgAt B.ps i).2.length) nn) rfl rfl rfl Try.isAgg22 (fun W hW => rows_cell (hW.get 4 rfl) hl rfl hv)) ?_
    simp only [Act.put, z1, z2, z3]
    refine pe rfl (fun K hK => ?_)
    refine e_call 35 [.slice a2 ((pgAt B.ps i).2.length) c2, .slice ao ((pgAt B.ps i).2.length) nn] rfl rfl Try.call35 (same_any a2 ao _ _ _ _ (pgAt B.ps i).2 (pgAt B.ps i).2 _ (bytesL_row (M13.get 2 rfl)) (by have := rows_row (M13.get 4 rfl) (by rw [B.loads_len]; exact hib) hv; rw [B.load_at] at this; exact this) (by unfold maxLen; omega) (by unfold maxLen; omega)) ?_
    rintro e w15 ⟨rfl, H15⟩
    have M15 : Mem w _ w15 [disk (D.rd r2) p pg mb qv, blk f 96 (fC V p), bytesL (.slice a2 (pgAt B.ps i).2.length c2) (pgAt B.ps i).2, blk b 48 (bC B ⟨lv, kv, vs⟩), rows lv vs B.loads, lst 3 1 kv B.ps.length B.kinds] := M13.step H15
    rw [(eqB_true rfl)]
    refine ⟨_, rfl, ?_⟩
    refine hK.out _ _ ?_
    clear hK K
    simp only [Act.put, z1, z2, z3]
    refine pl M15 (y_not rfl rfl rfl rfl) ?_
    simp only [Act.put, z1, z2, z3]
    refine pl M15 (y_pickF (v := .bool false) rfl rfl rfl rfl) ?_
    simp only [Act.put, z1, z2, z3]
    refine wpList_nil ?_
    refine hK14 _ _ ?_
    clear hK14
    refine wp_cond_false rfl ?_
    refine wp_skip ?_
    refine hK11 _ _ ?_
    clear hK11
    refine wp_region_lit ?_
    refine pl M15 (y_move (v := .int .i64 (i : Int)) rfl rfl rfl) ?_
    simp only [Act.put, z1, z2, z3]
    refine pl M15 (y_add (r := (i : Int) + 1) rfl rfl rfl rfl (rfl) (by omega)) ?_
    simp only [Act.put, z1, z2, z3]
    refine pl M15 (y_assign (v := .int .i64 ((i : Int) + 1)) rfl rfl rfl) ?_
    simp only [Act.put, z1, z2, z3]
    refine wpList_nil ?_
    refine ⟨⟨i + 1, r2, [(us6.getD 0 undef), .int .i64 ((pgAt B.ps i).1 : Int), .slice a2 ((pgAt B.ps i).2.length) c2, .int .i64 0, .int .i64 (i : Int), .int .i64 (mk : Int), .bool true, .int .i64 (i : Int), .int .i64 ((i : Int) + 1), .tuple #[.int .i64 ((pgAt B.ps i).1 : Int), .slice a2 ((pgAt B.ps i).2.length) c2, .int .i64 0], .pointer (some ⟨f, 0, none⟩), .int .i64 (i : Int), .tuple #[.int .i64 ((pgAt B.ps i).1 : Int), .slice a2 ((pgAt B.ps i).2.length) c2, .int .i64 0], .int .i64 ((pgAt B.ps i).1 : Int), .slice a2 ((pgAt B.ps i).2.length) c2, .int .i64 0, .int .i64 0, .bool false, .bool false, .int .i64 ((pgAt B.ps i).1 : Int), .pointer (some ⟨b, 0, none⟩), .pointer (some ⟨b, 0, none⟩), .pointer (some ⟨b, 1, none⟩), kv, .int .i64 (i : Int), .int .i64 ((i - 2 : Nat) : Int), .pointer (some ⟨gk, (i - 2), none⟩), .int .i64 ((pgAt B.ps i).1 : Int), .bool false, .bool false, .bool false, .slice a2 ((pgAt B.ps i).2.length) c2, .pointer (some ⟨b, 0, none⟩), .pointer (some ⟨b, 0, none⟩), .pointer (some ⟨b, 0, none⟩), lv, .int .i64 (i : Int), .int .i64 ((i - 2 : Nat) : Int), .pointer (some ⟨gl, (i - 2), none⟩), .slice ao ((pgAt B.ps i).2.length) nn, .bool true, .bool false, .bool false], rfl, ⟨by omega, by omega⟩, (M15.arr [0, 1, 3, 4, 5] (by decide))⟩, ?_⟩
    simp [intOf]; omega
  · refine pl M7 (y_lss (b := false) rfl rfl rfl rfl (decide_eq_false h10)) ?_
    simp only [Act.put, z1, z2, z3]
    refine wpList_nil ?_
    refine hK9 _ _ ?_
    clear hK9
    refine wp_cond_false rfl ?_
    refine wp_exit ?_
    refine hK4 _ _ ?_
    clear hK4
    refine wp_seq_k (fun K16 hK16 => ?_)
    refine wp_region_lit ?_
    refine pl M7 (y_assign (v := .bool true) rfl rfl rfl) ?_
    simp only [Act.put, z1, z2, z3]
    refine wpList_nil ?_
    refine hK16 _ _ ?_
    clear hK16
    refine wp_ret ?_
    try simp only [Exit.inBlock, Exit.then]
    refine bodyPost_ret (v := .bool true) (res1 rfl rfl) rfl ?_
    have N : Mem _ _ _ [book B b ⟨lv, kv, vs⟩, _, _] := book_close (M7.arr [2, 3, 4, 0, 1] (by decide))
    exact ⟨r, rfl, N.arr [1, 2, 0] (by decide)⟩
end Go.Proofs.Ytehnnnohoaapdaa
