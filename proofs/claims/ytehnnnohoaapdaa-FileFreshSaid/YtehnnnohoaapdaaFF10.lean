/- Texts joined: Disk9, Page2, SupEq, Held1. -/
import Derived.Test.YtehnnnohoaapdaaFF09
import Derived.Test.YtehnnnohoaapdaaFF07
import Derived.Test.YtehnnnohoaapdaaRows
import Derived.Test.YtehnnnohoaapdaaFF06
import Derived.ChangeKeysEq
import Derived.Test.YtehnnnohoaapdaaFF00
/- The program's disk: Crash. -/
namespace Go.Proofs.Ytehnnnohoaapdaa
set_option linter.unusedSectionVars false
open Go Go.RowKit
set_option linter.unusedVariables false
set_option linter.unusedSimpArgs false
theorem Row.getD {w : World} {b o n : Nat} {l : List UInt8} (h : Row w (some ⟨b, o, none⟩) n l) (i : Nat) (hi : i < n) : w.cell? ⟨b, o + i, none⟩ = some (.int .u8 ((l.getD i 0).toNat : Int)) := by
  have hl : i < l.length := by rw [h.1]; exact hi
  rw [h.cell i hl, List.getD_eq_getElem?_getD, List.getElem?_eq_getElem hl]
  rfl
theorem zip_in {D : DV} (h : DOk D) (l : List UInt8) : ∀ x ∈ D.q.zip l, x.1.1 < D.pages.length ∧ x.1.2.length = 256 := fun x hx => h.qs x.1 (List.of_mem_zip (a := x.1) (b := x.2) hx).1
theorem crash_ok {D : DV} (h : DOk D) (l : List UInt8) : DOk (crashD D l) :=
  ⟨by show 3 ≤ (crashP _ _).length; rw [crashP_len]; exact h.lo, by show (crashP _ _).length ≤ _; rw [crashP_len]; exact h.hi, crashP_each h.len _ (zip_in h l), by simp [crashD], ⟨by show (0 : Int) ≤ 0; omega, by show (0 : Int) ≤ _; omega⟩, inI_wrap _⟩
end Go.Proofs.Ytehnnnohoaapdaa

/- Pages as bytes: Unpack. -/
namespace Go.Proofs.Ytehnnnohoaapdaa
set_option linter.unusedSectionVars false
open Go Go.RowKit
set_option linter.unusedVariables false
set_option linter.unusedSimpArgs false
theorem unpg_cases {page : Nat} {l : List UInt8} (hp : 2 ≤ page ∧ page < 4096) (hl : l.length = 256) :
    (wholeB l = false → unpgE page l = 52) ∧ (wholeB l = true → ¬ KindOk ((l.getD 0 0).toNat : Int) → unpgE page l = 50) ∧
    (wholeB l = true → KindOk ((l.getD 0 0).toNat : Int) → 246 < (l.getD 1 0).toNat → unpgE page l = 51) ∧
    (wholeB l = true → KindOk ((l.getD 0 0).toNat : Int) → ¬ 246 < (l.getD 1 0).toNat → ((decN ((l.drop 2).take 4) : Nat) : Int) ≠ page → unpgE page l = 54) ∧
    (wholeB l = true → KindOk ((l.getD 0 0).toNat : Int) → ¬ 246 < (l.getD 1 0).toNat → ((decN ((l.drop 2).take 4) : Nat) : Int) = page → allZ ((l.drop (6 + (l.getD 1 0).toNat)).take (246 - (l.getD 1 0).toNat)) = false → unpgE page l = 53) ∧
    (wholeB l = true → KindOk ((l.getD 0 0).toNat : Int) → ¬ 246 < (l.getD 1 0).toNat → ((decN ((l.drop 2).take 4) : Nat) : Int) = page → allZ ((l.drop (6 + (l.getD 1 0).toNat)).take (246 - (l.getD 1 0).toNat)) = true → unpgE page l = 0) := by
  have h1 : ¬ ¬ PlaceOk (page : Int) := fun h => h ⟨by omega, by omega⟩
  have h2 : ¬ (l.length ≠ 256) := fun h => h hl
  refine ⟨fun a => ?_, fun a b => ?_, fun a b c => ?_, fun a b c d => ?_, fun a b c d e => ?_, fun a b c d e => ?_⟩ <;> unfold unpgE <;> rw [if_neg h1, if_neg h2]
  · rw [if_pos a]
  · rw [if_neg (by rw [a]; decide), if_pos b]
  · rw [if_neg (by rw [a]; decide), if_neg (fun h => h b), if_pos c]
  · rw [if_neg (by rw [a]; decide), if_neg (fun h => h b), if_neg c, if_pos d]
  · rw [if_neg (by rw [a]; decide), if_neg (fun h => h b), if_neg c, if_neg (fun h => h d), if_pos e]
  · rw [if_neg (by rw [a]; decide), if_neg (fun h => h b), if_neg c, if_neg (fun h => h d), if_neg (by rw [e]; decide)]
set_option maxRecDepth 100000 in
set_option maxHeartbeats 4000000 in
theorem unpack_ok (page rb ro c : Nat) (l : List UInt8) (w : World) (hr : Row w (some ⟨rb, ro, none⟩) 256 l) (hp : 2 ≤ page ∧ page < 4096) (hc : 256 ≤ c) (hcm : c ≤ 9223372036854775807) : Calls Try.prog 49 #[.int .i64 (page : Int), .slice (some ⟨rb, ro, none⟩) 256 c] w fun e w' => ∃ v, e = .returned (.tuple #[.int .i64 (unpgK page l), v, .int .i64 (unpgE page l)]) ∧ Mem w [] w' [lst 5 1 v (unpgL page l).length (bvs (unpgL page l))] := by
  have M := Mem.nil w
  have hl := hr.1
  have hp1 := hp.1
  have hp2 := hp.2
  have hb1 := (l.getD 1 0).toNat_lt
  have hb0 := (l.getD 0 0).toNat_lt
  have hpl : 246 < (l.getD 1 0).toNat ∨ ((l.drop 6).take (l.getD 1 0).toNat).length = (l.getD 1 0).toNat := by rw [List.length_take, List.length_drop]; omega
  go_enter Try.func49, Try.ntmps49
  refine wp_seq_k (fun K1 hK1 => ?_)
  refine wp_region_lit ?_
  refine pl M (y_assign (v := .int .i64 0) rfl rfl rfl) ?_
  simp only [Act.put, z1, z2, z3]
  refine pl M (y_assign (v := .slice none 0 0) rfl rfl rfl) ?_
  simp only [Act.put, z1, z2, z3]
  refine pl M (y_assign (v := .int .i64 0) rfl rfl rfl) ?_
  simp only [Act.put, z1, z2, z3]
  refine wpList_nil ?_
  refine hK1 _ _ ?_
  clear hK1
  refine wp_seq_k (fun K2 hK2 => ?_)
  refine wp_seq_k (fun K3 hK3 => ?_)
  refine wp_region_lit ?_
  refine pl M (y_move (v := .int .i64 (page : Int)) rfl rfl rfl) ?_
  simp only [Act.put, z1, z2, z3]
  refine pe rfl (fun K hK => ?_)
  refine e_call 64 [.int .i64 (page : Int)] rfl rfl Try.call64 (place_any (page : Int) _) ?_
  rintro e w4 ⟨rfl, H4⟩
  have M4 : Mem w [] w4 [] := M.step H4
  rw [(decide_eq_true (show PlaceOk page from ⟨by omega, by omega⟩))]
  refine ⟨_, rfl, ?_⟩
  refine hK.out _ _ ?_
  clear hK K
  simp only [Act.put, z1, z2, z3]
  refine pl M4 (y_not rfl rfl rfl rfl) ?_
  simp only [Act.put, z1, z2, z3]
  refine wpList_nil ?_
  refine hK3 _ _ ?_
  clear hK3
  refine wp_cond_false rfl ?_
  refine wp_skip ?_
  refine hK2 _ _ ?_
  clear hK2
  refine wp_seq_k (fun K5 hK5 => ?_)
  refine wp_seq_k (fun K6 hK6 => ?_)
  refine wp_region_lit ?_
  refine pl M4 (y_move (v := .slice (some ⟨rb, ro, none⟩) 256 c) rfl rfl rfl) ?_
  simp only [Act.put, z1, z2, z3]
  refine pl M4 (y_len rfl rfl rfl Try.underlying22) ?_
  simp only [Act.put, z1, z2, z3]
  refine pl M4 (y_neq (b := false) rfl rfl rfl rfl (by rw [decide_eq_true (by omega)]; rfl)) ?_
  simp only [Act.put, z1, z2, z3]
  refine wpList_nil ?_
  refine hK6 _ _ ?_
  clear hK6
  refine wp_cond_false rfl ?_
  refine wp_skip ?_
  refine hK5 _ _ ?_
  clear hK5
  refine wp_seq_k (fun K7 hK7 => ?_)
  refine wp_seq_k (fun K8 hK8 => ?_)
  refine wp_region_lit ?_
  refine pl M4 (y_move (v := .slice (some ⟨rb, ro, none⟩) 256 c) rfl rfl rfl) ?_
  simp only [Act.put, z1, z2, z3]
  refine pe rfl (fun K hK => ?_)
  refine e_call 56 [.slice (some ⟨rb, ro, none⟩) 256 c] rfl rfl Try.call56 (whole_any (some ⟨rb, ro, none⟩) 256 c l _ (M4.row hr (by simp)) (by unfold maxLen; omega) hc (by unfold maxLen; omega)) ?_
  rintro e w9 ⟨rfl, H9⟩
  have M9 : Mem w [] w9 [] := M4.low H9
  rcases Bool.eq_false_or_eq_true (wholeB l) with h10 | h10
  · rw [h10]
    refine ⟨_, rfl, ?_⟩
    refine hK.out _ _ ?_
    clear hK K
    simp only [Act.put, z1, z2, z3]
    refine pl M9 (y_not rfl rfl rfl rfl) ?_
    simp only [Act.put, z1, z2, z3]
    refine wpList_nil ?_
    refine hK8 _ _ ?_
    clear hK8
    refine wp_cond_false rfl ?_
    refine wp_skip ?_
    refine hK7 _ _ ?_
    clear hK7
    refine wp_seq_k (fun K11 hK11 => ?_)
    have M12 : Mem w [] w9.drew [] := M9.drew
    clear M9
    refine wp_region_tail 9 (by kernel_rfl) (by kernel_rfl) ?_
    simp only [List.take_succ_cons, List.take_zero, List.drop_succ_cons, List.drop_zero]
    refine ps M12 (y_move (v := .slice (some ⟨rb, ro, none⟩) 256 c) rfl rfl rfl) ?_
    simp only [Act.put, z1, z2, z3]
    refine ps M12 (y_ias (r := ro) rfl rfl rfl rfl Try.underlying22 Try.sizeOf5 (by omega) (by omega)) ?_
    simp only [Act.put, z1, z2, z3]
    refine ps M12 (y_loadc (v := .int .u8 ((l.getD 0 0).toNat : Int)) rfl rfl rfl Try.isAgg5 (fun W hW => (hW.row hr (by simp)).getD 0 (by omega))) ?_
    simp only [Act.put, z1, z2, z3]
    refine ps M12 (y_conv (r := ((l.getD 0 0).toNat : Int)) rfl rfl rfl Try.underlying5 Try.underlying3 (wrap64_of (by omega))) ?_
    simp only [Act.put, z1, z2, z3]
    refine ps M12 (y_move (v := .slice (some ⟨rb, ro, none⟩) 256 c) rfl rfl rfl) ?_
    simp only [Act.put, z1, z2, z3]
    refine ps M12 (y_ias (r := ro + 1) rfl rfl rfl rfl Try.underlying22 Try.sizeOf5 (by omega) (by omega)) ?_
    simp only [Act.put, z1, z2, z3]
    refine ps M12 (y_loadc (v := .int .u8 ((l.getD 1 0).toNat : Int)) rfl rfl rfl Try.isAgg5 (fun W hW => (hW.row hr (by simp)).getD 1 (by omega))) ?_
    simp only [Act.put, z1, z2, z3]
    refine ps M12 (y_conv (r := ((l.getD 1 0).toNat : Int)) rfl rfl rfl Try.underlying5 Try.underlying3 (wrap64_of (by omega))) ?_
    simp only [Act.put, z1, z2, z3]
    refine ps M12 (y_assign (v := .int .i64 ((l.getD 0 0).toNat : Int)) rfl rfl rfl) ?_
    simp only [Act.put, z1, z2, z3]
    refine wpStill_nil ?_
    refine pl M12 (y_assign (v := .int .i64 ((l.getD 1 0).toNat : Int)) rfl rfl rfl) ?_
    simp only [Act.put, z1, z2, z3]
    refine wpList_nil ?_
    refine hK11 _ _ ?_
    clear hK11
    refine wp_seq_k (fun K13 hK13 => ?_)
    refine wp_block ?_
    refine wp_seq_k (fun K14 hK14 => ?_)
    refine wp_region_lit ?_
    refine pl M12 (y_move (v := .int .i64 ((l.getD 0 0).toNat : Int)) rfl rfl rfl) ?_
    simp only [Act.put, z1, z2, z3]
    refine pe rfl (fun K hK => ?_)
    refine e_call 65 [.int .i64 ((l.getD 0 0).toNat : Int)] rfl rfl Try.call65 (kindOf_any ((l.getD 0 0).toNat : Int) _) ?_
    rintro e w15 ⟨rfl, H15⟩
    have M15 : Mem w [] w15 [] := M12.step H15
    rcases Bool.eq_false_or_eq_true (decide (KindOk ((l.getD 0 0).toNat : Int))) with h16 | h16
    · rw [h16]
      refine ⟨_, rfl, ?_⟩
      refine hK.out _ _ ?_
      clear hK K
      simp only [Act.put, z1, z2, z3]
      refine pl M15 (y_not rfl rfl rfl rfl) ?_
      simp only [Act.put, z1, z2, z3]
      refine pl M15 (y_assign (v := .bool false) rfl rfl rfl) ?_
      simp only [Act.put, z1, z2, z3]
      refine wpList_nil ?_
      refine hK14 _ _ ?_
      clear hK14
      refine wp_cond_false rfl ?_
      refine wp_seq_k (fun K17 hK17 => ?_)
      refine wp_region_lit ?_
      refine pl M15 (y_move (v := .int .i64 ((l.getD 1 0).toNat : Int)) rfl rfl rfl) ?_
      simp only [Act.put, z1, z2, z3]
      rcases Decidable.em ((246 : Int) < ((l.getD 1 0).toNat : Int)) with h18 | h18
      · refine pl M15 (y_gtr (b := true) rfl rfl rfl rfl (decide_eq_true h18)) ?_
        simp only [Act.put, z1, z2, z3]
        refine pl M15 (y_assign (v := .bool true) rfl rfl rfl) ?_
        simp only [Act.put, z1, z2, z3]
        refine wpList_nil ?_
        refine hK17 _ _ ?_
        clear hK17
        refine wp_cond_true rfl ?_
        refine wp_seq_k (fun K19 hK19 => ?_)
        refine wp_region_lit ?_
        refine pl M15 (y_assign (v := .int .i64 0) rfl rfl rfl) ?_
        simp only [Act.put, z1, z2, z3]
        refine pl M15 (y_assign (v := .slice none 0 0) rfl rfl rfl) ?_
        simp only [Act.put, z1, z2, z3]
        refine pl M15 (y_assign (v := .int .i64 51) rfl rfl rfl) ?_
        simp only [Act.put, z1, z2, z3]
        refine wpList_nil ?_
        refine hK19 _ _ ?_
        clear hK19
        refine wp_ret ?_
        try simp only [Exit.inBlock, Exit.then]
        refine bodyPost_ret (v := .tuple #[.int .i64 0, .slice none 0 0, .int .i64 51]) (res3 rfl rfl rfl rfl) rfl ?_
        have N := (M15.nilst 5 1)
        have e1 : unpgE (page : Int) l = 51 := (unpg_cases hp hl).2.2.1 h10 (of_decide_eq_true h16) (by omega)
        obtain ⟨e2, e3⟩ := unpg_no e1 (by decide)
        rw [e1, e2, e3]
        exact ⟨_, rfl, N⟩
      · refine pl M15 (y_gtr (b := false) rfl rfl rfl rfl (decide_eq_false h18)) ?_
        simp only [Act.put, z1, z2, z3]
        refine pl M15 (y_assign (v := .bool false) rfl rfl rfl) ?_
        simp only [Act.put, z1, z2, z3]
        refine wpList_nil ?_
        refine hK17 _ _ ?_
        clear hK17
        refine wp_cond_false rfl ?_
        refine wp_seq_k (fun K20 hK20 => ?_)
        refine wp_region_lit ?_
        refine pl M15 (y_move (v := .slice (some ⟨rb, ro, none⟩) 256 c) rfl rfl rfl) ?_
        simp only [Act.put, z1, z2, z3]
        refine pl M15 (y_sls (l := 2) (h := 256) (r := ro + 2) (n' := 254) (c' := c - 2) rfl rfl rfl rfl rfl Try.underlying22 Try.sizeOf5 (by exact ⟨rfl, ⟨_, _, rfl, by omega, by omega⟩⟩) (by split <;> omega) (by omega) (by omega)) ?_
        simp only [Act.put, z1, z2, z3]
        refine pe rfl (fun K hK => ?_)
        refine e_call 58 [.slice (some ⟨rb, ro + 2, none⟩) 254 (c - 2), .int .i64 4] rfl rfl Try.call58 (get_any (some ⟨rb, ro + 2, none⟩) 254 (c - 2) (l.drop 2) 4 _ ((M15.row hr (by simp)).drop 2 (by omega)) (by omega) (by omega) (by unfold maxLen; omega)) ?_
        rintro e w21 ⟨rfl, H21⟩
        have M21 : Mem w [] w21 [] := M15.same H21
        refine ⟨_, rfl, ?_⟩
        refine hK.out _ _ ?_
        clear hK K
        simp only [Act.put, z1, z2, z3]
        refine pl M21 (y_move (v := .int .i64 (page : Int)) rfl rfl rfl) ?_
        simp only [Act.put, z1, z2, z3]
        rcases Decidable.em (((decN ((l.drop 2).take 4) : Nat) : Int) = (page : Int)) with h22 | h22
        · refine pl M21 (y_neq (b := false) rfl rfl rfl rfl (by rw [decide_eq_true h22]; rfl)) ?_
          simp only [Act.put, z1, z2, z3]
          refine pl M21 (y_assign (v := .bool false) rfl rfl rfl) ?_
          simp only [Act.put, z1, z2, z3]
          refine wpList_nil ?_
          refine hK20 _ _ ?_
          clear hK20
          refine wp_cond_false rfl ?_
          refine wp_seq_k (fun K23 hK23 => ?_)
          refine wp_region_lit ?_
          refine pl M21 (y_move (v := .slice (some ⟨rb, ro, none⟩) 256 c) rfl rfl rfl) ?_
          simp only [Act.put, z1, z2, z3]
          refine pl M21 (y_move (v := .int .i64 ((l.getD 1 0).toNat : Int)) rfl rfl rfl) ?_
          simp only [Act.put, z1, z2, z3]
          refine pl M21 (y_add (r := ((6 + (l.getD 1 0).toNat : Nat) : Int)) rfl rfl rfl rfl (by omega) (by omega)) ?_
          simp only [Act.put, z1, z2, z3]
          refine pl M21 (y_sls (l := 6 + (l.getD 1 0).toNat) (h := 252) (r := ro + (6 + (l.getD 1 0).toNat)) (n' := 246 - (l.getD 1 0).toNat) (c' := c - (6 + (l.getD 1 0).toNat)) rfl rfl rfl rfl rfl Try.underlying22 Try.sizeOf5 (by exact ⟨⟨_, _, rfl, by omega, by omega⟩, ⟨_, _, rfl, by omega, by omega⟩⟩) (by split <;> omega) (by omega) (by omega)) ?_
          simp only [Act.put, z1, z2, z3]
          refine pe rfl (fun K hK => ?_)
          refine e_call 57 [.slice (some ⟨rb, ro + (6 + (l.getD 1 0).toNat), none⟩) (246 - (l.getD 1 0).toNat) (c - (6 + (l.getD 1 0).toNat))] rfl rfl Try.call57 (allZero_any (some ⟨rb, ro + (6 + (l.getD 1 0).toNat), none⟩) (246 - (l.getD 1 0).toNat) (c - (6 + (l.getD 1 0).toNat)) ((l.drop (6 + (l.getD 1 0).toNat)).take (246 - (l.getD 1 0).toNat)) _ (((M21.row hr (by simp)).drop (6 + (l.getD 1 0).toNat) (by omega)).take (246 - (l.getD 1 0).toNat) (by omega)) (by unfold maxLen; omega)) ?_
          rintro e w24 ⟨rfl, H24⟩
          have M24 : Mem w [] w24 [] := M21.same H24
          rcases Bool.eq_false_or_eq_true (allZ ((l.drop (6 + (l.getD 1 0).toNat)).take (246 - (l.getD 1 0).toNat))) with h25 | h25
          · rw [h25]
            refine ⟨_, rfl, ?_⟩
            refine hK.out _ _ ?_
            clear hK K
            simp only [Act.put, z1, z2, z3]
            refine pl M24 (y_not rfl rfl rfl rfl) ?_
            simp only [Act.put, z1, z2, z3]
            refine pl M24 (y_assign (v := .bool false) rfl rfl rfl) ?_
            simp only [Act.put, z1, z2, z3]
            refine wpList_nil ?_
            refine hK23 _ _ ?_
            clear hK23
            refine wp_cond_false rfl ?_
            refine wp_skip ?_
            refine hK13 _ _ ?_
            clear hK13
            refine wp_seq_k (fun K26 hK26 => ?_)
            refine wp_region_lit ?_
            refine pl M24 (y_move (v := .int .i64 ((l.getD 0 0).toNat : Int)) rfl rfl rfl) ?_
            simp only [Act.put, z1, z2, z3]
            refine pl M24 (y_move (v := .slice (some ⟨rb, ro, none⟩) 256 c) rfl rfl rfl) ?_
            simp only [Act.put, z1, z2, z3]
            refine pl M24 (y_move (v := .int .i64 ((l.getD 1 0).toNat : Int)) rfl rfl rfl) ?_
            simp only [Act.put, z1, z2, z3]
            refine pl M24 (y_add (r := ((6 + (l.getD 1 0).toNat : Nat) : Int)) rfl rfl rfl rfl (by omega) (by omega)) ?_
            simp only [Act.put, z1, z2, z3]
            refine pl M24 (y_sls (l := 6) (h := 6 + (l.getD 1 0).toNat) (r := ro + 6) (n' := (l.getD 1 0).toNat) (c' := c - 6) rfl rfl rfl rfl rfl Try.underlying22 Try.sizeOf5 (by exact ⟨⟨_, _, rfl, by omega, by omega⟩, ⟨_, _, rfl, by omega, by omega⟩⟩) (by split <;> omega) (by omega) (by omega)) ?_
            simp only [Act.put, z1, z2, z3]
            have M27 : Mem w [] w24 [lst 5 1 (.slice none 0 0) 0 ([])] := M24.nilst 5 1
            refine pe rfl (fun K hK => ?_)
            refine e_append M27 0 bytesT (by decide) (news := bvs ((l.drop 6).take (l.getD 1 0).toNat)) rfl rfl rfl rfl (by rw [length_bvs, hpl.resolve_left (by omega), Nat.mul_one]) (by intro h; cases h) ((((M27.row hr (by simp)).drop 6 (by omega)).take (l.getD 1 0).toNat (by omega)).news) (bvs_oneCell _) (⟨by unfold maxLen; omega, by omega⟩) ?_
            intro v28 w28 M28
            replace M28 : Mem w [] w28 [lst 5 1 v28 ((l.getD 1 0).toNat) (bvs ((l.drop 6).take (l.getD 1 0).toNat))] := (by have h := M28; rw [Nat.zero_add] at h; exact h)
            clear M27
            obtain ⟨a28, c28, rfl⟩ := qv_at (M28.get 0 rfl)
            refine hK.out _ _ ?_
            clear hK K
            simp only [Act.put, z1, z2, z3]
            refine pl M28 (y_assign (v := .int .i64 ((l.getD 0 0).toNat : Int)) rfl rfl rfl) ?_
            simp only [Act.put, z1, z2, z3]
            refine pl M28 (y_assign (v := .slice a28 ((l.getD 1 0).toNat) c28) rfl rfl rfl) ?_
            simp only [Act.put, z1, z2, z3]
            refine pl M28 (y_assign (v := .int .i64 0) rfl rfl rfl) ?_
            simp only [Act.put, z1, z2, z3]
            refine wpList_nil ?_
            refine hK26 _ _ ?_
            clear hK26
            refine wp_ret ?_
            try simp only [Exit.inBlock, Exit.then]
            refine bodyPost_ret (v := .tuple #[.int .i64 ((l.getD 0 0).toNat : Int), .slice a28 ((l.getD 1 0).toNat) c28, .int .i64 0]) (res3 rfl rfl rfl rfl) rfl ?_
            have e1 : unpgE (page : Int) l = 0 := (unpg_cases hp hl).2.2.2.2.2 h10 (of_decide_eq_true h16) (by omega) h22 h25
            obtain ⟨e2, e3⟩ := unpg_yes e1
            rw [e1, e2, e3, hpl.resolve_left (by omega)]
            exact ⟨_, rfl, M28⟩
          · rw [h25]
            refine ⟨_, rfl, ?_⟩
            refine hK.out _ _ ?_
            clear hK K
            simp only [Act.put, z1, z2, z3]
            refine pl M24 (y_not rfl rfl rfl rfl) ?_
            simp only [Act.put, z1, z2, z3]
            refine pl M24 (y_assign (v := .bool true) rfl rfl rfl) ?_
            simp only [Act.put, z1, z2, z3]
            refine wpList_nil ?_
            refine hK23 _ _ ?_
            clear hK23
            refine wp_cond_true rfl ?_
            refine wp_seq_k (fun K29 hK29 => ?_)
            refine wp_region_lit ?_
            refine pl M24 (y_assign (v := .int .i64 0) rfl rfl rfl) ?_
            simp only [Act.put, z1, z2, z3]
            refine pl M24 (y_assign (v := .slice none 0 0) rfl rfl rfl) ?_
            simp only [Act.put, z1, z2, z3]
            refine pl M24 (y_assign (v := .int .i64 53) rfl rfl rfl) ?_
            simp only [Act.put, z1, z2, z3]
            refine wpList_nil ?_
            refine hK29 _ _ ?_
            clear hK29
            refine wp_ret ?_
            try simp only [Exit.inBlock, Exit.then]
            refine bodyPost_ret (v := .tuple #[.int .i64 0, .slice none 0 0, .int .i64 53]) (res3 rfl rfl rfl rfl) rfl ?_
            have N := (M24.nilst 5 1)
            have e1 : unpgE (page : Int) l = 53 := (unpg_cases hp hl).2.2.2.2.1 h10 (of_decide_eq_true h16) (by omega) h22 h25
            obtain ⟨e2, e3⟩ := unpg_no e1 (by decide)
            rw [e1, e2, e3]
            exact ⟨_, rfl, N⟩
        · refine pl M21 (y_neq (b := true) rfl rfl rfl rfl (by rw [decide_eq_false h22]; rfl)) ?_
          simp only [Act.put, z1, z2, z3]
          refine pl M21 (y_assign (v := .bool true) rfl rfl rfl) ?_
          simp only [Act.put, z1, z2, z3]
          refine wpList_nil ?_
          refine hK20 _ _ ?_
          clear hK20
          refine wp_cond_true rfl ?_
          refine wp_seq_k (fun K30 hK30 => ?_)
          refine wp_region_lit ?_
          refine pl M21 (y_assign (v := .int .i64 0) rfl rfl rfl) ?_
          simp only [Act.put, z1, z2, z3]
          refine pl M21 (y_assign (v := .slice none 0 0) rfl rfl rfl) ?_
          simp only [Act.put, z1, z2, z3]
          refine pl M21 (y_assign (v := .int .i64 54) rfl rfl rfl) ?_
          simp only [Act.put, z1, z2, z3]
          refine wpList_nil ?_
          refine hK30 _ _ ?_
          clear hK30
          refine wp_ret ?_
          try simp only [Exit.inBlock, Exit.then]
          refine bodyPost_ret (v := .tuple #[.int .i64 0, .slice none 0 0, .int .i64 54]) (res3 rfl rfl rfl rfl) rfl ?_
          have N := (M21.nilst 5 1)
          have e1 : unpgE (page : Int) l = 54 := (unpg_cases hp hl).2.2.2.1 h10 (of_decide_eq_true h16) (by omega) h22
          obtain ⟨e2, e3⟩ := unpg_no e1 (by decide)
          rw [e1, e2, e3]
          exact ⟨_, rfl, N⟩
    · rw [h16]
      refine ⟨_, rfl, ?_⟩
      refine hK.out _ _ ?_
      clear hK K
      simp only [Act.put, z1, z2, z3]
      refine pl M15 (y_not rfl rfl rfl rfl) ?_
      simp only [Act.put, z1, z2, z3]
      refine pl M15 (y_assign (v := .bool true) rfl rfl rfl) ?_
      simp only [Act.put, z1, z2, z3]
      refine wpList_nil ?_
      refine hK14 _ _ ?_
      clear hK14
      refine wp_cond_true rfl ?_
      refine wp_seq_k (fun K31 hK31 => ?_)
      refine wp_region_lit ?_
      refine pl M15 (y_assign (v := .int .i64 0) rfl rfl rfl) ?_
      simp only [Act.put, z1, z2, z3]
      refine pl M15 (y_assign (v := .slice none 0 0) rfl rfl rfl) ?_
      simp only [Act.put, z1, z2, z3]
      refine pl M15 (y_assign (v := .int .i64 50) rfl rfl rfl) ?_
      simp only [Act.put, z1, z2, z3]
      refine wpList_nil ?_
      refine hK31 _ _ ?_
      clear hK31
      refine wp_ret ?_
      try simp only [Exit.inBlock, Exit.then]
      refine bodyPost_ret (v := .tuple #[.int .i64 0, .slice none 0 0, .int .i64 50]) (res3 rfl rfl rfl rfl) rfl ?_
      have N := (M15.nilst 5 1)
      have e1 : unpgE (page : Int) l = 50 := (unpg_cases hp hl).2.1 h10 (of_decide_eq_false h16)
      obtain ⟨e2, e3⟩ := unpg_no e1 (by decide)
      rw [e1, e2, e3]
      exact ⟨_, rfl, N⟩
  · rw [h10]
    refine ⟨_, rfl, ?_⟩
    refine hK.out _ _ ?_
    clear hK K
    simp only [Act.put, z1, z2, z3]
    refine pl M9 (y_not rfl rfl rfl rfl) ?_
    simp only [Act.put, z1, z2, z3]
    refine wpList_nil ?_
    refine hK8 _ _ ?_
    clear hK8
    refine wp_cond_true rfl ?_
    refine wp_seq_k (fun K32 hK32 => ?_)
    refine wp_region_lit ?_
    refine pl M9 (y_assign (v := .int .i64 0) rfl rfl rfl) ?_
    simp only [Act.put, z1, z2, z3]
    refine pl M9 (y_assign (v := .slice none 0 0) rfl rfl rfl) ?_
    simp only [Act.put, z1, z2, z3]
    refine pl M9 (y_assign (v := .int .i64 52) rfl rfl rfl) ?_
    simp only [Act.put, z1, z2, z3]
    refine wpList_nil ?_
    refine hK32 _ _ ?_
    clear hK32
    refine wp_ret ?_
    try simp only [Exit.inBlock, Exit.then]
    refine bodyPost_ret (v := .tuple #[.int .i64 0, .slice none 0 0, .int .i64 52]) (res3 rfl rfl rfl rfl) rfl ?_
    have N := (M9.nilst 5 1)
    have e1 : unpgE (page : Int) l = 52 := (unpg_cases hp hl).1 h10
    obtain ⟨e2, e3⟩ := unpg_no e1 (by decide)
    rw [e1, e2, e3]
    exact ⟨_, rfl, N⟩
end Go.Proofs.Ytehnnnohoaapdaa

/- Superblocks by ==. -/
namespace Go.Proofs.Ytehnnnohoaapdaa.E
set_option linter.unusedSectionVars false
set_option linter.unusedSimpArgs false
open Go Go.RowKit
set_option linter.unusedVariables false
section
variable {P : Program}
def eqF (d : Nat) (xs ys : Array Value) : List (Bool × TypeId × Nat) → Sem Bool
  | [] => pure true
  | (u, t, o) :: fs =>
    if u = true then eqF d xs ys fs
    else do
      let a ← part t xs o
      let b ← part t ys o
      let r ← Op.equalIn d t a b
      if (!r) = true then pure false else eqF d xs ys fs
def fieldTr (f : Field) : Bool × TypeId × Nat := (decide (f.name = "_"), f.type, f.offset)
theorem eqFields_tr (d : Nat) (xs ys : Array Value) : ∀ (fs : List Field), Op.eqFields d xs ys fs = eqF d xs ys (fs.map fieldTr)
  | [] => rfl
  | f :: fs => by
    have ih := eqFields_tr d xs ys fs
    unfold Op.eqFields
    simp only [List.map_cons, fieldTr, eqF]
    rw [ih]
    by_cases h : f.name = "_"
    · rw [if_neg (by simpa using h), if_pos (by simpa using h)]
    · rw [if_pos h, if_neg (by simpa using h)]
theorem run_eqF_cons (W : World) {d : Nat} {xs ys : Array Value} {t o : Nat} {fs : List (Bool × TypeId × Nat)} {a b : Value} {r : Bool} (h1 : (part t xs o).run P W = .ok a W) (h2 : (part t ys o).run P W = .ok b W) (h3 : (Op.equalIn d t a b).run P W = .ok r W)
    {q : Bool} (h4 : (eqF d xs ys fs).run P W = .ok q W) : (eqF d xs ys ((false, t, o) :: fs)).run P W = .ok (r && q) W := by
  simp only [eqF, Bool.false_eq_true, if_false, Sem.run_bind, h1, h2, h3, Result.andThen_ok]
  cases r
  · simp
  · simpa using h4
end
end Go.Proofs.Ytehnnnohoaapdaa.E
namespace Go.Proofs.Ytehnnnohoaapdaa
open Go Go.RowKit
def eqS (x y : SupV) : Bool := (x.width == y.width) && ((x.gen == y.gen) && ((x.mark == y.mark) && ((x.head == y.head) && ((x.pages == y.pages) && true))))
theorem eqS_iff (x y : SupV) : eqS x y = true ↔ x = y := by
  constructor
  · intro h
    unfold eqS at h
    simp only [Bool.and_eq_true, beq_iff_eq, and_true] at h
    obtain ⟨h0, h1, h2, h3, h4⟩ := h
    cases x; cases y
    simp only at h0 h1 h2 h3 h4
    subst h0; subst h1; subst h2; subst h3; subst h4
    rfl
  · rintro rfl
    unfold eqS; simp
theorem sup_equal (x y : SupV) (W : World) : (Op.equalIn 10000 37 (.agg (supC x).toArray) (.agg (supC y).toArray)).run Try.prog W = .ok (eqS x y) W := by
  have hu : Try.prog.underlying 37 = some (.struct (Try.prog.fieldsOf 37)) := by kernel_rfl
  rw [run_equalIn_agg W 9999 _ _ _ hu (by kernel_rfl), E.eqFields_tr,
    show ((Try.prog.fieldsOf 37).toList.map E.fieldTr) = [(false, 3, 0), (false, 3, 1), (false, 3, 2), (false, 3, 3), (false, 3, 4)] by kernel_rfl]
  have pl : Try.prog.plainKey 3 = true := by kernel_rfl
  have I : ∀ (a b : Int), (Op.equalIn 9999 3 (.int .i64 a) (.int .i64 b)).run Try.prog W = .ok (a == b) W := fun a b => run_equalIn_int W 9998 3 .i64 .i64 a b Try.underlying3
  refine E.run_eqF_cons W (run_part_plain W pl (v := .int .i64 x.width) rfl) (run_part_plain W pl (v := .int .i64 y.width) rfl) (I _ _) ?_
  refine E.run_eqF_cons W (run_part_plain W pl (v := .int .i64 x.gen) rfl) (run_part_plain W pl (v := .int .i64 y.gen) rfl) (I _ _) ?_
  refine E.run_eqF_cons W (run_part_plain W pl (v := .int .i64 x.mark) rfl) (run_part_plain W pl (v := .int .i64 y.mark) rfl) (I _ _) ?_
  refine E.run_eqF_cons W (run_part_plain W pl (v := .int .i64 x.head) rfl) (run_part_plain W pl (v := .int .i64 y.head) rfl) (I _ _) ?_
  refine E.run_eqF_cons W (run_part_plain W pl (v := .int .i64 x.pages) rfl) (run_part_plain W pl (v := .int .i64 y.pages) rfl) (I _ _) ?_
  rfl
theorem equalIn_bytes {P : Program} {t e n : TypeId} {i : TypeInfo} (hu : P.underlying t = some (.array n e)) (hi : P.info? e = some i) (he : P.underlying e = some (.int .u8)) (hc : P.cellsOf e = 1) (d : Nat) (x y : List UInt8) (hx : x.length = n) (hy : y.length = n) (w : World) :
    (Op.equalIn (d + 2) t (.agg (bvs x).toArray) (.agg (bvs y).toArray)).run P w = .ok (eqB x y) w := by
  rw [run_equalIn_array w (d + 1) _ _ hu hi]
  unfold eqB
  rw [eqItems_bytes he hc d x y w _ (fun j hj => by rw [hx, hy]; simpa using hj)]
  congr 1
  rw [Bool.eq_iff_iff, List.all_eq_true]
  simp only [List.mem_range, decide_eq_true_eq]
  constructor
  · intro h
    refine List.ext_getElem? fun j => ?_
    rcases Nat.lt_or_ge j n with hj | hj
    · exact h j hj
    · rw [List.getElem?_eq_none (by omega), List.getElem?_eq_none (by omega)]
  · rintro rfl j _; rfl
end Go.Proofs.Ytehnnnohoaapdaa

/- One cell loaded, in a region that draws its order. No program in sight. -/
namespace Go.Proofs.Ytehnnnohoaapdaa
set_option linter.unusedSectionVars false
set_option linter.unusedSimpArgs false
open Go Go.RowKit
set_option linter.unusedVariables false
section
variable {P : Program} {S : World → Prop}
theorem run_loadVar_int {k : IntKind} {ty : TypeId} {p : Addr} {v : Value} (w : World) (hu : P.underlying ty = some (.int k)) (hc : w.cell? p = some v) : (loadVar ty p).run P w = .ok v w := by
  simp [loadVar, isAgg, run_underlying hu, hc, go_sem]
theorem held_load1 {o : Oper} {a : Act} {ops : Array Oper} (hw : Region.wanted o (yielded ops a.tmps) = true) (ty : TypeId) (x : Operand) (ho : o.op = .load ty x)
    (b off : Nat) (hx : a.eval x = .pointer (some ⟨b, off, none⟩)) (k : IntKind) (v : Value) (hS : ∀ w, S w → w.cell? ⟨b, off, none⟩ = some v) (hu : P.underlying ty = some (.int k)) :
    YieldsIf P ops S o v a :=
  .inl ⟨hw, fun w hw' => by
    unfold execOp
    simp only [ho, hx, Instr.loadAt, Instr.sureAddr, Sem.run_bind, Sem.run_pure, Result.andThen_ok, run_loadVar_int w hu (hS w hw')]⟩
end
end Go.Proofs.Ytehnnnohoaapdaa
