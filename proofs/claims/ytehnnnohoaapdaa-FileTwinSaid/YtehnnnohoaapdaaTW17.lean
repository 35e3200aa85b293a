/- Texts joined: Law11. -/
import Derived.Test.YtehnnnohoaapdaaTW16
/- The law FileTwin. -/
namespace Go.Proofs.Ytehnnnohoaapdaa
open Go Go.RowKit
set_option linter.unusedVariables false
set_option linter.unusedSimpArgs false
set_option maxRecDepth 100000 in
set_option maxHeartbeats 800000 in
theorem twin_nofit (pages width : Int) (aa : Option Addr) (an ac : Nat) (hf : ¬ Fits pages width) (w : World) : Calls Try.prog 10 #[.int .i64 pages, .int .i64 width, .slice aa an ac] w fun e w' => e = .returned (.bool true) ∧ Mem w [] w' [] := by
  have M := Mem.nil w
  go_enter Try.func10, Try.ntmps10
  refine wp_seq_k (fun K1 hK1 => ?_)
  refine wp_region_lit ?_
  refine pl M (y_assign (v := .bool false) rfl rfl rfl) ?_
  simp only [Act.put, z1, z2, z3]
  refine wpList_nil ?_
  refine hK1 _ _ ?_
  clear hK1
  refine wp_seq_k (fun K2 hK2 => ?_)
  refine wp_seq_k (fun K3 hK3 => ?_)
  refine wp_region_lit ?_
  refine pl M (y_move (v := .int .i64 pages) rfl rfl rfl) ?_
  simp only [Act.put, z1, z2, z3]
  refine pl M (y_move (v := .int .i64 width) rfl rfl rfl) ?_
  simp only [Act.put, z1, z2, z3]
  refine pe rfl (fun K hK => ?_)
  refine e_call 11 [.int .i64 pages, .int .i64 width] rfl rfl Try.call11 (fits_any pages width _) ?_
  rintro e w4 ⟨rfl, H4⟩
  have M4 : Mem w [] w4 [] := M.step H4
  rw [(decide_eq_false hf)]
  refine ⟨_, rfl, ?_⟩
  refine hK.out _ _ ?_
  clear hK K
  simp only [Act.put, z1, z2, z3]
  refine pl M4 (y_not rfl rfl rfl rfl) ?_
  simp only [Act.put, z1, z2, z3]
  refine wpList_nil ?_
  refine hK3 _ _ ?_
  clear hK3
  refine wp_cond_true rfl ?_
  refine wp_seq_k (fun K5 hK5 => ?_)
  refine wp_region_lit ?_
  refine pl M4 (y_assign (v := .bool true) rfl rfl rfl) ?_
  simp only [Act.put, z1, z2, z3]
  refine wpList_nil ?_
  refine hK5 _ _ ?_
  clear hK5
  refine wp_ret ?_
  try simp only [Exit.inBlock, Exit.then]
  refine bodyPost_ret (v := .bool true) (res1 rfl rfl) rfl ?_
  exact ⟨rfl, M4.arr [] (by decide)⟩
set_option maxRecDepth 100000 in
set_option maxHeartbeats 800000 in
theorem twin_fit {w : World} (k : Nat) (width : Int) (hn : 3 ≤ k ∧ k ≤ 64) (hw : 1 ≤ width ∧ width ≤ 32) (aa : Option Addr) (an ac : Nat) (avs : List AV) (hacts : ListIn actC 3 w aa an avs) (hok : ∀ a ∈ avs, ActIn w a) (han : an ≤ 4611686018427387904) : Calls Try.prog 10 #[.int .i64 (k : Int), .int .i64 width, .slice aa an ac] w fun e w' => e = .returned (.bool true) ∧ Mem w [] w' [] := by
  have M := Mem.nil w
  have hal := hacts.1
  go_enter Try.func10, Try.ntmps10
  refine wp_seq_k (fun K1 hK1 => ?_)
  refine wp_region_lit ?_
  refine pl M (y_assign (v := .bool false) rfl rfl rfl) ?_
  simp only [Act.put, z1, z2, z3]
  refine wpList_nil ?_
  refine hK1 _ _ ?_
  clear hK1
  refine wp_seq_k (fun K2 hK2 => ?_)
  refine wp_seq_k (fun K3 hK3 => ?_)
  refine wp_region_lit ?_
  refine pl M (y_move (v := .int .i64 (k : Int)) rfl rfl rfl) ?_
  simp only [Act.put, z1, z2, z3]
  refine pl M (y_move (v := .int .i64 width) rfl rfl rfl) ?_
  simp only [Act.put, z1, z2, z3]
  refine pe rfl (fun K hK => ?_)
  refine e_call 11 [.int .i64 (k : Int), .int .i64 width] rfl rfl Try.call11 (fits_any (k : Int) width _) ?_
  rintro e w4 ⟨rfl, H4⟩
  have M4 : Mem w [] w4 [] := M.step H4
  rw [(fits_yes hn hw)]
  refine ⟨_, rfl, ?_⟩
  refine hK.out _ _ ?_
  clear hK K
  simp only [Act.put, z1, z2, z3]
  refine pl M4 (y_not rfl rfl rfl rfl) ?_
  simp only [Act.put, z1, z2, z3]
  refine wpList_nil ?_
  refine hK3 _ _ ?_
  clear hK3
  refine wp_cond_false rfl ?_
  refine wp_skip ?_
  refine hK2 _ _ ?_
  clear hK2
  refine wp_seq_k (fun K5 hK5 => ?_)
  refine wp_region_lit ?_
  refine pl M4 (y_move (v := .int .i64 (k : Int)) rfl rfl rfl) ?_
  simp only [Act.put, z1, z2, z3]
  refine pl M4 (y_move (v := .int .i64 width) rfl rfl rfl) ?_
  simp only [Act.put, z1, z2, z3]
  refine pe rfl (fun K hK => ?_)
  refine e_call 22 [.int .i64 (k : Int), .int .i64 width] rfl rfl Try.call22 (fresh_any k width hn hw _) ?_
  rintro e w6 ⟨p, pg, mb, qv0, f, D0, m, rfl, H6, hI0, hq0, ha0, hp0⟩
  have M6 : Mem w [] w6 [disk D0 p pg mb qv0, blk f 96 (fC (⟨secondS width k, 2, m⟩ : FV) p)] := M4.step H6
  refine ⟨_, rfl, ?_⟩
  refine hK.out _ _ ?_
  clear hK K
  simp only [Act.put, z1, z2, z3]
  refine pl M6 (y_move (v := .tuple #[.pointer (some ⟨p, 0, none⟩), .pointer (some ⟨f, 0, none⟩)]) rfl rfl rfl) ?_
  simp only [Act.put, z1, z2, z3]
  refine pl M6 (y_ext (v := .pointer (some ⟨p, 0, none⟩)) rfl rfl rfl rfl) ?_
  simp only [Act.put, z1, z2, z3]
  refine pl M6 (y_ext (v := .pointer (some ⟨f, 0, none⟩)) rfl rfl rfl rfl) ?_
  simp only [Act.put, z1, z2, z3]
  refine pl M6 (y_assign (v := .pointer (some ⟨p, 0, none⟩)) rfl rfl rfl) ?_
  simp only [Act.put, z1, z2, z3]
  refine pl M6 (y_assign (v := .pointer (some ⟨f, 0, none⟩)) rfl rfl rfl) ?_
  simp only [Act.put, z1, z2, z3]
  refine wpList_nil ?_
  refine hK5 _ _ ?_
  clear hK5
  refine wp_seq_k (fun K7 hK7 => ?_)
  refine wp_seq_k (fun K8 hK8 => ?_)
  refine wp_region_lit ?_
  refine pl M6 (y_move (v := .pointer (some ⟨f, 0, none⟩)) rfl rfl rfl) ?_
  simp only [Act.put, z1, z2, z3]
  refine pl M6 (y_eqnil (r := false) rfl rfl rfl rfl Try.underlying33 rfl) ?_
  simp only [Act.put, z1, z2, z3]
  refine wpList_nil ?_
  refine hK8 _ _ ?_
  clear hK8
  refine wp_cond_false rfl ?_
  refine wp_skip ?_
  refine hK7 _ _ ?_
  clear hK7
  refine wp_seq_k (fun K9 hK9 => ?_)
  refine wp_region_lit ?_
  refine pl M6 (y_build (ps := [(2, .const (.int .i64 2)), (3, .const (.int .i64 1))]) (pv := [(2, .int .i64 2), (3, .int .i64 1)]) (cs := (bC (⟨[], 2, 1, 0, 0, 0⟩ : BV) (⟨.slice none 0 0, .slice none 0 0, []⟩ : BX))) rfl rfl rfl (by kernel_rfl)) ?_
  simp only [Act.put, z1, z2, z3]
  refine pe rfl (fun K hK => ?_)
  refine e_box M6 (bC (⟨[], 2, 1, 0, 0, 0⟩ : BV) (⟨.slice none 0 0, .slice none 0 0, []⟩ : BX)) rfl rfl ?_
  intro b w10 (M10 : Mem w [] w10 [blk b 48 (bC (⟨[], 2, 1, 0, 0, 0⟩ : BV) (⟨.slice none 0 0, .slice none 0 0, []⟩ : BX)), disk D0 p pg mb qv0, blk f 96 (fC (⟨secondS width k, 2, m⟩ : FV) p)])
  clear M6
  refine hK.out _ _ ?_
  clear hK K
  simp only [Act.put, z1, z2, z3]
  have M11 : Mem w [] w10 [blk b 48 (bC (⟨[], 2, 1, 0, 0, 0⟩ : BV) (⟨.slice none 0 0, .slice none 0 0, []⟩ : BX)), disk D0 p pg mb qv0, blk f 96 (fC (⟨secondS width k, 2, m⟩ : FV) p)] := M10.arr [0, 1, 2] (by decide)
  clear M10
  have M12 : Mem w [] w10 [book (⟨[], 2, 1, 0, 0, 0⟩ : BV) b (⟨.slice none 0 0, .slice none 0 0, []⟩ : BX), disk D0 p pg mb qv0, blk f 96 (fC (⟨secondS width k, 2, m⟩ : FV) p)] := book_new M11
  clear M11
  refine pl M12 (y_assign (v := .pointer (some ⟨b, 0, none⟩)) rfl rfl rfl) ?_
  simp only [Act.put, z1, z2, z3]
  refine wpList_nil ?_
  refine hK9 _ _ ?_
  clear hK9
  refine wp_seq_k (fun K13 hK13 => ?_)
  refine wp_seq_k (fun K14 hK14 => ?_)
  refine wp_region_lit ?_
  refine pl M12 (y_assign (v := .int .i64 0) rfl rfl rfl) ?_
  simp only [Act.put, z1, z2, z3]
  refine wpList_nil ?_
  refine hK14 _ _ ?_
  clear hK14
  refine wp_block ?_
  have hBI : BInv D0 (⟨secondS width k, 2, m⟩ : FV) (⟨[], 2, 1, 0, 0, 0⟩ : BV) := ⟨hI0, rfl, rfl, rfl, rfl, Nat.zero_le _⟩
  refine wp_loop (fun a' w' => ∃ (i : Nat) (D : DV) (V : FV) (B : BV) (qv : Value) (bx : BX) (us15 : List Value), a' = (⟨#[.int .i64 (k : Int), .int .i64 width, .slice aa an ac, undef, undef, undef, (us15.getD 0 undef), .pointer (some ⟨p, 0, none⟩), .pointer (some ⟨f, 0, none⟩), .pointer (some ⟨b, 0, none⟩), .int .i64 (i : Int), (us15.getD 1 undef), (us15.getD 2 undef), (us15.getD 3 undef), (us15.getD 4 undef), (us15.getD 5 undef), (us15.getD 6 undef), (us15.getD 7 undef), (us15.getD 8 undef), (us15.getD 9 undef), (us15.getD 10 undef), (us15.getD 11 undef), (us15.getD 12 undef), (us15.getD 13 undef), .int .i64 (k : Int), .int .i64 width, .bool true, .bool false, .tuple #[.pointer (some ⟨p, 0, none⟩), .pointer (some ⟨f, 0, none⟩)], .int .i64 (k : Int), .int .i64 width, .tuple #[.pointer (some ⟨p, 0, none⟩), .pointer (some ⟨f, 0, none⟩)], .pointer (some ⟨p, 0, none⟩), .pointer (some ⟨f, 0, none⟩), .pointer (some ⟨f, 0, none⟩), .bool false, .agg ((bC (⟨[], 2, 1, 0, 0, 0⟩ : BV) (⟨.slice none 0 0, .slice none 0 0, []⟩ : BX))).toArray, .pointer (some ⟨b, 0, none⟩), (us15.getD 14 undef), (us15.getD 15 undef), (us15.getD 16 undef), (us15.getD 17 undef), (us15.getD 18 undef), (us15.getD 19 undef), (us15.getD 20 undef), (us15.getD 21 undef), (us15.getD 22 undef), (us15.getD 23 undef), (us15.getD 24 undef), (us15.getD 25 undef), (us15.getD 26 undef), (us15.getD 27 undef), (us15.getD 28 undef), (us15.getD 29 undef), (us15.getD 30 undef), (us15.getD 31 undef), (us15.getD 32 undef), (us15.getD 33 undef), (us15.getD 34 undef), (us15.getD 35 undef), (us15.getD 36 undef), (us15.getD 37 undef), (us15.getD 38 undef), (us15.getD 39 undef), (us15.getD 40 undef), (us15.getD 41 undef), (us15.getD 42 undef), (us15.getD 43 undef), (us15.getD 44 undef), (us15.getD 45 undef), (us15.getD 46 undef), (us15.getD 47 undef), (us15.getD 48 undef), (us15.getD 49 undef), (us15.getD 50 undef), (us15.getD 51 undef), (us15.getD 52 undef), (us15.getD 53 undef), (us15.getD 54 undef), (us15.getD 55 undef), (us15.getD 56 undef), (us15.getD 57 undef), (us15.getD 58 undef), (us15.getD 59 undef), (us15.getD 60 undef), (us15.getD 61 undef), (us15.getD 62 undef), (us15.getD 63 undef), (us15.getD 64 undef), (us15.getD 65 undef), (us15.getD 66 undef), (us15.getD 67 undef), (us15.getD 68 undef), (us15.getD 69 undef), (us15.getD 70 undef), (us15.getD 71 undef), (us15.getD 72 undef), (us15.getD 73 undef), (us15.getD 74 undef), (us15.getD 75 undef), (us15.getD 76 undef), (us15.getD 77 undef), (us15.getD 78 undef), (us15.getD 79 undef), (us15.getD 80 undef), (us15.getD 81 undef), (us15.getD 82 undef), (us15.getD 83 undef), (us15.getD 84 undef), (us15.getD 85 undef), (us15.getD 86 undef), (us15.getD 87 undef), (us15.getD 88 undef), (us15.getD 89 undef), (us15.getD 90 undef), (us15.getD 91 undef), (us15.getD 92 undef), (us15.getD 93 undef), (us15.getD 94 undef), (us15.getD 95 undef), (us15.getD 96 undef), (us15.getD 97 undef), (us15.getD 98 undef), (us15.getD 99 undef), (us15.getD 100 undef), (us15.getD 101 undef), (us15.getD 102 undef), (us15.getD 103 undef), (us15.getD 104 undef), (us15.getD 105 undef), (us15.getD 106 undef), (us15.getD 107 undef), (us15.getD 108 undef), (us15.getD 109 undef), (us15.getD 110 undef), (us15.getD 111 undef), (us15.getD 112 undef), (us15.getD 113 undef), (us15.getD 114 undef), (us15.getD 115 undef), (us15.getD 116 undef), (us15.getD 117 undef), (us15.getD 118 undef), (us15.getD 119 undef), (us15.getD 120 undef), (us15.getD 121 undef), (us15.getD 122 undef), (us15.getD 123 undef), (us15.getD 124 undef), (us15.getD 125 undef), (us15.getD 126 undef), (us15.getD 127 undef), (us15.getD 128 undef), (us15.getD 129 undef), (us15.getD 130 undef), (us15.getD 131 undef), (us15.getD 132 undef), (us15.getD 133 undef), (us15.getD 134 undef), (us15.getD 135 undef), (us15.getD 136 undef), (us15.getD 137 undef), (us15.getD 138 undef), (us15.getD 139 undef), (us15.getD 140 undef), (us15.getD 141 undef), (us15.getD 142 undef), (us15.getD 143 undef), (us15.getD 144 undef), (us15.getD 145 undef), (us15.getD 146 undef), (us15.getD 147 undef), (us15.getD 148 undef), (us15.getD 149 undef), (us15.getD 150 undef), (us15.getD 151 undef), (us15.getD 152 undef), (us15.getD 153 undef), (us15.getD 154 undef), (us15.getD 155 undef), (us15.getD 156 undef), (us15.getD 157 undef), (us15.getD 158 undef), (us15.getD 159 undef), (us15.getD 160 undef), (us15.getD 161 undef), (us15.getD 162 undef), (us15.getD 163 undef), (us15.getD 164 undef), (us15.getD 165 undef), (us15.getD 166 undef)], []⟩ : Act) ∧ (BInv D V B) ∧ (D.q.length ≤ i ∧ i ≤ 60 ∧ D.pages.length = k ∧ D.armed = 0) ∧ (V.s.gen ≤ 1 + i ∧ V.s.width = width) ∧ Mem w [] w' [disk D p pg mb qv, blk f 96 (fC V p), book B b bx]) (fun a' _ => an - (intOf (a'.tmps.getD 10 undef)).toNat) ⟨0, D0, (⟨secondS width k, 2, m⟩ : FV), (⟨[], 2, 1, 0, 0, 0⟩ : BV), qv0, (⟨.slice none 0 0, .slice none 0 0, []⟩ : BX), [.bool false, undef, undef, undef, undef, undef, undef, undef, undef, undef, undef, undef, undef, undef, undef, undef, undef, undef, undef, undef, undef, undef, undef, undef, undef, undef, undef, undef, undef, undef, undef, undef, undef, undef, undef, undef, undef, undef, undef, undef, undef, undef, undef, undef, undef, undef, undef, undef, undef, undef, undef, undef, undef, undef, undef, undef, undef, undef, undef, undef, undef, undef, undef, undef, undef, undef, undef, undef, undef, undef, undef, undef, undef, undef, undef, undef, undef, undef, undef, undef, undef, undef, undef, undef, undef, undef, undef, undef, undef, undef, undef, undef, undef, undef, undef, undef, undef, undef, undef, undef, undef, undef, undef, undef, undef, undef, undef, undef, undef, undef, undef, undef, undef, undef, undef, undef, undef, undef, undef, undef, undef, undef, undef, undef, undef, undef, undef, undef, undef, undef, undef, undef, undef, undef, undef, undef, undef, undef, undef, undef, undef, undef, undef, undef, undef, undef, undef, undef, undef, undef, undef, undef, undef, undef, undef, undef, undef, undef, undef, undef, undef, undef, undef, undef, undef, undef, undef], rfl, hBI, ⟨by rw [hq0]; exact Nat.zero_le _, by omega, hp0, ha0⟩, ⟨by show (1 : Int) ≤ 1 + ((0 : Nat) : Int); decide, rfl⟩, (M12.arr [1, 2, 0] (by decide))⟩ ?_
  clear M12
  rintro a' w16 ⟨i, D, V, B, qv, bx, us15, rfl, hB, hqi, hgi, M16⟩
  refine wp_seq_k (fun K17 hK17 => ?_)
  refine wp_seq_k (fun K18 hK18 => ?_)
  refine wp_region_lit ?_
  refine pl M16 (y_move (v := .int .i64 (i : Int)) rfl rfl rfl) ?_
  simp only [Act.put, z1, z2, z3]
  refine pl M16 (y_move (v := .slice aa an ac) rfl rfl rfl) ?_
  simp only [Act.put, z1, z2, z3]
  refine pl M16 (y_len rfl rfl rfl Try.underlying41) ?_
  simp only [Act.put, z1, z2, z3]
  rcases Decidable.em ((i : Int) < (an : Int)) with h19 | h19
  · obtain ⟨a, hget⟩ : ∃ a, avs[i]? = some a := ⟨_, List.getElem?_eq_getElem (by have := hacts.1; omega)⟩
    obtain ⟨ga, oa, hao, hra⟩ := hacts.2 i a hget
    obtain ⟨hrow, hnil, hmc, hcc⟩ := hok a (List.mem_of_getElem? hget)
    refine pl M16 (y_lss (b := true) rfl rfl rfl rfl (decide_eq_true h19)) ?_
    simp only [Act.put, z1, z2, z3]
    refine pl M16 (y_move (v := .bool true) rfl rfl rfl) ?_
    simp only [Act.put, z1, z2, z3]
    refine pl M16 (y_move (v := .int .i64 (i : Int)) rfl rfl rfl) ?_
    simp only [Act.put, z1, z2, z3]
    rcases Decidable.em ((i : Int) < 60) with h20 | h20
    · refine pl M16 (y_lss (b := true) rfl rfl rfl rfl (decide_eq_true h20)) ?_
      simp only [Act.put, z1, z2, z3]
      refine pl M16 (y_pickT (v := .bool true) rfl rfl rfl rfl) ?_
      simp only [Act.put, z1, z2, z3]
      refine wpList_nil ?_
      refine hK18 _ _ ?_
      clear hK18
      refine wp_cond_true rfl ?_
      refine wp_skip ?_
      refine hK17 _ _ ?_
      clear hK17
      refine wp_seq_k (fun K21 hK21 => ?_)
      refine wp_block ?_
      refine wp_seq_k (fun K22 hK22 => ?_)
      refine wp_seq_k (fun K23 hK23 => ?_)
      refine wp_region_lit ?_
      refine pl M16 (y_move (v := .slice aa an ac) rfl rfl rfl) ?_
      simp only [Act.put, z1, z2, z3]
      refine pl M16 (y_move (v := .int .i64 (i : Int)) rfl rfl rfl) ?_
      simp only [Act.put, z1, z2, z3]
      refine pl M16 (y_ias (r := oa + i * 3) rfl rfl (congrArg (fun z => Value.slice z an ac) hao) rfl Try.underlying41 Try.sizeOf50 (by omega) (by omega)) ?_
      simp only [Act.put, z1, z2, z3]
      refine pl M16 (y_fa (r := oa + i * 3) rfl rfl rfl Try.underlying50 rfl Try.sizeOf3 rfl) ?_
      simp only [Act.put, z1, z2, z3]
      refine pl M16 (y_loadc (v := .int .i64 a.k) rfl rfl rfl Try.isAgg3 (fun W hW => (hW.range hra (by simp)) 0 _ rfl)) ?_
      simp only [Act.put, z1, z2, z3]
      rcases Decidable.em (a.k = 4) with h24 | h24
      · refine pl M16 (y_eql (b := true) rfl rfl rfl rfl (decide_eq_true h24)) ?_
        simp only [Act.put, z1, z2, z3]
        refine wpList_nil ?_
        refine hK23 _ _ ?_
        clear hK23
        refine wp_cond_true rfl ?_
        refine wp_exit ?_
        refine hK21 _ _ ?_
        clear hK21
        refine wp_region_lit ?_
        refine pl M16 (y_move (v := .int .i64 (i : Int)) rfl rfl rfl) ?_
        simp only [Act.put, z1, z2, z3]
        refine pl M16 (y_add (r := (i : Int) + 1) rfl rfl rfl rfl (rfl) (by omega)) ?_
        simp only [Act.put, z1, z2, z3]
        refine pl M16 (y_assign (v := .int .i64 ((i : Int) + 1)) rfl rfl rfl) ?_
        simp only [Act.put, z1, z2, z3]
        refine wpList_nil ?_
        refine ⟨⟨i + 1, D, V, B, qv, bx, [(us15.getD 0 undef), (us15.getD 1 undef), (us15.getD 2 undef), (us15.getD 3 undef), (us15.getD 4 undef), (us15.getD 5 undef), (us15.getD 6 undef), (us15.getD 7 undef), (us15.getD 8 undef), (us15.getD 9 undef), (us15.getD 10 undef), (us15.getD 11 undef), (us15.getD 12 undef), (us15.getD 13 undef), .int .i64 (i : Int), .slice aa an ac, .int .i64 (an : Int), .bool true, .bool true, .int .i64 (i : Int), .bool true, .bool true, .int .i64 (i : Int), .int .i64 ((i : Int) + 1), .slice aa an ac, .int .i64 (i : Int), .pointer (some ⟨ga, oa + i * 3, none⟩), .pointer (some ⟨ga, oa + i * 3, none⟩), .int .i64 a.k, .bool true, (us15.getD 30 undef), (us15.getD 31 undef), (us15.getD 32 undef), (us15.getD 33 undef), (us15.getD 34 undef), (us15.getD 35 undef), (us15.getD 36 undef), (us15.getD 37 undef), (us15.getD 38 undef), (us15.getD 39 undef), (us15.getD 40 undef), (us15.getD 41 undef), (us15.getD 42 undef), (us15.getD 43 undef), (us15.getD 44 undef), (us15.getD 45 undef), (us15.getD 46 undef), (us15.getD 47 undef), (us15.getD 48 undef), (us15.getD 49 undef), (us15.getD 50 undef), (us15.getD 51 undef), (us15.getD 52 undef), (us15.getD 53 undef), (us15.getD 54 undef), (us15.getD 55 undef), (us15.getD 56 undef), (us15.getD 57 undef), (us15.getD 58 undef), (us15.getD 59 undef), (us15.getD 60 undef), (us15.getD 61 undef), (us15.getD 62 undef), (us15.getD 63 undef), (us15.getD 64 undef), (us15.getD 65 undef), (us15.getD 66 undef), (us15.getD 67 undef), (us15.getD 68 undef), (us15.getD 69 undef), (us15.getD 70 undef), (us15.getD 71 undef), (us15.getD 72 undef), (us15.getD 73 undef), (us15.getD 74 undef), (us15.getD 75 undef), (us15.getD 76 undef), (us15.getD 77 undef), (us15.getD 78 undef), (us15.getD 79 undef), (us15.getD 80 undef), (us15.getD 81 undef), (us15.getD 82 undef), (us15.getD 83 undef), (us15.getD 84 undef), (us15.getD 85 undef), (us15.getD 86 undef), (us15.getD 87 undef), (us15.getD 88 undef), (us15.getD 89 undef), (us15.getD 90 undef), (us15.getD 91 undef), (us15.getD 92 undef), (us15.getD 93 undef), (us15.getD 94 undef), (us15.getD 95 undef), (us15.getD 96 undef), (us15.getD 97 undef), (us15.getD 98 undef), (us15.getD 99 undef), (us15.getD 100 undef), (us15.getD 101 undef), (us15.getD 102 undef), (us15.getD 103 undef), (us15.getD 104 undef), (us15.getD 105 undef), (us15.getD 106 undef), (us15.getD 107 undef), (us15.getD 108 undef), (us15.getD 109 undef), (us15.getD 110 undef), (us15.getD 111 undef), (us15.getD 112 undef), (us15.getD 113 undef), (us15.getD 114 undef), (us15.getD 115 undef), (us15.getD 116 undef), (us15.getD 117 undef), (us15.getD 118 undef), (us15.getD 119 undef), (us15.getD 120 undef), (us15.getD 121 undef), (us15.getD 122 undef), (us15.getD 123 undef), (us15.getD 124 undef), (us15.getD 125 undef), (us15.getD 126 undef), (us15.getD 127 undef), (us15.getD 128 undef), (us15.getD 129 undef), (us15.getD 130 undef), (us15.getD 131 undef), (us15.getD 132 undef), (us15.getD 133 undef), (us15.getD 134 undef), (us15.getD 135 undef), (us15.getD 136 undef), (us15.getD 137 undef), (us15.getD 138 undef), (us15.getD 139 undef), (us15.getD 140 undef), (us15.getD 141 undef), (us15.getD 142 undef), (us15.getD 143 undef), (us15.getD 144 undef), (us15.getD 145 undef), (us15.getD 146 undef), (us15.getD 147 undef), (us15.getD 148 undef), (us15.getD 149 undef), (us15.getD 150 undef), (us15.getD 151 undef), (us15.getD 152 undef), (us15.getD 153 undef), (us15.getD 154 undef), (us15.getD 155 undef), (us15.getD 156 undef), (us15.getD 157 undef), (us15.getD 158 undef), (us15.getD 159 undef), (us15.getD 160 undef), (us15.getD 161 undef), (us15.getD 162 undef), (us15.getD 163 undef), (us15.getD 164 undef), (us15.getD 165 undef), (us15.getD 166 undef)], rfl, (by first | exact hB2 | exact hB), ⟨by first | (have := hkept.que; omega) | omega, by omega, by first | (have := hkept.pages; omega) | omega, by first | exact harm2 | exact hqi.2.2.2⟩, ⟨by first | (have := hkept.gen; omega) | omega, by first | (rw [hkept.width]; exact hgi.2) | exact hgi.2⟩, (M16.arr [0, 1, 2] (by decide))⟩, ?_⟩
        simp [intOf]; omega
      · have hk4 : a.k ≠ 4 := h24
        refine pl M16 (y_eql (b := false) rfl rfl rfl rfl (decide_eq_false h24)) ?_
        simp only [Act.put, z1, z2, z3]
        refine wpList_nil ?_
        refine hK23 _ _ ?_
        clear hK23
        refine wp_cond_false rfl ?_
        refine wp_skip ?_
        refine hK22 _ _ ?_
        clear hK22
        refine wp_seq_k (fun K25 hK25 => ?_)
        refine wp_region_lit ?_
        refine pl M16 (y_move (v := .pointer (some ⟨b, 0, none⟩)) rfl rfl rfl) ?_
        simp only [Act.put, z1, z2, z3]
        refine pl M16 (y_move (v := .pointer (some ⟨p, 0, none⟩)) rfl rfl rfl) ?_
        simp only [Act.put, z1, z2, z3]
        refine pl M16 (y_move (v := .pointer (some ⟨f, 0, none⟩)) rfl rfl rfl) ?_
        simp only [Act.put, z1, z2, z3]
        refine pl M16 (y_move (v := .slice aa an ac) rfl rfl rfl) ?_
        simp only [Act.put, z1, z2, z3]
        refine pl M16 (y_move (v := .int .i64 (i : Int)) rfl rfl rfl) ?_
        simp only [Act.put, z1, z2, z3]
        refine pl M16 (y_ias (r := oa + i * 3) rfl rfl (congrArg (fun z => Value.slice z an ac) hao) rfl Try.underlying41 Try.sizeOf50 (by omega) (by omega)) ?_
        simp only [Act.put, z1, z2, z3]
        refine pl M16 (y_loadr (cs := (actC a)) rfl rfl rfl Try.underlying50 rfl (size_act a) (fun W hW => hW.range hra (by simp))) ?_
        simp only [Act.put, z1, z2, z3]
        have hX26 : Mem w [] w16 ([disk D p pg mb qv, blk f 96 (fC V p), book B b bx] ++ []) := M16.arr [0, 1, 2] (by decide)
        refine pe rfl (fun K hK => ?_)
        refine e_call 27 [.pointer (some ⟨b, 0, none⟩), .pointer (some ⟨p, 0, none⟩), .pointer (some ⟨f, 0, none⟩), .agg ((actC a)).toArray] rfl rfl Try.call27 (bact_any (Mem.here (L := [disk D p pg mb qv, blk f 96 (fC V p), book B b bx]) (R := []) hX26) a.k a.n a.ao a.m a.c a.l (M16.row hrow (by simp)) (hX26.left.off_row hrow) (by omega) hB (by omega) (by omega)) ?_
        rintro e w26 ⟨er, E, V2, B2, qv2, bx2, rfl, H26, hout⟩
        have M26 : Mem w [] w26 [disk E p pg mb qv2, blk f 96 (fC V2 p), book B2 b bx2] := Mem.frame (Pre := [disk D p pg mb qv, blk f 96 (fC V p), book B b bx]) (Post := [disk E p pg mb qv2, blk f 96 (fC V2 p), book B2 b bx2]) (R := []) hX26 H26
        obtain ⟨her, hkept, hB2, harm2⟩ := hout.good ⟨hk4, hqi.2.2.2⟩
        have hpk : E.pages.length = k := by have := hkept.pages; omega
        have hW2 : V2.s.width = width := by rw [hkept.width]; exact hgi.2
        have hg1 := hB2.inv.plat.gen0
        have hgm := hB2.inv.plat.val.2.2.2.1
        obtain ⟨Pv, hPv, hPf, hpS, hpP⟩ := hB2.inv.plat.prev
        have hPg := hPf.gen
        obtain ⟨g2, hg2⟩ : ∃ g2 : Nat, V2.s.gen.tmod 2 = (g2 : Int) := Int.eq_ofNat_of_zero_le (by rw [Int.tmod_eq_emod_of_nonneg (by omega)]; omega)
        have hg2e : V2.s.gen % 2 = (g2 : Int) := by rw [← Int.tmod_eq_emod_of_nonneg (by omega)]; exact hg2
        have hg2l : g2 ≤ 1 := by omega
        have himS : (E.pages.flatten.drop (256 * g2)).take 256 = superB V2.s := by rw [image_page hB2.inv.ok g2 (by omega), ← hpS]; congr 1; omega
        have himP : (E.pages.flatten.drop (256 - 256 * g2)).take 256 = superB Pv := by rw [show 256 - 256 * g2 = 256 * (1 - g2) by omega, image_page hB2.inv.ok (1 - g2) (by omega), ← hpP]; congr 1; omega
        refine ⟨_, rfl, ?_⟩
        refine hK.out _ _ ?_
        clear hK K
        simp only [Act.put, z1, z2, z3]
        refine pl M26 (y_move (v := .tuple #[.int .i64 er, .bool true]) rfl rfl rfl) ?_
        simp only [Act.put, z1, z2, z3]
        refine pl M26 (y_ext (v := .int .i64 er) rfl rfl rfl rfl) ?_
        simp only [Act.put, z1, z2, z3]
        refine pl M26 (y_ext (v := .bool true) rfl rfl rfl rfl) ?_
        simp only [Act.put, z1, z2, z3]
        refine pl M26 (y_assign (v := .int .i64 er) rfl rfl rfl) ?_
        simp only [Act.put, z1, z2, z3]
        refine pl M26 (y_assign (v := .bool true) rfl rfl rfl) ?_
        simp only [Act.put, z1, z2, z3]
        refine wpList_nil ?_
        refine hK25 _ _ ?_
        clear hK25
        refine wp_seq_k (fun K27 hK27 => ?_)
        refine wp_seq_k (fun K28 hK28 => ?_)
        refine wp_region_lit ?_
        refine pl M26 (y_move (v := .bool true) rfl rfl rfl) ?_
        simp only [Act.put, z1, z2, z3]
        refine pl M26 (y_not rfl rfl rfl rfl) ?_
        simp only [Act.put, z1, z2, z3]
        refine wpList_nil ?_
        refine hK28 _ _ ?_
        clear hK28
        refine wp_cond_false rfl ?_
        refine wp_skip ?_
        refine hK27 _ _ ?_
        clear hK27
        refine wp_seq_k (fun K29 hK29 => ?_)
        refine wp_region_lit ?_
        refine pl M26 (y_move (v := .pointer (some ⟨p, 0, none⟩)) rfl rfl rfl) ?_
        simp only [Act.put, z1, z2, z3]
        have hX30 : Mem w [] w26 ([disk E p pg mb qv2] ++ [blk f 96 (fC V2 p), book B2 b bx2]) := M26.arr [0, 1, 2] (by decide)
        refine pe rfl (fun K hK => ?_)
        refine e_call 30 [.pointer (some ⟨p, 0, none⟩)] rfl rfl Try.call30 (image_fit (Mem.here (L := [disk E p pg mb qv2]) (R := [blk f 96 (fC V2 p), book B2 b bx2]) hX30) hpk (by omega)) ?_
        rintro e w30 ⟨gi1, ci1, rfl, H30, hci1, hcm1⟩
        have M30 : Mem w [] w30 [disk E p pg mb qv2, lst 5 1 (.slice (some ⟨gi1, 0, none⟩) (256 * k) ci1) (256 * k) (bvs E.pages.flatten), blk f 96 (fC V2 p), book B2 b bx2] := Mem.frame (Pre := [disk E p pg mb qv2]) (Post := [disk E p pg mb qv2, lst 5 1 (.slice (some ⟨gi1, 0, none⟩) (256 * k) ci1) (256 * k) (bvs E.pages.flatten)]) (R := [blk f 96 (fC V2 p), book B2 b bx2]) hX30 H30
        refine ⟨_, rfl, ?_⟩
        refine hK.out _ _ ?_
        clear hK K
        simp only [Act.put, z1, z2, z3]
        refine pl M30 (y_assign (v := .slice (some ⟨gi1, 0, none⟩) (256 * k) ci1) rfl rfl rfl) ?_
        simp only [Act.put, z1, z2, z3]
        refine wpList_nil ?_
        refine hK29 _ _ ?_
        clear hK29
        refine wp_seq_k (fun K31 hK31 => ?_)
        refine wp_region_lit ?_
        refine pl M30 (y_move (v := .slice (some ⟨gi1, 0, none⟩) (256 * k) ci1) rfl rfl rfl) ?_
        simp only [Act.put, z1, z2, z3]
        refine pe rfl (fun K hK => ?_)
        refine e_call 40 [.slice (some ⟨gi1, 0, none⟩) (256 * k) ci1] rfl rfl Try.call40 (load_fit hB2.inv.ok hpk (some ⟨gi1, 0, none⟩) ci1 _ (lst_row (M30.get 1 rfl)) hci1) ?_
        rintro e w32 ⟨p2, pg2, mb2, T, rfl, H32, hTp, hTq, hTd, hTa, hTok⟩
        have M32 : Mem w [] w32 [disk T p2 pg2 mb2 (.slice none 0 0), disk E p pg mb qv2, lst 5 1 (.slice (some ⟨gi1, 0, none⟩) (256 * k) ci1) (256 * k) (bvs E.pages.flatten), blk f 96 (fC V2 p), book B2 b bx2] := M30.step H32
        refine ⟨_, rfl, ?_⟩
        refine hK.out _ _ ?_
        clear hK K
        simp only [Act.put, z1, z2, z3]
        have hTP : Plat T V2.s B2.ps := hB2.inv.plat.of_eq hTok hTp (fun x hx => by rw [hTq] at hx; cases hx)
        refine pl M32 (y_move (v := .tuple #[.pointer (some ⟨p2, 0, none⟩), .int .i64 0]) rfl rfl rfl) ?_
        simp only [Act.put, z1, z2, z3]
        refine pl M32 (y_ext (v := .pointer (some ⟨p2, 0, none⟩)) rfl rfl rfl rfl) ?_
        simp only [Act.put, z1, z2, z3]
        refine pl M32 (y_ext (v := .int .i64 0) rfl rfl rfl rfl) ?_
        simp only [Act.put, z1, z2, z3]
        refine pl M32 (y_assign (v := .pointer (some ⟨p2, 0, none⟩)) rfl rfl rfl) ?_
        simp only [Act.put, z1, z2, z3]
        refine pl M32 (y_assign (v := .int .i64 0) rfl rfl rfl) ?_
        simp only [Act.put, z1, z2, z3]
        refine wpList_nil ?_
        refine hK31 _ _ ?_
        clear hK31
        refine wp_seq_k (fun K33 hK33 => ?_)
        refine wp_seq_k (fun K34 hK34 => ?_)
        refine wp_region_lit ?_
        refine pl M32 (y_move (v := .int .i64 0) rfl rfl rfl) ?_
        simp only [Act.put, z1, z2, z3]
        refine pl M32 (y_neq (b := false) rfl rfl rfl rfl (by rw [decide_eq_true (by decide)]; rfl)) ?_
        simp only [Act.put, z1, z2, z3]
        refine pl M32 (y_move (v := .bool false) rfl rfl rfl) ?_
        simp only [Act.put, z1, z2, z3]
        refine pl M32 (y_move (v := .pointer (some ⟨p2, 0, none⟩)) rfl rfl rfl) ?_
        simp only [Act.put, z1, z2, z3]
        refine pl M32 (y_eqnil (r := false) rfl rfl rfl rfl Try.underlying24 rfl) ?_
        simp only [Act.put, z1, z2, z3]
        refine pl M32 (y_pickF (v := .bool false) rfl rfl rfl rfl) ?_
        simp only [Act.put, z1, z2, z3]
        refine wpList_nil ?_
        refine hK34 _ _ ?_
        clear hK34
        refine wp_cond_false rfl ?_
        refine wp_skip ?_
        refine hK33 _ _ ?_
        clear hK33
        refine wp_seq_k (fun K35 hK35 => ?_)
        refine wp_region_lit ?_
        refine pl M32 (y_move (v := .pointer (some ⟨p2, 0, none⟩)) rfl rfl rfl) ?_
        simp only [Act.put, z1, z2, z3]
        have hX36 : Mem w [] w32 ([disk T p2 pg2 mb2 (.slice none 0 0)] ++ [disk E p pg mb qv2, lst 5 1 (.slice (some ⟨gi1, 0, none⟩) (256 * k) ci1) (256 * k) (bvs E.pages.flatten), blk f 96 (fC V2 p), book B2 b bx2]) := M32.arr [0, 1, 2, 3, 4] (by decide)
        refine pe rfl (fun K hK => ?_)
        refine e_call 18 [.pointer (some ⟨p2, 0, none⟩)] rfl rfl Try.call18 (open_fit (Mem.here (L := [disk T p2 pg2 mb2 (.slice none 0 0)]) (R := [disk E p pg mb qv2, lst 5 1 (.slice (some ⟨gi1, 0, none⟩) (256 * k) ci1) (256 * k) (bvs E.pages.flatten), blk f 96 (fC V2 p), book B2 b bx2]) hX36) hTP hTd) ?_
        rintro e w36 ⟨g, T2, m2, rfl, H36, hI2, hqT, hpT, haT, heT⟩
        have M36 : Mem w [] w36 [disk T2 p2 pg2 mb2 (.slice none 0 0), blk g 96 (fC (⟨V2.s, V2.s.mark, m2⟩ : FV) p2), disk E p pg mb qv2, lst 5 1 (.slice (some ⟨gi1, 0, none⟩) (256 * k) ci1) (256 * k) (bvs E.pages.flatten), blk f 96 (fC V2 p), book B2 b bx2] := Mem.frame (Pre := [disk T p2 pg2 mb2 (.slice none 0 0)]) (Post := [disk T2 p2 pg2 mb2 (.slice none 0 0), blk g 96 (fC (⟨V2.s, V2.s.mark, m2⟩ : FV) p2)]) (R := [disk E p pg mb qv2, lst 5 1 (.slice (some ⟨gi1, 0, none⟩) (256 * k) ci1) (256 * k) (bvs E.pages.flatten), blk f 96 (fC V2 p), book B2 b bx2]) hX36 H36
        refine ⟨_, rfl, ?_⟩
        refine hK.out _ _ ?_
        clear hK K
        simp only [Act.put, z1, z2, z3]
        refine pl M36 (y_move (v := .tuple #[.pointer (some ⟨g, 0, none⟩), .int .i64 0]) rfl rfl rfl) ?_
        simp only [Act.put, z1, z2, z3]
        refine pl M36 (y_ext (v := .pointer (some ⟨g, 0, none⟩)) rfl rfl rfl rfl) ?_
        simp only [Act.put, z1, z2, z3]
        refine pl M36 (y_ext (v := .int .i64 0) rfl rfl rfl rfl) ?_
        simp only [Act.put, z1, z2, z3]
        refine pl M36 (y_assign (v := .pointer (some ⟨g, 0, none⟩)) rfl rfl rfl) ?_
        simp only [Act.put, z1, z2, z3]
        refine pl M36 (y_assign (v := .int .i64 0) rfl rfl rfl) ?_
        simp only [Act.put, z1, z2, z3]
        refine wpList_nil ?_
        refine hK35 _ _ ?_
        clear hK35
        refine wp_seq_k (fun K37 hK37 => ?_)
        refine wp_seq_k (fun K38 hK38 => ?_)
        refine wp_region_lit ?_
        refine pl M36 (y_move (v := .int .i64 0) rfl rfl rfl) ?_
        simp only [Act.put, z1, z2, z3]
        refine pl M36 (y_neq (b := false) rfl rfl rfl rfl (by rw [decide_eq_true (by decide)]; rfl)) ?_
        simp only [Act.put, z1, z2, z3]
        refine pl M36 (y_move (v := .bool false) rfl rfl rfl) ?_
        simp only [Act.put, z1, z2, z3]
        refine pl M36 (y_move (v := .pointer (some ⟨g, 0, none⟩)) rfl rfl rfl) ?_
        simp only [Act.put, z1, z2, z3]
        refine pl M36 (y_eqnil (r := false) rfl rfl rfl rfl Try.underlying33 rfl) ?_
        simp only [Act.put, z1, z2, z3]
        refine pl M36 (y_pickF (v := .bool false) rfl rfl rfl rfl) ?_
        simp only [Act.put, z1, z2, z3]
        refine pl M36 (y_move (v := .bool false) rfl rfl rfl) ?_
        simp only [Act.put, z1, z2, z3]
        refine pl M36 (y_move (v := .pointer (some ⟨g, 0, none⟩)) rfl rfl rfl) ?_
        simp only [Act.put, z1, z2, z3]
        have hX39 : Mem w [] w36 ([disk T2 p2 pg2 mb2 (.slice none 0 0), blk g 96 (fC (⟨V2.s, V2.s.mark, m2⟩ : FV) p2)] ++ [disk E p pg mb qv2, lst 5 1 (.slice (some ⟨gi1, 0, none⟩) (256 * k) ci1) (256 * k) (bvs E.pages.flatten), blk f 96 (fC V2 p), book B2 b bx2]) := M36.arr [0, 1, 2, 3, 4, 5] (by decide)
        refine pe rfl (fun K hK => ?_)
        refine e_call 19 [.pointer (some ⟨g, 0, none⟩)] rfl rfl Try.call19 (super_any (Mem.here (L := [disk T2 p2 pg2 mb2 (.slice none 0 0), blk g 96 (fC (⟨V2.s, V2.s.mark, m2⟩ : FV) p2)]) (R := [disk E p pg mb qv2, lst 5 1 (.slice (some ⟨gi1, 0, none⟩) (256 * k) ci1) (256 * k) (bvs E.pages.flatten), blk f 96 (fC V2 p), book B2 b bx2]) hX39)) ?_
        rintro e w39 ⟨rfl, H39⟩
        have M39 : Mem w [] w39 [disk T2 p2 pg2 mb2 (.slice none 0 0), blk g 96 (fC (⟨V2.s, V2.s.mark, m2⟩ : FV) p2), disk E p pg mb qv2, lst 5 1 (.slice (some ⟨gi1, 0, none⟩) (256 * k) ci1) (256 * k) (bvs E.pages.flatten), blk f 96 (fC V2 p), book B2 b bx2] := Mem.frame (Pre := [disk T2 p2 pg2 mb2 (.slice none 0 0), blk g 96 (fC (⟨V2.s, V2.s.mark, m2⟩ : FV) p2)]) (Post := [disk T2 p2 pg2 mb2 (.slice none 0 0), blk g 96 (fC (⟨V2.s, V2.s.mark, m2⟩ : FV) p2)]) (R := [disk E p pg mb qv2, lst 5 1 (.slice (some ⟨gi1, 0, none⟩) (256 * k) ci1) (256 * k) (bvs E.pages.flatten), blk f 96 (fC V2 p), book B2 b bx2]) hX39 H39
        refine ⟨_, rfl, ?_⟩
        refine hK.out _ _ ?_
        clear hK K
        simp only [Act.put, z1, z2, z3]
        refine pl M39 (y_move (v := .pointer (some ⟨f, 0, none⟩)) rfl rfl rfl) ?_
        simp only [Act.put, z1, z2, z3]
        have hX40 : Mem w [] w39 ([disk E p pg mb qv2, blk f 96 (fC V2 p)] ++ [disk T2 p2 pg2 mb2 (.slice none 0 0), blk g 96 (fC (⟨V2.s, V2.s.mark, m2⟩ : FV) p2), lst 5 1 (.slice (some ⟨gi1, 0, none⟩) (256 * k) ci1) (256 * k) (bvs E.pages.flatten), book B2 b bx2]) := M39.arr [2, 4, 0, 1, 3, 5] (by decide)
        refine pe rfl (fun K hK => ?_)
        refine e_call 19 [.pointer (some ⟨f, 0, none⟩)] rfl rfl Try.call19 (super_any (Mem.here (L := [disk E p pg mb qv2, blk f 96 (fC V2 p)]) (R := [disk T2 p2 pg2 mb2 (.slice none 0 0), blk g 96 (fC (⟨V2.s, V2.s.mark, m2⟩ : FV) p2), lst 5 1 (.slice (some ⟨gi1, 0, none⟩) (256 * k) ci1) (256 * k) (bvs E.pages.flatten), book B2 b bx2]) hX40)) ?_
        rintro e w40 ⟨rfl, H40⟩
        have M40 : Mem w [] w40 [disk E p pg mb qv2, blk f 96 (fC V2 p), disk T2 p2 pg2 mb2 (.slice none 0 0), blk g 96 (fC (⟨V2.s, V2.s.mark, m2⟩ : FV) p2), lst 5 1 (.slice (some ⟨gi1, 0, none⟩) (256 * k) ci1) (256 * k) (bvs E.pages.flatten), book B2 b bx2] := Mem.frame (Pre := [disk E p pg mb qv2, blk f 96 (fC V2 p)]) (Post := [disk E p pg mb qv2, blk f 96 (fC V2 p)]) (R := [disk T2 p2 pg2 mb2 (.slice none 0 0), blk g 96 (fC (⟨V2.s, V2.s.mark, m2⟩ : FV) p2), lst 5 1 (.slice (some ⟨gi1, 0, none⟩) (256 * k) ci1) (256 * k) (bvs E.pages.flatten), book B2 b bx2]) hX40 H40
        refine ⟨_, rfl, ?_⟩
        refine hK.out _ _ ?_
        clear hK K
        simp only [Act.put, z1, z2, z3]
        refine pl M40 (y_nes (r := false) rfl rfl rfl rfl sup_guard (fun W => sup_same _ W)) ?_
        simp only [Act.put, z1, z2, z3]
        refine pl M40 (y_pickF (v := .bool false) rfl rfl rfl rfl) ?_
        simp only [Act.put, z1, z2, z3]
        refine pl M40 (y_move (v := .bool false) rfl rfl rfl) ?_
        simp only [Act.put, z1, z2, z3]
        refine pl M40 (y_move (v := .pointer (some ⟨b, 0, none⟩)) rfl rfl rfl) ?_
        simp only [Act.put, z1, z2, z3]
        refine pl M40 (y_move (v := .pointer (some ⟨g, 0, none⟩)) rfl rfl rfl) ?_
        simp only [Act.put, z1, z2, z3]
        refine pl M40 (y_move (v := .pointer (some ⟨b, 0, none⟩)) rfl rfl rfl) ?_
        simp only [Act.put, z1, z2, z3]
        refine pl M40 (y_nil rfl rfl rfl) ?_
        simp only [Act.put, z1, z2, z3]
        refine pl M40 (y_fa (r := 2) rfl rfl rfl Try.underlying48 rfl Try.sizeOf3 rfl) ?_
        simp only [Act.put, z1, z2, z3]
        refine pl M40 (y_loadc (v := .int .i64 B2.mark) rfl rfl rfl Try.isAgg3 (fun W hW => book_mark (hW.get 5 rfl))) ?_
        simp only [Act.put, z1, z2, z3]
        have hX41 : Mem w [] w40 ([disk T2 p2 pg2 mb2 (.slice none 0 0), blk g 96 (fC (⟨V2.s, V2.s.mark, m2⟩ : FV) p2), book B2 b bx2] ++ [disk E p pg mb qv2, blk f 96 (fC V2 p), lst 5 1 (.slice (some ⟨gi1, 0, none⟩) (256 * k) ci1) (256 * k) (bvs E.pages.flatten)]) := M40.arr [2, 3, 5, 0, 1, 4] (by decide)
        refine pe rfl (fun K hK => ?_)
        refine e_call 29 [.pointer (some ⟨b, 0, none⟩), .pointer (some ⟨g, 0, none⟩), .int .i64 B2.mark] rfl rfl Try.call29 (bholds_int (Mem.here (L := [disk T2 p2 pg2 mb2 (.slice none 0 0), blk g 96 (fC (⟨V2.s, V2.s.mark, m2⟩ : FV) p2), book B2 b bx2]) (R := [disk E p pg mb qv2, blk f 96 (fC V2 p), lst 5 1 (.slice (some ⟨gi1, 0, none⟩) (256 * k) ci1) (256 * k) (bvs E.pages.flatten)]) hX41) (B := B2) hI2 B2.mark (by rw [← hB2.mark]; exact hB2.inv.plat.mark2) (by show B2.mark ≤ V2.s.mark; rw [hB2.mark]; exact Int.le_refl _)) ?_
        rintro e w41 ⟨r2, rfl, H41⟩
        have M41 : Mem w [] w41 [disk (T2.rd r2) p2 pg2 mb2 (.slice none 0 0), blk g 96 (fC (⟨V2.s, V2.s.mark, m2⟩ : FV) p2), book B2 b bx2, disk E p pg mb qv2, blk f 96 (fC V2 p), lst 5 1 (.slice (some ⟨gi1, 0, none⟩) (256 * k) ci1) (256 * k) (bvs E.pages.flatten)] := Mem.frame (Pre := [disk T2 p2 pg2 mb2 (.slice none 0 0), blk g 96 (fC (⟨V2.s, V2.s.mark, m2⟩ : FV) p2), book B2 b bx2]) (Post := [disk (T2.rd r2) p2 pg2 mb2 (.slice none 0 0), blk g 96 (fC (⟨V2.s, V2.s.mark, m2⟩ : FV) p2), book B2 b bx2]) (R := [disk E p pg mb qv2, blk f 96 (fC V2 p), lst 5 1 (.slice (some ⟨gi1, 0, none⟩) (256 * k) ci1) (256 * k) (bvs E.pages.flatten)]) hX41 H41
        refine ⟨_, rfl, ?_⟩
        refine hK.out _ _ ?_
        clear hK K
        simp only [Act.put, z1, z2, z3]
        refine pl M41 (y_not rfl rfl rfl rfl) ?_
        simp only [Act.put, z1, z2, z3]
        refine pl M41 (y_pickF (v := .bool false) rfl rfl rfl rfl) ?_
        simp only [Act.put, z1, z2, z3]
        refine wpList_nil ?_
        refine hK38 _ _ ?_
        clear hK38
        refine wp_cond_false rfl ?_
        refine wp_skip ?_
        refine hK37 _ _ ?_
        clear hK37
        refine wp_seq_k (fun K42 hK42 => ?_)
        refine wp_region_lit ?_
        refine pl M41 (y_move (v := .pointer (some ⟨f, 0, none⟩)) rfl rfl rfl) ?_
        simp only [Act.put, z1, z2, z3]
        have hX43 : Mem w [] w41 ([disk E p pg mb qv2, blk f 96 (fC V2 p)] ++ [disk (T2.rd r2) p2 pg2 mb2 (.slice none 0 0), blk g 96 (fC (⟨V2.s, V2.s.mark, m2⟩ : FV) p2), book B2 b bx2, lst 5 1 (.slice (some ⟨gi1, 0, none⟩) (256 * k) ci1) (256 * k) (bvs E.pages.flatten)]) := M41.arr [3, 4, 0, 1, 2, 5] (by decide)
        refine pe rfl (fun K hK => ?_)
        refine e_call 19 [.pointer (some ⟨f, 0, none⟩)] rfl rfl Try.call19 (super_any (Mem.here (L := [disk E p pg mb qv2, blk f 96 (fC V2 p)]) (R := [disk (T2.rd r2) p2 pg2 mb2 (.slice none 0 0), blk g 96 (fC (⟨V2.s, V2.s.mark, m2⟩ : FV) p2), book B2 b bx2, lst 5 1 (.slice (some ⟨gi1, 0, none⟩) (256 * k) ci1) (256 * k) (bvs E.pages.flatten)]) hX43)) ?_
        rintro e w43 ⟨rfl, H43⟩
        have M43 : Mem w [] w43 [disk E p pg mb qv2, blk f 96 (fC V2 p), disk (T2.rd r2) p2 pg2 mb2 (.slice none 0 0), blk g 96 (fC (⟨V2.s, V2.s.mark, m2⟩ : FV) p2), book B2 b bx2, lst 5 1 (.slice (some ⟨gi1, 0, none⟩) (256 * k) ci1) (256 * k) (bvs E.pages.flatten)] := Mem.frame (Pre := [disk E p pg mb qv2, blk f 96 (fC V2 p)]) (Post := [disk E p pg mb qv2, blk f 96 (fC V2 p)]) (R := [disk (T2.rd r2) p2 pg2 mb2 (.slice none 0 0), blk g 96 (fC (⟨V2.s, V2.s.mark, m2⟩ : FV) p2), book B2 b bx2, lst 5 1 (.slice (some ⟨gi1, 0, none⟩) (256 * k) ci1) (256 * k) (bvs E.pages.flatten)]) hX43 H43
        refine ⟨_, rfl, ?_⟩
        refine hK.out _ _ ?_
        clear hK K
        simp only [Act.put, z1, z2, z3]
        refine pe rfl (fun K hK => ?_)
        refine e_alloc M43 (supC noSup) rfl zero_sup ?_
        intro g18 w44 (M44 : Mem w [] w44 [blk g18 37 (supC noSup), disk E p pg mb qv2, blk f 96 (fC V2 p), disk (T2.rd r2) p2 pg2 mb2 (.slice none 0 0), blk g 96 (fC (⟨V2.s, V2.s.mark, m2⟩ : FV) p2), book B2 b bx2, lst 5 1 (.slice (some ⟨gi1, 0, none⟩) (256 * k) ci1) (256 * k) (bvs E.pages.flatten)])
        clear M43
        refine hK.out _ _ ?_
        clear hK K
        simp only [Act.put, z1, z2, z3]
        refine pe rfl (fun K hK => ?_)
        refine e_storew M44 0 (cs := (supC V2.s)) rfl rfl rfl rfl (size_sup _) (sup_all _) rfl (rfl) ?_
        intro w45 (M45 : Mem w [] w45 [blk g18 37 (supC V2.s), disk E p pg mb qv2, blk f 96 (fC V2 p), disk (T2.rd r2) p2 pg2 mb2 (.slice none 0 0), blk g 96 (fC (⟨V2.s, V2.s.mark, m2⟩ : FV) p2), book B2 b bx2, lst 5 1 (.slice (some ⟨gi1, 0, none⟩) (256 * k) ci1) (256 * k) (bvs E.pages.flatten)])
        clear M44
        refine hK.out _ _ ?_
        clear hK K
        simp only [Act.put, z1, z2, z3]
        refine wpList_nil ?_
        refine hK42 _ _ ?_
        clear hK42
        refine wp_seq_k (fun K46 hK46 => ?_)
        refine wp_seq_k (fun K47 hK47 => ?_)
        refine wp_region_lit ?_
        refine pl M45 (y_move (v := .slice (some ⟨gi1, 0, none⟩) (256 * k) ci1) rfl rfl rfl) ?_
        simp only [Act.put, z1, z2, z3]
        refine pl M45 (y_len rfl rfl rfl Try.underlying22) ?_
        simp only [Act.put, z1, z2, z3]
        refine pl M45 (y_move (v := .int .i64 (k : Int)) rfl rfl rfl) ?_
        simp only [Act.put, z1, z2, z3]
        refine pl M45 (y_mul (r := 256 * (k : Int)) rfl rfl rfl rfl (rfl) (by omega)) ?_
        simp only [Act.put, z1, z2, z3]
        refine pl M45 (y_neq (b := false) rfl rfl rfl rfl (by rw [decide_eq_true (by omega)]; rfl)) ?_
        simp only [Act.put, z1, z2, z3]
        refine pl M45 (y_move (v := .bool false) rfl rfl rfl) ?_
        simp only [Act.put, z1, z2, z3]
        refine pl M45 (y_fa (r := 1) rfl rfl rfl Try.underlying37 rfl Try.sizeOf3 rfl) ?_
        simp only [Act.put, z1, z2, z3]
        refine pl M45 (y_load (v := .int .i64 V2.s.gen) rfl rfl rfl Try.isAgg3 (fun W hW => hW.get 0 rfl) (rfl)) ?_
        simp only [Act.put, z1, z2, z3]
        refine pl M45 (y_lss (b := false) rfl rfl rfl rfl (decide_eq_false (by omega))) ?_
        simp only [Act.put, z1, z2, z3]
        refine pl M45 (y_pickF (v := .bool false) rfl rfl rfl rfl) ?_
        simp only [Act.put, z1, z2, z3]
        refine wpList_nil ?_
        refine hK47 _ _ ?_
        clear hK47
        refine wp_cond_false rfl ?_
        refine wp_skip ?_
        refine hK46 _ _ ?_
        clear hK46
        refine wp_seq_k (fun K48 hK48 => ?_)
        refine wp_region_lit ?_
        refine pl M45 (y_fa (r := 1) rfl rfl rfl Try.underlying37 rfl Try.sizeOf3 rfl) ?_
        simp only [Act.put, z1, z2, z3]
        refine pl M45 (y_load (v := .int .i64 V2.s.gen) rfl rfl rfl Try.isAgg3 (fun W hW => hW.get 0 rfl) (rfl)) ?_
        simp only [Act.put, z1, z2, z3]
        refine pl M45 (y_rem (r := (g2 : Int)) rfl rfl rfl rfl (by omega) (hg2)) ?_
        simp only [Act.put, z1, z2, z3]
        refine pl M45 (y_mul (r := ((256 * g2 : Nat) : Int)) rfl rfl rfl rfl (by omega) (by omega)) ?_
        simp only [Act.put, z1, z2, z3]
        refine pl M45 (y_assign (v := .int .i64 ((256 * g2 : Nat) : Int)) rfl rfl rfl) ?_
        simp only [Act.put, z1, z2, z3]
        refine wpList_nil ?_
        refine hK48 _ _ ?_
        clear hK48
        refine wp_seq_k (fun K49 hK49 => ?_)
        refine wp_region_lit ?_
        refine pl M45 (y_move (v := .slice (some ⟨gi1, 0, none⟩) (256 * k) ci1) rfl rfl rfl) ?_
        simp only [Act.put, z1, z2, z3]
        refine pl M45 (y_move (v := .int .i64 ((256 * g2 : Nat) : Int)) rfl rfl rfl) ?_
        simp only [Act.put, z1, z2, z3]
        refine pl M45 (y_move (v := .int .i64 ((256 * g2 : Nat) : Int)) rfl rfl rfl) ?_
        simp only [Act.put, z1, z2, z3]
        refine pl M45 (y_add (r := ((256 * g2 + 256 : Nat) : Int)) rfl rfl rfl rfl (by omega) (by omega)) ?_
        simp only [Act.put, z1, z2, z3]
        refine pl M45 (y_sls (l := 256 * g2) (h := 256 * g2 + 256) (r := 256 * g2) (n' := 256) (c' := ci1 - (256 * g2)) rfl rfl rfl rfl rfl Try.underlying22 Try.sizeOf5 (by exact ⟨⟨_, _, rfl, by omega, by omega⟩, ⟨_, _, rfl, by omega, by omega⟩⟩) (by split <;> omega) (by omega) (by omega)) ?_
        simp only [Act.put, z1, z2, z3]
        refine pe rfl (fun K hK => ?_)
        refine e_call 41 [.slice (some ⟨gi1, 256 * g2, none⟩) 256 (ci1 - (256 * g2))] rfl rfl Try.call41 (unpS_fit gi1 (256 * g2) (ci1 - (256 * g2)) V2.s _ hB2.inv.plat.val (by have N := ((lst_row (M45.get 6 rfl)).drop (256 * g2) (by omega)).take 256 (by omega); rw [himS] at N; rw [Nat.zero_add] at N; exact N) (by omega) (by omega)) ?_
        rintro e w50 ⟨rfl, H50⟩
        have M50 : Mem w [] w50 [blk g18 37 (supC V2.s), disk E p pg mb qv2, blk f 96 (fC V2 p), disk (T2.rd r2) p2 pg2 mb2 (.slice none 0 0), blk g 96 (fC (⟨V2.s, V2.s.mark, m2⟩ : FV) p2), book B2 b bx2, lst 5 1 (.slice (some ⟨gi1, 0, none⟩) (256 * k) ci1) (256 * k) (bvs E.pages.flatten)] := M45.step H50
        refine ⟨_, rfl, ?_⟩
        refine hK.out _ _ ?_
        clear hK K
        simp only [Act.put, z1, z2, z3]
        refine pl M50 (y_move (v := .tuple #[.agg ((supC V2.s)).toArray, .int .i64 0]) rfl rfl rfl) ?_
        simp only [Act.put, z1, z2, z3]
        refine pl M50 (y_ext (v := .agg ((supC V2.s)).toArray) rfl rfl rfl rfl) ?_
        simp only [Act.put, z1, z2, z3]
        refine pl M50 (y_ext (v := .int .i64 0) rfl rfl rfl rfl) ?_
        simp only [Act.put, z1, z2, z3]
        refine pe rfl (fun K hK => ?_)
        refine e_alloc M50 (supC noSup) rfl zero_sup ?_
        intro g20 w51 (M51 : Mem w [] w51 [blk g20 37 (supC noSup), blk g18 37 (supC V2.s), disk E p pg mb qv2, blk f 96 (fC V2 p), disk (T2.rd r2) p2 pg2 mb2 (.slice none 0 0), blk g 96 (fC (⟨V2.s, V2.s.mark, m2⟩ : FV) p2), book B2 b bx2, lst 5 1 (.slice (some ⟨gi1, 0, none⟩) (256 * k) ci1) (256 * k) (bvs E.pages.flatten)])
        clear M50
        refine hK.out _ _ ?_
        clear hK K
        simp only [Act.put, z1, z2, z3]
        refine pe rfl (fun K hK => ?_)
        refine e_storew M51 0 (cs := (supC V2.s)) rfl rfl rfl rfl (size_sup _) (sup_all _) rfl (rfl) ?_
        intro w52 (M52 : Mem w [] w52 [blk g20 37 (supC V2.s), blk g18 37 (supC V2.s), disk E p pg mb qv2, blk f 96 (fC V2 p), disk (T2.rd r2) p2 pg2 mb2 (.slice none 0 0), blk g 96 (fC (⟨V2.s, V2.s.mark, m2⟩ : FV) p2), book B2 b bx2, lst 5 1 (.slice (some ⟨gi1, 0, none⟩) (256 * k) ci1) (256 * k) (bvs E.pages.flatten)])
        clear M51
        refine hK.out _ _ ?_
        clear hK K
        simp only [Act.put, z1, z2, z3]
        refine pl M52 (y_assign (v := .int .i64 0) rfl rfl rfl) ?_
        simp only [Act.put, z1, z2, z3]
        refine wpList_nil ?_
        refine hK49 _ _ ?_
        clear hK49
        refine wp_seq_k (fun K53 hK53 => ?_)
        refine wp_region_lit ?_
        refine pl M52 (y_move (v := .slice (some ⟨gi1, 0, none⟩) (256 * k) ci1) rfl rfl rfl) ?_
        simp only [Act.put, z1, z2, z3]
        refine pl M52 (y_move (v := .int .i64 ((256 * g2 : Nat) : Int)) rfl rfl rfl) ?_
        simp only [Act.put, z1, z2, z3]
        refine pl M52 (y_sub (r := ((256 - 256 * g2 : Nat) : Int)) rfl rfl rfl rfl (by omega) (by omega)) ?_
        simp only [Act.put, z1, z2, z3]
        refine pl M52 (y_move (v := .int .i64 ((256 * g2 : Nat) : Int)) rfl rfl rfl) ?_
        simp only [Act.put, z1, z2, z3]
        refine pl M52 (y_sub (r := ((512 - 256 * g2 : Nat) : Int)) rfl rfl rfl rfl (by omega) (by omega)) ?_
        simp only [Act.put, z1, z2, z3]
        refine pl M52 (y_sls (l := 256 - 256 * g2) (h := 512 - 256 * g2) (r := 256 - 256 * g2) (n' := 256) (c' := ci1 - (256 - 256 * g2)) rfl rfl rfl rfl rfl Try.underlying22 Try.sizeOf5 (by exact ⟨⟨_, _, rfl, by omega, by omega⟩, ⟨_, _, rfl, by omega, by omega⟩⟩) (by split <;> omega) (by omega) (by omega)) ?_
        simp only [Act.put, z1, z2, z3]
        refine pe rfl (fun K hK => ?_)
        refine e_call 41 [.slice (some ⟨gi1, 256 - 256 * g2, none⟩) 256 (ci1 - (256 - 256 * g2))] rfl rfl Try.call41 (unpS_fit gi1 (256 - 256 * g2) (ci1 - (256 - 256 * g2)) Pv _ hPv (by have N := ((lst_row (M52.get 7 rfl)).drop (256 - 256 * g2) (by omega)).take 256 (by omega); rw [himP] at N; rw [Nat.zero_add] at N; exact N) (by omega) (by omega)) ?_
        rintro e w54 ⟨rfl, H54⟩
        have M54 : Mem w [] w54 [blk g20 37 (supC V2.s), blk g18 37 (supC V2.s), disk E p pg mb qv2, blk f 96 (fC V2 p), disk (T2.rd r2) p2 pg2 mb2 (.slice none 0 0), blk g 96 (fC (⟨V2.s, V2.s.mark, m2⟩ : FV) p2), book B2 b bx2, lst 5 1 (.slice (some ⟨gi1, 0, none⟩) (256 * k) ci1) (256 * k) (bvs E.pages.flatten)] := M52.step H54
        refine ⟨_, rfl, ?_⟩
        refine hK.out _ _ ?_
        clear hK K
        simp only [Act.put, z1, z2, z3]
        refine pl M54 (y_move (v := .tuple #[.agg ((supC Pv)).toArray, .int .i64 0]) rfl rfl rfl) ?_
        simp only [Act.put, z1, z2, z3]
        refine pl M54 (y_ext (v := .agg ((supC Pv)).toArray) rfl rfl rfl rfl) ?_
        simp only [Act.put, z1, z2, z3]
        refine pl M54 (y_ext (v := .int .i64 0) rfl rfl rfl rfl) ?_
        simp only [Act.put, z1, z2, z3]
        refine pe rfl (fun K hK => ?_)
        refine e_alloc M54 (supC noSup) rfl zero_sup ?_
        intro g22 w55 (M55 : Mem w [] w55 [blk g22 37 (supC noSup), blk g20 37 (supC V2.s), blk g18 37 (supC V2.s), disk E p pg mb qv2, blk f 96 (fC V2 p), disk (T2.rd r2) p2 pg2 mb2 (.slice none 0 0), blk g 96 (fC (⟨V2.s, V2.s.mark, m2⟩ : FV) p2), book B2 b bx2, lst 5 1 (.slice (some ⟨gi1, 0, none⟩) (256 * k) ci1) (256 * k) (bvs E.pages.flatten)])
        clear M54
        refine hK.out _ _ ?_
        clear hK K
        simp only [Act.put, z1, z2, z3]
        refine pe rfl (fun K hK => ?_)
        refine e_storew M55 0 (cs := (supC Pv)) rfl rfl rfl rfl (size_sup _) (sup_all _) rfl (rfl) ?_
        intro w56 (M56 : Mem w [] w56 [blk g22 37 (supC Pv), blk g20 37 (supC V2.s), blk g18 37 (supC V2.s), disk E p pg mb qv2, blk f 96 (fC V2 p), disk (T2.rd r2) p2 pg2 mb2 (.slice none 0 0), blk g 96 (fC (⟨V2.s, V2.s.mark, m2⟩ : FV) p2), book B2 b bx2, lst 5 1 (.slice (some ⟨gi1, 0, none⟩) (256 * k) ci1) (256 * k) (bvs E.pages.flatten)])
        clear M55
        refine hK.out _ _ ?_
        clear hK K
        simp only [Act.put, z1, z2, z3]
        refine pl M56 (y_assign (v := .int .i64 0) rfl rfl rfl) ?_
        simp only [Act.put, z1, z2, z3]
        refine wpList_nil ?_
        refine hK53 _ _ ?_
        clear hK53
        refine wp_seq_k (fun K57 hK57 => ?_)
        refine wp_seq_k (fun K58 hK58 => ?_)
        refine wp_region_lit ?_
        refine pl M56 (y_move (v := .int .i64 0) rfl rfl rfl) ?_
        simp only [Act.put, z1, z2, z3]
        refine pl M56 (y_neq (b := false) rfl rfl rfl rfl (by rw [decide_eq_true (by decide)]; rfl)) ?_
        simp only [Act.put, z1, z2, z3]
        refine pl M56 (y_move (v := .bool false) rfl rfl rfl) ?_
        simp only [Act.put, z1, z2, z3]
        refine pl M56 (y_move (v := .int .i64 0) rfl rfl rfl) ?_
        simp only [Act.put, z1, z2, z3]
        refine pl M56 (y_neq (b := false) rfl rfl rfl rfl (by rw [decide_eq_true (by decide)]; rfl)) ?_
        simp only [Act.put, z1, z2, z3]
        refine pl M56 (y_pickF (v := .bool false) rfl rfl rfl rfl) ?_
        simp only [Act.put, z1, z2, z3]
        refine pl M56 (y_move (v := .bool false) rfl rfl rfl) ?_
        simp only [Act.put, z1, z2, z3]
        refine pl M56 (y_loadb (cs := (supC V2.s)) rfl rfl rfl Try.underlying37 rfl (size_sup _) (fun W hW => hW.get 1 rfl) (List.take_of_length_le (Nat.le_refl _))) ?_
        simp only [Act.put, z1, z2, z3]
        refine pl M56 (y_loadb (cs := (supC V2.s)) rfl rfl rfl Try.underlying37 rfl (size_sup _) (fun W hW => hW.get 2 rfl) (List.take_of_length_le (Nat.le_refl _))) ?_
        simp only [Act.put, z1, z2, z3]
        refine pl M56 (y_nes (r := false) rfl rfl rfl rfl sup_guard (fun W => sup_same _ W)) ?_
        simp only [Act.put, z1, z2, z3]
        refine pl M56 (y_pickF (v := .bool false) rfl rfl rfl rfl) ?_
        simp only [Act.put, z1, z2, z3]
        refine pl M56 (y_move (v := .bool false) rfl rfl rfl) ?_
        simp only [Act.put, z1, z2, z3]
        refine pl M56 (y_fa (r := 1) rfl rfl rfl Try.underlying37 rfl Try.sizeOf3 rfl) ?_
        simp only [Act.put, z1, z2, z3]
        refine pl M56 (y_load (v := .int .i64 Pv.gen) rfl rfl rfl Try.isAgg3 (fun W hW => hW.get 0 rfl) (rfl)) ?_
        simp only [Act.put, z1, z2, z3]
        refine pl M56 (y_fa (r := 1) rfl rfl rfl Try.underlying37 rfl Try.sizeOf3 rfl) ?_
        simp only [Act.put, z1, z2, z3]
        refine pl M56 (y_load (v := .int .i64 V2.s.gen) rfl rfl rfl Try.isAgg3 (fun W hW => hW.get 2 rfl) (rfl)) ?_
        simp only [Act.put, z1, z2, z3]
        refine pl M56 (y_sub (r := V2.s.gen - 1) rfl rfl rfl rfl (rfl) (by omega)) ?_
        simp only [Act.put, z1, z2, z3]
        refine pl M56 (y_neq (b := false) rfl rfl rfl rfl (by rw [decide_eq_true (by omega)]; rfl)) ?_
        simp only [Act.put, z1, z2, z3]
        refine pl M56 (y_pickF (v := .bool false) rfl rfl rfl rfl) ?_
        simp only [Act.put, z1, z2, z3]
        refine pl M56 (y_move (v := .bool false) rfl rfl rfl) ?_
        simp only [Act.put, z1, z2, z3]
        refine pl M56 (y_fa (r := 0) rfl rfl rfl Try.underlying37 rfl Try.sizeOf3 rfl) ?_
        simp only [Act.put, z1, z2, z3]
        refine pl M56 (y_load (v := .int .i64 V2.s.width) rfl rfl rfl Try.isAgg3 (fun W hW => hW.get 2 rfl) (rfl)) ?_
        simp only [Act.put, z1, z2, z3]
        refine pl M56 (y_move (v := .int .i64 width) rfl rfl rfl) ?_
        simp only [Act.put, z1, z2, z3]
        refine pl M56 (y_neq (b := false) rfl rfl rfl rfl (by rw [decide_eq_true hW2]; rfl)) ?_
        simp only [Act.put, z1, z2, z3]
        refine pl M56 (y_pickF (v := .bool false) rfl rfl rfl rfl) ?_
        simp only [Act.put, z1, z2, z3]
        refine wpList_nil ?_
        refine hK58 _ _ ?_
        clear hK58
        refine wp_cond_false rfl ?_
        refine wp_skip ?_
        refine hK57 _ _ ?_
        clear hK57
        refine wp_seq_k (fun K59 hK59 => ?_)
        refine wp_region_lit ?_
        refine pl M56 (y_move (v := .pointer (some ⟨g, 0, none⟩)) rfl rfl rfl) ?_
        simp only [Act.put, z1, z2, z3]
        refine pe rfl (fun K hK => ?_)
        refine e_bslice M56 (bvs [1]) (pv := [(0, .int .u8 1)]) rfl rfl Try.underlying22 Try.sizeOf5 Try.zeroValue5 (by decide) (by kernel_rfl) ?_
        intro g60 w61 (M61 : Mem w [] w61 [blk g60 5 (bvs [1]), blk g22 37 (supC Pv), blk g20 37 (supC V2.s), blk g18 37 (supC V2.s), disk E p pg mb qv2, blk f 96 (fC V2 p), disk (T2.rd r2) p2 pg2 mb2 (.slice none 0 0), blk g 96 (fC (⟨V2.s, V2.s.mark, m2⟩ : FV) p2), book B2 b bx2, lst 5 1 (.slice (some ⟨gi1, 0, none⟩) (256 * k) ci1) (256 * k) (bvs E.pages.flatten)])
        clear M56
        refine hK.out _ _ ?_
        clear hK K
        simp only [Act.put, z1, z2, z3]
        have hX62 : Mem w [] w61 ([disk (T2.rd r2) p2 pg2 mb2 (.slice none 0 0), blk g 96 (fC (⟨V2.s, V2.s.mark, m2⟩ : FV) p2)] ++ [blk g60 5 (bvs [1]), blk g22 37 (supC Pv), blk g20 37 (supC V2.s), blk g18 37 (supC V2.s), disk E p pg mb qv2, blk f 96 (fC V2 p), book B2 b bx2, lst 5 1 (.slice (some ⟨gi1, 0, none⟩) (256 * k) ci1) (256 * k) (bvs E.pages.flatten)]) := M61.arr [6, 7, 0, 1, 2, 3, 4, 5, 8, 9] (by decide)
        refine pe rfl (fun K hK => ?_)
        refine e_call 26 [.pointer (some ⟨g, 0, none⟩), .int .i64 1, .slice (some ⟨g60, 0, none⟩) 1 1] rfl rfl Try.call26 (app_anyway (Mem.here (L := [disk (T2.rd r2) p2 pg2 mb2 (.slice none 0 0), blk g 96 (fC (⟨V2.s, V2.s.mark, m2⟩ : FV) p2)]) (R := [blk g60 5 (bvs [1]), blk g22 37 (supC Pv), blk g20 37 (supC V2.s), blk g18 37 (supC V2.s), disk E p pg mb qv2, blk f 96 (fC V2 p), book B2 b bx2, lst 5 1 (.slice (some ⟨gi1, 0, none⟩) (256 * k) ci1) (256 * k) (bvs E.pages.flatten)]) hX62) (hI2.rd r2) (by show T2.armed = 0; rw [haT]; exact hTa) 1 (some ⟨g60, 0, none⟩) 1 1 [1] ⟨⟨by decide, by decide⟩, by decide⟩ (blk_row (l := [1]) (M61.get 0 rfl)) (fun b₁ o e _ hb => by cases e; rcases List.mem_append.1 (by rw [foots_cons] at hb; exact hb) with hb | hb; exact M61.apart 6 0 (by decide) rfl rfl hb (by simp [blk]); exact M61.apart 7 0 (by decide) rfl rfl (by simpa [foots] using hb) (by simp [blk])) (by show T2.q.length ≤ _; rw [hqT, hTq]; decide)) ?_
        rintro e w62 ⟨ev3, T3, V3, qv3, ps3, rfl, H62, hI3, ha3, hq3⟩
        have M62 : Mem w [] w62 [disk T3 p2 pg2 mb2 qv3, blk g 96 (fC V3 p2), blk g60 5 (bvs [1]), blk g22 37 (supC Pv), blk g20 37 (supC V2.s), blk g18 37 (supC V2.s), disk E p pg mb qv2, blk f 96 (fC V2 p), book B2 b bx2, lst 5 1 (.slice (some ⟨gi1, 0, none⟩) (256 * k) ci1) (256 * k) (bvs E.pages.flatten)] := Mem.frame (Pre := [disk (T2.rd r2) p2 pg2 mb2 (.slice none 0 0), blk g 96 (fC (⟨V2.s, V2.s.mark, m2⟩ : FV) p2)]) (Post := [disk T3 p2 pg2 mb2 qv3, blk g 96 (fC V3 p2)]) (R := [blk g60 5 (bvs [1]), blk g22 37 (supC Pv), blk g20 37 (supC V2.s), blk g18 37 (supC V2.s), disk E p pg mb qv2, blk f 96 (fC V2 p), book B2 b bx2, lst 5 1 (.slice (some ⟨gi1, 0, none⟩) (256 * k) ci1) (256 * k) (bvs E.pages.flatten)]) hX62 H62
        refine ⟨_, rfl, ?_⟩
        refine hK.out _ _ ?_
        clear hK K
        simp only [Act.put, z1, z2, z3]
        refine wpList_nil ?_
        refine hK59 _ _ ?_
        clear hK59
        refine wp_seq_k (fun K63 hK63 => ?_)
        refine wp_region_lit ?_
        refine pl M62 (y_move (v := .pointer (some ⟨g, 0, none⟩)) rfl rfl rfl) ?_
        simp only [Act.put, z1, z2, z3]
        have hX64 : Mem w [] w62 ([disk T3 p2 pg2 mb2 qv3, blk g 96 (fC V3 p2)] ++ [blk g60 5 (bvs [1]), blk g22 37 (supC Pv), blk g20 37 (supC V2.s), blk g18 37 (supC V2.s), disk E p pg mb qv2, blk f 96 (fC V2 p), book B2 b bx2, lst 5 1 (.slice (some ⟨gi1, 0, none⟩) (256 * k) ci1) (256 * k) (bvs E.pages.flatten)]) := M62.arr [0, 1, 2, 3, 4, 5, 6, 7, 8, 9] (by decide)
        refine pe rfl (fun K hK => ?_)
        refine e_call 28 [.pointer (some ⟨g, 0, none⟩), .int .i64 0] rfl rfl Try.call28 (pub_any (Mem.here (L := [disk T3 p2 pg2 mb2 qv3, blk g 96 (fC V3 p2)]) (R := [blk g60 5 (bvs [1]), blk g22 37 (supC Pv), blk g20 37 (supC V2.s), blk g18 37 (supC V2.s), disk E p pg mb qv2, blk f 96 (fC V2 p), book B2 b bx2, lst 5 1 (.slice (some ⟨gi1, 0, none⟩) (256 * k) ci1) (256 * k) (bvs E.pages.flatten)]) hX64) 0 (by have : T3.q.length ≤ T2.q.length + 1 := hq3; rw [hqT, hTq] at this; have h1 : ([] : List Wr).length = 0 := rfl; omega) hI3.fok) ?_
        rintro e w64 ⟨qv4, rfl, H64⟩
        have M64 : Mem w [] w64 [disk ((pubR T3 V3 0).1) p2 pg2 mb2 qv4, blk g 96 (fC (pubV T3 V3 0) p2), blk g60 5 (bvs [1]), blk g22 37 (supC Pv), blk g20 37 (supC V2.s), blk g18 37 (supC V2.s), disk E p pg mb qv2, blk f 96 (fC V2 p), book B2 b bx2, lst 5 1 (.slice (some ⟨gi1, 0, none⟩) (256 * k) ci1) (256 * k) (bvs E.pages.flatten)] := Mem.frame (Pre := [disk T3 p2 pg2 mb2 qv3, blk g 96 (fC V3 p2)]) (Post := [disk ((pubR T3 V3 0).1) p2 pg2 mb2 qv4, blk g 96 (fC (pubV T3 V3 0) p2)]) (R := [blk g60 5 (bvs [1]), blk g22 37 (supC Pv), blk g20 37 (supC V2.s), blk g18 37 (supC V2.s), disk E p pg mb qv2, blk f 96 (fC V2 p), book B2 b bx2, lst 5 1 (.slice (some ⟨gi1, 0, none⟩) (256 * k) ci1) (256 * k) (bvs E.pages.flatten)]) hX64 H64
        refine ⟨_, rfl, ?_⟩
        refine hK.out _ _ ?_
        clear hK K
        simp only [Act.put, z1, z2, z3]
        refine wpList_nil ?_
        refine hK63 _ _ ?_
        clear hK63
        refine wp_seq_k (fun K65 hK65 => ?_)
        refine wp_region_lit ?_
        refine pl M64 (y_move (v := .pointer (some ⟨p2, 0, none⟩)) rfl rfl rfl) ?_
        simp only [Act.put, z1, z2, z3]
        have hX66 : Mem w [] w64 ([disk ((pubR T3 V3 0).1) p2 pg2 mb2 qv4] ++ [blk g 96 (fC (pubV T3 V3 0) p2), blk g60 5 (bvs [1]), blk g22 37 (supC Pv), blk g20 37 (supC V2.s), blk g18 37 (supC V2.s), disk E p pg mb qv2, blk f 96 (fC V2 p), book B2 b bx2, lst 5 1 (.slice (some ⟨gi1, 0, none⟩) (256 * k) ci1) (256 * k) (bvs E.pages.flatten)]) := M64.arr [0, 1, 2, 3, 4, 5, 6, 7, 8, 9] (by decide)
        refine pe rfl (fun K hK => ?_)
        refine e_call 16 [.pointer (some ⟨p2, 0, none⟩), .slice none 0 0] rfl rfl Try.call16 (crash_any (Mem.here (L := [disk ((pubR T3 V3 0).1) p2 pg2 mb2 qv4]) (R := [blk g 96 (fC (pubV T3 V3 0) p2), blk g60 5 (bvs [1]), blk g22 37 (supC Pv), blk g20 37 (supC V2.s), blk g18 37 (supC V2.s), disk E p pg mb qv2, blk f 96 (fC V2 p), book B2 b bx2, lst 5 1 (.slice (some ⟨gi1, 0, none⟩) (256 * k) ci1) (256 * k) (bvs E.pages.flatten)]) hX66) none 0 0 [] Row.nil (fun _ _ e => by cases e) (by decide)) ?_
        rintro e w66 ⟨qv5, rfl, H66⟩
        have M66 : Mem w [] w66 [disk (crashD (pubR T3 V3 0).1 []) p2 pg2 mb2 qv5, blk g 96 (fC (pubV T3 V3 0) p2), blk g60 5 (bvs [1]), blk g22 37 (supC Pv), blk g20 37 (supC V2.s), blk g18 37 (supC V2.s), disk E p pg mb qv2, blk f 96 (fC V2 p), book B2 b bx2, lst 5 1 (.slice (some ⟨gi1, 0, none⟩) (256 * k) ci1) (256 * k) (bvs E.pages.flatten)] := Mem.frame (Pre := [disk ((pubR T3 V3 0).1) p2 pg2 mb2 qv4]) (Post := [disk (crashD (pubR T3 V3 0).1 []) p2 pg2 mb2 qv5]) (R := [blk g 96 (fC (pubV T3 V3 0) p2), blk g60 5 (bvs [1]), blk g22 37 (supC Pv), blk g20 37 (supC V2.s), blk g18 37 (supC V2.s), disk E p pg mb qv2, blk f 96 (fC V2 p), book B2 b bx2, lst 5 1 (.slice (some ⟨gi1, 0, none⟩) (256 * k) ci1) (256 * k) (bvs E.pages.flatten)]) hX66 H66
        refine ⟨_, rfl, ?_⟩
        refine hK.out _ _ ?_
        clear hK K
        simp only [Act.put, z1, z2, z3]
        refine wpList_nil ?_
        refine hK65 _ _ ?_
        clear hK65
        refine wp_seq_k (fun K67 hK67 => ?_)
        have M68 := M66.drew
        refine held_begin (fun W => Mem w [] W [blk g18 37 (supC V2.s)]) (by kernel_rfl) (M68.arr [5] (by decide)) (fun hS => ?_)
        refine held_take 0 _ rfl (by kernel_rfl) (by kernel_rfl) (by kernel_rfl) (y_move (v := .pointer (some ⟨p, 0, none⟩)) rfl rfl rfl) hS ?_
        simp only [Act.put, z1, z2, z3]
        refine held_take 2 _ rfl (by kernel_rfl) (by kernel_rfl) (by kernel_rfl) (y_move (v := .slice (some ⟨gi1, 0, none⟩) (256 * k) ci1) rfl rfl rfl) hS ?_
        simp only [Act.put, z1, z2, z3]
        have hX69 : Mem w [] w66.drew ([disk E p pg mb qv2] ++ [disk (crashD (pubR T3 V3 0).1 []) p2 pg2 mb2 qv5, blk g 96 (fC (pubV T3 V3 0) p2), blk g60 5 (bvs [1]), blk g22 37 (supC Pv), blk g20 37 (supC V2.s), blk g18 37 (supC V2.s), blk f 96 (fC V2 p), book B2 b bx2, lst 5 1 (.slice (some ⟨gi1, 0, none⟩) (256 * k) ci1) (256 * k) (bvs E.pages.flatten)]) := M68.arr [6, 0, 1, 2, 3, 4, 5, 7, 8, 9] (by decide)
        refine held_step 1 (by kernel_rfl) rfl (by rfl) (fun K hK => ?_)
        refine e_call 30 [.pointer (some ⟨p, 0, none⟩)] rfl rfl Try.call30 (image_fit (Mem.here (L := [disk E p pg mb qv2]) (R := [disk (crashD (pubR T3 V3 0).1 []) p2 pg2 mb2 qv5, blk g 96 (fC (pubV T3 V3 0) p2), blk g60 5 (bvs [1]), blk g22 37 (supC Pv), blk g20 37 (supC V2.s), blk g18 37 (supC V2.s), blk f 96 (fC V2 p), book B2 b bx2, lst 5 1 (.slice (some ⟨gi1, 0, none⟩) (256 * k) ci1) (256 * k) (bvs E.pages.flatten)]) hX69) hpk (by omega)) ?_
        rintro e w69 ⟨gi2, ci2, rfl, H69, hci2, hcm2⟩
        have M69 : Mem w [] w69 [disk E p pg mb qv2, lst 5 1 (.slice (some ⟨gi2, 0, none⟩) (256 * k) ci2) (256 * k) (bvs E.pages.flatten), disk (crashD (pubR T3 V3 0).1 []) p2 pg2 mb2 qv5, blk g 96 (fC (pubV T3 V3 0) p2), blk g60 5 (bvs [1]), blk g22 37 (supC Pv), blk g20 37 (supC V2.s), blk g18 37 (supC V2.s), blk f 96 (fC V2 p), book B2 b bx2, lst 5 1 (.slice (some ⟨gi1, 0, none⟩) (256 * k) ci1) (256 * k) (bvs E.pages.flatten)] := Mem.frame (Pre := [disk E p pg mb qv2]) (Post := [disk E p pg mb qv2, lst 5 1 (.slice (some ⟨gi2, 0, none⟩) (256 * k) ci2) (256 * k) (bvs E.pages.flatten)]) (R := [disk (crashD (pubR T3 V3 0).1 []) p2 pg2 mb2 qv5, blk g 96 (fC (pubV T3 V3 0) p2), blk g60 5 (bvs [1]), blk g22 37 (supC Pv), blk g20 37 (supC V2.s), blk g18 37 (supC V2.s), blk f 96 (fC V2 p), book B2 b bx2, lst 5 1 (.slice (some ⟨gi1, 0, none⟩) (256 * k) ci1) (256 * k) (bvs E.pages.flatten)]) hX69 H69
        refine ⟨_, rfl, ?_⟩
        refine hK.out _ _ (M69.arr [7] (by decide)) (fun hS => ?_)
        clear hK K
        simp only [Act.put, z1, z2, z3]
        refine held_step 3 (by kernel_rfl) rfl (by rfl) (fun K hK => ?_)
        refine e_call 35 [.slice (some ⟨gi2, 0, none⟩) (256 * k) ci2, .slice (some ⟨gi1, 0, none⟩) (256 * k) ci1] rfl rfl Try.call35 (same_any _ _ _ _ _ _ E.pages.flatten E.pages.flatten _ (lst_row (M69.get 1 rfl)) (lst_row (M69.get 10 rfl)) (by unfold maxLen; omega) (by unfold maxLen; omega)) ?_
        rintro e w70 ⟨rfl, H70⟩
        have M70 : Mem w [] w70 [disk E p pg mb qv2, lst 5 1 (.slice (some ⟨gi2, 0, none⟩) (256 * k) ci2) (256 * k) (bvs E.pages.flatten), disk (crashD (pubR T3 V3 0).1 []) p2 pg2 mb2 qv5, blk g 96 (fC (pubV T3 V3 0) p2), blk g60 5 (bvs [1]), blk g22 37 (supC Pv), blk g20 37 (supC V2.s), blk g18 37 (supC V2.s), blk f 96 (fC V2 p), book B2 b bx2, lst 5 1 (.slice (some ⟨gi1, 0, none⟩) (256 * k) ci1) (256 * k) (bvs E.pages.flatten)] := M69.step H70
        rw [(eqB_true rfl)]
        refine ⟨_, rfl, ?_⟩
        refine hK.out _ _ (M70.arr [7] (by decide)) (fun hS => ?_)
        clear hK K
        simp only [Act.put, z1, z2, z3]
        refine held_take 4 _ rfl (by kernel_rfl) (by kernel_rfl) (by kernel_rfl) (y_not rfl rfl rfl rfl) hS ?_
        simp only [Act.put, z1, z2, z3]
        refine held_take 5 _ rfl (by kernel_rfl) (by kernel_rfl) (by kernel_rfl) (y_move (v := .bool false) rfl rfl rfl) hS ?_
        simp only [Act.put, z1, z2, z3]
        refine held_take 6 _ rfl (by kernel_rfl) (by kernel_rfl) (by kernel_rfl) (y_move (v := .pointer (some ⟨f, 0, none⟩)) rfl rfl rfl) hS ?_
        simp only [Act.put, z1, z2, z3]
        have hX71 : Mem w [] w70 ([disk E p pg mb qv2, blk f 96 (fC V2 p)] ++ [lst 5 1 (.slice (some ⟨gi2, 0, none⟩) (256 * k) ci2) (256 * k) (bvs E.pages.flatten), disk (crashD (pubR T3 V3 0).1 []) p2 pg2 mb2 qv5, blk g 96 (fC (pubV T3 V3 0) p2), blk g60 5 (bvs [1]), blk g22 37 (supC Pv), blk g20 37 (supC V2.s), blk g18 37 (supC V2.s), book B2 b bx2, lst 5 1 (.slice (some ⟨gi1, 0, none⟩) (256 * k) ci1) (256 * k) (bvs E.pages.flatten)]) := M70.arr [0, 8, 1, 2, 3, 4, 5, 6, 7, 9, 10] (by decide)
        refine held_step 7 (by kernel_rfl) rfl (by rfl) (fun K hK => ?_)
        refine e_call 21 [.pointer (some ⟨f, 0, none⟩)] rfl rfl Try.call21 (live_ok (Mem.here (L := [disk E p pg mb qv2, blk f 96 (fC V2 p)]) (R := [lst 5 1 (.slice (some ⟨gi2, 0, none⟩) (256 * k) ci2) (256 * k) (bvs E.pages.flatten), disk (crashD (pubR T3 V3 0).1 []) p2 pg2 mb2 qv5, blk g 96 (fC (pubV T3 V3 0) p2), blk g60 5 (bvs [1]), blk g22 37 (supC Pv), blk g20 37 (supC V2.s), blk g18 37 (supC V2.s), book B2 b bx2, lst 5 1 (.slice (some ⟨gi1, 0, none⟩) (256 * k) ci1) (256 * k) (bvs E.pages.flatten)]) hX71) hB2.inv) ?_
        rintro e w71 ⟨rfl, H71⟩
        have M71 : Mem w [] w71 [disk E p pg mb qv2, blk f 96 (fC V2 p), lst 5 1 (.slice (some ⟨gi2, 0, none⟩) (256 * k) ci2) (256 * k) (bvs E.pages.flatten), disk (crashD (pubR T3 V3 0).1 []) p2 pg2 mb2 qv5, blk g 96 (fC (pubV T3 V3 0) p2), blk g60 5 (bvs [1]), blk g22 37 (supC Pv), blk g20 37 (supC V2.s), blk g18 37 (supC V2.s), book B2 b bx2, lst 5 1 (.slice (some ⟨gi1, 0, none⟩) (256 * k) ci1) (256 * k) (bvs E.pages.flatten)] := Mem.frame (Pre := [disk E p pg mb qv2, blk f 96 (fC V2 p)]) (Post := [disk E p pg mb qv2, blk f 96 (fC V2 p)]) (R := [lst 5 1 (.slice (some ⟨gi2, 0, none⟩) (256 * k) ci2) (256 * k) (bvs E.pages.flatten), disk (crashD (pubR T3 V3 0).1 []) p2 pg2 mb2 qv5, blk g 96 (fC (pubV T3 V3 0) p2), blk g60 5 (bvs [1]), blk g22 37 (supC Pv), blk g20 37 (supC V2.s), blk g18 37 (supC V2.s), book B2 b bx2, lst 5 1 (.slice (some ⟨gi1, 0, none⟩) (256 * k) ci1) (256 * k) (bvs E.pages.flatten)]) hX71 H71
        refine ⟨_, rfl, ?_⟩
        refine hK.out _ _ (M71.arr [8] (by decide)) (fun hS => ?_)
        clear hK K
        simp only [Act.put, z1, z2, z3]
        refine held_take 8 _ rfl (by kernel_rfl) (by kernel_rfl) (by kernel_rfl) (y_neq (b := false) rfl rfl rfl rfl (by rw [decide_eq_true (by decide)]; rfl)) hS ?_
        simp only [Act.put, z1, z2, z3]
        refine held_take 9 _ rfl (by kernel_rfl) (by kernel_rfl) (by kernel_rfl) (y_pickF (v := .bool false) rfl rfl rfl rfl) hS ?_
        simp only [Act.put, z1, z2, z3]
        refine held_take 10 _ rfl (by kernel_rfl) (by kernel_rfl) (by kernel_rfl) (y_move (v := .bool false) rfl rfl rfl) hS ?_
        simp only [Act.put, z1, z2, z3]
        refine held_take 11 _ rfl (by kernel_rfl) (by kernel_rfl) (by kernel_rfl) (y_move (v := .pointer (some ⟨f, 0, none⟩)) rfl rfl rfl) hS ?_
        simp only [Act.put, z1, z2, z3]
        refine held_take 13 _ rfl (by kernel_rfl) (by kernel_rfl) (by kernel_rfl) (y_loadb (cs := (supC V2.s)) rfl rfl rfl Try.underlying37 rfl (size_sup _) (fun W hW => hW.get 0 rfl) (List.take_of_length_le (Nat.le_refl _))) hS ?_
        simp only [Act.put, z1, z2, z3]
        have hX72 : Mem w [] w71 ([disk E p pg mb qv2, blk f 96 (fC V2 p)] ++ [lst 5 1 (.slice (some ⟨gi2, 0, none⟩) (256 * k) ci2) (256 * k) (bvs E.pages.flatten), disk (crashD (pubR T3 V3 0).1 []) p2 pg2 mb2 qv5, blk g 96 (fC (pubV T3 V3 0) p2), blk g60 5 (bvs [1]), blk g22 37 (supC Pv), blk g20 37 (supC V2.s), blk g18 37 (supC V2.s), book B2 b bx2, lst 5 1 (.slice (some ⟨gi1, 0, none⟩) (256 * k) ci1) (256 * k) (bvs E.pages.flatten)]) := M71.arr [0, 1, 2, 3, 4, 5, 6, 7, 8, 9, 10] (by decide)
        refine held_step 12 (by kernel_rfl) rfl (by rfl) (fun K hK => ?_)
        refine e_call 19 [.pointer (some ⟨f, 0, none⟩)] rfl rfl Try.call19 (super_any (Mem.here (L := [disk E p pg mb qv2, blk f 96 (fC V2 p)]) (R := [lst 5 1 (.slice (some ⟨gi2, 0, none⟩) (256 * k) ci2) (256 * k) (bvs E.pages.flatten), disk (crashD (pubR T3 V3 0).1 []) p2 pg2 mb2 qv5, blk g 96 (fC (pubV T3 V3 0) p2), blk g60 5 (bvs [1]), blk g22 37 (supC Pv), blk g20 37 (supC V2.s), blk g18 37 (supC V2.s), book B2 b bx2, lst 5 1 (.slice (some ⟨gi1, 0, none⟩) (256 * k) ci1) (256 * k) (bvs E.pages.flatten)]) hX72)) ?_
        rintro e w72 ⟨rfl, H72⟩
        have M72 : Mem w [] w72 [disk E p pg mb qv2, blk f 96 (fC V2 p), lst 5 1 (.slice (some ⟨gi2, 0, none⟩) (256 * k) ci2) (256 * k) (bvs E.pages.flatten), disk (crashD (pubR T3 V3 0).1 []) p2 pg2 mb2 qv5, blk g 96 (fC (pubV T3 V3 0) p2), blk g60 5 (bvs [1]), blk g22 37 (supC Pv), blk g20 37 (supC V2.s), blk g18 37 (supC V2.s), book B2 b bx2, lst 5 1 (.slice (some ⟨gi1, 0, none⟩) (256 * k) ci1) (256 * k) (bvs E.pages.flatten)] := Mem.frame (Pre := [disk E p pg mb qv2, blk f 96 (fC V2 p)]) (Post := [disk E p pg mb qv2, blk f 96 (fC V2 p)]) (R := [lst 5 1 (.slice (some ⟨gi2, 0, none⟩) (256 * k) ci2) (256 * k) (bvs E.pages.flatten), disk (crashD (pubR T3 V3 0).1 []) p2 pg2 mb2 qv5, blk g 96 (fC (pubV T3 V3 0) p2), blk g60 5 (bvs [1]), blk g22 37 (supC Pv), blk g20 37 (supC V2.s), blk g18 37 (supC V2.s), book B2 b bx2, lst 5 1 (.slice (some ⟨gi1, 0, none⟩) (256 * k) ci1) (256 * k) (bvs E.pages.flatten)]) hX72 H72
        refine ⟨_, rfl, ?_⟩
        refine hK.out _ _ (M72.arr [8] (by decide)) (fun hS => ?_)
        clear hK K
        simp only [Act.put, z1, z2, z3]
        refine held_take 14 _ rfl (by kernel_rfl) (by kernel_rfl) (by kernel_rfl) (y_nes (r := false) rfl rfl rfl rfl sup_guard (fun W => sup_same _ W)) hS ?_
        simp only [Act.put, z1, z2, z3]
        refine held_take 15 _ rfl (by kernel_rfl) (by kernel_rfl) (by kernel_rfl) (y_pickF (v := .bool false) rfl rfl rfl rfl) hS ?_
        simp only [Act.put, z1, z2, z3]
        refine held_done (by kernel_rfl) ?_ _
        refine hK67 _ _ ?_
        clear hK67
        refine wp_cond_false rfl ?_
        refine wp_skip ?_
        refine hK21 _ _ ?_
        clear hK21
        refine wp_region_lit ?_
        refine pl M72 (y_move (v := .int .i64 (i : Int)) rfl rfl rfl) ?_
        simp only [Act.put, z1, z2, z3]
        refine pl M72 (y_add (r := (i : Int) + 1) rfl rfl rfl rfl (rfl) (by omega)) ?_
        simp only [Act.put, z1, z2, z3]
        refine pl M72 (y_assign (v := .int .i64 ((i : Int) + 1)) rfl rfl rfl) ?_
        simp only [Act.put, z1, z2, z3]
        refine wpList_nil ?_
        refine ⟨⟨i + 1, E, V2, B2, qv2, bx2, [(us15.getD 0 undef), .int .i64 er, .bool true, .slice (some ⟨gi1, 0, none⟩) (256 * k) ci1, .pointer (some ⟨p2, 0, none⟩), .int .i64 0, .pointer (some ⟨g, 0, none⟩), .int .i64 0, .pointer (some ⟨g18, 0, none⟩), .int .i64 ((256 * g2 : Nat) : Int), .pointer (some ⟨g20, 0, none⟩), .int .i64 0, .pointer (some ⟨g22, 0, none⟩), .int .i64 0, .int .i64 (i : Int), .slice aa an ac, .int .i64 (an : Int), .bool true, .bool true, .int .i64 (i : Int), .bool true, .bool true, .int .i64 (i : Int), .int .i64 ((i : Int) + 1), .slice aa an ac, .int .i64 (i : Int), .pointer (some ⟨ga, oa + i * 3, none⟩), .pointer (some ⟨ga, oa + i * 3, none⟩), .int .i64 a.k, .bool false, .tuple #[.int .i64 er, .bool true], .pointer (some ⟨b, 0, none⟩), .pointer (some ⟨p, 0, none⟩), .pointer (some ⟨f, 0, none⟩), .slice aa an ac, .int .i64 (i : Int), .pointer (some ⟨ga, oa + i * 3, none⟩), .agg ((actC a)).toArray, .tuple #[.int .i64 er, .bool true], .int .i64 er, .bool true, .bool true, .bool false, .pointer (some ⟨p, 0, none⟩), .slice (some ⟨gi1, 0, none⟩) (256 * k) ci1, .tuple #[.pointer (some ⟨p2, 0, none⟩), .int .i64 0], .slice (some ⟨gi1, 0, none⟩) (256 * k) ci1, .tuple #[.pointer (some ⟨p2, 0, none⟩), .int .i64 0], .pointer (some ⟨p2, 0, none⟩), .int .i64 0, .int .i64 0, .bool false, .bool false, .pointer (some ⟨p2, 0, none⟩), .bool false, .bool false, .tuple #[.pointer (some ⟨g, 0, none⟩), .int .i64 0], .pointer (some ⟨p2, 0, none⟩), .tuple #[.pointer (some ⟨g, 0, none⟩), .int .i64 0], .pointer (some ⟨g, 0, none⟩), .int .i64 0, .int .i64 0, .bool false, .bool false, .pointer (some ⟨g, 0, none⟩), .bool false, .bool false, .bool false, .pointer (some ⟨g, 0, none⟩), .agg ((supC (⟨V2.s, V2.s.mark, m2⟩ : FV).s)).toArray, .pointer (some ⟨f, 0, none⟩), .agg ((supC V2.s)).toArray, .bool false, .bool false, .bool false, .pointer (some ⟨b, 0, none⟩), .pointer (some ⟨g, 0, none⟩), .pointer (some ⟨b, 0, none⟩), .pointer (some ⟨b, 0, none⟩), .pointer (some ⟨b, 2, none⟩), .int .i64 B2.mark, .bool true, .bool false, .bool false, .pointer (some ⟨f, 0, none⟩), .agg ((supC V2.s)).toArray, .slice (some ⟨gi1, 0, none⟩) (256 * k) ci1, .int .i64 ((256 * k : Nat) : Int), .int .i64 (k : Int), .int .i64 (256 * (k : Int)), .bool false, .bool false, .pointer (some ⟨g18, 1, none⟩), .int .i64 V2.s.gen, .bool false, .bool false, .pointer (some ⟨g18, 1, none⟩), .int .i64 V2.s.gen, .int .i64 (g2 : Int), .int .i64 ((256 * g2 : Nat) : Int), .tuple #[.agg ((supC V2.s)).toArray, .int .i64 0], .slice (some ⟨gi1, 0, none⟩) (256 * k) ci1, .int .i64 ((256 * g2 : Nat) : Int), .int .i64 ((256 * g2 : Nat) : Int), .int .i64 ((256 * g2 + 256 : Nat) : Int), .slice (some ⟨gi1, 256 * g2, none⟩) 256 (ci1 - (256 * g2)), .tuple #[.agg ((supC V2.s)).toArray, .int .i64 0], .agg ((supC V2.s)).toArray, .int .i64 0, .tuple #[.agg ((supC Pv)).toArray, .int .i64 0], .slice (some ⟨gi1, 0, none⟩) (256 * k) ci1, .int .i64 ((256 * g2 : Nat) : Int), .int .i64 ((256 - 256 * g2 : Nat) : Int), .int .i64 ((256 * g2 : Nat) : Int), .int .i64 ((512 - 256 * g2 : Nat) : Int), .slice (some ⟨gi1, 256 - 256 * g2, none⟩) 256 (ci1 - (256 - 256 * g2)), .tuple #[.agg ((supC Pv)).toArray, .int .i64 0], .agg ((supC Pv)).toArray, .int .i64 0, .int .i64 0, .bool false, .bool false, .int .i64 0, .bool false, .bool false, .bool false, .agg ((supC V2.s)).toArray, .agg ((supC V2.s)).toArray, .bool false, .bool false, .bool false, .pointer (some ⟨g22, 1, none⟩), .int .i64 Pv.gen, .pointer (some ⟨g18, 1, none⟩), .int .i64 V2.s.gen, .int .i64 (V2.s.gen - 1), .bool false, .bool false, .bool false, .pointer (some ⟨g18, 0, none⟩), .int .i64 V2.s.width, .int .i64 width, .bool false, .bool false, .pointer (some ⟨g, 0, none⟩), .slice (some ⟨g60, 0, none⟩) 1 1, ev3, .pointer (some ⟨g, 0, none⟩), .int .i64 ((pubR T3 V3 0).2), .pointer (some ⟨p2, 0, none⟩), .int .i64 ((pubR T3 V3 0).1.q.length : Int), .pointer (some ⟨p, 0, none⟩), .slice (some ⟨gi2, 0, none⟩) (256 * k) ci2, .slice (some ⟨gi1, 0, none⟩) (256 * k) ci1, .bool true, .bool false, .bool false, .pointer (some ⟨f, 0, none⟩), .int .i64 0, .bool false, .bool false, .bool false, .pointer (some ⟨f, 0, none⟩), .agg ((supC V2.s)).toArray, .agg ((supC V2.s)).toArray, .bool false, .bool false], rfl, (by first | exact hB2 | exact hB), ⟨by first | (have := hkept.que; omega) | omega, by omega, by first | (have := hkept.pages; omega) | omega, by first | exact harm2 | exact hqi.2.2.2⟩, ⟨by first | (have := hkept.gen; omega) | omega, by first | (rw [hkept.width]; exact hgi.2) | exact hgi.2⟩, (M72.arr [0, 1, 9] (by decide))⟩, ?_⟩
        simp [intOf]; omega
    · refine pl M16 (y_lss (b := false) rfl rfl rfl rfl (decide_eq_false h20)) ?_
      simp only [Act.put, z1, z2, z3]
      refine pl M16 (y_pickT (v := .bool false) rfl rfl rfl rfl) ?_
      simp only [Act.put, z1, z2, z3]
      refine wpList_nil ?_
      refine hK18 _ _ ?_
      clear hK18
      refine wp_cond_false rfl ?_
      refine wp_exit ?_
      refine hK13 _ _ ?_
      clear hK13
      refine wp_seq_k (fun K73 hK73 => ?_)
      refine wp_region_lit ?_
      refine pl M16 (y_assign (v := .bool true) rfl rfl rfl) ?_
      simp only [Act.put, z1, z2, z3]
      refine wpList_nil ?_
      refine hK73 _ _ ?_
      clear hK73
      refine wp_ret ?_
      try simp only [Exit.inBlock, Exit.then]
      refine bodyPost_ret (v := .bool true) (res1 rfl rfl) rfl ?_
      exact ⟨rfl, M16.arr [] (by decide)⟩
  · refine pl M16 (y_lss (b := false) rfl rfl rfl rfl (decide_eq_false h19)) ?_
    simp only [Act.put, z1, z2, z3]
    refine pl M16 (y_move (v := .bool false) rfl rfl rfl) ?_
    simp only [Act.put, z1, z2, z3]
    with_reducible refine pskip ?_ ?_
    · rfl
    simp only [Act.put, z1, z2, z3]
    with_reducible refine pskip ?_ ?_
    · rfl
    simp only [Act.put, z1, z2, z3]
    refine pl M16 (y_pickF (v := .bool false) rfl rfl rfl rfl) ?_
    simp only [Act.put, z1, z2, z3]
    refine wpList_nil ?_
    refine hK18 _ _ ?_
    clear hK18
    refine wp_cond_false rfl ?_
    refine wp_exit ?_
    refine hK13 _ _ ?_
    clear hK13
    refine wp_seq_k (fun K74 hK74 => ?_)
    refine wp_region_lit ?_
    refine pl M16 (y_assign (v := .bool true) rfl rfl rfl) ?_
    simp only [Act.put, z1, z2, z3]
    refine wpList_nil ?_
    refine hK74 _ _ ?_
    clear hK74
    refine wp_ret ?_
    try simp only [Exit.inBlock, Exit.then]
    refine bodyPost_ret (v := .bool true) (res1 rfl rfl) rfl ?_
    exact ⟨rfl, M16.arr [] (by decide)⟩
theorem twin_walk {w : World} (pages width : Int) (aa : Option Addr) (an ac : Nat) (avs : List AV) (hacts : ListIn actC 3 w aa an avs) (hok : ∀ a ∈ avs, ActIn w a) (han : an ≤ 4611686018427387904) : Calls Try.prog 10 #[.int .i64 pages, .int .i64 width, .slice aa an ac] w fun e w' => e = .returned (.bool true) ∧ Below w.heap.size w w' := by
  have fin : Calls Try.prog 10 #[.int .i64 pages, .int .i64 width, .slice aa an ac] w (fun e w' => e = .returned (.bool true) ∧ Mem w [] w' []) := by
    by_cases hf : Fits pages width
    · obtain ⟨h1, h2, h3, h4⟩ := hf
      obtain ⟨k, rfl⟩ := Int.eq_ofNat_of_zero_le (show 0 ≤ pages by omega)
      exact twin_fit k width ⟨by omega, by omega⟩ ⟨h3, h4⟩ aa an ac avs hacts hok han
    · exact twin_nofit pages width aa an ac hf w
  refine fin.mono ?_
  rintro e w' ⟨rfl, h⟩
  exact ⟨rfl, h.below⟩
end Go.Proofs.Ytehnnnohoaapdaa
