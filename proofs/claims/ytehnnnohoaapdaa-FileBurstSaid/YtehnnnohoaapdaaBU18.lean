/- Texts joined: Law16b, Law16. -/
import Derived.Test.YtehnnnohoaapdaaBU16
import Derived.Test.YtehnnnohoaapdaaBU17
/- The law FileBurst: no pattern. -/
namespace Go.Proofs.Ytehnnnohoaapdaa
open Go Go.RowKit
set_option linter.unusedVariables false
set_option linter.unusedSimpArgs false
set_option maxRecDepth 100000 in
set_option maxHeartbeats 4000000 in
theorem burst_b {w : World} (k : Nat) (width : Int) (hn : 3 ≤ k ∧ k ≤ 64) (hw : 1 ≤ width ∧ width ≤ 32) (aa : Option Addr) (an ac : Nat) (avs : List AV) (hacts : ListIn actC 3 w aa an avs) (hok : ∀ a ∈ avs, ActIn w a) (han : an ≤ 4611686018427387904) (pge bit : Int)  : Calls Try.prog 6 #[.int .i64 (k : Int), .int .i64 width, .slice aa an ac, .int .i64 pge, .int .i64 bit, .int .u32 0] w fun e w' => e = .returned (.bool true) ∧ Mem w [] w' [] := by
  have M := Mem.nil w
  have hal := hacts.1
  have hx0 : (1 : UInt32) ≠ 0 := by decide
  go_enter Try.func6, Try.ntmps6
  refine wp_seq_k (fun K1 hK1 => ?_)
  refine wp_region_lit ?_
  refine pl M (y_assign (v := .bool false) rfl rfl rfl) ?_
  simp only [Act.put, z1, z2, z3]
  refine wpList_nil ?_
  refine hK1 _ _ ?_
  clear hK1
  refine wp_seq_k (fun K2 hK2 => ?_)
  refine wp_seq_k (fun K3 hK3 => ?_)
  refine wp_region_lit ?_
  refine pl M (y_move (v := .int .i64 (k : Int)) rfl rfl rfl) ?_
  simp only [Act.put, z1, z2, z3]
  refine pl M (y_move (v := .int .i64 width) rfl rfl rfl) ?_
  simp only [Act.put, z1, z2, z3]
  refine pe rfl (fun K hK => ?_)
  refine e_call 11 [.int .i64 (k : Int), .int .i64 width] rfl rfl Try.call11 (fits_any (k : Int) width _) ?_
  rintro e w4 ⟨rfl, H4⟩
  have M4 : Mem w [] w4 [] := M.step H4
  rw [(fits_yes hn hw)]
  refine ⟨_, rfl, ?_⟩
  refine hK.out _ _ ?_
  clear hK K
  simp only [Act.put, z1, z2, z3]
  refine pl M4 (y_not rfl rfl rfl rfl) ?_
  simp only [Act.put, z1, z2, z3]
  refine wpList_nil ?_
  refine hK3 _ _ ?_
  clear hK3
  refine wp_cond_false rfl ?_
  refine wp_skip ?_
  refine hK2 _ _ ?_
  clear hK2
  refine wp_seq_k (fun K5 hK5 => ?_)
  refine wp_region_lit ?_
  refine pl M4 (y_move (v := .int .i64 (k : Int)) rfl rfl rfl) ?_
  simp only [Act.put, z1, z2, z3]
  refine pl M4 (y_move (v := .int .i64 width) rfl rfl rfl) ?_
  simp only [Act.put, z1, z2, z3]
  refine pe rfl (fun K hK => ?_)
  refine e_call 22 [.int .i64 (k : Int), .int .i64 width] rfl rfl Try.call22 (fresh_any k width hn hw _) ?_
  rintro e w6 ⟨p, pg, mb, qv0, f, D0, m, rfl, H6, hI0, hq0, ha0, hp0⟩
  have M6 : Mem w [] w6 [disk D0 p pg mb qv0, blk f 96 (fC (⟨secondS width k, 2, m⟩ : FV) p)] := M4.step H6
  refine ⟨_, rfl, ?_⟩
  refine hK.out _ _ ?_
  clear hK K
  simp only [Act.put, z1, z2, z3]
  refine pl M6 (y_move (v := .tuple #[.pointer (some ⟨p, 0, none⟩), .pointer (some ⟨f, 0, none⟩)]) rfl rfl rfl) ?_
  simp only [Act.put, z1, z2, z3]
  refine pl M6 (y_ext (v := .pointer (some ⟨p, 0, none⟩)) rfl rfl rfl rfl) ?_
  simp only [Act.put, z1, z2, z3]
  refine pl M6 (y_ext (v := .pointer (some ⟨f, 0, none⟩)) rfl rfl rfl rfl) ?_
  simp only [Act.put, z1, z2, z3]
  refine pl M6 (y_assign (v := .pointer (some ⟨p, 0, none⟩)) rfl rfl rfl) ?_
  simp only [Act.put, z1, z2, z3]
  refine pl M6 (y_assign (v := .pointer (some ⟨f, 0, none⟩)) rfl rfl rfl) ?_
  simp only [Act.put, z1, z2, z3]
  refine wpList_nil ?_
  refine hK5 _ _ ?_
  clear hK5
  refine wp_seq_k (fun K7 hK7 => ?_)
  refine wp_seq_k (fun K8 hK8 => ?_)
  refine wp_region_lit ?_
  refine pl M6 (y_move (v := .pointer (some ⟨f, 0, none⟩)) rfl rfl rfl) ?_
  simp only [Act.put, z1, z2, z3]
  refine pl M6 (y_eqnil (r := false) rfl rfl rfl rfl Try.underlying33 rfl) ?_
  simp only [Act.put, z1, z2, z3]
  refine wpList_nil ?_
  refine hK8 _ _ ?_
  clear hK8
  refine wp_cond_false rfl ?_
  refine wp_skip ?_
  refine hK7 _ _ ?_
  clear hK7
  refine wp_seq_k (fun K9 hK9 => ?_)
  refine wp_region_lit ?_
  refine pl M6 (y_build (ps := [(2, .const (.int .i64 2)), (3, .const (.int .i64 1))]) (pv := [(2, .int .i64 2), (3, .int .i64 1)]) (cs := (bC (⟨[], 2, 1, 0, 0, 0⟩ : BV) (⟨.slice none 0 0, .slice none 0 0, []⟩ : BX))) rfl rfl rfl (by kernel_rfl)) ?_
  simp only [Act.put, z1, z2, z3]
  refine pe rfl (fun K hK => ?_)
  refine e_box M6 (bC (⟨[], 2, 1, 0, 0, 0⟩ : BV) (⟨.slice none 0 0, .slice none 0 0, []⟩ : BX)) rfl rfl ?_
  intro b w10 (M10 : Mem w [] w10 [blk b 48 (bC (⟨[], 2, 1, 0, 0, 0⟩ : BV) (⟨.slice none 0 0, .slice none 0 0, []⟩ : BX)), disk D0 p pg mb qv0, blk f 96 (fC (⟨secondS width k, 2, m⟩ : FV) p)])
  clear M6
  refine hK.out _ _ ?_
  clear hK K
  simp only [Act.put, z1, z2, z3]
  have M11 : Mem w [] w10 [blk b 48 (bC (⟨[], 2, 1, 0, 0, 0⟩ : BV) (⟨.slice none 0 0, .slice none 0 0, []⟩ : BX)), disk D0 p pg mb qv0, blk f 96 (fC (⟨secondS width k, 2, m⟩ : FV) p)] := M10.arr [0, 1, 2] (by decide)
  clear M10
  have M12 : Mem w [] w10 [book (⟨[], 2, 1, 0, 0, 0⟩ : BV) b (⟨.slice none 0 0, .slice none 0 0, []⟩ : BX), disk D0 p pg mb qv0, blk f 96 (fC (⟨secondS width k, 2, m⟩ : FV) p)] := book_new M11
  clear M11
  refine pl M12 (y_assign (v := .pointer (some ⟨b, 0, none⟩)) rfl rfl rfl) ?_
  simp only [Act.put, z1, z2, z3]
  refine wpList_nil ?_
  refine hK9 _ _ ?_
  clear hK9
  refine wp_seq_k (fun K13 hK13 => ?_)
  refine wp_seq_k (fun K14 hK14 => ?_)
  refine wp_region_lit ?_
  refine pl M12 (y_assign (v := .int .i64 0) rfl rfl rfl) ?_
  simp only [Act.put, z1, z2, z3]
  refine wpList_nil ?_
  refine hK14 _ _ ?_
  clear hK14
  have hBI : BInv D0 (⟨secondS width k, 2, m⟩ : FV) (⟨[], 2, 1, 0, 0, 0⟩ : BV) := ⟨hI0, rfl, rfl, rfl, rfl, Nat.zero_le _⟩
  have hcutK13 : ∀ a' w', (fun a' w' => ∃ (i : Nat) (D : DV) (V : FV) (B : BV) (qv : Value) (bx : BX) (us15 : List Value), a' = (⟨#[.int .i64 (k : Int), .int .i64 width, .slice aa an ac, .int .i64 pge, .int .i64 bit, .int .u32 0, undef, undef, undef, undef, undef, undef, (us15.getD 0 undef), .pointer (some ⟨p, 0, none⟩), .pointer (some ⟨f, 0, none⟩), .pointer (some ⟨b, 0, none⟩), .int .i64 (i : Int), (us15.getD 1 undef), (us15.getD 2 undef), undef, undef, undef, undef, undef, undef, undef, .int .i64 (k : Int), .int .i64 width, .bool true, .bool false, .tuple #[.pointer (some ⟨p, 0, none⟩), .pointer (some ⟨f, 0, none⟩)], .int .i64 (k : Int), .int .i64 width, .tuple #[.pointer (some ⟨p, 0, none⟩), .pointer (some ⟨f, 0, none⟩)], .pointer (some ⟨p, 0, none⟩), .pointer (some ⟨f, 0, none⟩), .pointer (some ⟨f, 0, none⟩), .bool false, .agg ((bC (⟨[], 2, 1, 0, 0, 0⟩ : BV) (⟨.slice none 0 0, .slice none 0 0, []⟩ : BX))).toArray, .pointer (some ⟨b, 0, none⟩), (us15.getD 3 undef), (us15.getD 4 undef), (us15.getD 5 undef), (us15.getD 6 undef), (us15.getD 7 undef), (us15.getD 8 undef), (us15.getD 9 undef), (us15.getD 10 undef), (us15.getD 11 undef), (us15.getD 12 undef), (us15.getD 13 undef), (us15.getD 14 undef), (us15.getD 15 undef), (us15.getD 16 undef), (us15.getD 17 undef), (us15.getD 18 undef), (us15.getD 19 undef), (us15.getD 20 undef), (us15.getD 21 undef), (us15.getD 22 undef), (us15.getD 23 undef), (us15.getD 24 undef), (us15.getD 25 undef), (us15.getD 26 undef), (us15.getD 27 undef), (us15.getD 28 undef), (us15.getD 29 undef), (us15.getD 30 undef), (us15.getD 31 undef), undef, undef, undef, undef, undef, undef, undef, undef, undef, undef, undef, undef, undef, undef, undef, undef, undef, undef, undef, undef, undef, undef, undef, undef, undef, undef, undef, undef, undef, undef, undef, undef, undef, undef, undef, undef, undef, undef, undef, undef, undef, undef, undef, undef, undef, undef, undef, undef, undef, undef, undef, undef, undef, undef, undef, undef, undef, undef, undef, undef, undef, undef, undef, undef, undef, undef, undef, undef, undef, undef, undef, undef, undef, undef, undef, undef, undef, undef, undef, undef, undef, undef, undef, undef, undef, undef, undef, undef, undef, undef, undef, undef, undef, undef, undef], []⟩ : Act) ∧ (BInv D V B) ∧ (D.q.length ≤ i ∧ i ≤ 60 ∧ D.pages.length = k ∧ D.armed = 0) ∧ (V.s.gen ≤ 1 + i ∧ V.s.width = width) ∧ Mem w [] w' [disk D p pg mb qv, blk f 96 (fC V p), book B b bx]) a' w' → K13 a' w' := by
    clear M12
    rintro a' w16 ⟨i, D, V, B, qv, bx, us15, rfl, hB, hqi, hgi, M16⟩
    refine hK13 _ _ ?_
    clear hK13
    refine wp_seq_k (fun K17 hK17 => ?_)
    refine wp_seq_k (fun K18 hK18 => ?_)
    refine wp_region_lit ?_
    refine pl M16 (y_move (v := .pointer (some ⟨f, 0, none⟩)) rfl rfl rfl) ?_
    simp only [Act.put, z1, z2, z3]
    obtain ⟨hp1, hp2, hp3, hp4, hp5, hp6, hp7, hp8⟩ := pub_cnt hB.inv (head := 0) (.inl rfl) (by omega) hqi.2.2.2
    have hX19 : Mem w [] w16 ([disk D p pg mb qv, blk f 96 (fC V p)] ++ [book B b bx]) := M16.arr [0, 1, 2] (by decide)
    refine pe rfl (fun K hK => ?_)
    refine e_call 28 [.pointer (some ⟨f, 0, none⟩), .int .i64 0] rfl rfl Try.call28 (xpub_go (Mem.here hX19) hB.inv 0 (by omega) hp1 hp8) ?_
    rintro e w19 ⟨E, qv3, rfl, H19, hE, hpl⟩
    have M19 : Mem w [] w19 [disk E p pg mb qv3, blk f 96 (fC ({ V with s := pubS V 0 } : FV) p), book B b bx] := Mem.frame hX19 H19
    rw [← hE] at hp2 hp6
    have hEk : E.pages.length = k := by rw [hpl]; exact hqi.2.2.1
    have hnp := hp2.nextp
    have hn2 := hp2.next2
    have hnp : V.next ≤ (E.pages.length : Int) := hnp
    have hn2 : 2 ≤ V.next := hn2
    refine ⟨_, rfl, ?_⟩
    refine hK.out _ _ ?_
    clear hK K
    simp only [Act.put, z1, z2, z3]
    refine pl M19 (y_neq (b := false) rfl rfl rfl rfl (by rw [decide_eq_true (by decide)]; rfl)) ?_
    simp only [Act.put, z1, z2, z3]
    refine wpList_nil ?_
    refine hK18 _ _ ?_
    clear hK18
    refine wp_cond_false rfl ?_
    refine wp_skip ?_
    refine hK17 _ _ ?_
    clear hK17
    refine wp_seq_k (fun K20 hK20 => ?_)
    refine wp_region_lit ?_
    refine pl M19 (y_move (v := .pointer (some ⟨f, 0, none⟩)) rfl rfl rfl) ?_
    simp only [Act.put, z1, z2, z3]
    have hX21 : Mem w [] w19 ([disk E p pg mb qv3, blk f 96 (fC ({ V with s := pubS V 0 } : FV) p)] ++ [book B b bx]) := M19.arr [0, 1, 2] (by decide)
    refine pe rfl (fun K hK => ?_)
    refine e_call 19 [.pointer (some ⟨f, 0, none⟩)] rfl rfl Try.call19 (super_any (Mem.here hX21)) ?_
    rintro e w21 ⟨rfl, H21⟩
    have M21 : Mem w [] w21 [disk E p pg mb qv3, blk f 96 (fC ({ V with s := pubS V 0 } : FV) p), book B b bx] := Mem.frame hX21 H21
    refine ⟨_, rfl, ?_⟩
    refine hK.out _ _ ?_
    clear hK K
    simp only [Act.put, z1, z2, z3]
    refine pl M21 (y_field1 (v := .int .i64 V.next) rfl rfl rfl Try.underlying37 rfl Try.isAgg3 rfl) ?_
    simp only [Act.put, z1, z2, z3]
    refine pl M21 (y_assign (v := .int .i64 V.next) rfl rfl rfl) ?_
    simp only [Act.put, z1, z2, z3]
    refine wpList_nil ?_
    refine hK20 _ _ ?_
    clear hK20
    refine wp_seq_k (fun K22 hK22 => ?_)
    refine wp_seq_k (fun K23 hK23 => ?_)
    refine wp_region_lit ?_
    refine pl M21 (y_move (v := .int .i64 V.next) rfl rfl rfl) ?_
    simp only [Act.put, z1, z2, z3]
    rcases Decidable.em (V.next = 2) with h24 | h24
    · refine pl M21 (y_eql (b := true) rfl rfl rfl rfl (decide_eq_true h24)) ?_
      simp only [Act.put, z1, z2, z3]
      refine wpList_nil ?_
      refine hK23 _ _ ?_
      clear hK23
      refine wp_cond_true rfl ?_
      refine wp_seq_k (fun K25 hK25 => ?_)
      refine wp_region_lit ?_
      refine pl M21 (y_assign (v := .bool true) rfl rfl rfl) ?_
      simp only [Act.put, z1, z2, z3]
      refine wpList_nil ?_
      refine hK25 _ _ ?_
      clear hK25
      refine wp_ret ?_
      try simp only [Exit.inBlock, Exit.then]
      refine bodyPost_ret (v := .bool true) (res1 rfl rfl) rfl ?_
      exact ⟨rfl, M21.arr [] (by decide)⟩
    · obtain ⟨ta, hta⟩ : ∃ x : Nat, 2 + pge % (V.next - 2) = (x : Int) := Int.eq_ofNat_of_zero_le (by have := Int.emod_nonneg pge (show V.next - 2 ≠ 0 by omega); omega)
      have hmlt := Int.emod_lt_of_pos pge (show 0 < V.next - 2 by omega)
      have hta2 : 2 ≤ ta := by have := Int.emod_nonneg pge (show V.next - 2 ≠ 0 by omega); omega
      have htaV : (ta : Int) < V.next := by omega
      obtain ⟨fi, hfi⟩ : ∃ x : Nat, bit % 2017 = (x : Int) := Int.eq_ofNat_of_zero_le (by omega)
      refine pl M21 (y_eql (b := false) rfl rfl rfl rfl (decide_eq_false h24)) ?_
      simp only [Act.put, z1, z2, z3]
      refine wpList_nil ?_
      refine hK23 _ _ ?_
      clear hK23
      refine wp_cond_false rfl ?_
      refine wp_skip ?_
      refine hK22 _ _ ?_
      clear hK22
      refine wp_seq_k (fun K26 hK26 => ?_)
      refine wp_region_lit ?_
      refine pl M21 (y_move (v := .int .i64 pge) rfl rfl rfl) ?_
      simp only [Act.put, z1, z2, z3]
      refine pl M21 (y_move (v := .int .i64 V.next) rfl rfl rfl) ?_
      simp only [Act.put, z1, z2, z3]
      refine pl M21 (y_sub (r := V.next - 2) rfl rfl rfl rfl (rfl) (by omega)) ?_
      simp only [Act.put, z1, z2, z3]
      refine pe rfl (fun K hK => ?_)
      refine e_call 13 [.int .i64 pge, .int .i64 (V.next - 2)] rfl rfl Try.call13 (place3_any pge (V.next - 2) (by omega) (by omega) _) ?_
      rintro e w27 ⟨rfl, H27⟩
      have M27 : Mem w [] w27 [disk E p pg mb qv3, blk f 96 (fC ({ V with s := pubS V 0 } : FV) p), book B b bx] := M21.step H27
      refine ⟨_, rfl, ?_⟩
      refine hK.out _ _ ?_
      clear hK K
      simp only [Act.put, z1, z2, z3]
      refine pl M27 (y_add (r := (ta : Int)) rfl rfl rfl rfl (hta) (by omega)) ?_
      simp only [Act.put, z1, z2, z3]
      refine pl M27 (y_assign (v := .int .i64 (ta : Int)) rfl rfl rfl) ?_
      simp only [Act.put, z1, z2, z3]
      refine wpList_nil ?_
      refine hK26 _ _ ?_
      clear hK26
      refine wp_seq_k (fun K28 hK28 => ?_)
      refine wp_region_lit ?_
      refine pl M27 (y_move (v := .int .i64 bit) rfl rfl rfl) ?_
      simp only [Act.put, z1, z2, z3]
      refine pe rfl (fun K hK => ?_)
      refine e_call 13 [.int .i64 bit, .int .i64 2017] rfl rfl Try.call13 (place3_any bit 2017 (by decide) (by decide) _) ?_
      rintro e w29 ⟨rfl, H29⟩
      have M29 : Mem w [] w29 [disk E p pg mb qv3, blk f 96 (fC ({ V with s := pubS V 0 } : FV) p), book B b bx] := M27.step H29
      refine ⟨_, rfl, ?_⟩
      refine hK.out _ _ ?_
      clear hK K
      simp only [Act.put, z1, z2, z3]
      refine pl M29 (y_assign (v := .int .i64 (bit % 2017)) rfl rfl rfl) ?_
      simp only [Act.put, z1, z2, z3]
      refine wpList_nil ?_
      refine hK28 _ _ ?_
      clear hK28
      refine wp_seq_k (fun K30 hK30 => ?_)
      refine wp_seq_k (fun K31 hK31 => ?_)
      refine wp_region_lit ?_
      refine pl M29 (y_move (v := .int .u32 0) rfl rfl rfl) ?_
      simp only [Act.put, z1, z2, z3]
      refine pl M29 (y_eql (b := true) rfl rfl rfl rfl (decide_eq_true (by decide))) ?_
      simp only [Act.put, z1, z2, z3]
      refine wpList_nil ?_
      refine hK31 _ _ ?_
      clear hK31
      refine wp_cond_true rfl ?_
      refine wp_region_lit ?_
      refine pl M29 (y_assign (v := .int .u32 1) rfl rfl rfl) ?_
      simp only [Act.put, z1, z2, z3]
      refine wpList_nil ?_
      refine hK30 _ _ ?_
      clear hK30
      refine wp_seq_k (fun K32 hK32 => ?_)
      refine wp_seq_k (fun K33 hK33 => ?_)
      refine wp_region_lit ?_
      refine pl M29 (y_move (v := .pointer (some ⟨b, 0, none⟩)) rfl rfl rfl) ?_
      simp only [Act.put, z1, z2, z3]
      refine pl M29 (y_move (v := .pointer (some ⟨f, 0, none⟩)) rfl rfl rfl) ?_
      simp only [Act.put, z1, z2, z3]
      refine pl M29 (y_move (v := .int .i64 V.next) rfl rfl rfl) ?_
      simp only [Act.put, z1, z2, z3]
      have hX34 : Mem w [] w29 ([disk E p pg mb qv3, blk f 96 (fC ({ V with s := pubS V 0 } : FV) p), book B b bx] ++ []) := M29.arr [0, 1, 2] (by decide)
      refine pe rfl (fun K hK => ?_)
      refine e_call 29 [.pointer (some ⟨b, 0, none⟩), .pointer (some ⟨f, 0, none⟩), .int .i64 V.next] rfl rfl Try.call29 (bholds_int (Mem.here hX34) (B := B) hp2 V.next (by omega) (Int.le_refl _)) ?_
      rintro e w34 ⟨r1, rfl, H34⟩
      have M34 : Mem w [] w34 [disk (E.rd r1) p pg mb qv3, blk f 96 (fC ({ V with s := pubS V 0 } : FV) p), book B b bx] := Mem.frame hX34 H34
      refine ⟨_, rfl, ?_⟩
      refine hK.out _ _ ?_
      clear hK K
      simp only [Act.put, z1, z2, z3]
      refine pl M34 (y_not rfl rfl rfl rfl) ?_
      simp only [Act.put, z1, z2, z3]
      refine pl M34 (y_move (v := .bool false) rfl rfl rfl) ?_
      simp only [Act.put, z1, z2, z3]
      refine pl M34 (y_move (v := .pointer (some ⟨p, 0, none⟩)) rfl rfl rfl) ?_
      simp only [Act.put, z1, z2, z3]
      refine pl M34 (y_move (v := .int .i64 (ta : Int)) rfl rfl rfl) ?_
      simp only [Act.put, z1, z2, z3]
      refine pl M34 (y_move (v := .int .i64 (bit % 2017)) rfl rfl rfl) ?_
      simp only [Act.put, z1, z2, z3]
      refine pl M34 (y_move (v := .int .u32 1) rfl rfl rfl) ?_
      simp only [Act.put, z1, z2, z3]
      have hX35 : Mem w [] w34 ([disk (E.rd r1) p pg mb qv3] ++ [blk f 96 (fC ({ V with s := pubS V 0 } : FV) p), book B b bx]) := M34.arr [0, 1, 2] (by decide)
      refine pe rfl (fun K hK => ?_)
      refine e_call 36 [.pointer (some ⟨p, 0, none⟩), .int .i64 (ta : Int), .int .i64 (bit % 2017), .int .u32 1] rfl rfl Try.call36 (flip_fit (Mem.here hX35) (ta : Int) (bit % 2017) (n := ta) (i := fi) rfl hfi (by show ta < E.pages.length; omega) (by omega) 1 _ rfl) ?_
      rintro e w35 ⟨rfl, H35⟩
      have M35 : Mem w [] w35 [disk ((brst (E.rd r1) ta fi 1).rd r1) p pg mb qv3, blk f 96 (fC ({ V with s := pubS V 0 } : FV) p), book B b bx] := Mem.frame hX35 H35
      refine ⟨_, rfl, ?_⟩
      refine hK.out _ _ ?_
      clear hK K
      simp only [Act.put, z1, z2, z3]
      obtain ⟨lv, kv, vs⟩ := bx
      have M36 : Mem w [] w35 [blk b 48 (bC B ⟨lv, kv, vs⟩), rows lv vs B.loads, lst 3 1 kv B.ps.length B.kinds, disk ((brst (E.rd r1) ta fi 1).rd r1) p pg mb qv3, blk f 96 (fC ({ V with s := pubS V 0 } : FV) p)] := book_open (M35.arr [2, 0, 1] (by decide))
      clear M35
      have hkl := hp2.lenN
      have hkl : V.next - 2 ≤ (B.ps.length : Int) := hkl
      refine pl M36 (y_neq (b := false) rfl rfl rfl rfl (by rw [decide_eq_true (by decide)]; rfl)) ?_
      simp only [Act.put, z1, z2, z3]
      refine pl M36 (y_pickF (v := .bool false) rfl rfl rfl rfl) ?_
      simp only [Act.put, z1, z2, z3]
      refine wpList_nil ?_
      refine hK33 _ _ ?_
      clear hK33
      refine wp_cond_false rfl ?_
      refine wp_skip ?_
      refine hK32 _ _ ?_
      clear hK32
      refine wp_seq_k (fun K37 hK37 => ?_)
      refine wp_seq_k (fun K38 hK38 => ?_)
      refine wp_region_lit ?_
      refine pl M36 (y_assign (v := .int .i64 2) rfl rfl rfl) ?_
      simp only [Act.put, z1, z2, z3]
      refine wpList_nil ?_
      refine hK38 _ _ ?_
      clear hK38
      refine wp_block ?_
      refine wp_loop (fun a' w' => ∃ (j : Nat) (rr : Int) (us39 : List Value), a' = (⟨#[.int .i64 (k : Int), .int .i64 width, .slice aa an ac, .int .i64 pge, .int .i64 bit, .int .u32 1, undef, undef, undef, undef, undef, undef, (us39.getD 0 undef), .pointer (some ⟨p, 0, none⟩), .pointer (some ⟨f, 0, none⟩), .pointer (some ⟨b, 0, none⟩), .int .i64 (i : Int), (us15.getD 1 undef), (us15.getD 2 undef), .int .i64 V.next, .int .i64 (ta : Int), .int .i64 (bit % 2017), .int .i64 (j : Int), (us39.getD 1 undef), (us39.getD 2 undef), (us39.getD 3 undef), .int .i64 (k : Int), .int .i64 width, .bool true, .bool false, .tuple #[.pointer (some ⟨p, 0, none⟩), .pointer (some ⟨f, 0, none⟩)], .int .i64 (k : Int), .int .i64 width, .tuple #[.pointer (some ⟨p, 0, none⟩), .pointer (some ⟨f, 0, none⟩)], .pointer (some ⟨p, 0, none⟩), .pointer (some ⟨f, 0, none⟩), .pointer (some ⟨f, 0, none⟩), .bool false, .agg ((bC (⟨[], 2, 1, 0, 0, 0⟩ : BV) (⟨.slice none 0 0, .slice none 0 0, []⟩ : BX))).toArray, .pointer (some ⟨b, 0, none⟩), (us15.getD 3 undef), (us15.getD 4 undef), (us15.getD 5 undef), (us15.getD 6 undef), (us15.getD 7 undef), (us15.getD 8 undef), (us15.getD 9 undef), (us15.getD 10 undef), (us15.getD 11 undef), (us15.getD 12 undef), (us15.getD 13 undef), (us15.getD 14 undef), (us15.getD 15 undef), (us15.getD 16 undef), (us15.getD 17 undef), (us15.getD 18 undef), (us15.getD 19 undef), (us15.getD 20 undef), (us15.getD 21 undef), (us15.getD 22 undef), (us15.getD 23 undef), (us15.getD 24 undef), (us15.getD 25 undef), (us15.getD 26 undef), (us15.getD 27 undef), (us15.getD 28 undef), (us15.getD 29 undef), (us15.getD 30 undef), (us15.getD 31 undef), .pointer (some ⟨f, 0, none⟩), .int .i64 0, .bool false, .pointer (some ⟨f, 0, none⟩), .agg ((supC ({ V with s := pubS V 0 } : FV).s)).toArray, .int .i64 V.next, .int .i64 V.next, .bool false, .int .i64 pge, .int .i64 V.next, .int .i64 (V.next - 2), .int .i64 (pge % (V.next - 2)), .int .i64 (ta : Int), .int .i64 bit, .int .i64 (bit % 2017), .int .u32 0, .bool true, .pointer (some ⟨b, 0, none⟩), .pointer (some ⟨f, 0, none⟩), .int .i64 V.next, .bool true, .bool false, .bool false, .pointer (some ⟨p, 0, none⟩), .int .i64 (ta : Int), .int .i64 (bit % 2017), .int .u32 1, .int .i64 0, .bool false, .bool false, (us39.getD 4 undef), (us39.getD 5 undef), (us39.getD 6 undef), (us39.getD 7 undef), (us39.getD 8 undef), (us39.getD 9 undef), (us39.getD 10 undef), (us39.getD 11 undef), (us39.getD 12 undef), (us39.getD 13 undef), (us39.getD 14 undef), (us39.getD 15 undef), (us39.getD 16 undef), (us39.getD 17 undef), (us39.getD 18 undef), (us39.getD 19 undef), (us39.getD 20 undef), (us39.getD 21 undef), (us39.getD 22 undef), (us39.getD 23 undef), (us39.getD 24 undef), (us39.getD 25 undef), (us39.getD 26 undef), (us39.getD 27 undef), (us39.getD 28 undef), (us39.getD 29 undef), (us39.getD 30 undef), (us39.getD 31 undef), (us39.getD 32 undef), (us39.getD 33 undef), (us39.getD 34 undef), (us39.getD 35 undef), (us39.getD 36 undef), (us39.getD 37 undef), (us39.getD 38 undef), (us39.getD 39 undef), (us39.getD 40 undef), (us39.getD 41 undef), (us39.getD 42 undef), (us39.getD 43 undef), (us39.getD 44 undef), (us39.getD 45 undef), (us39.getD 46 undef), (us39.getD 47 undef), (us39.getD 48 undef), (us39.getD 49 undef), (us39.getD 50 undef), (us39.getD 51 undef), (us39.getD 52 undef), (us39.getD 53 undef), (us39.getD 54 undef), (us39.getD 55 undef), (us39.getD 56 undef), undef, undef, undef, undef, undef, undef, undef, undef, undef, undef, undef, undef], []⟩ : Act) ∧ (2 ≤ j ∧ (j : Int) ≤ V.next) ∧ Mem w [] w' [disk ((brst (E.rd r1) ta fi 1).rd rr) p pg mb qv3, blk f 96 (fC ({ V with s := pubS V 0 } : FV) p), blk b 48 (bC B ⟨lv, kv, vs⟩), rows lv vs B.loads, lst 3 1 kv B.ps.length B.kinds]) (fun a' _ => V.next.toNat - (intOf (a'.tmps.getD 22 undef)).toNat) ⟨2, r1, [(us15.getD 0 undef), undef, undef, undef, undef, undef, undef, undef, undef, undef, undef, undef, undef, undef, undef, undef, undef, undef, undef, undef, undef, undef, undef, undef, undef, undef, undef, undef, undef, undef, undef, undef, undef, undef, undef, undef, undef, undef, undef, undef, undef, undef, undef, undef, undef, undef, undef, undef, undef, undef, undef, undef, undef, undef, undef, undef, undef], rfl, ⟨by omega, by omega⟩, (M36.arr [3, 4, 0, 1, 2] (by decide))⟩ ?_
      clear M36
      rintro a' w40 ⟨j, rr, us39, rfl, hj, M40⟩
      refine wp_seq_k (fun K41 hK41 => ?_)
      refine wp_seq_k (fun K42 hK42 => ?_)
      refine wp_region_lit ?_
      refine pl M40 (y_move (v := .int .i64 (j : Int)) rfl rfl rfl) ?_
      simp only [Act.put, z1, z2, z3]
      refine pl M40 (y_move (v := .int .i64 V.next) rfl rfl rfl) ?_
      simp only [Act.put, z1, z2, z3]
      rcases Decidable.em ((j : Int) < V.next) with h43 | h43
      · have hib : j - 2 < B.ps.length := by omega
        obtain ⟨gk, ck, hk⟩ := lst_pt (M40.get 4 rfl) (B.kind_at hib)
        obtain ⟨gl, cl, ao, nn, hl, hv, hlen, hfo⟩ := rows_pt (M40.get 3 rfl) (i := j - 2) (by rw [B.loads_len]; exact hib)
        rw [B.load_at] at hv hlen
        have hpgl := pg_len hp2 (n := j) (by omega) (by show (j : Int) < V.next; omega)
        refine pl M40 (y_lss (b := true) rfl rfl rfl rfl (decide_eq_true h43)) ?_
        simp only [Act.put, z1, z2, z3]
        refine wpList_nil ?_
        refine hK42 _ _ ?_
        clear hK42
        refine wp_cond_true rfl ?_
        refine wp_skip ?_
        refine hK41 _ _ ?_
        clear hK41
        refine wp_seq_k (fun K44 hK44 => ?_)
        refine wp_block ?_
        refine wp_seq_k (fun K45 hK45 => ?_)
        refine wp_region_lit ?_
        refine pl M40 (y_move (v := .pointer (some ⟨f, 0, none⟩)) rfl rfl rfl) ?_
        simp only [Act.put, z1, z2, z3]
        refine pl M40 (y_move (v := .int .i64 (j : Int)) rfl rfl rfl) ?_
        simp only [Act.put, z1, z2, z3]
        rcases Decidable.em (j = ta) with hjt | hjt
        · have hX46 : Mem w [] w40 ([disk ((brst (E.rd r1) ta fi 1).rd rr) p pg mb qv3, blk f 96 (fC ({ V with s := pubS V 0 } : FV) p)] ++ [blk b 48 (bC B ⟨lv, kv, vs⟩), rows lv vs B.loads, lst 3 1 kv B.ps.length B.kinds]) := M40.arr [0, 1, 2, 3, 4] (by decide)
          refine pe rfl (fun K hK => ?_)
          refine e_call 25 [.pointer (some ⟨f, 0, none⟩), .int .i64 (j : Int)] rfl rfl Try.call25 ((by rw [hjt]; exact bread_bad hp2 hp6 (by omega) hta2 htaV hx0 r1 rr (Mem.here hX46))) ?_
          rintro e w46 ⟨a2, c2, r3, rfl, H46⟩
          have M46 : Mem w [] w46 [disk ((brst (E.rd r1) ta fi 1).rd r3) p pg mb qv3, blk f 96 (fC ({ V with s := pubS V 0 } : FV) p), blk b 48 (bC B ⟨lv, kv, vs⟩), rows lv vs B.loads, lst 3 1 kv B.ps.length B.kinds] := Mem.frame hX46 H46
          refine ⟨_, rfl, ?_⟩
          refine hK.out _ _ ?_
          clear hK K
          simp only [Act.put, z1, z2, z3]
          refine pl M46 (y_move (v := .tuple #[.int .i64 0, .slice a2 0 c2, .int .i64 4]) rfl rfl rfl) ?_
          simp only [Act.put, z1, z2, z3]
          refine pl M46 (y_ext (v := .int .i64 0) rfl rfl rfl rfl) ?_
          simp only [Act.put, z1, z2, z3]
          refine pl M46 (y_ext (v := .slice a2 0 c2) rfl rfl rfl rfl) ?_
          simp only [Act.put, z1, z2, z3]
          refine pl M46 (y_ext (v := .int .i64 4) rfl rfl rfl rfl) ?_
          simp only [Act.put, z1, z2, z3]
          refine pl M46 (y_assign (v := .int .i64 0) rfl rfl rfl) ?_
          simp only [Act.put, z1, z2, z3]
          refine pl M46 (y_assign (v := .slice a2 0 c2) rfl rfl rfl) ?_
          simp only [Act.put, z1, z2, z3]
          refine pl M46 (y_assign (v := .int .i64 4) rfl rfl rfl) ?_
          simp only [Act.put, z1, z2, z3]
          refine wpList_nil ?_
          refine hK45 _ _ ?_
          clear hK45
          refine wp_seq_k (fun K47 hK47 => ?_)
          refine wp_region_lit ?_
          refine pl M46 (y_move (v := .int .i64 (j : Int)) rfl rfl rfl) ?_
          simp only [Act.put, z1, z2, z3]
          refine pl M46 (y_move (v := .int .i64 (ta : Int)) rfl rfl rfl) ?_
          simp only [Act.put, z1, z2, z3]
          refine pl M46 (y_eql (b := true) rfl rfl rfl rfl (decide_eq_true (by omega))) ?_
          simp only [Act.put, z1, z2, z3]
          refine wpList_nil ?_
          refine hK47 _ _ ?_
          clear hK47
          refine wp_cond_true rfl ?_
          refine wp_seq_k (fun K48 hK48 => ?_)
          refine wp_region_lit ?_
          refine pl M46 (y_move (v := .int .i64 4) rfl rfl rfl) ?_
          simp only [Act.put, z1, z2, z3]
          refine pl M46 (y_neq (b := false) rfl rfl rfl rfl (by rw [decide_eq_true (by decide)]; rfl)) ?_
          simp only [Act.put, z1, z2, z3]
          refine pl M46 (y_move (v := .bool false) rfl rfl rfl) ?_
          simp only [Act.put, z1, z2, z3]
          refine pl M46 (y_move (v := .int .i64 0) rfl rfl rfl) ?_
          simp only [Act.put, z1, z2, z3]
          refine pl M46 (y_neq (b := false) rfl rfl rfl rfl (by rw [decide_eq_true (by decide)]; rfl)) ?_
          simp only [Act.put, z1, z2, z3]
          refine pl M46 (y_pickF (v := .bool false) rfl rfl rfl rfl) ?_
          simp only [Act.put, z1, z2, z3]
          refine pl M46 (y_move (v := .bool false) rfl rfl rfl) ?_
          simp only [Act.put, z1, z2, z3]
          refine pl M46 (y_move (v := .slice a2 0 c2) rfl rfl rfl) ?_
          simp only [Act.put, z1, z2, z3]
          refine pl M46 (y_len rfl rfl rfl Try.underlying22) ?_
          simp only [Act.put, z1, z2, z3]
          refine pl M46 (y_neq (b := false) rfl rfl rfl rfl (by rw [decide_eq_true (by decide)]; rfl)) ?_
          simp only [Act.put, z1, z2, z3]
          refine pl M46 (y_pickF (v := .bool false) rfl rfl rfl rfl) ?_
          simp only [Act.put, z1, z2, z3]
          refine wpList_nil ?_
          refine hK48 _ _ ?_
          clear hK48
          refine wp_cond_false rfl ?_
          refine wp_skip ?_
          refine hK44 _ _ ?_
          clear hK44
          refine wp_region_lit ?_
          refine pl M46 (y_move (v := .int .i64 (j : Int)) rfl rfl rfl) ?_
          simp only [Act.put, z1, z2, z3]
          refine pl M46 (y_add (r := (j : Int) + 1) rfl rfl rfl rfl (rfl) (by omega)) ?_
          simp only [Act.put, z1, z2, z3]
          refine pl M46 (y_assign (v := .int .i64 ((j : Int) + 1)) rfl rfl rfl) ?_
          simp only [Act.put, z1, z2, z3]
          refine wpList_nil ?_
          refine ⟨⟨j + 1, r3, [(us39.getD 0 undef), .int .i64 0, .slice a2 0 c2, .int .i64 4, .int .i64 (j : Int), .int .i64 V.next, .bool true, .int .i64 (j : Int), .int .i64 ((j : Int) + 1), .tuple #[.int .i64 0, .slice a2 0 c2, .int .i64 4], .pointer (some ⟨f, 0, none⟩), .int .i64 (j : Int), .tuple #[.int .i64 0, .slice a2 0 c2, .int .i64 4], .int .i64 0, .slice a2 0 c2, .int .i64 4, .int .i64 (j : Int), .int .i64 (ta : Int), .bool true, .int .i64 4, .bool false, .bool false, .int .i64 0, .bool false, .bool false, .bool false, .slice a2 0 c2, .int .i64 0, .bool false, .bool false, (us39.getD 30 undef), (us39.getD 31 undef), (us39.getD 32 undef), (us39.getD 33 undef), (us39.getD 34 undef), (us39.getD 35 undef), (us39.getD 36 undef), (us39.getD 37 undef), (us39.getD 38 undef), (us39.getD 39 undef), (us39.getD 40 undef), (us39.getD 41 undef), (us39.getD 42 undef), (us39.getD 43 undef), (us39.getD 44 undef), (us39.getD 45 undef), (us39.getD 46 undef), (us39.getD 47 undef), (us39.getD 48 undef), (us39.getD 49 undef), (us39.getD 50 undef), (us39.getD 51 undef), (us39.getD 52 undef), (us39.getD 53 undef), (us39.getD 54 undef), (us39.getD 55 undef), (us39.getD 56 undef)], rfl, ⟨by omega, by omega⟩, (M46.arr [0, 1, 2, 3, 4] (by decide))⟩, ?_⟩
          simp [intOf]; omega
        · have hX49 : Mem w [] w40 ([disk ((brst (E.rd r1) ta fi 1).rd rr) p pg mb qv3, blk f 96 (fC ({ V with s := pubS V 0 } : FV) p)] ++ [blk b 48 (bC B ⟨lv, kv, vs⟩), rows lv vs B.loads, lst 3 1 kv B.ps.length B.kinds]) := M40.arr [0, 1, 2, 3, 4] (by decide)
          refine pe rfl (fun K hK => ?_)
          refine e_call 25 [.pointer (some ⟨f, 0, none⟩), .int .i64 (j : Int)] rfl rfl Try.call25 (bread_ok hp2 hp6 hjt (by omega) (by show (j : Int) < V.next; omega) 1 r1 rr (Mem.here hX49)) ?_
          rintro e w49 ⟨a2, c2, r3, rfl, H49⟩
          have M49 : Mem w [] w49 [disk ((brst (E.rd r1) ta fi 1).rd r3) p pg mb qv3, blk f 96 (fC ({ V with s := pubS V 0 } : FV) p), bytesL (.slice a2 (pgAt B.ps j).2.length c2) (pgAt B.ps j).2, blk b 48 (bC B ⟨lv, kv, vs⟩), rows lv vs B.loads, lst 3 1 kv B.ps.length B.kinds] := Mem.frame hX49 H49
          refine ⟨_, rfl, ?_⟩
          refine hK.out _ _ ?_
          clear hK K
          simp only [Act.put, z1, z2, z3]
          refine pl M49 (y_move (v := .tuple #[.int .i64 ((pgAt B.ps j).1 : Int), .slice a2 ((pgAt B.ps j).2.length) c2, .int .i64 0]) rfl rfl rfl) ?_
          simp only [Act.put, z1, z2, z3]
          refine pl M49 (y_ext (v := .int .i64 ((pgAt B.ps j).1 : Int)) rfl rfl rfl rfl) ?_
          simp only [Act.put, z1, z2, z3]
          refine pl M49 (y_ext (v := .slice a2 ((pgAt B.ps j).2.length) c2) rfl rfl rfl rfl) ?_
          simp only [Act.put, z1, z2, z3]
          refine pl M49 (y_ext (v := .int .i64 0) rfl rfl rfl rfl) ?_
          simp only [Act.put, z1, z2, z3]
          refine pl M49 (y_assign (v := .int .i64 ((pgAt B.ps j).1 : Int)) rfl rfl rfl) ?_
          simp only [Act.put, z1, z2, z3]
          refine pl M49 (y_assign (v := .slice a2 ((pgAt B.ps j).2.length) c2) rfl rfl rfl) ?_
          simp only [Act.put, z1, z2, z3]
          refine pl M49 (y_assign (v := .int .i64 0) rfl rfl rfl) ?_
          simp only [Act.put, z1, z2, z3]
          refine wpList_nil ?_
          refine hK45 _ _ ?_
          clear hK45
          refine wp_seq_k (fun K50 hK50 => ?_)
          refine wp_region_lit ?_
          refine pl M49 (y_move (v := .int .i64 (j : Int)) rfl rfl rfl) ?_
          simp only [Act.put, z1, z2, z3]
          refine pl M49 (y_move (v := .int .i64 (ta : Int)) rfl rfl rfl) ?_
          simp only [Act.put, z1, z2, z3]
          refine pl M49 (y_eql (b := false) rfl rfl rfl rfl (decide_eq_false (by omega))) ?_
          simp only [Act.put, z1, z2, z3]
          refine wpList_nil ?_
          refine hK50 _ _ ?_
          clear hK50
          refine wp_cond_false rfl ?_
          refine wp_seq_k (fun K51 hK51 => ?_)
          refine wp_region_lit ?_
          refine pl M49 (y_move (v := .int .i64 0) rfl rfl rfl) ?_
          simp only [Act.put, z1, z2, z3]
          refine pl M49 (y_neq (b := false) rfl rfl rfl rfl (by rw [decide_eq_true (by decide)]; rfl)) ?_
          simp only [Act.put, z1, z2, z3]
          refine pl M49 (y_move (v := .bool false) rfl rfl rfl) ?_
          simp only [Act.put, z1, z2, z3]
          refine pl M49 (y_move (v := .int .i64 ((pgAt B.ps j).1 : Int)) rfl rfl rfl) ?_
          simp only [Act.put, z1, z2, z3]
          refine pl M49 (y_move (v := .pointer (some ⟨b, 0, none⟩)) rfl rfl rfl) ?_
          simp only [Act.put, z1, z2, z3]
          refine pl M49 (y_nil rfl rfl rfl) ?_
          simp only [Act.put, z1, z2, z3]
          refine pl M49 (y_fa (r := 1) rfl rfl rfl Try.underlying48 rfl Try.sizeOf46 rfl) ?_
          simp only [Act.put, z1, z2, z3]
          refine pl M49 (y_load (v := kv) rfl rfl rfl Try.isAgg46 (fun W hW => hW.get 3 rfl) (rfl)) ?_
          simp only [Act.put, z1, z2, z3]
          refine pl M49 (y_move (v := .int .i64 (j : Int)) rfl rfl rfl) ?_
          simp only [Act.put, z1, z2, z3]
          refine pl M49 (y_sub (r := ((j - 2 : Nat) : Int)) rfl rfl rfl rfl (by omega) (by omega)) ?_
          simp only [Act.put, z1, z2, z3]
          refine pl M49 (y_ias (r := j - 2) rfl rfl hk rfl Try.underlying46 Try.sizeOf3 (by omega) (by omega)) ?_
          simp only [Act.put, z1, z2, z3]
          refine pl M49 (y_loadc (v := .int .i64 ((pgAt B.ps j).1 : Int)) rfl rfl rfl Try.isAgg3 (fun W hW => lst_cell_at (hW.get 5 rfl) hk (B.kind_at hib))) ?_
          simp only [Act.put, z1, z2, z3]
          refine pl M49 (y_neq (b := false) rfl rfl rfl rfl (by rw [decide_eq_true rfl]; rfl)) ?_
          simp only [Act.put, z1, z2, z3]
          refine pl M49 (y_pickF (v := .bool false) rfl rfl rfl rfl) ?_
          simp only [Act.put, z1, z2, z3]
          refine pl M49 (y_move (v := .bool false) rfl rfl rfl) ?_
          simp only [Act.put, z1, z2, z3]
          refine pl M49 (y_move (v := .slice a2 ((pgAt B.ps j).2.length) c2) rfl rfl rfl) ?_
          simp only [Act.put, z1, z2, z3]
          refine pl M49 (y_move (v := .pointer (some ⟨b, 0, none⟩)) rfl rfl rfl) ?_
          simp only [Act.put, z1, z2, z3]
          refine pl M49 (y_nil rfl rfl rfl) ?_
          simp only [Act.put, z1, z2, z3]
          refine pl M49 (y_fa (r := 0) rfl rfl rfl Try.underlying48 rfl Try.sizeOf45 rfl) ?_
          simp only [Act.put, z1, z2, z3]
          refine pl M49 (y_load (v := lv) rfl rfl rfl Try.isAgg45 (fun W hW => hW.get 3 rfl) (rfl)) ?_
          simp only [Act.put, z1, z2, z3]
          refine pl M49 (y_move (v := .int .i64 (j : Int)) rfl rfl rfl) ?_
          simp only [Act.put, z1, z2, z3]
          refine pl M49 (y_sub (r := ((j - 2 : Nat) : Int)) rfl rfl rfl rfl (by omega) (by omega)) ?_
          simp only [Act.put, z1, z2, z3]
          refine pl M49 (y_ias (r := j - 2) rfl rfl hl rfl Try.underlying45 Try.sizeOf22 (by rw [B.loads_len]; omega) (by omega)) ?_
          simp only [Act.put, z1, z2, z3]
          refine pl M49 (y_loadc (v := .slice ao ((pgAt B.ps j).2.length) nn) rfl rfl rfl Try.isAgg22 (fun W hW => rows_cell (hW.get 4 rfl) hl rfl hv)) ?_
          simp only [Act.put, z1, z2, z3]
          refine pe rfl (fun K hK => ?_)
          refine e_call 35 [.slice a2 ((pgAt B.ps j).2.length) c2, .slice ao ((pgAt B.ps j).2.length) nn] rfl rfl Try.call35 (same_any a2 ao _ _ _ _ (pgAt B.ps j).2 (pgAt B.ps j).2 _ (bytesL_row (M49.get 2 rfl)) (by have := rows_row (M49.get 4 rfl) (by rw [B.loads_len]; exact hib) hv; rw [B.load_at] at this; exact this) (by unfold maxLen; omega) (by unfold maxLen; omega)) ?_
          rintro e w52 ⟨rfl, H52⟩
          have M52 : Mem w [] w52 [disk ((brst (E.rd r1) ta fi 1).rd r3) p pg mb qv3, blk f 96 (fC ({ V with s := pubS V 0 } : FV) p), bytesL (.slice a2 (pgAt B.ps j).2.length c2) (pgAt B.ps j).2, blk b 48 (bC B ⟨lv, kv, vs⟩), rows lv vs B.loads, lst 3 1 kv B.ps.length B.kinds] := M49.step H52
          rw [(eqB_true rfl)]
          refine ⟨_, rfl, ?_⟩
          refine hK.out _ _ ?_
          clear hK K
          simp only [Act.put, z1, z2, z3]
          refine pl M52 (y_not rfl rfl rfl rfl) ?_
          simp only [Act.put, z1, z2, z3]
          refine pl M52 (y_pickF (v := .bool false) rfl rfl rfl rfl) ?_
          simp only [Act.put, z1, z2, z3]
          refine wpList_nil ?_
          refine hK51 _ _ ?_
          clear hK51
          refine wp_cond_false rfl ?_
          refine wp_skip ?_
          refine hK44 _ _ ?_
          clear hK44
          refine wp_region_lit ?_
          refine pl M52 (y_move (v := .int .i64 (j : Int)) rfl rfl rfl) ?_
          simp only [Act.put, z1, z2, z3]
          refine pl M52 (y_add (r := (j : Int) + 1) rfl rfl rfl rfl (rfl) (by omega)) ?_
          simp only [Act.put, z1, z2, z3]
          refine pl M52 (y_assign (v := .int .i64 ((j : Int) + 1)) rfl rfl rfl) ?_
          simp only [Act.put, z1, z2, z3]
          refine wpList_nil ?_
          refine ⟨⟨j + 1, r3, [(us39.getD 0 undef), .int .i64 ((pgAt B.ps j).1 : Int), .slice a2 ((pgAt B.ps j).2.length) c2, .int .i64 0, .int .i64 (j : Int), .int .i64 V.next, .bool true, .int .i64 (j : Int), .int .i64 ((j : Int) + 1), .tuple #[.int .i64 ((pgAt B.ps j).1 : Int), .slice a2 ((pgAt B.ps j).2.length) c2, .int .i64 0], .pointer (some ⟨f, 0, none⟩), .int .i64 (j : Int), .tuple #[.int .i64 ((pgAt B.ps j).1 : Int), .slice a2 ((pgAt B.ps j).2.length) c2, .int .i64 0], .int .i64 ((pgAt B.ps j).1 : Int), .slice a2 ((pgAt B.ps j).2.length) c2, .int .i64 0, .int .i64 (j : Int), .int .i64 (ta : Int), .bool false, (us39.getD 19 undef), (us39.getD 20 undef), (us39.getD 21 undef), (us39.getD 22 undef), (us39.getD 23 undef), (us39.getD 24 undef), (us39.getD 25 undef), (us39.getD 26 undef), (us39.getD 27 undef), (us39.getD 28 undef), (us39.getD 29 undef), .int .i64 0, .bool false, .bool false, .int .i64 ((pgAt B.ps j).1 : Int), .pointer (some ⟨b, 0, none⟩), .pointer (some ⟨b, 0, none⟩), .pointer (some ⟨b, 1, none⟩), kv, .int .i64 (j : Int), .int .i64 ((j - 2 : Nat) : Int), .pointer (some ⟨gk, (j - 2), none⟩), .int .i64 ((pgAt B.ps j).1 : Int), .bool false, .bool false, .bool false, .slice a2 ((pgAt B.ps j).2.length) c2, .pointer (some ⟨b, 0, none⟩), .pointer (some ⟨b, 0, none⟩), .pointer (some ⟨b, 0, none⟩), lv, .int .i64 (j : Int), .int .i64 ((j - 2 : Nat) : Int), .pointer (some ⟨gl, (j - 2), none⟩), .slice ao ((pgAt B.ps j).2.length) nn, .bool true, .bool false, .bool false], rfl, ⟨by omega, by omega⟩, (M52.arr [0, 1, 3, 4, 5] (by decide))⟩, ?_⟩
          simp [intOf]; omega
      · refine pl M40 (y_lss (b := false) rfl rfl rfl rfl (decide_eq_false h43)) ?_
        simp only [Act.put, z1, z2, z3]
        refine wpList_nil ?_
        refine hK42 _ _ ?_
        clear hK42
        refine wp_cond_false rfl ?_
        refine wp_exit ?_
        refine hK37 _ _ ?_
        clear hK37
        refine wp_seq_k (fun K53 hK53 => ?_)
        refine wp_region_lit ?_
        refine pl M40 (y_move (v := .pointer (some ⟨p, 0, none⟩)) rfl rfl rfl) ?_
        simp only [Act.put, z1, z2, z3]
        refine pl M40 (y_move (v := .int .i64 (ta : Int)) rfl rfl rfl) ?_
        simp only [Act.put, z1, z2, z3]
        refine pl M40 (y_move (v := .int .i64 (bit % 2017)) rfl rfl rfl) ?_
        simp only [Act.put, z1, z2, z3]
        refine pl M40 (y_move (v := .int .u32 1) rfl rfl rfl) ?_
        simp only [Act.put, z1, z2, z3]
        have M54 : Mem w [] w40 [book B b (⟨lv, kv, vs⟩), disk ((brst (E.rd r1) ta fi 1).rd rr) p pg mb qv3, blk f 96 (fC ({ V with s := pubS V 0 } : FV) p)] := book_close (x := ⟨lv, kv, vs⟩) (M40.arr [2, 3, 4, 0, 1] (by decide))
        clear M40
        have hX55 : Mem w [] w40 ([disk ((brst (E.rd r1) ta fi 1).rd rr) p pg mb qv3] ++ [book B b (⟨lv, kv, vs⟩), blk f 96 (fC ({ V with s := pubS V 0 } : FV) p)]) := M54.arr [1, 0, 2] (by decide)
        refine pe rfl (fun K hK => ?_)
        refine e_call 36 [.pointer (some ⟨p, 0, none⟩), .int .i64 (ta : Int), .int .i64 (bit % 2017), .int .u32 1] rfl rfl Try.call36 ((by have N := flip_fit (Mem.here hX55) (ta : Int) (bit % 2017) (n := ta) (i := fi) rfl hfi (by show ta < (E.pages.set ta _).length; rw [List.length_set]; omega) (by omega) 1 _ rfl; rw [brst_twice (by omega)] at N; exact N)) ?_
        rintro e w55 ⟨rfl, H55⟩
        have M55 : Mem w [] w55 [disk (E.rd rr) p pg mb qv3, book B b (⟨lv, kv, vs⟩), blk f 96 (fC ({ V with s := pubS V 0 } : FV) p)] := Mem.frame hX55 H55
        refine ⟨_, rfl, ?_⟩
        refine hK.out _ _ ?_
        clear hK K
        simp only [Act.put, z1, z2, z3]
        refine pl M55 (y_eql (b := true) rfl rfl rfl rfl (decide_eq_true (by decide))) ?_
        simp only [Act.put, z1, z2, z3]
        refine pl M55 (y_move (v := .bool true) rfl rfl rfl) ?_
        simp only [Act.put, z1, z2, z3]
        refine pl M55 (y_move (v := .pointer (some ⟨b, 0, none⟩)) rfl rfl rfl) ?_
        simp only [Act.put, z1, z2, z3]
        refine pl M55 (y_move (v := .pointer (some ⟨f, 0, none⟩)) rfl rfl rfl) ?_
        simp only [Act.put, z1, z2, z3]
        refine pl M55 (y_move (v := .int .i64 V.next) rfl rfl rfl) ?_
        simp only [Act.put, z1, z2, z3]
        have hX56 : Mem w [] w55 ([disk (E.rd rr) p pg mb qv3, blk f 96 (fC ({ V with s := pubS V 0 } : FV) p), book B b (⟨lv, kv, vs⟩)] ++ []) := M55.arr [0, 2, 1] (by decide)
        refine pe rfl (fun K hK => ?_)
        refine e_call 29 [.pointer (some ⟨b, 0, none⟩), .pointer (some ⟨f, 0, none⟩), .int .i64 V.next] rfl rfl Try.call29 (bholds_int (Mem.here hX56) (B := B) (hp2.rd rr) V.next (by omega) (Int.le_refl _)) ?_
        rintro e w56 ⟨r9, rfl, H56⟩
        have M56 : Mem w [] w56 [disk (E.rd r9) p pg mb qv3, blk f 96 (fC ({ V with s := pubS V 0 } : FV) p), book B b (⟨lv, kv, vs⟩)] := Mem.frame hX56 H56
        refine ⟨_, rfl, ?_⟩
        refine hK.out _ _ ?_
        clear hK K
        simp only [Act.put, z1, z2, z3]
        refine pl M56 (y_pickT (v := .bool true) rfl rfl rfl rfl) ?_
        simp only [Act.put, z1, z2, z3]
        refine pl M56 (y_assign (v := .bool true) rfl rfl rfl) ?_
        simp only [Act.put, z1, z2, z3]
        refine wpList_nil ?_
        refine hK53 _ _ ?_
        clear hK53
        refine wp_ret ?_
        try simp only [Exit.inBlock, Exit.then]
        refine bodyPost_ret (v := .bool true) (res1 rfl rfl) rfl ?_
        exact ⟨rfl, M56.arr [] (by decide)⟩
  clear hK13
  refine wp_block ?_
  refine wp_loop (fun a' w' => ∃ (i : Nat) (D : DV) (V : FV) (B : BV) (qv : Value) (bx : BX) (us15 : List Value), a' = (⟨#[.int .i64 (k : Int), .int .i64 width, .slice aa an ac, .int .i64 pge, .int .i64 bit, .int .u32 0, undef, undef, undef, undef, undef, undef, (us15.getD 0 undef), .pointer (some ⟨p, 0, none⟩), .pointer (some ⟨f, 0, none⟩), .pointer (some ⟨b, 0, none⟩), .int .i64 (i : Int), (us15.getD 1 undef), (us15.getD 2 undef), undef, undef, undef, undef, undef, undef, undef, .int .i64 (k : Int), .int .i64 width, .bool true, .bool false, .tuple #[.pointer (some ⟨p, 0, none⟩), .pointer (some ⟨f, 0, none⟩)], .int .i64 (k : Int), .int .i64 width, .tuple #[.pointer (some ⟨p, 0, none⟩), .pointer (some ⟨f, 0, none⟩)], .pointer (some ⟨p, 0, none⟩), .pointer (some ⟨f, 0, none⟩), .pointer (some ⟨f, 0, none⟩), .bool false, .agg ((bC (⟨[], 2, 1, 0, 0, 0⟩ : BV) (⟨.slice none 0 0, .slice none 0 0, []⟩ : BX))).toArray, .pointer (some ⟨b, 0, none⟩), (us15.getD 3 undef), (us15.getD 4 undef), (us15.getD 5 undef), (us15.getD 6 undef), (us15.getD 7 undef), (us15.getD 8 undef), (us15.getD 9 undef), (us15.getD 10 undef), (us15.getD 11 undef), (us15.getD 12 undef), (us15.getD 13 undef), (us15.getD 14 undef), (us15.getD 15 undef), (us15.getD 16 undef), (us15.getD 17 undef), (us15.getD 18 undef), (us15.getD 19 undef), (us15.getD 20 undef), (us15.getD 21 undef), (us15.getD 22 undef), (us15.getD 23 undef), (us15.getD 24 undef), (us15.getD 25 undef), (us15.getD 26 undef), (us15.getD 27 undef), (us15.getD 28 undef), (us15.getD 29 undef), (us15.getD 30 undef), (us15.getD 31 undef), undef, undef, undef, undef, undef, undef, undef, undef, undef, undef, undef, undef, undef, undef, undef, undef, undef, undef, undef, undef, undef, undef, undef, undef, undef, undef, undef, undef, undef, undef, undef, undef, undef, undef, undef, undef, undef, undef, undef, undef, undef, undef, undef, undef, undef, undef, undef, undef, undef, undef, undef, undef, undef, undef, undef, undef, undef, undef, undef, undef, undef, undef, undef, undef, undef, undef, undef, undef, undef, undef, undef, undef, undef, undef, undef, undef, undef, undef, undef, undef, undef, undef, undef, undef, undef, undef, undef, undef, undef, undef, undef, undef, undef, undef, undef], []⟩ : Act) ∧ (BInv D V B) ∧ (D.q.length ≤ i ∧ i ≤ 60 ∧ D.pages.length = k ∧ D.armed = 0) ∧ (V.s.gen ≤ 1 + i ∧ V.s.width = width) ∧ Mem w [] w' [disk D p pg mb qv, blk f 96 (fC V p), book B b bx]) (fun a' _ => an - (intOf (a'.tmps.getD 16 undef)).toNat) ⟨0, D0, (⟨secondS width k, 2, m⟩ : FV), (⟨[], 2, 1, 0, 0, 0⟩ : BV), qv0, (⟨.slice none 0 0, .slice none 0 0, []⟩ : BX), [.bool false, undef, undef, undef, undef, undef, undef, undef, undef, undef, undef, undef, undef, undef, undef, undef, undef, undef, undef, undef, undef, undef, undef, undef, undef, undef, undef, undef, undef, undef, undef, undef], rfl, hBI, ⟨by rw [hq0]; exact Nat.zero_le _, by omega, hp0, ha0⟩, ⟨by show (1 : Int) ≤ 1 + ((0 : Nat) : Int); decide, rfl⟩, (M12.arr [1, 2, 0] (by decide))⟩ ?_
  clear M12
  rintro a' w57 ⟨i, D, V, B, qv, bx, us15, rfl, hB, hqi, hgi, M57⟩
  refine wp_seq_k (fun K58 hK58 => ?_)
  refine wp_seq_k (fun K59 hK59 => ?_)
  refine wp_region_lit ?_
  refine pl M57 (y_move (v := .int .i64 (i : Int)) rfl rfl rfl) ?_
  simp only [Act.put, z1, z2, z3]
  refine pl M57 (y_move (v := .slice aa an ac) rfl rfl rfl) ?_
  simp only [Act.put, z1, z2, z3]
  refine pl M57 (y_len rfl rfl rfl Try.underlying41) ?_
  simp only [Act.put, z1, z2, z3]
  rcases Decidable.em ((i : Int) < (an : Int)) with h60 | h60
  · obtain ⟨a, hget⟩ : ∃ a, avs[i]? = some a := ⟨_, List.getElem?_eq_getElem (by have := hacts.1; omega)⟩
    obtain ⟨ga, oa, hao, hra⟩ := hacts.2 i a hget
    obtain ⟨hrow, hnil, hmc, hcc⟩ := hok a (List.mem_of_getElem? hget)
    refine pl M57 (y_lss (b := true) rfl rfl rfl rfl (decide_eq_true h60)) ?_
    simp only [Act.put, z1, z2, z3]
    refine pl M57 (y_move (v := .bool true) rfl rfl rfl) ?_
    simp only [Act.put, z1, z2, z3]
    refine pl M57 (y_move (v := .int .i64 (i : Int)) rfl rfl rfl) ?_
    simp only [Act.put, z1, z2, z3]
    rcases Decidable.em ((i : Int) < 60) with h61 | h61
    · refine pl M57 (y_lss (b := true) rfl rfl rfl rfl (decide_eq_true h61)) ?_
      simp only [Act.put, z1, z2, z3]
      refine pl M57 (y_pickT (v := .bool true) rfl rfl rfl rfl) ?_
      simp only [Act.put, z1, z2, z3]
      refine wpList_nil ?_
      refine hK59 _ _ ?_
      clear hK59
      refine wp_cond_true rfl ?_
      refine wp_skip ?_
      refine hK58 _ _ ?_
      clear hK58
      refine wp_seq_k (fun K62 hK62 => ?_)
      refine wp_block ?_
      refine wp_seq_k (fun K63 hK63 => ?_)
      refine wp_region_lit ?_
      refine pl M57 (y_move (v := .slice aa an ac) rfl rfl rfl) ?_
      simp only [Act.put, z1, z2, z3]
      refine pl M57 (y_move (v := .int .i64 (i : Int)) rfl rfl rfl) ?_
      simp only [Act.put, z1, z2, z3]
      refine pl M57 (y_ias (r := oa + i * 3) rfl rfl (congrArg (fun z => Value.slice z an ac) hao) rfl Try.underlying41 Try.sizeOf50 (by omega) (by omega)) ?_
      simp only [Act.put, z1, z2, z3]
      refine pl M57 (y_fa (r := oa + i * 3) rfl rfl rfl Try.underlying50 rfl Try.sizeOf3 rfl) ?_
      simp only [Act.put, z1, z2, z3]
      refine pl M57 (y_loadc (v := .int .i64 a.k) rfl rfl rfl Try.isAgg3 (fun W hW => (hW.range hra (by simp)) 0 _ rfl)) ?_
      simp only [Act.put, z1, z2, z3]
      rcases Decidable.em (a.k = 4) with h64 | h64
      · refine pl M57 (y_neq (b := false) rfl rfl rfl rfl (by rw [decide_eq_true h64]; rfl)) ?_
        simp only [Act.put, z1, z2, z3]
        refine wpList_nil ?_
        refine hK63 _ _ ?_
        clear hK63
        refine wp_cond_false rfl ?_
        refine wp_skip ?_
        refine hK62 _ _ ?_
        clear hK62
        refine wp_region_lit ?_
        refine pl M57 (y_move (v := .int .i64 (i : Int)) rfl rfl rfl) ?_
        simp only [Act.put, z1, z2, z3]
        refine pl M57 (y_add (r := (i : Int) + 1) rfl rfl rfl rfl (rfl) (by omega)) ?_
        simp only [Act.put, z1, z2, z3]
        refine pl M57 (y_assign (v := .int .i64 ((i : Int) + 1)) rfl rfl rfl) ?_
        simp only [Act.put, z1, z2, z3]
        refine wpList_nil ?_
        refine ⟨⟨i + 1, D, V, B, qv, bx, [(us15.getD 0 undef), (us15.getD 1 undef), (us15.getD 2 undef), .int .i64 (i : Int), .slice aa an ac, .int .i64 (an : Int), .bool true, .bool true, .int .i64 (i : Int), .bool true, .bool true, .int .i64 (i : Int), .int .i64 ((i : Int) + 1), .slice aa an ac, .int .i64 (i : Int), .pointer (some ⟨ga, oa + i * 3, none⟩), .pointer (some ⟨ga, oa + i * 3, none⟩), .int .i64 a.k, .bool false, (us15.getD 19 undef), (us15.getD 20 undef), (us15.getD 21 undef), (us15.getD 22 undef), (us15.getD 23 undef), (us15.getD 24 undef), (us15.getD 25 undef), (us15.getD 26 undef), (us15.getD 27 undef), (us15.getD 28 undef), (us15.getD 29 undef), (us15.getD 30 undef), (us15.getD 31 undef)], rfl, (by first | exact hB2 | exact hB), ⟨by first | (have := hkept.que; omega) | omega, by omega, by first | (have := hkept.pages; omega) | omega, by first | exact harm2 | exact hqi.2.2.2⟩, ⟨by first | (have := hkept.gen; omega) | omega, by first | (rw [hkept.width]; exact hgi.2) | exact hgi.2⟩, (M57.arr [0, 1, 2] (by decide))⟩, ?_⟩
        simp [intOf]; omega
      · have hk4 : a.k ≠ 4 := h64
        refine pl M57 (y_neq (b := true) rfl rfl rfl rfl (by rw [decide_eq_false h64]; rfl)) ?_
        simp only [Act.put, z1, z2, z3]
        refine wpList_nil ?_
        refine hK63 _ _ ?_
        clear hK63
        refine wp_cond_true rfl ?_
        refine wp_seq_k (fun K65 hK65 => ?_)
        refine wp_region_lit ?_
        refine pl M57 (y_move (v := .pointer (some ⟨b, 0, none⟩)) rfl rfl rfl) ?_
        simp only [Act.put, z1, z2, z3]
        refine pl M57 (y_move (v := .pointer (some ⟨p, 0, none⟩)) rfl rfl rfl) ?_
        simp only [Act.put, z1, z2, z3]
        refine pl M57 (y_move (v := .pointer (some ⟨f, 0, none⟩)) rfl rfl rfl) ?_
        simp only [Act.put, z1, z2, z3]
        refine pl M57 (y_move (v := .slice aa an ac) rfl rfl rfl) ?_
        simp only [Act.put, z1, z2, z3]
        refine pl M57 (y_move (v := .int .i64 (i : Int)) rfl rfl rfl) ?_
        simp only [Act.put, z1, z2, z3]
        refine pl M57 (y_ias (r := oa + i * 3) rfl rfl (congrArg (fun z => Value.slice z an ac) hao) rfl Try.underlying41 Try.sizeOf50 (by omega) (by omega)) ?_
        simp only [Act.put, z1, z2, z3]
        refine pl M57 (y_loadr (cs := (actC a)) rfl rfl rfl Try.underlying50 rfl (size_act a) (fun W hW => hW.range hra (by simp))) ?_
        simp only [Act.put, z1, z2, z3]
        have hX66 : Mem w [] w57 ([disk D p pg mb qv, blk f 96 (fC V p), book B b bx] ++ []) := M57.arr [0, 1, 2] (by decide)
        refine pe rfl (fun K hK => ?_)
        refine e_call 27 [.pointer (some ⟨b, 0, none⟩), .pointer (some ⟨p, 0, none⟩), .pointer (some ⟨f, 0, none⟩), .agg ((actC a)).toArray] rfl rfl Try.call27 (bact_any (Mem.here hX66) a.k a.n a.ao a.m a.c a.l (M57.row hrow (by simp)) (hX66.left.off_row hrow) (by omega) hB (by omega) (by omega)) ?_
        rintro e w66 ⟨er, E, V2, B2, qv2, bx2, rfl, H66, hout⟩
        have M66 : Mem w [] w66 [disk E p pg mb qv2, blk f 96 (fC V2 p), book B2 b bx2] := Mem.frame hX66 H66
        obtain ⟨her, hkept, hB2, harm2⟩ := hout.good ⟨hk4, hqi.2.2.2⟩
        refine ⟨_, rfl, ?_⟩
        refine hK.out _ _ ?_
        clear hK K
        simp only [Act.put, z1, z2, z3]
        refine pl M66 (y_move (v := .tuple #[.int .i64 er, .bool true]) rfl rfl rfl) ?_
        simp only [Act.put, z1, z2, z3]
        refine pl M66 (y_ext (v := .int .i64 er) rfl rfl rfl rfl) ?_
        simp only [Act.put, z1, z2, z3]
        refine pl M66 (y_ext (v := .bool true) rfl rfl rfl rfl) ?_
        simp only [Act.put, z1, z2, z3]
        refine pl M66 (y_assign (v := .int .i64 er) rfl rfl rfl) ?_
        simp only [Act.put, z1, z2, z3]
        refine pl M66 (y_assign (v := .bool true) rfl rfl rfl) ?_
        simp only [Act.put, z1, z2, z3]
        refine wpList_nil ?_
        refine hK65 _ _ ?_
        clear hK65
        refine wp_seq_k (fun K67 hK67 => ?_)
        refine wp_region_lit ?_
        refine pl M66 (y_move (v := .bool true) rfl rfl rfl) ?_
        simp only [Act.put, z1, z2, z3]
        refine pl M66 (y_not rfl rfl rfl rfl) ?_
        simp only [Act.put, z1, z2, z3]
        refine wpList_nil ?_
        refine hK67 _ _ ?_
        clear hK67
        refine wp_cond_false rfl ?_
        refine wp_skip ?_
        refine hK62 _ _ ?_
        clear hK62
        refine wp_region_lit ?_
        refine pl M66 (y_move (v := .int .i64 (i : Int)) rfl rfl rfl) ?_
        simp only [Act.put, z1, z2, z3]
        refine pl M66 (y_add (r := (i : Int) + 1) rfl rfl rfl rfl (rfl) (by omega)) ?_
        simp only [Act.put, z1, z2, z3]
        refine pl M66 (y_assign (v := .int .i64 ((i : Int) + 1)) rfl rfl rfl) ?_
        simp only [Act.put, z1, z2, z3]
        refine wpList_nil ?_
        refine ⟨⟨i + 1, E, V2, B2, qv2, bx2, [(us15.getD 0 undef), .int .i64 er, .bool true, .int .i64 (i : Int), .slice aa an ac, .int .i64 (an : Int), .bool true, .bool true, .int .i64 (i : Int), .bool true, .bool true, .int .i64 (i : Int), .int .i64 ((i : Int) + 1), .slice aa an ac, .int .i64 (i : Int), .pointer (some ⟨ga, oa + i * 3, none⟩), .pointer (some ⟨ga, oa + i * 3, none⟩), .int .i64 a.k, .bool true, .tuple #[.int .i64 er, .bool true], .pointer (some ⟨b, 0, none⟩), .pointer (some ⟨p, 0, none⟩), .pointer (some ⟨f, 0, none⟩), .slice aa an ac, .int .i64 (i : Int), .pointer (some ⟨ga, oa + i * 3, none⟩), .agg ((actC a)).toArray, .tuple #[.int .i64 er, .bool true], .int .i64 er, .bool true, .bool true, .bool false], rfl, (by first | exact hB2 | exact hB), ⟨by first | (have := hkept.que; omega) | omega, by omega, by first | (have := hkept.pages; omega) | omega, by first | exact harm2 | exact hqi.2.2.2⟩, ⟨by first | (have := hkept.gen; omega) | omega, by first | (rw [hkept.width]; exact hgi.2) | exact hgi.2⟩, (M66.arr [0, 1, 2] (by decide))⟩, ?_⟩
        simp [intOf]; omega
    · refine pl M57 (y_lss (b := false) rfl rfl rfl rfl (decide_eq_false h61)) ?_
      simp only [Act.put, z1, z2, z3]
      refine pl M57 (y_pickT (v := .bool false) rfl rfl rfl rfl) ?_
      simp only [Act.put, z1, z2, z3]
      refine wpList_nil ?_
      refine hK59 _ _ ?_
      clear hK59
      refine wp_cond_false rfl ?_
      refine wp_exit ?_
      exact hcutK13 _ _ ⟨i, D, V, B, qv, bx, [(us15.getD 0 undef), (us15.getD 1 undef), (us15.getD 2 undef), .int .i64 (i : Int), .slice aa an ac, .int .i64 (an : Int), .bool true, .bool true, .int .i64 (i : Int), .bool false, .bool false, (us15.getD 11 undef), (us15.getD 12 undef), (us15.getD 13 undef), (us15.getD 14 undef), (us15.getD 15 undef), (us15.getD 16 undef), (us15.getD 17 undef), (us15.getD 18 undef), (us15.getD 19 undef), (us15.getD 20 undef), (us15.getD 21 undef), (us15.getD 22 undef), (us15.getD 23 undef), (us15.getD 24 undef), (us15.getD 25 undef), (us15.getD 26 undef), (us15.getD 27 undef), (us15.getD 28 undef), (us15.getD 29 undef), (us15.getD 30 undef), (us15.getD 31 undef)], rfl, hB, hqi, hgi, (M57.arr [0, 1, 2] (by decide))⟩
  · refine pl M57 (y_lss (b := false) rfl rfl rfl rfl (decide_eq_false h60)) ?_
    simp only [Act.put, z1, z2, z3]
    refine pl M57 (y_move (v := .bool false) rfl rfl rfl) ?_
    simp only [Act.put, z1, z2, z3]
    with_reducible refine pskip ?_ ?_
    · rfl
    simp only [Act.put, z1, z2, z3]
    with_reducible refine pskip ?_ ?_
    · rfl
    simp only [Act.put, z1, z2, z3]
    refine pl M57 (y_pickF (v := .bool false) rfl rfl rfl rfl) ?_
    simp only [Act.put, z1, z2, z3]
    refine wpList_nil ?_
    refine hK59 _ _ ?_
    clear hK59
    refine wp_cond_false rfl ?_
    refine wp_exit ?_
    exact hcutK13 _ _ ⟨i, D, V, B, qv, bx, [(us15.getD 0 undef), (us15.getD 1 undef), (us15.getD 2 undef), .int .i64 (i : Int), .slice aa an ac, .int .i64 (an : Int), .bool false, .bool false, undef, undef, .bool false, (us15.getD 11 undef), (us15.getD 12 undef), (us15.getD 13 undef), (us15.getD 14 undef), (us15.getD 15 undef), (us15.getD 16 undef), (us15.getD 17 undef), (us15.getD 18 undef), (us15.getD 19 undef), (us15.getD 20 undef), (us15.getD 21 undef), (us15.getD 22 undef), (us15.getD 23 undef), (us15.getD 24 undef), (us15.getD 25 undef), (us15.getD 26 undef), (us15.getD 27 undef), (us15.getD 28 undef), (us15.getD 29 undef), (us15.getD 30 undef), (us15.getD 31 undef)], rfl, hB, hqi, hgi, (M57.arr [0, 1, 2] (by decide))⟩
end Go.Proofs.Ytehnnnohoaapdaa

/- The law FileBurst. -/
namespace Go.Proofs.Ytehnnnohoaapdaa
open Go Go.RowKit
set_option linter.unusedVariables false
set_option linter.unusedSimpArgs false
set_option maxRecDepth 100000 in
set_option maxHeartbeats 4000000 in
theorem burst_nofit (pages width : Int) (aa : Option Addr) (an ac : Nat) (pge bit pv : Int) (hf : ¬ Fits pages width) (w : World) : Calls Try.prog 6 #[.int .i64 pages, .int .i64 width, .slice aa an ac, .int .i64 pge, .int .i64 bit, .int .u32 pv] w fun e w' => e = .returned (.bool true) ∧ Mem w [] w' [] := by
  have M := Mem.nil w
  go_enter Try.func6, Try.ntmps6
  refine wp_seq_k (fun K1 hK1 => ?_)
  refine wp_region_lit ?_
  refine pl M (y_assign (v := .bool false) rfl rfl rfl) ?_
  simp only [Act.put, z1, z2, z3]
  refine wpList_nil ?_
  refine hK1 _ _ ?_
  clear hK1
  refine wp_seq_k (fun K2 hK2 => ?_)
  refine wp_seq_k (fun K3 hK3 => ?_)
  refine wp_region_lit ?_
  refine pl M (y_move (v := .int .i64 pages) rfl rfl rfl) ?_
  simp only [Act.put, z1, z2, z3]
  refine pl M (y_move (v := .int .i64 width) rfl rfl rfl) ?_
  simp only [Act.put, z1, z2, z3]
  refine pe rfl (fun K hK => ?_)
  refine e_call 11 [.int .i64 pages, .int .i64 width] rfl rfl Try.call11 (fits_any pages width _) ?_
  rintro e w4 ⟨rfl, H4⟩
  have M4 : Mem w [] w4 [] := M.step H4
  rw [(decide_eq_false hf)]
  refine ⟨_, rfl, ?_⟩
  refine hK.out _ _ ?_
  clear hK K
  simp only [Act.put, z1, z2, z3]
  refine pl M4 (y_not rfl rfl rfl rfl) ?_
  simp only [Act.put, z1, z2, z3]
  refine wpList_nil ?_
  refine hK3 _ _ ?_
  clear hK3
  refine wp_cond_true rfl ?_
  refine wp_seq_k (fun K5 hK5 => ?_)
  refine wp_region_lit ?_
  refine pl M4 (y_assign (v := .bool true) rfl rfl rfl) ?_
  simp only [Act.put, z1, z2, z3]
  refine wpList_nil ?_
  refine hK5 _ _ ?_
  clear hK5
  refine wp_ret ?_
  try simp only [Exit.inBlock, Exit.then]
  refine bodyPost_ret (v := .bool true) (res1 rfl rfl) rfl ?_
  exact ⟨rfl, M4.arr [] (by decide)⟩
theorem burst_walk {w : World} (pages width : Int) (aa : Option Addr) (an ac : Nat) (avs : List AV) (hacts : ListIn actC 3 w aa an avs) (hok : ∀ a ∈ avs, ActIn w a) (han : an ≤ 4611686018427387904) (pge bit : Int) (pv : Int) (hpv : 0 ≤ pv ∧ pv ≤ 4294967295) : Calls Try.prog 6 #[.int .i64 pages, .int .i64 width, .slice aa an ac, .int .i64 pge, .int .i64 bit, .int .u32 pv] w fun e w' => e = .returned (.bool true) ∧ Below w.heap.size w w' := by
  have fin : Calls Try.prog 6 #[.int .i64 pages, .int .i64 width, .slice aa an ac, .int .i64 pge, .int .i64 bit, .int .u32 pv] w (fun e w' => e = .returned (.bool true) ∧ Mem w [] w' []) := by
    by_cases hf : Fits pages width
    · obtain ⟨h1, h2, h3, h4⟩ := hf
      obtain ⟨k, rfl⟩ := Int.eq_ofNat_of_zero_le (show 0 ≤ pages by omega)
      exact (by
        obtain ⟨x, rfl⟩ : ∃ x : UInt32, pv = (x.toNat : Int) := ⟨UInt32.ofNat pv.toNat, by rw [UInt32.toNat_ofNat']; omega⟩
        by_cases hx : x = 0
        · subst hx
          exact burst_b k width ⟨by omega, by omega⟩ ⟨h3, h4⟩ aa an ac avs hacts hok han pge bit
        · exact burst_a k width ⟨by omega, by omega⟩ ⟨h3, h4⟩ aa an ac avs hacts hok han pge bit x hx)
    · exact burst_nofit pages width aa an ac pge bit pv hf w
  refine fin.mono ?_
  rintro e w' ⟨rfl, h⟩
  exact ⟨rfl, h.below⟩
end Go.Proofs.Ytehnnnohoaapdaa
