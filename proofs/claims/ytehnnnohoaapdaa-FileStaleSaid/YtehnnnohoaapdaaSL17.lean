/- Texts joined: Law121, Law122, Law12. -/
import Derived.Test.YtehnnnohoaapdaaSL16
/- The law FileStale: case 1. -/
namespace Go.Proofs.Ytehnnnohoaapdaa
open Go Go.RowKit
set_option linter.unusedVariables false
set_option linter.unusedSimpArgs false
set_option maxRecDepth 100000 in
set_option maxHeartbeats 800000 in
theorem stale_fit1 {w : World} (k : Nat) (width : Int) (hn : 3 ≤ k ∧ k ≤ 64) (hw : 1 ≤ width ∧ width ≤ 32) (aa : Option Addr) (an ac : Nat) (avs : List AV) (hacts : ListIn actC 3 w aa an avs) (hok : ∀ a ∈ avs, ActIn w a) (han : an ≤ 4611686018427387904) (how n : Int) (la : Option Addr) (ln lc : Nat) (ll : List UInt8) (hlr : Row w la ln ll) (hlm : ln ≤ 140737488351232) (hj : how % 3 = 1) : Calls Try.prog 9 #[.int .i64 (k : Int), .int .i64 width, .slice aa an ac, .int .i64 how, .int .i64 n, .slice la ln lc] w fun e w' => e = .returned (.bool true) ∧ Mem w [] w' [] := by
  have M := Mem.nil w
  have hal := hacts.1
  go_enter Try.func9, Try.ntmps9
  refine wp_seq_k (fun K1 hK1 => ?_)
  refine wp_region_lit ?_
  refine pl M (y_assign (v := .bool false) rfl rfl rfl) ?_
  simp only [Act.put, z1, z2, z3]
  refine wpList_nil ?_
  refine hK1 _ _ ?_
  clear hK1
  refine wp_seq_k (fun K2 hK2 => ?_)
  refine wp_seq_k (fun K3 hK3 => ?_)
  refine wp_region_lit ?_
  refine pl M (y_move (v := .int .i64 (k : Int)) rfl rfl rfl) ?_
  simp only [Act.put, z1, z2, z3]
  refine pl M (y_move (v := .int .i64 width) rfl rfl rfl) ?_
  simp only [Act.put, z1, z2, z3]
  refine pe rfl (fun K hK => ?_)
  refine e_call 11 [.int .i64 (k : Int), .int .i64 width] rfl rfl Try.call11 (fits_any (k : Int) width _) ?_
  rintro e w4 ⟨rfl, H4⟩
  have M4 : Mem w [] w4 [] := M.step H4
  rw [(fits_yes hn hw)]
  refine ⟨_, rfl, ?_⟩
  refine hK.out _ _ ?_
  clear hK K
  simp only [Act.put, z1, z2, z3]
  refine pl M4 (y_not rfl rfl rfl rfl) ?_
  simp only [Act.put, z1, z2, z3]
  refine wpList_nil ?_
  refine hK3 _ _ ?_
  clear hK3
  refine wp_cond_false rfl ?_
  refine wp_skip ?_
  refine hK2 _ _ ?_
  clear hK2
  refine wp_seq_k (fun K5 hK5 => ?_)
  refine wp_region_lit ?_
  refine pl M4 (y_move (v := .int .i64 (k : Int)) rfl rfl rfl) ?_
  simp only [Act.put, z1, z2, z3]
  refine pl M4 (y_move (v := .int .i64 width) rfl rfl rfl) ?_
  simp only [Act.put, z1, z2, z3]
  refine pe rfl (fun K hK => ?_)
  refine e_call 22 [.int .i64 (k : Int), .int .i64 width] rfl rfl Try.call22 (fresh_any k width hn hw _) ?_
  rintro e w6 ⟨p, pg, mb, qv0, f, D0, m, rfl, H6, hI0, hq0, ha0, hp0⟩
  have M6 : Mem w [] w6 [disk D0 p pg mb qv0, blk f 96 (fC (⟨secondS width k, 2, m⟩ : FV) p)] := M4.step H6
  refine ⟨_, rfl, ?_⟩
  refine hK.out _ _ ?_
  clear hK K
  simp only [Act.put, z1, z2, z3]
  refine pl M6 (y_move (v := .tuple #[.pointer (some ⟨p, 0, none⟩), .pointer (some ⟨f, 0, none⟩)]) rfl rfl rfl) ?_
  simp only [Act.put, z1, z2, z3]
  refine pl M6 (y_ext (v := .pointer (some ⟨p, 0, none⟩)) rfl rfl rfl rfl) ?_
  simp only [Act.put, z1, z2, z3]
  refine pl M6 (y_ext (v := .pointer (some ⟨f, 0, none⟩)) rfl rfl rfl rfl) ?_
  simp only [Act.put, z1, z2, z3]
  refine pl M6 (y_assign (v := .pointer (some ⟨p, 0, none⟩)) rfl rfl rfl) ?_
  simp only [Act.put, z1, z2, z3]
  refine pl M6 (y_assign (v := .pointer (some ⟨f, 0, none⟩)) rfl rfl rfl) ?_
  simp only [Act.put, z1, z2, z3]
  refine wpList_nil ?_
  refine hK5 _ _ ?_
  clear hK5
  refine wp_seq_k (fun K7 hK7 => ?_)
  refine wp_seq_k (fun K8 hK8 => ?_)
  refine wp_region_lit ?_
  refine pl M6 (y_move (v := .pointer (some ⟨f, 0, none⟩)) rfl rfl rfl) ?_
  simp only [Act.put, z1, z2, z3]
  refine pl M6 (y_eqnil (r := false) rfl rfl rfl rfl Try.underlying33 rfl) ?_
  simp only [Act.put, z1, z2, z3]
  refine wpList_nil ?_
  refine hK8 _ _ ?_
  clear hK8
  refine wp_cond_false rfl ?_
  refine wp_skip ?_
  refine hK7 _ _ ?_
  clear hK7
  refine wp_seq_k (fun K9 hK9 => ?_)
  refine wp_region_lit ?_
  refine pl M6 (y_build (ps := [(2, .const (.int .i64 2)), (3, .const (.int .i64 1))]) (pv := [(2, .int .i64 2), (3, .int .i64 1)]) (cs := (bC (⟨[], 2, 1, 0, 0, 0⟩ : BV) (⟨.slice none 0 0, .slice none 0 0, []⟩ : BX))) rfl rfl rfl (by kernel_rfl)) ?_
  simp only [Act.put, z1, z2, z3]
  refine pe rfl (fun K hK => ?_)
  refine e_box M6 (bC (⟨[], 2, 1, 0, 0, 0⟩ : BV) (⟨.slice none 0 0, .slice none 0 0, []⟩ : BX)) rfl rfl ?_
  intro b w10 (M10 : Mem w [] w10 [blk b 48 (bC (⟨[], 2, 1, 0, 0, 0⟩ : BV) (⟨.slice none 0 0, .slice none 0 0, []⟩ : BX)), disk D0 p pg mb qv0, blk f 96 (fC (⟨secondS width k, 2, m⟩ : FV) p)])
  clear M6
  refine hK.out _ _ ?_
  clear hK K
  simp only [Act.put, z1, z2, z3]
  have M11 : Mem w [] w10 [blk b 48 (bC (⟨[], 2, 1, 0, 0, 0⟩ : BV) (⟨.slice none 0 0, .slice none 0 0, []⟩ : BX)), disk D0 p pg mb qv0, blk f 96 (fC (⟨secondS width k, 2, m⟩ : FV) p)] := M10.arr [0, 1, 2] (by decide)
  clear M10
  have M12 : Mem w [] w10 [book (⟨[], 2, 1, 0, 0, 0⟩ : BV) b (⟨.slice none 0 0, .slice none 0 0, []⟩ : BX), disk D0 p pg mb qv0, blk f 96 (fC (⟨secondS width k, 2, m⟩ : FV) p)] := book_new M11
  clear M11
  refine pl M12 (y_assign (v := .pointer (some ⟨b, 0, none⟩)) rfl rfl rfl) ?_
  simp only [Act.put, z1, z2, z3]
  refine wpList_nil ?_
  refine hK9 _ _ ?_
  clear hK9
  refine wp_seq_k (fun K13 hK13 => ?_)
  refine wp_seq_k (fun K14 hK14 => ?_)
  refine wp_region_lit ?_
  refine pl M12 (y_assign (v := .int .i64 0) rfl rfl rfl) ?_
  simp only [Act.put, z1, z2, z3]
  refine wpList_nil ?_
  refine hK14 _ _ ?_
  clear hK14
  have hBI : BInv D0 (⟨secondS width k, 2, m⟩ : FV) (⟨[], 2, 1, 0, 0, 0⟩ : BV) := ⟨hI0, rfl, rfl, rfl, rfl, Nat.zero_le _⟩
  have hcutK13 : ∀ a' w', (fun a' w' => ∃ (i : Nat) (D : DV) (V : FV) (B : BV) (qv : Value) (bx : BX) (us15 : List Value), a' = (⟨#[.int .i64 (k : Int), .int .i64 width, .slice aa an ac, .int .i64 how, .int .i64 n, .slice la ln lc, undef, undef, undef, undef, undef, undef, (us15.getD 0 undef), .pointer (some ⟨p, 0, none⟩), .pointer (some ⟨f, 0, none⟩), .pointer (some ⟨b, 0, none⟩), .int .i64 (i : Int), (us15.getD 1 undef), (us15.getD 2 undef), undef, undef, undef, undef, undef, undef, undef, undef, undef, undef, undef, undef, undef, .int .i64 (k : Int), .int .i64 width, .bool true, .bool false, .tuple #[.pointer (some ⟨p, 0, none⟩), .pointer (some ⟨f, 0, none⟩)], .int .i64 (k : Int), .int .i64 width, .tuple #[.pointer (some ⟨p, 0, none⟩), .pointer (some ⟨f, 0, none⟩)], .pointer (some ⟨p, 0, none⟩), .pointer (some ⟨f, 0, none⟩), .pointer (some ⟨f, 0, none⟩), .bool false, .agg ((bC (⟨[], 2, 1, 0, 0, 0⟩ : BV) (⟨.slice none 0 0, .slice none 0 0, []⟩ : BX))).toArray, .pointer (some ⟨b, 0, none⟩), (us15.getD 3 undef), (us15.getD 4 undef), (us15.getD 5 undef), (us15.getD 6 undef), (us15.getD 7 undef), (us15.getD 8 undef), (us15.getD 9 undef), (us15.getD 10 undef), (us15.getD 11 undef), (us15.getD 12 undef), (us15.getD 13 undef), (us15.getD 14 undef), (us15.getD 15 undef), (us15.getD 16 undef), (us15.getD 17 undef), (us15.getD 18 undef), (us15.getD 19 undef), (us15.getD 20 undef), (us15.getD 21 undef), (us15.getD 22 undef), (us15.getD 23 undef), (us15.getD 24 undef), (us15.getD 25 undef), (us15.getD 26 undef), (us15.getD 27 undef), (us15.getD 28 undef), (us15.getD 29 undef), (us15.getD 30 undef), (us15.getD 31 undef), undef, undef, undef, undef, undef, undef, undef, undef, undef, undef, undef, undef, undef, undef, undef, undef, undef, undef, undef, undef, undef, undef, undef, undef, undef, undef, undef, undef, undef, undef, undef, undef, undef, undef, undef, undef, undef, undef, undef, undef, undef, undef, undef, undef, undef, undef, undef, undef, undef, undef, undef, undef, undef, undef, undef, undef, undef, undef, undef, undef, undef, undef, undef, undef, undef, undef, undef, undef, undef, undef, undef, undef, undef, undef, undef, undef, undef, undef, undef, undef, undef, undef, undef, undef, undef, undef, undef, undef, undef, undef, undef, undef, undef, undef, undef, undef, undef, undef, undef, undef, undef, undef, undef, undef, undef, undef, undef, undef, undef, undef, undef, undef, undef, undef, undef, undef, undef, undef, undef, undef, undef, undef, undef, undef, undef, undef, undef, undef, undef, undef, undef, undef, undef, undef, undef, undef, undef, undef, undef, undef, undef, undef, undef, undef, undef], []⟩ : Act) ∧ (BInv D V B) ∧ (D.q.length ≤ i ∧ i ≤ 60 ∧ D.pages.length = k ∧ D.armed = 0) ∧ (V.s.gen ≤ 1 + i ∧ V.s.width = width) ∧ Mem w [] w' [disk D p pg mb qv, blk f 96 (fC V p), book B b bx]) a' w' → K13 a' w' := by
    clear M12
    rintro a' w16 ⟨i, D, V, B, qv, bx, us15, rfl, hB, hqi, hgi, M16⟩
    refine hK13 _ _ ?_
    clear hK13
    refine wp_seq_k (fun K17 hK17 => ?_)
    refine wp_region_lit ?_
    refine pl M16 (y_move (v := .pointer (some ⟨f, 0, none⟩)) rfl rfl rfl) ?_
    simp only [Act.put, z1, z2, z3]
    have hX18 : Mem w [] w16 ([disk D p pg mb qv, blk f 96 (fC V p)] ++ [book B b bx]) := M16.arr [0, 1, 2] (by decide)
    refine pe rfl (fun K hK => ?_)
    refine e_call 19 [.pointer (some ⟨f, 0, none⟩)] rfl rfl Try.call19 (super_any (Mem.here hX18)) ?_
    rintro e w18 ⟨rfl, H18⟩
    have M18 : Mem w [] w18 [disk D p pg mb qv, blk f 96 (fC V p), book B b bx] := Mem.frame hX18 H18
    refine ⟨_, rfl, ?_⟩
    refine hK.out _ _ ?_
    clear hK K
    simp only [Act.put, z1, z2, z3]
    refine pe rfl (fun K hK => ?_)
    refine e_alloc M18 (supC noSup) rfl zero_sup ?_
    intro g19 w19 (M19 : Mem w [] w19 [blk g19 37 (supC noSup), disk D p pg mb qv, blk f 96 (fC V p), book B b bx])
    clear M18
    refine hK.out _ _ ?_
    clear hK K
    simp only [Act.put, z1, z2, z3]
    refine pe rfl (fun K hK => ?_)
    refine e_storew M19 0 (cs := (supC V.s)) rfl rfl rfl rfl (size_sup _) (sup_all _) rfl (rfl) ?_
    intro w20 (M20 : Mem w [] w20 [blk g19 37 (supC V.s), disk D p pg mb qv, blk f 96 (fC V p), book B b bx])
    clear M19
    refine hK.out _ _ ?_
    clear hK K
    simp only [Act.put, z1, z2, z3]
    refine wpList_nil ?_
    refine hK17 _ _ ?_
    clear hK17
    refine wp_seq_k (fun K21 hK21 => ?_)
    refine wp_region_lit ?_
    refine pl M20 (y_move (v := .pointer (some ⟨f, 0, none⟩)) rfl rfl rfl) ?_
    simp only [Act.put, z1, z2, z3]
    have hX22 : Mem w [] w20 ([disk D p pg mb qv, blk f 96 (fC V p)] ++ [blk g19 37 (supC V.s), book B b bx]) := M20.arr [1, 2, 0, 3] (by decide)
    refine pe rfl (fun K hK => ?_)
    refine e_call 20 [.pointer (some ⟨f, 0, none⟩)] rfl rfl Try.call20 (next_any (Mem.here hX22)) ?_
    rintro e w22 ⟨rfl, H22⟩
    have M22 : Mem w [] w22 [disk D p pg mb qv, blk f 96 (fC V p), blk g19 37 (supC V.s), book B b bx] := Mem.frame hX22 H22
    refine ⟨_, rfl, ?_⟩
    refine hK.out _ _ ?_
    clear hK K
    simp only [Act.put, z1, z2, z3]
    refine pl M22 (y_assign (v := .int .i64 V.next) rfl rfl rfl) ?_
    simp only [Act.put, z1, z2, z3]
    refine wpList_nil ?_
    refine hK21 _ _ ?_
    clear hK21
    refine wp_seq_k (fun K23 hK23 => ?_)
    refine wp_seq_k (fun K24 hK24 => ?_)
    refine wp_region_lit ?_
    refine pl M22 (y_move (v := .pointer (some ⟨f, 0, none⟩)) rfl rfl rfl) ?_
    simp only [Act.put, z1, z2, z3]
    have hX25 : Mem w [] w22 ([disk D p pg mb qv, blk f 96 (fC V p)] ++ [blk g19 37 (supC V.s), book B b bx]) := M22.arr [0, 1, 2, 3] (by decide)
    refine pe rfl (fun K hK => ?_)
    refine e_call 21 [.pointer (some ⟨f, 0, none⟩)] rfl rfl Try.call21 (live_ok (Mem.here hX25) hB.inv) ?_
    rintro e w25 ⟨rfl, H25⟩
    have M25 : Mem w [] w25 [disk D p pg mb qv, blk f 96 (fC V p), blk g19 37 (supC V.s), book B b bx] := Mem.frame hX25 H25
    refine ⟨_, rfl, ?_⟩
    refine hK.out _ _ ?_
    clear hK K
    simp only [Act.put, z1, z2, z3]
    refine pl M25 (y_neq (b := false) rfl rfl rfl rfl (by rw [decide_eq_true (by decide)]; rfl)) ?_
    simp only [Act.put, z1, z2, z3]
    refine wpList_nil ?_
    refine hK24 _ _ ?_
    clear hK24
    refine wp_cond_false rfl ?_
    refine wp_skip ?_
    refine hK23 _ _ ?_
    clear hK23
    refine wp_seq_k (fun K26 hK26 => ?_)
    refine wp_region_lit ?_
    refine pl M25 (y_move (v := .pointer (some ⟨f, 0, none⟩)) rfl rfl rfl) ?_
    simp only [Act.put, z1, z2, z3]
    refine pl M25 (y_assign (v := .pointer (some ⟨f, 0, none⟩)) rfl rfl rfl) ?_
    simp only [Act.put, z1, z2, z3]
    refine wpList_nil ?_
    refine hK26 _ _ ?_
    clear hK26
    refine wp_seq_k (fun K27 hK27 => ?_)
    refine wp_seq_k (fun K28 hK28 => ?_)
    refine wp_region_lit ?_
    refine pl M25 (y_move (v := .int .i64 how) rfl rfl rfl) ?_
    simp only [Act.put, z1, z2, z3]
    refine pe rfl (fun K hK => ?_)
    refine e_call 13 [.int .i64 how, .int .i64 3] rfl rfl Try.call13 (place3_any how 3 (by decide) (by decide) _) ?_
    rintro e w29 ⟨rfl, H29⟩
    have M29 : Mem w [] w29 [disk D p pg mb qv, blk f 96 (fC V p), blk g19 37 (supC V.s), book B b bx] := M25.step H29
    refine ⟨_, rfl, ?_⟩
    refine hK.out _ _ ?_
    clear hK K
    simp only [Act.put, z1, z2, z3]
    refine wpList_nil ?_
    refine hK28 _ _ ?_
    clear hK28
    refine wp_block ?_
    refine wp_seq_k (fun K30 hK30 => ?_)
    refine wp_region_lit ?_
    refine pl M29 (y_eql (b := false) rfl rfl rfl rfl (decide_eq_false (by omega))) ?_
    simp only [Act.put, z1, z2, z3]
    refine pl M29 (y_assign (v := .bool false) rfl rfl rfl) ?_
    simp only [Act.put, z1, z2, z3]
    refine wpList_nil ?_
    refine hK30 _ _ ?_
    clear hK30
    refine wp_cond_false rfl ?_
    refine wp_seq_k (fun K31 hK31 => ?_)
    refine wp_region_lit ?_
    refine pl M29 (y_eql (b := true) rfl rfl rfl rfl (decide_eq_true hj)) ?_
    simp only [Act.put, z1, z2, z3]
    refine pl M29 (y_assign (v := .bool true) rfl rfl rfl) ?_
    simp only [Act.put, z1, z2, z3]
    refine wpList_nil ?_
    refine hK31 _ _ ?_
    clear hK31
    refine wp_cond_true rfl ?_
    refine wp_seq_k (fun K32 hK32 => ?_)
    refine wp_region_lit ?_
    refine pl M29 (y_move (v := .pointer (some ⟨p, 0, none⟩)) rfl rfl rfl) ?_
    simp only [Act.put, z1, z2, z3]
    have hX33 : Mem w [] w29 ([disk D p pg mb qv] ++ [blk f 96 (fC V p), blk g19 37 (supC V.s), book B b bx]) := M29.arr [0, 1, 2, 3] (by decide)
    refine pe rfl (fun K hK => ?_)
    refine e_call 18 [.pointer (some ⟨p, 0, none⟩)] rfl rfl Try.call18 (open_fit (Mem.here hX33) hB.inv.plat hB.inv.pow) ?_
    rintro e w33 ⟨f2, X, m2, rfl, H33, hI2, hqX, hpX, haX, heX⟩
    have M33 : Mem w [] w33 [disk X p pg mb qv, blk f2 96 (fC (⟨V.s, V.s.mark, m2⟩ : FV) p), blk f 96 (fC V p), blk g19 37 (supC V.s), book B b bx] := Mem.frame hX33 H33
    refine ⟨_, rfl, ?_⟩
    refine hK.out _ _ ?_
    clear hK K
    simp only [Act.put, z1, z2, z3]
    have hst : liveE X V = 3 := stale_of (by rw [heX, hB.inv.live])
    have hfok : FOk X V := hB.inv.fok.of_len (by rw [hpX])
    have hxq : X.q.length ≤ 100 := by rw [hqX]; omega
    have hxk : X.pages.length = k := by rw [hpX]; exact hqi.2.2.1
    have hne : f2 ≠ f := fun e => M33.apart 1 2 (by decide) rfl rfl (b := f2) (by simp [blk]) (by rw [e]; simp [blk])
    refine pl M33 (y_move (v := .tuple #[.pointer (some ⟨f2, 0, none⟩), .int .i64 0]) rfl rfl rfl) ?_
    simp only [Act.put, z1, z2, z3]
    refine pl M33 (y_ext (v := .pointer (some ⟨f2, 0, none⟩)) rfl rfl rfl rfl) ?_
    simp only [Act.put, z1, z2, z3]
    refine pl M33 (y_ext (v := .int .i64 0) rfl rfl rfl rfl) ?_
    simp only [Act.put, z1, z2, z3]
    refine pl M33 (y_assign (v := .pointer (some ⟨f2, 0, none⟩)) rfl rfl rfl) ?_
    simp only [Act.put, z1, z2, z3]
    refine pl M33 (y_assign (v := .int .i64 0) rfl rfl rfl) ?_
    simp only [Act.put, z1, z2, z3]
    refine wpList_nil ?_
    refine hK32 _ _ ?_
    clear hK32
    refine wp_seq_k (fun K34 hK34 => ?_)
    refine wp_seq_k (fun K35 hK35 => ?_)
    have M36 := M33.drew
    refine held_begin (fun W => Mem w [] W [blk g19 37 (supC V.s)]) (by kernel_rfl) (M36.arr [3] (by decide)) (fun hS => ?_)
    refine held_take 0 _ rfl (by kernel_rfl) (by kernel_rfl) (by kernel_rfl) (y_move (v := .int .i64 0) rfl rfl rfl) hS ?_
    simp only [Act.put, z1, z2, z3]
    refine held_take 1 _ rfl (by kernel_rfl) (by kernel_rfl) (by kernel_rfl) (y_neq (b := false) rfl rfl rfl rfl (by rw [decide_eq_true (by decide)]; rfl)) hS ?_
    simp only [Act.put, z1, z2, z3]
    refine held_take 2 _ rfl (by kernel_rfl) (by kernel_rfl) (by kernel_rfl) (y_move (v := .bool false) rfl rfl rfl) hS ?_
    simp only [Act.put, z1, z2, z3]
    refine held_take 3 _ rfl (by kernel_rfl) (by kernel_rfl) (by kernel_rfl) (y_move (v := .pointer (some ⟨f2, 0, none⟩)) rfl rfl rfl) hS ?_
    simp only [Act.put, z1, z2, z3]
    refine held_take 4 _ rfl (by kernel_rfl) (by kernel_rfl) (by kernel_rfl) (y_eqnil (r := false) rfl rfl rfl rfl Try.underlying33 rfl) hS ?_
    simp only [Act.put, z1, z2, z3]
    refine held_take 5 _ rfl (by kernel_rfl) (by kernel_rfl) (by kernel_rfl) (y_pickF (v := .bool false) rfl rfl rfl rfl) hS ?_
    simp only [Act.put, z1, z2, z3]
    refine held_take 6 _ rfl (by kernel_rfl) (by kernel_rfl) (by kernel_rfl) (y_move (v := .bool false) rfl rfl rfl) hS ?_
    simp only [Act.put, z1, z2, z3]
    refine held_take 7 _ rfl (by kernel_rfl) (by kernel_rfl) (by kernel_rfl) (y_move (v := .pointer (some ⟨f2, 0, none⟩)) rfl rfl rfl) hS ?_
    simp only [Act.put, z1, z2, z3]
    have hX37 : Mem w [] w33.drew ([disk X p pg mb qv, blk f2 96 (fC (⟨V.s, V.s.mark, m2⟩ : FV) p)] ++ [blk f 96 (fC V p), blk g19 37 (supC V.s), book B b bx]) := M36.arr [0, 1, 2, 3, 4] (by decide)
    refine held_step 8 (by kernel_rfl) rfl (by rfl) (fun K hK => ?_)
    refine e_call 21 [.pointer (some ⟨f2, 0, none⟩)] rfl rfl Try.call21 (live_ok (Mem.here hX37) hI2) ?_
    rintro e w37 ⟨rfl, H37⟩
    have M37 : Mem w [] w37 [disk X p pg mb qv, blk f2 96 (fC (⟨V.s, V.s.mark, m2⟩ : FV) p), blk f 96 (fC V p), blk g19 37 (supC V.s), book B b bx] := Mem.frame hX37 H37
    refine ⟨_, rfl, ?_⟩
    refine hK.out _ _ (M37.arr [3] (by decide)) (fun hS => ?_)
    clear hK K
    simp only [Act.put, z1, z2, z3]
    refine held_take 9 _ rfl (by kernel_rfl) (by kernel_rfl) (by kernel_rfl) (y_neq (b := false) rfl rfl rfl rfl (by rw [decide_eq_true (by decide)]; rfl)) hS ?_
    simp only [Act.put, z1, z2, z3]
    refine held_take 10 _ rfl (by kernel_rfl) (by kernel_rfl) (by kernel_rfl) (y_pickF (v := .bool false) rfl rfl rfl rfl) hS ?_
    simp only [Act.put, z1, z2, z3]
    refine held_take 11 _ rfl (by kernel_rfl) (by kernel_rfl) (by kernel_rfl) (y_move (v := .bool false) rfl rfl rfl) hS ?_
    simp only [Act.put, z1, z2, z3]
    refine held_take 12 _ rfl (by kernel_rfl) (by kernel_rfl) (by kernel_rfl) (y_move (v := .pointer (some ⟨f2, 0, none⟩)) rfl rfl rfl) hS ?_
    simp only [Act.put, z1, z2, z3]
    refine held_take 14 _ rfl (by kernel_rfl) (by kernel_rfl) (by kernel_rfl) (y_loadb (cs := (supC V.s)) rfl rfl rfl Try.underlying37 rfl (size_sup _) (fun W hW => hW.get 0 rfl) (List.take_of_length_le (Nat.le_refl _))) hS ?_
    simp only [Act.put, z1, z2, z3]
    have hX38 : Mem w [] w37 ([disk X p pg mb qv, blk f2 96 (fC (⟨V.s, V.s.mark, m2⟩ : FV) p)] ++ [blk f 96 (fC V p), blk g19 37 (supC V.s), book B b bx]) := M37.arr [0, 1, 2, 3, 4] (by decide)
    refine held_step 13 (by kernel_rfl) rfl (by rfl) (fun K hK => ?_)
    refine e_call 19 [.pointer (some ⟨f2, 0, none⟩)] rfl rfl Try.call19 (super_any (Mem.here hX38)) ?_
    rintro e w38 ⟨rfl, H38⟩
    have M38 : Mem w [] w38 [disk X p pg mb qv, blk f2 96 (fC (⟨V.s, V.s.mark, m2⟩ : FV) p), blk f 96 (fC V p), blk g19 37 (supC V.s), book B b bx] := Mem.frame hX38 H38
    refine ⟨_, rfl, ?_⟩
    refine hK.out _ _ (M38.arr [3] (by decide)) (fun hS => ?_)
    clear hK K
    simp only [Act.put, z1, z2, z3]
    refine held_take 15 _ rfl (by kernel_rfl) (by kernel_rfl) (by kernel_rfl) (y_nes (r := false) rfl rfl rfl rfl sup_guard (fun W => sup_same _ W)) hS ?_
    simp only [Act.put, z1, z2, z3]
    refine held_take 16 _ rfl (by kernel_rfl) (by kernel_rfl) (by kernel_rfl) (y_pickF (v := .bool false) rfl rfl rfl rfl) hS ?_
    simp only [Act.put, z1, z2, z3]
    refine held_done (by kernel_rfl) ?_ _
    refine hK35 _ _ ?_
    clear hK35
    refine wp_cond_false rfl ?_
    refine wp_skip ?_
    refine hK34 _ _ ?_
    clear hK34
    refine wp_region_lit ?_
    refine pl M38 (y_move (v := .pointer (some ⟨f2, 0, none⟩)) rfl rfl rfl) ?_
    simp only [Act.put, z1, z2, z3]
    refine pl M38 (y_assign (v := .pointer (some ⟨f2, 0, none⟩)) rfl rfl rfl) ?_
    simp only [Act.put, z1, z2, z3]
    refine wpList_nil ?_
    refine hK27 _ _ ?_
    clear hK27
    refine wp_seq_k (fun K39 hK39 => ?_)
    refine wp_region_lit ?_
    refine pl M38 (y_move (v := .pointer (some ⟨p, 0, none⟩)) rfl rfl rfl) ?_
    simp only [Act.put, z1, z2, z3]
    have hX40 : Mem w [] w38 ([disk X p pg mb qv] ++ [blk f2 96 (fC (⟨V.s, V.s.mark, m2⟩ : FV) p), blk f 96 (fC V p), blk g19 37 (supC V.s), book B b bx]) := M38.arr [0, 1, 2, 3, 4] (by decide)
    refine pe rfl (fun K hK => ?_)
    refine e_call 30 [.pointer (some ⟨p, 0, none⟩)] rfl rfl Try.call30 (image_fit (Mem.here hX40) hxk (by omega)) ?_
    rintro e w40 ⟨gi1, ci1, rfl, H40, hci1, hcm1⟩
    have M40 : Mem w [] w40 [disk X p pg mb qv, lst 5 1 (.slice (some ⟨gi1, 0, none⟩) (256 * k) ci1) (256 * k) (bvs X.pages.flatten), blk f2 96 (fC (⟨V.s, V.s.mark, m2⟩ : FV) p), blk f 96 (fC V p), blk g19 37 (supC V.s), book B b bx] := Mem.frame hX40 H40
    refine ⟨_, rfl, ?_⟩
    refine hK.out _ _ ?_
    clear hK K
    simp only [Act.put, z1, z2, z3]
    refine pl M40 (y_assign (v := .slice (some ⟨gi1, 0, none⟩) (256 * k) ci1) rfl rfl rfl) ?_
    simp only [Act.put, z1, z2, z3]
    refine wpList_nil ?_
    refine hK39 _ _ ?_
    clear hK39
    refine wp_seq_k (fun K41 hK41 => ?_)
    refine wp_region_lit ?_
    refine pl M40 (y_move (v := .pointer (some ⟨p, 0, none⟩)) rfl rfl rfl) ?_
    simp only [Act.put, z1, z2, z3]
    refine pl M40 (y_nil rfl rfl rfl) ?_
    simp only [Act.put, z1, z2, z3]
    refine pl M40 (y_fa (r := 0) rfl rfl rfl Try.underlying60 rfl Try.sizeOf55 rfl) ?_
    simp only [Act.put, z1, z2, z3]
    have hX42 : Mem w [] w40 ([disk X p pg mb qv] ++ [lst 5 1 (.slice (some ⟨gi1, 0, none⟩) (256 * k) ci1) (256 * k) (bvs X.pages.flatten), blk f2 96 (fC (⟨V.s, V.s.mark, m2⟩ : FV) p), blk f 96 (fC V p), blk g19 37 (supC V.s), book B b bx]) := M40.arr [0, 1, 2, 3, 4, 5] (by decide)
    refine pe rfl (fun K hK => ?_)
    refine e_call 23 [.pointer (some ⟨p, 0, none⟩)] rfl rfl Try.call23 (counts_any (Mem.here hX42)) ?_
    rintro e w42 ⟨rfl, H42⟩
    have M42 : Mem w [] w42 [disk X p pg mb qv, lst 5 1 (.slice (some ⟨gi1, 0, none⟩) (256 * k) ci1) (256 * k) (bvs X.pages.flatten), blk f2 96 (fC (⟨V.s, V.s.mark, m2⟩ : FV) p), blk f 96 (fC V p), blk g19 37 (supC V.s), book B b bx] := Mem.frame hX42 H42
    refine ⟨_, rfl, ?_⟩
    refine hK.out _ _ ?_
    clear hK K
    simp only [Act.put, z1, z2, z3]
    refine pe rfl (fun K hK => ?_)
    refine e_alloc M42 ([.int .i64 0, .int .i64 0, .int .i64 0, .int .i64 0]) rfl Try.zeroValue52 ?_
    intro c25 w43 (M43 : Mem w [] w43 [blk c25 52 ([.int .i64 0, .int .i64 0, .int .i64 0, .int .i64 0]), disk X p pg mb qv, lst 5 1 (.slice (some ⟨gi1, 0, none⟩) (256 * k) ci1) (256 * k) (bvs X.pages.flatten), blk f2 96 (fC (⟨V.s, V.s.mark, m2⟩ : FV) p), blk f 96 (fC V p), blk g19 37 (supC V.s), book B b bx])
    clear M42
    refine hK.out _ _ ?_
    clear hK K
    simp only [Act.put, z1, z2, z3]
    refine pe rfl (fun K hK => ?_)
    refine e_storew M43 0 (cs := (cntC X)) rfl rfl rfl rfl size_cnt (list_all _ rfl) rfl (rfl) ?_
    intro w44 (M44 : Mem w [] w44 [blk c25 52 (cntC X), disk X p pg mb qv, lst 5 1 (.slice (some ⟨gi1, 0, none⟩) (256 * k) ci1) (256 * k) (bvs X.pages.flatten), blk f2 96 (fC (⟨V.s, V.s.mark, m2⟩ : FV) p), blk f 96 (fC V p), blk g19 37 (supC V.s), book B b bx])
    clear M43
    refine hK.out _ _ ?_
    clear hK K
    simp only [Act.put, z1, z2, z3]
    refine wpList_nil ?_
    refine hK41 _ _ ?_
    clear hK41
    refine wp_seq_k (fun K45 hK45 => ?_)
    refine wp_region_lit ?_
    refine pl M44 (y_move (v := .pointer (some ⟨f, 0, none⟩)) rfl rfl rfl) ?_
    simp only [Act.put, z1, z2, z3]
    refine pl M44 (y_move (v := .int .i64 n) rfl rfl rfl) ?_
    simp only [Act.put, z1, z2, z3]
    refine pl M44 (y_move (v := .slice la ln lc) rfl rfl rfl) ?_
    simp only [Act.put, z1, z2, z3]
    have hX46 : Mem w [] w44 ([disk X p pg mb qv, blk f 96 (fC V p)] ++ [blk c25 52 (cntC X), lst 5 1 (.slice (some ⟨gi1, 0, none⟩) (256 * k) ci1) (256 * k) (bvs X.pages.flatten), blk f2 96 (fC (⟨V.s, V.s.mark, m2⟩ : FV) p), blk g19 37 (supC V.s), book B b bx]) := M44.arr [1, 4, 0, 2, 3, 5, 6] (by decide)
    refine pe rfl (fun K hK => ?_)
    refine e_call 26 [.pointer (some ⟨f, 0, none⟩), .int .i64 n, .slice la ln lc] rfl rfl Try.call26 (app_stale (Mem.here hX46) hst hfok n la ln lc ll (M44.row hlr (by simp)) (hX46.left.off_row hlr) (by omega)) ?_
    rintro e w46 ⟨qa, rfl, H46⟩
    have M46 : Mem w [] w46 [disk X p pg mb qa, blk f 96 (fC V p), blk c25 52 (cntC X), lst 5 1 (.slice (some ⟨gi1, 0, none⟩) (256 * k) ci1) (256 * k) (bvs X.pages.flatten), blk f2 96 (fC (⟨V.s, V.s.mark, m2⟩ : FV) p), blk g19 37 (supC V.s), book B b bx] := Mem.frame hX46 H46
    refine ⟨_, rfl, ?_⟩
    refine hK.out _ _ ?_
    clear hK K
    simp only [Act.put, z1, z2, z3]
    refine pl M46 (y_move (v := .tuple #[.int .i64 0, .int .i64 3]) rfl rfl rfl) ?_
    simp only [Act.put, z1, z2, z3]
    refine pl M46 (y_ext (v := .int .i64 0) rfl rfl rfl rfl) ?_
    simp only [Act.put, z1, z2, z3]
    refine pl M46 (y_ext (v := .int .i64 3) rfl rfl rfl rfl) ?_
    simp only [Act.put, z1, z2, z3]
    refine pl M46 (y_assign (v := .int .i64 0) rfl rfl rfl) ?_
    simp only [Act.put, z1, z2, z3]
    refine pl M46 (y_assign (v := .int .i64 3) rfl rfl rfl) ?_
    simp only [Act.put, z1, z2, z3]
    refine wpList_nil ?_
    refine hK45 _ _ ?_
    clear hK45
    refine wp_seq_k (fun K47 hK47 => ?_)
    refine wp_region_lit ?_
    refine pl M46 (y_move (v := .pointer (some ⟨f, 0, none⟩)) rfl rfl rfl) ?_
    simp only [Act.put, z1, z2, z3]
    refine pl M46 (y_move (v := .int .i64 n) rfl rfl rfl) ?_
    simp only [Act.put, z1, z2, z3]
    have hX48 : Mem w [] w46 ([disk X p pg mb qa, blk f 96 (fC V p)] ++ [blk c25 52 (cntC X), lst 5 1 (.slice (some ⟨gi1, 0, none⟩) (256 * k) ci1) (256 * k) (bvs X.pages.flatten), blk f2 96 (fC (⟨V.s, V.s.mark, m2⟩ : FV) p), blk g19 37 (supC V.s), book B b bx]) := M46.arr [0, 1, 2, 3, 4, 5, 6] (by decide)
    refine pe rfl (fun K hK => ?_)
    refine e_call 25 [.pointer (some ⟨f, 0, none⟩), .int .i64 n] rfl rfl Try.call25 (read_stale (Mem.here hX48) hst hfok n) ?_
    rintro e w48 ⟨a3, c3, rfl, H48⟩
    have M48 : Mem w [] w48 [disk X p pg mb qa, blk f 96 (fC V p), blk c25 52 (cntC X), lst 5 1 (.slice (some ⟨gi1, 0, none⟩) (256 * k) ci1) (256 * k) (bvs X.pages.flatten), blk f2 96 (fC (⟨V.s, V.s.mark, m2⟩ : FV) p), blk g19 37 (supC V.s), book B b bx] := Mem.frame hX48 H48
    refine ⟨_, rfl, ?_⟩
    refine hK.out _ _ ?_
    clear hK K
    simp only [Act.put, z1, z2, z3]
    refine pl M48 (y_move (v := .tuple #[.int .i64 0, .slice a3 0 c3, .int .i64 3]) rfl rfl rfl) ?_
    simp only [Act.put, z1, z2, z3]
    refine pl M48 (y_ext (v := .int .i64 0) rfl rfl rfl rfl) ?_
    simp only [Act.put, z1, z2, z3]
    refine pl M48 (y_ext (v := .slice a3 0 c3) rfl rfl rfl rfl) ?_
    simp only [Act.put, z1, z2, z3]
    refine pl M48 (y_ext (v := .int .i64 3) rfl rfl rfl rfl) ?_
    simp only [Act.put, z1, z2, z3]
    refine pl M48 (y_assign (v := .int .i64 0) rfl rfl rfl) ?_
    simp only [Act.put, z1, z2, z3]
    refine pl M48 (y_assign (v := .slice a3 0 c3) rfl rfl rfl) ?_
    simp only [Act.put, z1, z2, z3]
    refine pl M48 (y_assign (v := .int .i64 3) rfl rfl rfl) ?_
    simp only [Act.put, z1, z2, z3]
    refine wpList_nil ?_
    refine hK47 _ _ ?_
    clear hK47
    refine wp_seq_k (fun K49 hK49 => ?_)
    refine wp_region_lit ?_
    refine pl M48 (y_move (v := .pointer (some ⟨f, 0, none⟩)) rfl rfl rfl) ?_
    simp only [Act.put, z1, z2, z3]
    refine pl M48 (y_move (v := .int .i64 n) rfl rfl rfl) ?_
    simp only [Act.put, z1, z2, z3]
    have hX50 : Mem w [] w48 ([disk X p pg mb qa, blk f 96 (fC V p)] ++ [blk c25 52 (cntC X), lst 5 1 (.slice (some ⟨gi1, 0, none⟩) (256 * k) ci1) (256 * k) (bvs X.pages.flatten), blk f2 96 (fC (⟨V.s, V.s.mark, m2⟩ : FV) p), blk g19 37 (supC V.s), book B b bx]) := M48.arr [0, 1, 2, 3, 4, 5, 6] (by decide)
    refine pe rfl (fun K hK => ?_)
    refine e_call 28 [.pointer (some ⟨f, 0, none⟩), .int .i64 n] rfl rfl Try.call28 (pub_stale (Mem.here hX50) hst hfok n (by omega)) ?_
    rintro e w50 ⟨qb, rfl, H50⟩
    have M50 : Mem w [] w50 [disk X p pg mb qb, blk f 96 (fC V p), blk c25 52 (cntC X), lst 5 1 (.slice (some ⟨gi1, 0, none⟩) (256 * k) ci1) (256 * k) (bvs X.pages.flatten), blk f2 96 (fC (⟨V.s, V.s.mark, m2⟩ : FV) p), blk g19 37 (supC V.s), book B b bx] := Mem.frame hX50 H50
    refine ⟨_, rfl, ?_⟩
    refine hK.out _ _ ?_
    clear hK K
    simp only [Act.put, z1, z2, z3]
    refine pl M50 (y_assign (v := .int .i64 3) rfl rfl rfl) ?_
    simp only [Act.put, z1, z2, z3]
    refine wpList_nil ?_
    refine hK49 _ _ ?_
    clear hK49
    refine wp_seq_k (fun K51 hK51 => ?_)
    refine wp_seq_k (fun K52 hK52 => ?_)
    refine wp_region_lit ?_
    refine pl M50 (y_move (v := .int .i64 3) rfl rfl rfl) ?_
    simp only [Act.put, z1, z2, z3]
    refine pl M50 (y_neq (b := false) rfl rfl rfl rfl (by rw [decide_eq_true (by decide)]; rfl)) ?_
    simp only [Act.put, z1, z2, z3]
    refine pl M50 (y_move (v := .bool false) rfl rfl rfl) ?_
    simp only [Act.put, z1, z2, z3]
    refine pl M50 (y_move (v := .int .i64 3) rfl rfl rfl) ?_
    simp only [Act.put, z1, z2, z3]
    refine pl M50 (y_neq (b := false) rfl rfl rfl rfl (by rw [decide_eq_true (by decide)]; rfl)) ?_
    simp only [Act.put, z1, z2, z3]
    refine pl M50 (y_pickF (v := .bool false) rfl rfl rfl rfl) ?_
    simp only [Act.put, z1, z2, z3]
    refine pl M50 (y_move (v := .bool false) rfl rfl rfl) ?_
    simp only [Act.put, z1, z2, z3]
    refine pl M50 (y_move (v := .int .i64 3) rfl rfl rfl) ?_
    simp only [Act.put, z1, z2, z3]
    refine pl M50 (y_neq (b := false) rfl rfl rfl rfl (by rw [decide_eq_true (by decide)]; rfl)) ?_
    simp only [Act.put, z1, z2, z3]
    refine pl M50 (y_pickF (v := .bool false) rfl rfl rfl rfl) ?_
    simp only [Act.put, z1, z2, z3]
    refine pl M50 (y_move (v := .bool false) rfl rfl rfl) ?_
    simp only [Act.put, z1, z2, z3]
    refine pl M50 (y_move (v := .pointer (some ⟨f, 0, none⟩)) rfl rfl rfl) ?_
    simp only [Act.put, z1, z2, z3]
    have hX53 : Mem w [] w50 ([disk X p pg mb qb, blk f 96 (fC V p)] ++ [blk c25 52 (cntC X), lst 5 1 (.slice (some ⟨gi1, 0, none⟩) (256 * k) ci1) (256 * k) (bvs X.pages.flatten), blk f2 96 (fC (⟨V.s, V.s.mark, m2⟩ : FV) p), blk g19 37 (supC V.s), book B b bx]) := M50.arr [0, 1, 2, 3, 4, 5, 6] (by decide)
    refine pe rfl (fun K hK => ?_)
    refine e_call 21 [.pointer (some ⟨f, 0, none⟩)] rfl rfl Try.call21 (live_stale (Mem.here hX53) hst) ?_
    rintro e w53 ⟨rfl, H53⟩
    have M53 : Mem w [] w53 [disk X p pg mb qb, blk f 96 (fC V p), blk c25 52 (cntC X), lst 5 1 (.slice (some ⟨gi1, 0, none⟩) (256 * k) ci1) (256 * k) (bvs X.pages.flatten), blk f2 96 (fC (⟨V.s, V.s.mark, m2⟩ : FV) p), blk g19 37 (supC V.s), book B b bx] := Mem.frame hX53 H53
    refine ⟨_, rfl, ?_⟩
    refine hK.out _ _ ?_
    clear hK K
    simp only [Act.put, z1, z2, z3]
    refine pl M53 (y_neq (b := false) rfl rfl rfl rfl (by rw [decide_eq_true (by decide)]; rfl)) ?_
    simp only [Act.put, z1, z2, z3]
    refine pl M53 (y_pickF (v := .bool false) rfl rfl rfl rfl) ?_
    simp only [Act.put, z1, z2, z3]
    refine pl M53 (y_move (v := .bool false) rfl rfl rfl) ?_
    simp only [Act.put, z1, z2, z3]
    refine pl M53 (y_move (v := .int .i64 0) rfl rfl rfl) ?_
    simp only [Act.put, z1, z2, z3]
    refine pl M53 (y_neq (b := false) rfl rfl rfl rfl (by rw [decide_eq_true (by decide)]; rfl)) ?_
    simp only [Act.put, z1, z2, z3]
    refine pl M53 (y_pickF (v := .bool false) rfl rfl rfl rfl) ?_
    simp only [Act.put, z1, z2, z3]
    refine pl M53 (y_move (v := .bool false) rfl rfl rfl) ?_
    simp only [Act.put, z1, z2, z3]
    refine pl M53 (y_move (v := .int .i64 0) rfl rfl rfl) ?_
    simp only [Act.put, z1, z2, z3]
    refine pl M53 (y_neq (b := false) rfl rfl rfl rfl (by rw [decide_eq_true (by decide)]; rfl)) ?_
    simp only [Act.put, z1, z2, z3]
    refine pl M53 (y_pickF (v := .bool false) rfl rfl rfl rfl) ?_
    simp only [Act.put, z1, z2, z3]
    refine pl M53 (y_move (v := .bool false) rfl rfl rfl) ?_
    simp only [Act.put, z1, z2, z3]
    refine pl M53 (y_move (v := .slice a3 0 c3) rfl rfl rfl) ?_
    simp only [Act.put, z1, z2, z3]
    refine pl M53 (y_len rfl rfl rfl Try.underlying22) ?_
    simp only [Act.put, z1, z2, z3]
    refine pl M53 (y_neq (b := false) rfl rfl rfl rfl (by rw [decide_eq_true (by decide)]; rfl)) ?_
    simp only [Act.put, z1, z2, z3]
    refine pl M53 (y_pickF (v := .bool false) rfl rfl rfl rfl) ?_
    simp only [Act.put, z1, z2, z3]
    refine wpList_nil ?_
    refine hK52 _ _ ?_
    clear hK52
    refine wp_cond_false rfl ?_
    refine wp_skip ?_
    refine hK51 _ _ ?_
    clear hK51
    refine wp_seq_k (fun K54 hK54 => ?_)
    refine wp_seq_k (fun K55 hK55 => ?_)
    have M56 := M53.drew
    refine held_begin (fun W => Mem w [] W [blk c25 52 (cntC X), blk g19 37 (supC V.s)]) (by kernel_rfl) (M56.arr [2, 5] (by decide)) (fun hS => ?_)
    refine held_take 0 _ rfl (by kernel_rfl) (by kernel_rfl) (by kernel_rfl) (y_move (v := .pointer (some ⟨f, 0, none⟩)) rfl rfl rfl) hS ?_
    simp only [Act.put, z1, z2, z3]
    refine held_take 2 _ rfl (by kernel_rfl) (by kernel_rfl) (by kernel_rfl) (y_loadb (cs := (supC V.s)) rfl rfl rfl Try.underlying37 rfl (size_sup _) (fun W hW => hW.get 1 rfl) (List.take_of_length_le (Nat.le_refl _))) hS ?_
    simp only [Act.put, z1, z2, z3]
    have hX57 : Mem w [] w53.drew ([disk X p pg mb qb, blk f 96 (fC V p)] ++ [blk c25 52 (cntC X), lst 5 1 (.slice (some ⟨gi1, 0, none⟩) (256 * k) ci1) (256 * k) (bvs X.pages.flatten), blk f2 96 (fC (⟨V.s, V.s.mark, m2⟩ : FV) p), blk g19 37 (supC V.s), book B b bx]) := M56.arr [0, 1, 2, 3, 4, 5, 6] (by decide)
    refine held_step 1 (by kernel_rfl) rfl (by rfl) (fun K hK => ?_)
    refine e_call 19 [.pointer (some ⟨f, 0, none⟩)] rfl rfl Try.call19 (super_any (Mem.here hX57)) ?_
    rintro e w57 ⟨rfl, H57⟩
    have M57 : Mem w [] w57 [disk X p pg mb qb, blk f 96 (fC V p), blk c25 52 (cntC X), lst 5 1 (.slice (some ⟨gi1, 0, none⟩) (256 * k) ci1) (256 * k) (bvs X.pages.flatten), blk f2 96 (fC (⟨V.s, V.s.mark, m2⟩ : FV) p), blk g19 37 (supC V.s), book B b bx] := Mem.frame hX57 H57
    refine ⟨_, rfl, ?_⟩
    refine hK.out _ _ (M57.arr [2, 5] (by decide)) (fun hS => ?_)
    clear hK K
    simp only [Act.put, z1, z2, z3]
    refine held_take 3 _ rfl (by kernel_rfl) (by kernel_rfl) (by kernel_rfl) (y_nes (r := false) rfl rfl rfl rfl sup_guard (fun W => sup_same _ W)) hS ?_
    simp only [Act.put, z1, z2, z3]
    refine held_take 4 _ rfl (by kernel_rfl) (by kernel_rfl) (by kernel_rfl) (y_move (v := .bool false) rfl rfl rfl) hS ?_
    simp only [Act.put, z1, z2, z3]
    refine held_take 5 _ rfl (by kernel_rfl) (by kernel_rfl) (by kernel_rfl) (y_move (v := .pointer (some ⟨f, 0, none⟩)) rfl rfl rfl) hS ?_
    simp only [Act.put, z1, z2, z3]
    refine held_take 7 _ rfl (by kernel_rfl) (by kernel_rfl) (by kernel_rfl) (y_move (v := .int .i64 V.next) rfl rfl rfl) hS ?_
    simp only [Act.put, z1, z2, z3]
    have hX58 : Mem w [] w57 ([disk X p pg mb qb, blk f 96 (fC V p)] ++ [blk c25 52 (cntC X), lst 5 1 (.slice (some ⟨gi1, 0, none⟩) (256 * k) ci1) (256 * k) (bvs X.pages.flatten), blk f2 96 (fC (⟨V.s, V.s.mark, m2⟩ : FV) p), blk g19 37 (supC V.s), book B b bx]) := M57.arr [0, 1, 2, 3, 4, 5, 6] (by decide)
    refine held_step 6 (by kernel_rfl) rfl (by rfl) (fun K hK => ?_)
    refine e_call 20 [.pointer (some ⟨f, 0, none⟩)] rfl rfl Try.call20 (next_any (Mem.here hX58)) ?_
    rintro e w58 ⟨rfl, H58⟩
    have M58 : Mem w [] w58 [disk X p pg mb qb, blk f 96 (fC V p), blk c25 52 (cntC X), lst 5 1 (.slice (some ⟨gi1, 0, none⟩) (256 * k) ci1) (256 * k) (bvs X.pages.flatten), blk f2 96 (fC (⟨V.s, V.s.mark, m2⟩ : FV) p), blk g19 37 (supC V.s), book B b bx] := Mem.frame hX58 H58
    refine ⟨_, rfl, ?_⟩
    refine hK.out _ _ (M58.arr [2, 5] (by decide)) (fun hS => ?_)
    clear hK K
    simp only [Act.put, z1, z2, z3]
    refine held_take 8 _ rfl (by kernel_rfl) (by kernel_rfl) (by kernel_rfl) (y_neq (b := false) rfl rfl rfl rfl (by rw [decide_eq_true rfl]; rfl)) hS ?_
    simp only [Act.put, z1, z2, z3]
    refine held_take 9 _ rfl (by kernel_rfl) (by kernel_rfl) (by kernel_rfl) (y_pickF (v := .bool false) rfl rfl rfl rfl) hS ?_
    simp only [Act.put, z1, z2, z3]
    refine held_take 10 _ rfl (by kernel_rfl) (by kernel_rfl) (by kernel_rfl) (y_move (v := .bool false) rfl rfl rfl) hS ?_
    simp only [Act.put, z1, z2, z3]
    refine held_take 11 _ rfl (by kernel_rfl) (by kernel_rfl) (by kernel_rfl) (y_move (v := .pointer (some ⟨p, 0, none⟩)) rfl rfl rfl) hS ?_
    simp only [Act.put, z1, z2, z3]
    refine held_take 13 _ rfl (by kernel_rfl) (by kernel_rfl) (by kernel_rfl) (y_move (v := .slice (some ⟨gi1, 0, none⟩) (256 * k) ci1) rfl rfl rfl) hS ?_
    simp only [Act.put, z1, z2, z3]
    have hX59 : Mem w [] w58 ([disk X p pg mb qb] ++ [blk f 96 (fC V p), blk c25 52 (cntC X), lst 5 1 (.slice (some ⟨gi1, 0, none⟩) (256 * k) ci1) (256 * k) (bvs X.pages.flatten), blk f2 96 (fC (⟨V.s, V.s.mark, m2⟩ : FV) p), blk g19 37 (supC V.s), book B b bx]) := M58.arr [0, 1, 2, 3, 4, 5, 6] (by decide)
    refine held_step 12 (by kernel_rfl) rfl (by rfl) (fun K hK => ?_)
    refine e_call 30 [.pointer (some ⟨p, 0, none⟩)] rfl rfl Try.call30 (image_fit (Mem.here hX59) hxk (by omega)) ?_
    rintro e w59 ⟨gi2, ci2, rfl, H59, hci2, hcm2⟩
    have M59 : Mem w [] w59 [disk X p pg mb qb, lst 5 1 (.slice (some ⟨gi2, 0, none⟩) (256 * k) ci2) (256 * k) (bvs X.pages.flatten), blk f 96 (fC V p), blk c25 52 (cntC X), lst 5 1 (.slice (some ⟨gi1, 0, none⟩) (256 * k) ci1) (256 * k) (bvs X.pages.flatten), blk f2 96 (fC (⟨V.s, V.s.mark, m2⟩ : FV) p), blk g19 37 (supC V.s), book B b bx] := Mem.frame hX59 H59
    refine ⟨_, rfl, ?_⟩
    refine hK.out _ _ (M59.arr [3, 6] (by decide)) (fun hS => ?_)
    clear hK K
    simp only [Act.put, z1, z2, z3]
    refine held_step 14 (by kernel_rfl) rfl (by rfl) (fun K hK => ?_)
    refine e_call 35 [.slice (some ⟨gi2, 0, none⟩) (256 * k) ci2, .slice (some ⟨gi1, 0, none⟩) (256 * k) ci1] rfl rfl Try.call35 (same_any _ _ _ _ _ _ X.pages.flatten X.pages.flatten _ (lst_row (M59.get 1 rfl)) (lst_row (M59.get 4 rfl)) (by unfold maxLen; omega) (by unfold maxLen; omega)) ?_
    rintro e w60 ⟨rfl, H60⟩
    have M60 : Mem w [] w60 [disk X p pg mb qb, lst 5 1 (.slice (some ⟨gi2, 0, none⟩) (256 * k) ci2) (256 * k) (bvs X.pages.flatten), blk f 96 (fC V p), blk c25 52 (cntC X), lst 5 1 (.slice (some ⟨gi1, 0, none⟩) (256 * k) ci1) (256 * k) (bvs X.pages.flatten), blk f2 96 (fC (⟨V.s, V.s.mark, m2⟩ : FV) p), blk g19 37 (supC V.s), book B b bx] := M59.step H60
    rw [(eqB_true rfl)]
    refine ⟨_, rfl, ?_⟩
    refine hK.out _ _ (M60.arr [3, 6] (by decide)) (fun hS => ?_)
    clear hK K
    simp only [Act.put, z1, z2, z3]
    refine held_take 15 _ rfl (by kernel_rfl) (by kernel_rfl) (by kernel_rfl) (y_not rfl rfl rfl rfl) hS ?_
    simp only [Act.put, z1, z2, z3]
    refine held_take 16 _ rfl (by kernel_rfl) (by kernel_rfl) (by kernel_rfl) (y_pickF (v := .bool false) rfl rfl rfl rfl) hS ?_
    simp only [Act.put, z1, z2, z3]
    refine held_take 17 _ rfl (by kernel_rfl) (by kernel_rfl) (by kernel_rfl) (y_move (v := .bool false) rfl rfl rfl) hS ?_
    simp only [Act.put, z1, z2, z3]
    refine held_take 18 _ rfl (by kernel_rfl) (by kernel_rfl) (by kernel_rfl) (y_move (v := .pointer (some ⟨p, 0, none⟩)) rfl rfl rfl) hS ?_
    simp only [Act.put, z1, z2, z3]
    refine held_take 19 _ rfl (by kernel_rfl) (by kernel_rfl) (by kernel_rfl) (y_nil rfl rfl rfl) hS ?_
    simp only [Act.put, z1, z2, z3]
    refine held_take 20 _ rfl (by kernel_rfl) (by kernel_rfl) (by kernel_rfl) (y_fa (r := 0) rfl rfl rfl Try.underlying60 rfl Try.sizeOf55 rfl) hS ?_
    simp only [Act.put, z1, z2, z3]
    refine held_take 22 _ rfl (by kernel_rfl) (by kernel_rfl) (by kernel_rfl) (y_loadb (cs := (cntC X)) rfl rfl rfl Try.underlying52 rfl size_cnt (fun W hW => hW.get 0 rfl) (List.take_of_length_le (Nat.le_refl _))) hS ?_
    simp only [Act.put, z1, z2, z3]
    have hX61 : Mem w [] w60 ([disk X p pg mb qb] ++ [lst 5 1 (.slice (some ⟨gi2, 0, none⟩) (256 * k) ci2) (256 * k) (bvs X.pages.flatten), blk f 96 (fC V p), blk c25 52 (cntC X), lst 5 1 (.slice (some ⟨gi1, 0, none⟩) (256 * k) ci1) (256 * k) (bvs X.pages.flatten), blk f2 96 (fC (⟨V.s, V.s.mark, m2⟩ : FV) p), blk g19 37 (supC V.s), book B b bx]) := M60.arr [0, 1, 2, 3, 4, 5, 6, 7] (by decide)
    refine held_step 21 (by kernel_rfl) rfl (by rfl) (fun K hK => ?_)
    refine e_call 23 [.pointer (some ⟨p, 0, none⟩)] rfl rfl Try.call23 (counts_any (Mem.here hX61)) ?_
    rintro e w61 ⟨rfl, H61⟩
    have M61 : Mem w [] w61 [disk X p pg mb qb, lst 5 1 (.slice (some ⟨gi2, 0, none⟩) (256 * k) ci2) (256 * k) (bvs X.pages.flatten), blk f 96 (fC V p), blk c25 52 (cntC X), lst 5 1 (.slice (some ⟨gi1, 0, none⟩) (256 * k) ci1) (256 * k) (bvs X.pages.flatten), blk f2 96 (fC (⟨V.s, V.s.mark, m2⟩ : FV) p), blk g19 37 (supC V.s), book B b bx] := Mem.frame hX61 H61
    refine ⟨_, rfl, ?_⟩
    refine hK.out _ _ (M61.arr [3, 6] (by decide)) (fun hS => ?_)
    clear hK K
    simp only [Act.put, z1, z2, z3]
    refine held_take 23 _ rfl (by kernel_rfl) (by kernel_rfl) (by kernel_rfl) (y_nes (r := false) rfl rfl rfl rfl cnt_guard (fun W => cnt_same _ W)) hS ?_
    simp only [Act.put, z1, z2, z3]
    refine held_take 24 _ rfl (by kernel_rfl) (by kernel_rfl) (by kernel_rfl) (y_pickF (v := .bool false) rfl rfl rfl rfl) hS ?_
    simp only [Act.put, z1, z2, z3]
    refine held_done (by kernel_rfl) ?_ _
    refine hK55 _ _ ?_
    clear hK55
    refine wp_cond_false rfl ?_
    refine wp_skip ?_
    refine hK54 _ _ ?_
    clear hK54
    refine wp_seq_k (fun K62 hK62 => ?_)
    refine wp_region_lit ?_
    refine pl M61 (y_move (v := .pointer (some ⟨f, 0, none⟩)) rfl rfl rfl) ?_
    simp only [Act.put, z1, z2, z3]
    have hX63 : Mem w [] w61 ([disk X p pg mb qb, blk f 96 (fC V p)] ++ [lst 5 1 (.slice (some ⟨gi2, 0, none⟩) (256 * k) ci2) (256 * k) (bvs X.pages.flatten), blk c25 52 (cntC X), lst 5 1 (.slice (some ⟨gi1, 0, none⟩) (256 * k) ci1) (256 * k) (bvs X.pages.flatten), blk f2 96 (fC (⟨V.s, V.s.mark, m2⟩ : FV) p), blk g19 37 (supC V.s), book B b bx]) := M61.arr [0, 2, 1, 3, 4, 5, 6, 7] (by decide)
    refine pe rfl (fun K hK => ?_)
    refine e_call 39 [.pointer (some ⟨f, 0, none⟩)] rfl rfl Try.call39 (forget_any (Mem.here hX63)) ?_
    rintro e w63 ⟨rfl, H63⟩
    have M63 : Mem w [] w63 [disk X p pg mb qb, blk f 96 (fC ({ V with next := V.s.mark } : FV) p), lst 5 1 (.slice (some ⟨gi2, 0, none⟩) (256 * k) ci2) (256 * k) (bvs X.pages.flatten), blk c25 52 (cntC X), lst 5 1 (.slice (some ⟨gi1, 0, none⟩) (256 * k) ci1) (256 * k) (bvs X.pages.flatten), blk f2 96 (fC (⟨V.s, V.s.mark, m2⟩ : FV) p), blk g19 37 (supC V.s), book B b bx] := Mem.frame hX63 H63
    refine ⟨_, rfl, ?_⟩
    refine hK.out _ _ ?_
    clear hK K
    simp only [Act.put, z1, z2, z3]
    refine wpList_nil ?_
    refine hK62 _ _ ?_
    clear hK62
    refine wp_seq_k (fun K64 hK64 => ?_)
    refine wp_seq_k (fun K65 hK65 => ?_)
    have M66 := M63.drew
    refine held_begin (fun W => Mem w [] W [blk g19 37 (supC V.s)]) (by kernel_rfl) (M66.arr [6] (by decide)) (fun hS => ?_)
    refine held_take 0 _ rfl (by kernel_rfl) (by kernel_rfl) (by kernel_rfl) (y_move (v := .pointer (some ⟨f, 0, none⟩)) rfl rfl rfl) hS ?_
    simp only [Act.put, z1, z2, z3]
    refine held_take 2 _ rfl (by kernel_rfl) (by kernel_rfl) (by kernel_rfl) (y_fa (r := 2) rfl rfl rfl Try.underlying37 rfl Try.sizeOf3 rfl) hS ?_
    simp only [Act.put, z1, z2, z3]
    refine held_take 3 _ rfl (by kernel_rfl) (by kernel_rfl) (by kernel_rfl) (y_load (v := .int .i64 V.s.mark) rfl rfl rfl Try.isAgg3 (fun W hW => hW.get 0 rfl) (rfl)) hS ?_
    simp only [Act.put, z1, z2, z3]
    have hX67 : Mem w [] w63.drew ([disk X p pg mb qb, blk f 96 (fC ({ V with next := V.s.mark } : FV) p)] ++ [lst 5 1 (.slice (some ⟨gi2, 0, none⟩) (256 * k) ci2) (256 * k) (bvs X.pages.flatten), blk c25 52 (cntC X), lst 5 1 (.slice (some ⟨gi1, 0, none⟩) (256 * k) ci1) (256 * k) (bvs X.pages.flatten), blk f2 96 (fC (⟨V.s, V.s.mark, m2⟩ : FV) p), blk g19 37 (supC V.s), book B b bx]) := M66.arr [0, 1, 2, 3, 4, 5, 6, 7] (by decide)
    refine held_step 1 (by kernel_rfl) rfl (by rfl) (fun K hK => ?_)
    refine e_call 20 [.pointer (some ⟨f, 0, none⟩)] rfl rfl Try.call20 (next_any (Mem.here hX67)) ?_
    rintro e w67 ⟨rfl, H67⟩
    have M67 : Mem w [] w67 [disk X p pg mb qb, blk f 96 (fC ({ V with next := V.s.mark } : FV) p), lst 5 1 (.slice (some ⟨gi2, 0, none⟩) (256 * k) ci2) (256 * k) (bvs X.pages.flatten), blk c25 52 (cntC X), lst 5 1 (.slice (some ⟨gi1, 0, none⟩) (256 * k) ci1) (256 * k) (bvs X.pages.flatten), blk f2 96 (fC (⟨V.s, V.s.mark, m2⟩ : FV) p), blk g19 37 (supC V.s), book B b bx] := Mem.frame hX67 H67
    refine ⟨_, rfl, ?_⟩
    refine hK.out _ _ (M67.arr [6] (by decide)) (fun hS => ?_)
    clear hK K
    simp only [Act.put, z1, z2, z3]
    refine held_take 4 _ rfl (by kernel_rfl) (by kernel_rfl) (by kernel_rfl) (y_neq (b := false) rfl rfl rfl rfl (by rw [decide_eq_true rfl]; rfl)) hS ?_
    simp only [Act.put, z1, z2, z3]
    refine held_take 5 _ rfl (by kernel_rfl) (by kernel_rfl) (by kernel_rfl) (y_move (v := .bool false) rfl rfl rfl) hS ?_
    simp only [Act.put, z1, z2, z3]
    refine held_take 6 _ rfl (by kernel_rfl) (by kernel_rfl) (by kernel_rfl) (y_move (v := .pointer (some ⟨f, 0, none⟩)) rfl rfl rfl) hS ?_
    simp only [Act.put, z1, z2, z3]
    have hX68 : Mem w [] w67 ([disk X p pg mb qb, blk f 96 (fC ({ V with next := V.s.mark } : FV) p)] ++ [lst 5 1 (.slice (some ⟨gi2, 0, none⟩) (256 * k) ci2) (256 * k) (bvs X.pages.flatten), blk c25 52 (cntC X), lst 5 1 (.slice (some ⟨gi1, 0, none⟩) (256 * k) ci1) (256 * k) (bvs X.pages.flatten), blk f2 96 (fC (⟨V.s, V.s.mark, m2⟩ : FV) p), blk g19 37 (supC V.s), book B b bx]) := M67.arr [0, 1, 2, 3, 4, 5, 6, 7] (by decide)
    refine held_step 7 (by kernel_rfl) rfl (by rfl) (fun K hK => ?_)
    refine e_call 21 [.pointer (some ⟨f, 0, none⟩)] rfl rfl Try.call21 (live_stale (V := ({ V with next := V.s.mark } : FV)) (Mem.here hX68) hst) ?_
    rintro e w68 ⟨rfl, H68⟩
    have M68 : Mem w [] w68 [disk X p pg mb qb, blk f 96 (fC ({ V with next := V.s.mark } : FV) p), lst 5 1 (.slice (some ⟨gi2, 0, none⟩) (256 * k) ci2) (256 * k) (bvs X.pages.flatten), blk c25 52 (cntC X), lst 5 1 (.slice (some ⟨gi1, 0, none⟩) (256 * k) ci1) (256 * k) (bvs X.pages.flatten), blk f2 96 (fC (⟨V.s, V.s.mark, m2⟩ : FV) p), blk g19 37 (supC V.s), book B b bx] := Mem.frame hX68 H68
    refine ⟨_, rfl, ?_⟩
    refine hK.out _ _ (M68.arr [6] (by decide)) (fun hS => ?_)
    clear hK K
    simp only [Act.put, z1, z2, z3]
    refine held_take 8 _ rfl (by kernel_rfl) (by kernel_rfl) (by kernel_rfl) (y_neq (b := false) rfl rfl rfl rfl (by rw [decide_eq_true (by decide)]; rfl)) hS ?_
    simp only [Act.put, z1, z2, z3]
    refine held_take 9 _ rfl (by kernel_rfl) (by kernel_rfl) (by kernel_rfl) (y_pickF (v := .bool false) rfl rfl rfl rfl) hS ?_
    simp only [Act.put, z1, z2, z3]
    refine held_done (by kernel_rfl) ?_ _
    refine hK65 _ _ ?_
    clear hK65
    refine wp_cond_false rfl ?_
    refine wp_skip ?_
    refine hK64 _ _ ?_
    clear hK64
    refine wp_seq_k (fun K69 hK69 => ?_)
    have M70 := M68.drew
    refine held_begin (fun W => Mem w [] W [blk f 96 (fC ({ V with next := V.s.mark } : FV) p), blk f2 96 (fC (⟨V.s, V.s.mark, m2⟩ : FV) p), blk g19 37 (supC V.s)]) (by kernel_rfl) (M70.arr [1, 5, 6] (by decide)) (fun hS => ?_)
    refine held_take 0 _ rfl (by kernel_rfl) (by kernel_rfl) (by kernel_rfl) (y_move (v := .pointer (some ⟨f2, 0, none⟩)) rfl rfl rfl) hS ?_
    simp only [Act.put, z1, z2, z3]
    refine held_take 1 _ rfl (by kernel_rfl) (by kernel_rfl) (by kernel_rfl) (y_move (v := .pointer (some ⟨f, 0, none⟩)) rfl rfl rfl) hS ?_
    simp only [Act.put, z1, z2, z3]
    refine held_take 2 _ rfl (by kernel_rfl) (by kernel_rfl) (by kernel_rfl) (y_eqptr_ne rfl rfl rfl rfl Try.underlying33 Try.sizeOf96 hne (fun W hW => hW.get 1 rfl) (fun W hW => hW.get 0 rfl)) hS ?_
    simp only [Act.put, z1, z2, z3]
    refine held_take 3 _ rfl (by kernel_rfl) (by kernel_rfl) (by kernel_rfl) (y_move (v := .bool false) rfl rfl rfl) hS ?_
    simp only [Act.put, z1, z2, z3]
    refine held_take 4 _ rfl (by kernel_rfl) (by kernel_rfl) (by kernel_rfl) (y_move (v := .pointer (some ⟨f2, 0, none⟩)) rfl rfl rfl) hS ?_
    simp only [Act.put, z1, z2, z3]
    have hX71 : Mem w [] w68.drew ([disk X p pg mb qb, blk f2 96 (fC (⟨V.s, V.s.mark, m2⟩ : FV) p)] ++ [blk f 96 (fC ({ V with next := V.s.mark } : FV) p), lst 5 1 (.slice (some ⟨gi2, 0, none⟩) (256 * k) ci2) (256 * k) (bvs X.pages.flatten), blk c25 52 (cntC X), lst 5 1 (.slice (some ⟨gi1, 0, none⟩) (256 * k) ci1) (256 * k) (bvs X.pages.flatten), blk g19 37 (supC V.s), book B b bx]) := M70.arr [0, 5, 1, 2, 3, 4, 6, 7] (by decide)
    refine held_step 5 (by kernel_rfl) rfl (by rfl) (fun K hK => ?_)
    refine e_call 21 [.pointer (some ⟨f2, 0, none⟩)] rfl rfl Try.call21 (live_ok (Mem.here hX71) hI2) ?_
    rintro e w71 ⟨rfl, H71⟩
    have M71 : Mem w [] w71 [disk X p pg mb qb, blk f2 96 (fC (⟨V.s, V.s.mark, m2⟩ : FV) p), blk f 96 (fC ({ V with next := V.s.mark } : FV) p), lst 5 1 (.slice (some ⟨gi2, 0, none⟩) (256 * k) ci2) (256 * k) (bvs X.pages.flatten), blk c25 52 (cntC X), lst 5 1 (.slice (some ⟨gi1, 0, none⟩) (256 * k) ci1) (256 * k) (bvs X.pages.flatten), blk g19 37 (supC V.s), book B b bx] := Mem.frame hX71 H71
    refine ⟨_, rfl, ?_⟩
    refine hK.out _ _ (M71.arr [2, 1, 6] (by decide)) (fun hS => ?_)
    clear hK K
    simp only [Act.put, z1, z2, z3]
    refine held_take 6 _ rfl (by kernel_rfl) (by kernel_rfl) (by kernel_rfl) (y_eql (b := true) rfl rfl rfl rfl (decide_eq_true (by decide))) hS ?_
    simp only [Act.put, z1, z2, z3]
    refine held_take 7 _ rfl (by kernel_rfl) (by kernel_rfl) (by kernel_rfl) (y_move (v := .bool true) rfl rfl rfl) hS ?_
    simp only [Act.put, z1, z2, z3]
    refine held_take 8 _ rfl (by kernel_rfl) (by kernel_rfl) (by kernel_rfl) (y_move (v := .pointer (some ⟨f2, 0, none⟩)) rfl rfl rfl) hS ?_
    simp only [Act.put, z1, z2, z3]
    refine held_take 10 _ rfl (by kernel_rfl) (by kernel_rfl) (by kernel_rfl) (y_fa (r := 2) rfl rfl rfl Try.underlying37 rfl Try.sizeOf3 rfl) hS ?_
    simp only [Act.put, z1, z2, z3]
    refine held_take 11 _ rfl (by kernel_rfl) (by kernel_rfl) (by kernel_rfl) (y_load (v := .int .i64 V.s.mark) rfl rfl rfl Try.isAgg3 (fun W hW => hW.get 2 rfl) (rfl)) hS ?_
    simp only [Act.put, z1, z2, z3]
    have hX72 : Mem w [] w71 ([disk X p pg mb qb, blk f2 96 (fC (⟨V.s, V.s.mark, m2⟩ : FV) p)] ++ [blk f 96 (fC ({ V with next := V.s.mark } : FV) p), lst 5 1 (.slice (some ⟨gi2, 0, none⟩) (256 * k) ci2) (256 * k) (bvs X.pages.flatten), blk c25 52 (cntC X), lst 5 1 (.slice (some ⟨gi1, 0, none⟩) (256 * k) ci1) (256 * k) (bvs X.pages.flatten), blk g19 37 (supC V.s), book B b bx]) := M71.arr [0, 1, 2, 3, 4, 5, 6, 7] (by decide)
    refine held_step 9 (by kernel_rfl) rfl (by rfl) (fun K hK => ?_)
    refine e_call 20 [.pointer (some ⟨f2, 0, none⟩)] rfl rfl Try.call20 (next_any (Mem.here hX72)) ?_
    rintro e w72 ⟨rfl, H72⟩
    have M72 : Mem w [] w72 [disk X p pg mb qb, blk f2 96 (fC (⟨V.s, V.s.mark, m2⟩ : FV) p), blk f 96 (fC ({ V with next := V.s.mark } : FV) p), lst 5 1 (.slice (some ⟨gi2, 0, none⟩) (256 * k) ci2) (256 * k) (bvs X.pages.flatten), blk c25 52 (cntC X), lst 5 1 (.slice (some ⟨gi1, 0, none⟩) (256 * k) ci1) (256 * k) (bvs X.pages.flatten), blk g19 37 (supC V.s), book B b bx] := Mem.frame hX72 H72
    refine ⟨_, rfl, ?_⟩
    refine hK.out _ _ (M72.arr [2, 1, 6] (by decide)) (fun hS => ?_)
    clear hK K
    simp only [Act.put, z1, z2, z3]
    refine held_take 12 _ rfl (by kernel_rfl) (by kernel_rfl) (by kernel_rfl) (y_eql (b := true) rfl rfl rfl rfl (decide_eq_true rfl)) hS ?_
    simp only [Act.put, z1, z2, z3]
    refine held_take 13 _ rfl (by kernel_rfl) (by kernel_rfl) (by kernel_rfl) (y_pickT (v := .bool true) rfl rfl rfl rfl) hS ?_
    simp only [Act.put, z1, z2, z3]
    refine held_take 14 _ rfl (by kernel_rfl) (by kernel_rfl) (by kernel_rfl) (y_pickF (v := .bool true) rfl rfl rfl rfl) hS ?_
    simp only [Act.put, z1, z2, z3]
    refine held_take 15 _ rfl (by kernel_rfl) (by kernel_rfl) (by kernel_rfl) (y_assign (v := .bool true) rfl rfl rfl) hS ?_
    simp only [Act.put, z1, z2, z3]
    refine held_done (by kernel_rfl) ?_ _
    refine hK69 _ _ ?_
    clear hK69
    refine wp_ret ?_
    try simp only [Exit.inBlock, Exit.then]
    refine bodyPost_ret (v := .bool true) (res1 rfl rfl) rfl ?_
    exact ⟨rfl, M72.arr [] (by decide)⟩
  clear hK13
  refine wp_block ?_
  refine wp_loop (fun a' w' => ∃ (i : Nat) (D : DV) (V : FV) (B : BV) (qv : Value) (bx : BX) (us15 : List Value), a' = (⟨#[.int .i64 (k : Int), .int .i64 width, .slice aa an ac, .int .i64 how, .int .i64 n, .slice la ln lc, undef, undef, undef, undef, undef, undef, (us15.getD 0 undef), .pointer (some ⟨p, 0, none⟩), .pointer (some ⟨f, 0, none⟩), .pointer (some ⟨b, 0, none⟩), .int .i64 (i : Int), (us15.getD 1 undef), (us15.getD 2 undef), undef, undef, undef, undef, undef, undef, undef, undef, undef, undef, undef, undef, undef, .int .i64 (k : Int), .int .i64 width, .bool true, .bool false, .tuple #[.pointer (some ⟨p, 0, none⟩), .pointer (some ⟨f, 0, none⟩)], .int .i64 (k : Int), .int .i64 width, .tuple #[.pointer (some ⟨p, 0, none⟩), .pointer (some ⟨f, 0, none⟩)], .pointer (some ⟨p, 0, none⟩), .pointer (some ⟨f, 0, none⟩), .pointer (some ⟨f, 0, none⟩), .bool false, .agg ((bC (⟨[], 2, 1, 0, 0, 0⟩ : BV) (⟨.slice none 0 0, .slice none 0 0, []⟩ : BX))).toArray, .pointer (some ⟨b, 0, none⟩), (us15.getD 3 undef), (us15.getD 4 undef), (us15.getD 5 undef), (us15.getD 6 undef), (us15.getD 7 undef), (us15.getD 8 undef), (us15.getD 9 undef), (us15.getD 10 undef), (us15.getD 11 undef), (us15.getD 12 undef), (us15.getD 13 undef), (us15.getD 14 undef), (us15.getD 15 undef), (us15.getD 16 undef), (us15.getD 17 undef), (us15.getD 18 undef), (us15.getD 19 undef), (us15.getD 20 undef), (us15.getD 21 undef), (us15.getD 22 undef), (us15.getD 23 undef), (us15.getD 24 undef), (us15.getD 25 undef), (us15.getD 26 undef), (us15.getD 27 undef), (us15.getD 28 undef), (us15.getD 29 undef), (us15.getD 30 undef), (us15.getD 31 undef), undef, undef, undef, undef, undef, undef, undef, undef, undef, undef, undef, undef, undef, undef, undef, undef, undef, undef, undef, undef, undef, undef, undef, undef, undef, undef, undef, undef, undef, undef, undef, undef, undef, undef, undef, undef, undef, undef, undef, undef, undef, undef, undef, undef, undef, undef, undef, undef, undef, undef, undef, undef, undef, undef, undef, undef, undef, undef, undef, undef, undef, undef, undef, undef, undef, undef, undef, undef, undef, undef, undef, undef, undef, undef, undef, undef, undef, undef, undef, undef, undef, undef, undef, undef, undef, undef, undef, undef, undef, undef, undef, undef, undef, undef, undef, undef, undef, undef, undef, undef, undef, undef, undef, undef, undef, undef, undef, undef, undef, undef, undef, undef, undef, undef, undef, undef, undef, undef, undef, undef, undef, undef, undef, undef, undef, undef, undef, undef, undef, undef, undef, undef, undef, undef, undef, undef, undef, undef, undef, undef, undef, undef, undef, undef, undef], []⟩ : Act) ∧ (BInv D V B) ∧ (D.q.length ≤ i ∧ i ≤ 60 ∧ D.pages.length = k ∧ D.armed = 0) ∧ (V.s.gen ≤ 1 + i ∧ V.s.width = width) ∧ Mem w [] w' [disk D p pg mb qv, blk f 96 (fC V p), book B b bx]) (fun a' _ => an - (intOf (a'.tmps.getD 16 undef)).toNat) ⟨0, D0, (⟨secondS width k, 2, m⟩ : FV), (⟨[], 2, 1, 0, 0, 0⟩ : BV), qv0, (⟨.slice none 0 0, .slice none 0 0, []⟩ : BX), [.bool false, undef, undef, undef, undef, undef, undef, undef, undef, undef, undef, undef, undef, undef, undef, undef, undef, undef, undef, undef, undef, undef, undef, undef, undef, undef, undef, undef, undef, undef, undef, undef], rfl, hBI, ⟨by rw [hq0]; exact Nat.zero_le _, by omega, hp0, ha0⟩, ⟨by show (1 : Int) ≤ 1 + ((0 : Nat) : Int); decide, rfl⟩, (M12.arr [1, 2, 0] (by decide))⟩ ?_
  clear M12
  rintro a' w73 ⟨i, D, V, B, qv, bx, us15, rfl, hB, hqi, hgi, M73⟩
  refine wp_seq_k (fun K74 hK74 => ?_)
  refine wp_seq_k (fun K75 hK75 => ?_)
  refine wp_region_lit ?_
  refine pl M73 (y_move (v := .int .i64 (i : Int)) rfl rfl rfl) ?_
  simp only [Act.put, z1, z2, z3]
  refine pl M73 (y_move (v := .slice aa an ac) rfl rfl rfl) ?_
  simp only [Act.put, z1, z2, z3]
  refine pl M73 (y_len rfl rfl rfl Try.underlying41) ?_
  simp only [Act.put, z1, z2, z3]
  rcases Decidable.em ((i : Int) < (an : Int)) with h76 | h76
  · obtain ⟨a, hget⟩ : ∃ a, avs[i]? = some a := ⟨_, List.getElem?_eq_getElem (by have := hacts.1; omega)⟩
    obtain ⟨ga, oa, hao, hra⟩ := hacts.2 i a hget
    obtain ⟨hrow, hnil, hmc, hcc⟩ := hok a (List.mem_of_getElem? hget)
    refine pl M73 (y_lss (b := true) rfl rfl rfl rfl (decide_eq_true h76)) ?_
    simp only [Act.put, z1, z2, z3]
    refine pl M73 (y_move (v := .bool true) rfl rfl rfl) ?_
    simp only [Act.put, z1, z2, z3]
    refine pl M73 (y_move (v := .int .i64 (i : Int)) rfl rfl rfl) ?_
    simp only [Act.put, z1, z2, z3]
    rcases Decidable.em ((i : Int) < 60) with h77 | h77
    · refine pl M73 (y_lss (b := true) rfl rfl rfl rfl (decide_eq_true h77)) ?_
      simp only [Act.put, z1, z2, z3]
      refine pl M73 (y_pickT (v := .bool true) rfl rfl rfl rfl) ?_
      simp only [Act.put, z1, z2, z3]
      refine wpList_nil ?_
      refine hK75 _ _ ?_
      clear hK75
      refine wp_cond_true rfl ?_
      refine wp_skip ?_
      refine hK74 _ _ ?_
      clear hK74
      refine wp_seq_k (fun K78 hK78 => ?_)
      refine wp_block ?_
      refine wp_seq_k (fun K79 hK79 => ?_)
      refine wp_region_lit ?_
      refine pl M73 (y_move (v := .slice aa an ac) rfl rfl rfl) ?_
      simp only [Act.put, z1, z2, z3]
      refine pl M73 (y_move (v := .int .i64 (i : Int)) rfl rfl rfl) ?_
      simp only [Act.put, z1, z2, z3]
      refine pl M73 (y_ias (r := oa + i * 3) rfl rfl (congrArg (fun z => Value.slice z an ac) hao) rfl Try.underlying41 Try.sizeOf50 (by omega) (by omega)) ?_
      simp only [Act.put, z1, z2, z3]
      refine pl M73 (y_fa (r := oa + i * 3) rfl rfl rfl Try.underlying50 rfl Try.sizeOf3 rfl) ?_
      simp only [Act.put, z1, z2, z3]
      refine pl M73 (y_loadc (v := .int .i64 a.k) rfl rfl rfl Try.isAgg3 (fun W hW => (hW.range hra (by simp)) 0 _ rfl)) ?_
      simp only [Act.put, z1, z2, z3]
      rcases Decidable.em (a.k = 4) with h80 | h80
      · refine pl M73 (y_neq (b := false) rfl rfl rfl rfl (by rw [decide_eq_true h80]; rfl)) ?_
        simp only [Act.put, z1, z2, z3]
        refine wpList_nil ?_
        refine hK79 _ _ ?_
        clear hK79
        refine wp_cond_false rfl ?_
        refine wp_skip ?_
        refine hK78 _ _ ?_
        clear hK78
        refine wp_region_lit ?_
        refine pl M73 (y_move (v := .int .i64 (i : Int)) rfl rfl rfl) ?_
        simp only [Act.put, z1, z2, z3]
        refine pl M73 (y_add (r := (i : Int) + 1) rfl rfl rfl rfl (rfl) (by omega)) ?_
        simp only [Act.put, z1, z2, z3]
        refine pl M73 (y_assign (v := .int .i64 ((i : Int) + 1)) rfl rfl rfl) ?_
        simp only [Act.put, z1, z2, z3]
        refine wpList_nil ?_
        refine ⟨⟨i + 1, D, V, B, qv, bx, [(us15.getD 0 undef), (us15.getD 1 undef), (us15.getD 2 undef), .int .i64 (i : Int), .slice aa an ac, .int .i64 (an : Int), .bool true, .bool true, .int .i64 (i : Int), .bool true, .bool true, .int .i64 (i : Int), .int .i64 ((i : Int) + 1), .slice aa an ac, .int .i64 (i : Int), .pointer (some ⟨ga, oa + i * 3, none⟩), .pointer (some ⟨ga, oa + i * 3, none⟩), .int .i64 a.k, .bool false, (us15.getD 19 undef), (us15.getD 20 undef), (us15.getD 21 undef), (us15.getD 22 undef), (us15.getD 23 undef), (us15.getD 24 undef), (us15.getD 25 undef), (us15.getD 26 undef), (us15.getD 27 undef), (us15.getD 28 undef), (us15.getD 29 undef), (us15.getD 30 undef), (us15.getD 31 undef)], rfl, (by first | exact hB2 | exact hB), ⟨by first | (have := hkept.que; omega) | omega, by omega, by first | (have := hkept.pages; omega) | omega, by first | exact harm2 | exact hqi.2.2.2⟩, ⟨by first | (have := hkept.gen; omega) | omega, by first | (rw [hkept.width]; exact hgi.2) | exact hgi.2⟩, (M73.arr [0, 1, 2] (by decide))⟩, ?_⟩
        simp [intOf]; omega
      · have hk4 : a.k ≠ 4 := h80
        refine pl M73 (y_neq (b := true) rfl rfl rfl rfl (by rw [decide_eq_false h80]; rfl)) ?_
        simp only [Act.put, z1, z2, z3]
        refine wpList_nil ?_
        refine hK79 _ _ ?_
        clear hK79
        refine wp_cond_true rfl ?_
        refine wp_seq_k (fun K81 hK81 => ?_)
        refine wp_region_lit ?_
        refine pl M73 (y_move (v := .pointer (some ⟨b, 0, none⟩)) rfl rfl rfl) ?_
        simp only [Act.put, z1, z2, z3]
        refine pl M73 (y_move (v := .pointer (some ⟨p, 0, none⟩)) rfl rfl rfl) ?_
        simp only [Act.put, z1, z2, z3]
        refine pl M73 (y_move (v := .pointer (some ⟨f, 0, none⟩)) rfl rfl rfl) ?_
        simp only [Act.put, z1, z2, z3]
        refine pl M73 (y_move (v := .slice aa an ac) rfl rfl rfl) ?_
        simp only [Act.put, z1, z2, z3]
        refine pl M73 (y_move (v := .int .i64 (i : Int)) rfl rfl rfl) ?_
        simp only [Act.put, z1, z2, z3]
        refine pl M73 (y_ias (r := oa + i * 3) rfl rfl (congrArg (fun z => Value.slice z an ac) hao) rfl Try.underlying41 Try.sizeOf50 (by omega) (by omega)) ?_
        simp only [Act.put, z1, z2, z3]
        refine pl M73 (y_loadr (cs := (actC a)) rfl rfl rfl Try.underlying50 rfl (size_act a) (fun W hW => hW.range hra (by simp))) ?_
        simp only [Act.put, z1, z2, z3]
        have hX82 : Mem w [] w73 ([disk D p pg mb qv, blk f 96 (fC V p), book B b bx] ++ []) := M73.arr [0, 1, 2] (by decide)
        refine pe rfl (fun K hK => ?_)
        refine e_call 27 [.pointer (some ⟨b, 0, none⟩), .pointer (some ⟨p, 0, none⟩), .pointer (some ⟨f, 0, none⟩), .agg ((actC a)).toArray] rfl rfl Try.call27 (bact_any (Mem.here hX82) a.k a.n a.ao a.m a.c a.l (M73.row hrow (by simp)) (hX82.left.off_row hrow) (by omega) hB (by omega) (by omega)) ?_
        rintro e w82 ⟨er, E, V2, B2, qv2, bx2, rfl, H82, hout⟩
        have M82 : Mem w [] w82 [disk E p pg mb qv2, blk f 96 (fC V2 p), book B2 b bx2] := Mem.frame hX82 H82
        obtain ⟨her, hkept, hB2, harm2⟩ := hout.good ⟨hk4, hqi.2.2.2⟩
        refine ⟨_, rfl, ?_⟩
        refine hK.out _ _ ?_
        clear hK K
        simp only [Act.put, z1, z2, z3]
        refine pl M82 (y_move (v := .tuple #[.int .i64 er, .bool true]) rfl rfl rfl) ?_
        simp only [Act.put, z1, z2, z3]
        refine pl M82 (y_ext (v := .int .i64 er) rfl rfl rfl rfl) ?_
        simp only [Act.put, z1, z2, z3]
        refine pl M82 (y_ext (v := .bool true) rfl rfl rfl rfl) ?_
        simp only [Act.put, z1, z2, z3]
        refine pl M82 (y_assign (v := .int .i64 er) rfl rfl rfl) ?_
        simp only [Act.put, z1, z2, z3]
        refine pl M82 (y_assign (v := .bool true) rfl rfl rfl) ?_
        simp only [Act.put, z1, z2, z3]
        refine wpList_nil ?_
        refine hK81 _ _ ?_
        clear hK81
        refine wp_seq_k (fun K83 hK83 => ?_)
        refine wp_region_lit ?_
        refine pl M82 (y_move (v := .bool true) rfl rfl rfl) ?_
        simp only [Act.put, z1, z2, z3]
        refine pl M82 (y_not rfl rfl rfl rfl) ?_
        simp only [Act.put, z1, z2, z3]
        refine wpList_nil ?_
        refine hK83 _ _ ?_
        clear hK83
        refine wp_cond_false rfl ?_
        refine wp_skip ?_
        refine hK78 _ _ ?_
        clear hK78
        refine wp_region_lit ?_
        refine pl M82 (y_move (v := .int .i64 (i : Int)) rfl rfl rfl) ?_
        simp only [Act.put, z1, z2, z3]
        refine pl M82 (y_add (r := (i : Int) + 1) rfl rfl rfl rfl (rfl) (by omega)) ?_
        simp only [Act.put, z1, z2, z3]
        refine pl M82 (y_assign (v := .int .i64 ((i : Int) + 1)) rfl rfl rfl) ?_
        simp only [Act.put, z1, z2, z3]
        refine wpList_nil ?_
        refine ⟨⟨i + 1, E, V2, B2, qv2, bx2, [(us15.getD 0 undef), .int .i64 er, .bool true, .int .i64 (i : Int), .slice aa an ac, .int .i64 (an : Int), .bool true, .bool true, .int .i64 (i : Int), .bool true, .bool true, .int .i64 (i : Int), .int .i64 ((i : Int) + 1), .slice aa an ac, .int .i64 (i : Int), .pointer (some ⟨ga, oa + i * 3, none⟩), .pointer (some ⟨ga, oa + i * 3, none⟩), .int .i64 a.k, .bool true, .tuple #[.int .i64 er, .bool true], .pointer (some ⟨b, 0, none⟩), .pointer (some ⟨p, 0, none⟩), .pointer (some ⟨f, 0, none⟩), .slice aa an ac, .int .i64 (i : Int), .pointer (some ⟨ga, oa + i * 3, none⟩), .agg ((actC a)).toArray, .tuple #[.int .i64 er, .bool true], .int .i64 er, .bool true, .bool true, .bool false], rfl, (by first | exact hB2 | exact hB), ⟨by first | (have := hkept.que; omega) | omega, by omega, by first | (have := hkept.pages; omega) | omega, by first | exact harm2 | exact hqi.2.2.2⟩, ⟨by first | (have := hkept.gen; omega) | omega, by first | (rw [hkept.width]; exact hgi.2) | exact hgi.2⟩, (M82.arr [0, 1, 2] (by decide))⟩, ?_⟩
        simp [intOf]; omega
    · refine pl M73 (y_lss (b := false) rfl rfl rfl rfl (decide_eq_false h77)) ?_
      simp only [Act.put, z1, z2, z3]
      refine pl M73 (y_pickT (v := .bool false) rfl rfl rfl rfl) ?_
      simp only [Act.put, z1, z2, z3]
      refine wpList_nil ?_
      refine hK75 _ _ ?_
      clear hK75
      refine wp_cond_false rfl ?_
      refine wp_exit ?_
      exact hcutK13 _ _ ⟨i, D, V, B, qv, bx, [(us15.getD 0 undef), (us15.getD 1 undef), (us15.getD 2 undef), .int .i64 (i : Int), .slice aa an ac, .int .i64 (an : Int), .bool true, .bool true, .int .i64 (i : Int), .bool false, .bool false, (us15.getD 11 undef), (us15.getD 12 undef), (us15.getD 13 undef), (us15.getD 14 undef), (us15.getD 15 undef), (us15.getD 16 undef), (us15.getD 17 undef), (us15.getD 18 undef), (us15.getD 19 undef), (us15.getD 20 undef), (us15.getD 21 undef), (us15.getD 22 undef), (us15.getD 23 undef), (us15.getD 24 undef), (us15.getD 25 undef), (us15.getD 26 undef), (us15.getD 27 undef), (us15.getD 28 undef), (us15.getD 29 undef), (us15.getD 30 undef), (us15.getD 31 undef)], rfl, hB, hqi, hgi, (M73.arr [0, 1, 2] (by decide))⟩
  · refine pl M73 (y_lss (b := false) rfl rfl rfl rfl (decide_eq_false h76)) ?_
    simp only [Act.put, z1, z2, z3]
    refine pl M73 (y_move (v := .bool false) rfl rfl rfl) ?_
    simp only [Act.put, z1, z2, z3]
    with_reducible refine pskip ?_ ?_
    · rfl
    simp only [Act.put, z1, z2, z3]
    with_reducible refine pskip ?_ ?_
    · rfl
    simp only [Act.put, z1, z2, z3]
    refine pl M73 (y_pickF (v := .bool false) rfl rfl rfl rfl) ?_
    simp only [Act.put, z1, z2, z3]
    refine wpList_nil ?_
    refine hK75 _ _ ?_
    clear hK75
    refine wp_cond_false rfl ?_
    refine wp_exit ?_
    exact hcutK13 _ _ ⟨i, D, V, B, qv, bx, [(us15.getD 0 undef), (us15.getD 1 undef), (us15.getD 2 undef), .int .i64 (i : Int), .slice aa an ac, .int .i64 (an : Int), .bool false, .bool false, undef, undef, .bool false, (us15.getD 11 undef), (us15.getD 12 undef), (us15.getD 13 undef), (us15.getD 14 undef), (us15.getD 15 undef), (us15.getD 16 undef), (us15.getD 17 undef), (us15.getD 18 undef), (us15.getD 19 undef), (us15.getD 20 undef), (us15.getD 21 undef), (us15.getD 22 undef), (us15.getD 23 undef), (us15.getD 24 undef), (us15.getD 25 undef), (us15.getD 26 undef), (us15.getD 27 undef), (us15.getD 28 undef), (us15.getD 29 undef), (us15.getD 30 undef), (us15.getD 31 undef)], rfl, hB, hqi, hgi, (M73.arr [0, 1, 2] (by decide))⟩
end Go.Proofs.Ytehnnnohoaapdaa

/- The law FileStale: case 2. -/
namespace Go.Proofs.Ytehnnnohoaapdaa
open Go Go.RowKit
set_option linter.unusedVariables false
set_option linter.unusedSimpArgs false
set_option maxRecDepth 100000 in
set_option maxHeartbeats 800000 in
theorem stale_fit2 {w : World} (k : Nat) (width : Int) (hn : 3 ≤ k ∧ k ≤ 64) (hw : 1 ≤ width ∧ width ≤ 32) (aa : Option Addr) (an ac : Nat) (avs : List AV) (hacts : ListIn actC 3 w aa an avs) (hok : ∀ a ∈ avs, ActIn w a) (han : an ≤ 4611686018427387904) (how n : Int) (la : Option Addr) (ln lc : Nat) (ll : List UInt8) (hlr : Row w la ln ll) (hlm : ln ≤ 140737488351232) (hj : how % 3 = 2) : Calls Try.prog 9 #[.int .i64 (k : Int), .int .i64 width, .slice aa an ac, .int .i64 how, .int .i64 n, .slice la ln lc] w fun e w' => e = .returned (.bool true) ∧ Mem w [] w' [] := by
  have M := Mem.nil w
  have hal := hacts.1
  go_enter Try.func9, Try.ntmps9
  refine wp_seq_k (fun K1 hK1 => ?_)
  refine wp_region_lit ?_
  refine pl M (y_assign (v := .bool false) rfl rfl rfl) ?_
  simp only [Act.put, z1, z2, z3]
  refine wpList_nil ?_
  refine hK1 _ _ ?_
  clear hK1
  refine wp_seq_k (fun K2 hK2 => ?_)
  refine wp_seq_k (fun K3 hK3 => ?_)
  refine wp_region_lit ?_
  refine pl M (y_move (v := .int .i64 (k : Int)) rfl rfl rfl) ?_
  simp only [Act.put, z1, z2, z3]
  refine pl M (y_move (v := .int .i64 width) rfl rfl rfl) ?_
  simp only [Act.put, z1, z2, z3]
  refine pe rfl (fun K hK => ?_)
  refine e_call 11 [.int .i64 (k : Int), .int .i64 width] rfl rfl Try.call11 (fits_any (k : Int) width _) ?_
  rintro e w4 ⟨rfl, H4⟩
  have M4 : Mem w [] w4 [] := M.step H4
  rw [(fits_yes hn hw)]
  refine ⟨_, rfl, ?_⟩
  refine hK.out _ _ ?_
  clear hK K
  simp only [Act.put, z1, z2, z3]
  refine pl M4 (y_not rfl rfl rfl rfl) ?_
  simp only [Act.put, z1, z2, z3]
  refine wpList_nil ?_
  refine hK3 _ _ ?_
  clear hK3
  refine wp_cond_false rfl ?_
  refine wp_skip ?_
  refine hK2 _ _ ?_
  clear hK2
  refine wp_seq_k (fun K5 hK5 => ?_)
  refine wp_region_lit ?_
  refine pl M4 (y_move (v := .int .i64 (k : Int)) rfl rfl rfl) ?_
  simp only [Act.put, z1, z2, z3]
  refine pl M4 (y_move (v := .int .i64 width) rfl rfl rfl) ?_
  simp only [Act.put, z1, z2, z3]
  refine pe rfl (fun K hK => ?_)
  refine e_call 22 [.int .i64 (k : Int), .int .i64 width] rfl rfl Try.call22 (fresh_any k width hn hw _) ?_
  rintro e w6 ⟨p, pg, mb, qv0, f, D0, m, rfl, H6, hI0, hq0, ha0, hp0⟩
  have M6 : Mem w [] w6 [disk D0 p pg mb qv0, blk f 96 (fC (⟨secondS width k, 2, m⟩ : FV) p)] := M4.step H6
  refine ⟨_, rfl, ?_⟩
  refine hK.out _ _ ?_
  clear hK K
  simp only [Act.put, z1, z2, z3]
  refine pl M6 (y_move (v := .tuple #[.pointer (some ⟨p, 0, none⟩), .pointer (some ⟨f, 0, none⟩)]) rfl rfl rfl) ?_
  simp only [Act.put, z1, z2, z3]
  refine pl M6 (y_ext (v := .pointer (some ⟨p, 0, none⟩)) rfl rfl rfl rfl) ?_
  simp only [Act.put, z1, z2, z3]
  refine pl M6 (y_ext (v := .pointer (some ⟨f, 0, none⟩)) rfl rfl rfl rfl) ?_
  simp only [Act.put, z1, z2, z3]
  refine pl M6 (y_assign (v := .pointer (some ⟨p, 0, none⟩)) rfl rfl rfl) ?_
  simp only [Act.put, z1, z2, z3]
  refine pl M6 (y_assign (v := .pointer (some ⟨f, 0, none⟩)) rfl rfl rfl) ?_
  simp only [Act.put, z1, z2, z3]
  refine wpList_nil ?_
  refine hK5 _ _ ?_
  clear hK5
  refine wp_seq_k (fun K7 hK7 => ?_)
  refine wp_seq_k (fun K8 hK8 => ?_)
  refine wp_region_lit ?_
  refine pl M6 (y_move (v := .pointer (some ⟨f, 0, none⟩)) rfl rfl rfl) ?_
  simp only [Act.put, z1, z2, z3]
  refine pl M6 (y_eqnil (r := false) rfl rfl rfl rfl Try.underlying33 rfl) ?_
  simp only [Act.put, z1, z2, z3]
  refine wpList_nil ?_
  refine hK8 _ _ ?_
  clear hK8
  refine wp_cond_false rfl ?_
  refine wp_skip ?_
  refine hK7 _ _ ?_
  clear hK7
  refine wp_seq_k (fun K9 hK9 => ?_)
  refine wp_region_lit ?_
  refine pl M6 (y_build (ps := [(2, .const (.int .i64 2)), (3, .const (.int .i64 1))]) (pv := [(2, .int .i64 2), (3, .int .i64 1)]) (cs := (bC (⟨[], 2, 1, 0, 0, 0⟩ : BV) (⟨.slice none 0 0, .slice none 0 0, []⟩ : BX))) rfl rfl rfl (by kernel_rfl)) ?_
  simp only [Act.put, z1, z2, z3]
  refine pe rfl (fun K hK => ?_)
  refine e_box M6 (bC (⟨[], 2, 1, 0, 0, 0⟩ : BV) (⟨.slice none 0 0, .slice none 0 0, []⟩ : BX)) rfl rfl ?_
  intro b w10 (M10 : Mem w [] w10 [blk b 48 (bC (⟨[], 2, 1, 0, 0, 0⟩ : BV) (⟨.slice none 0 0, .slice none 0 0, []⟩ : BX)), disk D0 p pg mb qv0, blk f 96 (fC (⟨secondS width k, 2, m⟩ : FV) p)])
  clear M6
  refine hK.out _ _ ?_
  clear hK K
  simp only [Act.put, z1, z2, z3]
  have M11 : Mem w [] w10 [blk b 48 (bC (⟨[], 2, 1, 0, 0, 0⟩ : BV) (⟨.slice none 0 0, .slice none 0 0, []⟩ : BX)), disk D0 p pg mb qv0, blk f 96 (fC (⟨secondS width k, 2, m⟩ : FV) p)] := M10.arr [0, 1, 2] (by decide)
  clear M10
  have M12 : Mem w [] w10 [book (⟨[], 2, 1, 0, 0, 0⟩ : BV) b (⟨.slice none 0 0, .slice none 0 0, []⟩ : BX), disk D0 p pg mb qv0, blk f 96 (fC (⟨secondS width k, 2, m⟩ : FV) p)] := book_new M11
  clear M11
  refine pl M12 (y_assign (v := .pointer (some ⟨b, 0, none⟩)) rfl rfl rfl) ?_
  simp only [Act.put, z1, z2, z3]
  refine wpList_nil ?_
  refine hK9 _ _ ?_
  clear hK9
  refine wp_seq_k (fun K13 hK13 => ?_)
  refine wp_seq_k (fun K14 hK14 => ?_)
  refine wp_region_lit ?_
  refine pl M12 (y_assign (v := .int .i64 0) rfl rfl rfl) ?_
  simp only [Act.put, z1, z2, z3]
  refine wpList_nil ?_
  refine hK14 _ _ ?_
  clear hK14
  have hBI : BInv D0 (⟨secondS width k, 2, m⟩ : FV) (⟨[], 2, 1, 0, 0, 0⟩ : BV) := ⟨hI0, rfl, rfl, rfl, rfl, Nat.zero_le _⟩
  have hcutK13 : ∀ a' w', (fun a' w' => ∃ (i : Nat) (D : DV) (V : FV) (B : BV) (qv : Value) (bx : BX) (us15 : List Value), a' = (⟨#[.int .i64 (k : Int), .int .i64 width, .slice aa an ac, .int .i64 how, .int .i64 n, .slice la ln lc, undef, undef, undef, undef, undef, undef, (us15.getD 0 undef), .pointer (some ⟨p, 0, none⟩), .pointer (some ⟨f, 0, none⟩), .pointer (some ⟨b, 0, none⟩), .int .i64 (i : Int), (us15.getD 1 undef), (us15.getD 2 undef), undef, undef, undef, undef, undef, undef, undef, undef, undef, undef, undef, undef, undef, .int .i64 (k : Int), .int .i64 width, .bool true, .bool false, .tuple #[.pointer (some ⟨p, 0, none⟩), .pointer (some ⟨f, 0, none⟩)], .int .i64 (k : Int), .int .i64 width, .tuple #[.pointer (some ⟨p, 0, none⟩), .pointer (some ⟨f, 0, none⟩)], .pointer (some ⟨p, 0, none⟩), .pointer (some ⟨f, 0, none⟩), .pointer (some ⟨f, 0, none⟩), .bool false, .agg ((bC (⟨[], 2, 1, 0, 0, 0⟩ : BV) (⟨.slice none 0 0, .slice none 0 0, []⟩ : BX))).toArray, .pointer (some ⟨b, 0, none⟩), (us15.getD 3 undef), (us15.getD 4 undef), (us15.getD 5 undef), (us15.getD 6 undef), (us15.getD 7 undef), (us15.getD 8 undef), (us15.getD 9 undef), (us15.getD 10 undef), (us15.getD 11 undef), (us15.getD 12 undef), (us15.getD 13 undef), (us15.getD 14 undef), (us15.getD 15 undef), (us15.getD 16 undef), (us15.getD 17 undef), (us15.getD 18 undef), (us15.getD 19 undef), (us15.getD 20 undef), (us15.getD 21 undef), (us15.getD 22 undef), (us15.getD 23 undef), (us15.getD 24 undef), (us15.getD 25 undef), (us15.getD 26 undef), (us15.getD 27 undef), (us15.getD 28 undef), (us15.getD 29 undef), (us15.getD 30 undef), (us15.getD 31 undef), undef, undef, undef, undef, undef, undef, undef, undef, undef, undef, undef, undef, undef, undef, undef, undef, undef, undef, undef, undef, undef, undef, undef, undef, undef, undef, undef, undef, undef, undef, undef, undef, undef, undef, undef, undef, undef, undef, undef, undef, undef, undef, undef, undef, undef, undef, undef, undef, undef, undef, undef, undef, undef, undef, undef, undef, undef, undef, undef, undef, undef, undef, undef, undef, undef, undef, undef, undef, undef, undef, undef, undef, undef, undef, undef, undef, undef, undef, undef, undef, undef, undef, undef, undef, undef, undef, undef, undef, undef, undef, undef, undef, undef, undef, undef, undef, undef, undef, undef, undef, undef, undef, undef, undef, undef, undef, undef, undef, undef, undef, undef, undef, undef, undef, undef, undef, undef, undef, undef, undef, undef, undef, undef, undef, undef, undef, undef, undef, undef, undef, undef, undef, undef, undef, undef, undef, undef, undef, undef, undef, undef, undef, undef, undef, undef], []⟩ : Act) ∧ (BInv D V B) ∧ (D.q.length ≤ i ∧ i ≤ 60 ∧ D.pages.length = k ∧ D.armed = 0) ∧ (V.s.gen ≤ 1 + i ∧ V.s.width = width) ∧ Mem w [] w' [disk D p pg mb qv, blk f 96 (fC V p), book B b bx]) a' w' → K13 a' w' := by
    clear M12
    rintro a' w16 ⟨i, D, V, B, qv, bx, us15, rfl, hB, hqi, hgi, M16⟩
    refine hK13 _ _ ?_
    clear hK13
    refine wp_seq_k (fun K17 hK17 => ?_)
    refine wp_region_lit ?_
    refine pl M16 (y_move (v := .pointer (some ⟨f, 0, none⟩)) rfl rfl rfl) ?_
    simp only [Act.put, z1, z2, z3]
    have hX18 : Mem w [] w16 ([disk D p pg mb qv, blk f 96 (fC V p)] ++ [book B b bx]) := M16.arr [0, 1, 2] (by decide)
    refine pe rfl (fun K hK => ?_)
    refine e_call 19 [.pointer (some ⟨f, 0, none⟩)] rfl rfl Try.call19 (super_any (Mem.here hX18)) ?_
    rintro e w18 ⟨rfl, H18⟩
    have M18 : Mem w [] w18 [disk D p pg mb qv, blk f 96 (fC V p), book B b bx] := Mem.frame hX18 H18
    refine ⟨_, rfl, ?_⟩
    refine hK.out _ _ ?_
    clear hK K
    simp only [Act.put, z1, z2, z3]
    refine pe rfl (fun K hK => ?_)
    refine e_alloc M18 (supC noSup) rfl zero_sup ?_
    intro g19 w19 (M19 : Mem w [] w19 [blk g19 37 (supC noSup), disk D p pg mb qv, blk f 96 (fC V p), book B b bx])
    clear M18
    refine hK.out _ _ ?_
    clear hK K
    simp only [Act.put, z1, z2, z3]
    refine pe rfl (fun K hK => ?_)
    refine e_storew M19 0 (cs := (supC V.s)) rfl rfl rfl rfl (size_sup _) (sup_all _) rfl (rfl) ?_
    intro w20 (M20 : Mem w [] w20 [blk g19 37 (supC V.s), disk D p pg mb qv, blk f 96 (fC V p), book B b bx])
    clear M19
    refine hK.out _ _ ?_
    clear hK K
    simp only [Act.put, z1, z2, z3]
    refine wpList_nil ?_
    refine hK17 _ _ ?_
    clear hK17
    refine wp_seq_k (fun K21 hK21 => ?_)
    refine wp_region_lit ?_
    refine pl M20 (y_move (v := .pointer (some ⟨f, 0, none⟩)) rfl rfl rfl) ?_
    simp only [Act.put, z1, z2, z3]
    have hX22 : Mem w [] w20 ([disk D p pg mb qv, blk f 96 (fC V p)] ++ [blk g19 37 (supC V.s), book B b bx]) := M20.arr [1, 2, 0, 3] (by decide)
    refine pe rfl (fun K hK => ?_)
    refine e_call 20 [.pointer (some ⟨f, 0, none⟩)] rfl rfl Try.call20 (next_any (Mem.here hX22)) ?_
    rintro e w22 ⟨rfl, H22⟩
    have M22 : Mem w [] w22 [disk D p pg mb qv, blk f 96 (fC V p), blk g19 37 (supC V.s), book B b bx] := Mem.frame hX22 H22
    refine ⟨_, rfl, ?_⟩
    refine hK.out _ _ ?_
    clear hK K
    simp only [Act.put, z1, z2, z3]
    refine pl M22 (y_assign (v := .int .i64 V.next) rfl rfl rfl) ?_
    simp only [Act.put, z1, z2, z3]
    refine wpList_nil ?_
    refine hK21 _ _ ?_
    clear hK21
    refine wp_seq_k (fun K23 hK23 => ?_)
    refine wp_seq_k (fun K24 hK24 => ?_)
    refine wp_region_lit ?_
    refine pl M22 (y_move (v := .pointer (some ⟨f, 0, none⟩)) rfl rfl rfl) ?_
    simp only [Act.put, z1, z2, z3]
    have hX25 : Mem w [] w22 ([disk D p pg mb qv, blk f 96 (fC V p)] ++ [blk g19 37 (supC V.s), book B b bx]) := M22.arr [0, 1, 2, 3] (by decide)
    refine pe rfl (fun K hK => ?_)
    refine e_call 21 [.pointer (some ⟨f, 0, none⟩)] rfl rfl Try.call21 (live_ok (Mem.here hX25) hB.inv) ?_
    rintro e w25 ⟨rfl, H25⟩
    have M25 : Mem w [] w25 [disk D p pg mb qv, blk f 96 (fC V p), blk g19 37 (supC V.s), book B b bx] := Mem.frame hX25 H25
    refine ⟨_, rfl, ?_⟩
    refine hK.out _ _ ?_
    clear hK K
    simp only [Act.put, z1, z2, z3]
    refine pl M25 (y_neq (b := false) rfl rfl rfl rfl (by rw [decide_eq_true (by decide)]; rfl)) ?_
    simp only [Act.put, z1, z2, z3]
    refine wpList_nil ?_
    refine hK24 _ _ ?_
    clear hK24
    refine wp_cond_false rfl ?_
    refine wp_skip ?_
    refine hK23 _ _ ?_
    clear hK23
    refine wp_seq_k (fun K26 hK26 => ?_)
    refine wp_region_lit ?_
    refine pl M25 (y_move (v := .pointer (some ⟨f, 0, none⟩)) rfl rfl rfl) ?_
    simp only [Act.put, z1, z2, z3]
    refine pl M25 (y_assign (v := .pointer (some ⟨f, 0, none⟩)) rfl rfl rfl) ?_
    simp only [Act.put, z1, z2, z3]
    refine wpList_nil ?_
    refine hK26 _ _ ?_
    clear hK26
    refine wp_seq_k (fun K27 hK27 => ?_)
    refine wp_seq_k (fun K28 hK28 => ?_)
    refine wp_region_lit ?_
    refine pl M25 (y_move (v := .int .i64 how) rfl rfl rfl) ?_
    simp only [Act.put, z1, z2, z3]
    refine pe rfl (fun K hK => ?_)
    refine e_call 13 [.int .i64 how, .int .i64 3] rfl rfl Try.call13 (place3_any how 3 (by decide) (by decide) _) ?_
    rintro e w29 ⟨rfl, H29⟩
    have M29 : Mem w [] w29 [disk D p pg mb qv, blk f 96 (fC V p), blk g19 37 (supC V.s), book B b bx] := M25.step H29
    refine ⟨_, rfl, ?_⟩
    refine hK.out _ _ ?_
    clear hK K
    simp only [Act.put, z1, z2, z3]
    refine wpList_nil ?_
    refine hK28 _ _ ?_
    clear hK28
    refine wp_block ?_
    refine wp_seq_k (fun K30 hK30 => ?_)
    refine wp_region_lit ?_
    refine pl M29 (y_eql (b := false) rfl rfl rfl rfl (decide_eq_false (by omega))) ?_
    simp only [Act.put, z1, z2, z3]
    refine pl M29 (y_assign (v := .bool false) rfl rfl rfl) ?_
    simp only [Act.put, z1, z2, z3]
    refine wpList_nil ?_
    refine hK30 _ _ ?_
    clear hK30
    refine wp_cond_false rfl ?_
    refine wp_seq_k (fun K31 hK31 => ?_)
    refine wp_region_lit ?_
    refine pl M29 (y_eql (b := false) rfl rfl rfl rfl (decide_eq_false (by omega))) ?_
    simp only [Act.put, z1, z2, z3]
    refine pl M29 (y_assign (v := .bool false) rfl rfl rfl) ?_
    simp only [Act.put, z1, z2, z3]
    refine wpList_nil ?_
    refine hK31 _ _ ?_
    clear hK31
    refine wp_cond_false rfl ?_
    refine wp_region_lit ?_
    refine pl M29 (y_move (v := .pointer (some ⟨p, 0, none⟩)) rfl rfl rfl) ?_
    simp only [Act.put, z1, z2, z3]
    have hX32 : Mem w [] w29 ([disk D p pg mb qv] ++ [blk f 96 (fC V p), blk g19 37 (supC V.s), book B b bx]) := M29.arr [0, 1, 2, 3] (by decide)
    refine pe rfl (fun K hK => ?_)
    refine e_call 38 [.pointer (some ⟨p, 0, none⟩)] rfl rfl Try.call38 (claim_any (Mem.here hX32)) ?_
    rintro e w32 ⟨rfl, H32⟩
    have M32 : Mem w [] w32 [disk (claimD D) p pg mb qv, blk f 96 (fC V p), blk g19 37 (supC V.s), book B b bx] := Mem.frame hX32 H32
    refine ⟨_, rfl, ?_⟩
    refine hK.out _ _ ?_
    clear hK K
    simp only [Act.put, z1, z2, z3]
    have hst : liveE (claimD D) V = 3 := stale_of (by show wrap64 (D.epoch + 1) = _; rw [hB.inv.live])
    have hfok : FOk (claimD D) V := hB.inv.fok.of_len rfl
    have hxq : (claimD D).q.length ≤ 100 := by show D.q.length ≤ 100; omega
    have hxk : (claimD D).pages.length = k := hqi.2.2.1
    refine wpList_nil ?_
    refine hK27 _ _ ?_
    clear hK27
    refine wp_seq_k (fun K33 hK33 => ?_)
    refine wp_region_lit ?_
    refine pl M32 (y_move (v := .pointer (some ⟨p, 0, none⟩)) rfl rfl rfl) ?_
    simp only [Act.put, z1, z2, z3]
    have hX34 : Mem w [] w32 ([disk (claimD D) p pg mb qv] ++ [blk f 96 (fC V p), blk g19 37 (supC V.s), book B b bx]) := M32.arr [0, 1, 2, 3] (by decide)
    refine pe rfl (fun K hK => ?_)
    refine e_call 30 [.pointer (some ⟨p, 0, none⟩)] rfl rfl Try.call30 (image_fit (Mem.here hX34) hxk (by omega)) ?_
    rintro e w34 ⟨gi1, ci1, rfl, H34, hci1, hcm1⟩
    have M34 : Mem w [] w34 [disk (claimD D) p pg mb qv, lst 5 1 (.slice (some ⟨gi1, 0, none⟩) (256 * k) ci1) (256 * k) (bvs (claimD D).pages.flatten), blk f 96 (fC V p), blk g19 37 (supC V.s), book B b bx] := Mem.frame hX34 H34
    refine ⟨_, rfl, ?_⟩
    refine hK.out _ _ ?_
    clear hK K
    simp only [Act.put, z1, z2, z3]
    refine pl M34 (y_assign (v := .slice (some ⟨gi1, 0, none⟩) (256 * k) ci1) rfl rfl rfl) ?_
    simp only [Act.put, z1, z2, z3]
    refine wpList_nil ?_
    refine hK33 _ _ ?_
    clear hK33
    refine wp_seq_k (fun K35 hK35 => ?_)
    refine wp_region_lit ?_
    refine pl M34 (y_move (v := .pointer (some ⟨p, 0, none⟩)) rfl rfl rfl) ?_
    simp only [Act.put, z1, z2, z3]
    refine pl M34 (y_nil rfl rfl rfl) ?_
    simp only [Act.put, z1, z2, z3]
    refine pl M34 (y_fa (r := 0) rfl rfl rfl Try.underlying60 rfl Try.sizeOf55 rfl) ?_
    simp only [Act.put, z1, z2, z3]
    have hX36 : Mem w [] w34 ([disk (claimD D) p pg mb qv] ++ [lst 5 1 (.slice (some ⟨gi1, 0, none⟩) (256 * k) ci1) (256 * k) (bvs (claimD D).pages.flatten), blk f 96 (fC V p), blk g19 37 (supC V.s), book B b bx]) := M34.arr [0, 1, 2, 3, 4] (by decide)
    refine pe rfl (fun K hK => ?_)
    refine e_call 23 [.pointer (some ⟨p, 0, none⟩)] rfl rfl Try.call23 (counts_any (Mem.here hX36)) ?_
    rintro e w36 ⟨rfl, H36⟩
    have M36 : Mem w [] w36 [disk (claimD D) p pg mb qv, lst 5 1 (.slice (some ⟨gi1, 0, none⟩) (256 * k) ci1) (256 * k) (bvs (claimD D).pages.flatten), blk f 96 (fC V p), blk g19 37 (supC V.s), book B b bx] := Mem.frame hX36 H36
    refine ⟨_, rfl, ?_⟩
    refine hK.out _ _ ?_
    clear hK K
    simp only [Act.put, z1, z2, z3]
    refine pe rfl (fun K hK => ?_)
    refine e_alloc M36 ([.int .i64 0, .int .i64 0, .int .i64 0, .int .i64 0]) rfl Try.zeroValue52 ?_
    intro c25 w37 (M37 : Mem w [] w37 [blk c25 52 ([.int .i64 0, .int .i64 0, .int .i64 0, .int .i64 0]), disk (claimD D) p pg mb qv, lst 5 1 (.slice (some ⟨gi1, 0, none⟩) (256 * k) ci1) (256 * k) (bvs (claimD D).pages.flatten), blk f 96 (fC V p), blk g19 37 (supC V.s), book B b bx])
    clear M36
    refine hK.out _ _ ?_
    clear hK K
    simp only [Act.put, z1, z2, z3]
    refine pe rfl (fun K hK => ?_)
    refine e_storew M37 0 (cs := (cntC (claimD D))) rfl rfl rfl rfl size_cnt (list_all _ rfl) rfl (rfl) ?_
    intro w38 (M38 : Mem w [] w38 [blk c25 52 (cntC (claimD D)), disk (claimD D) p pg mb qv, lst 5 1 (.slice (some ⟨gi1, 0, none⟩) (256 * k) ci1) (256 * k) (bvs (claimD D).pages.flatten), blk f 96 (fC V p), blk g19 37 (supC V.s), book B b bx])
    clear M37
    refine hK.out _ _ ?_
    clear hK K
    simp only [Act.put, z1, z2, z3]
    refine wpList_nil ?_
    refine hK35 _ _ ?_
    clear hK35
    refine wp_seq_k (fun K39 hK39 => ?_)
    refine wp_region_lit ?_
    refine pl M38 (y_move (v := .pointer (some ⟨f, 0, none⟩)) rfl rfl rfl) ?_
    simp only [Act.put, z1, z2, z3]
    refine pl M38 (y_move (v := .int .i64 n) rfl rfl rfl) ?_
    simp only [Act.put, z1, z2, z3]
    refine pl M38 (y_move (v := .slice la ln lc) rfl rfl rfl) ?_
    simp only [Act.put, z1, z2, z3]
    have hX40 : Mem w [] w38 ([disk (claimD D) p pg mb qv, blk f 96 (fC V p)] ++ [blk c25 52 (cntC (claimD D)), lst 5 1 (.slice (some ⟨gi1, 0, none⟩) (256 * k) ci1) (256 * k) (bvs (claimD D).pages.flatten), blk g19 37 (supC V.s), book B b bx]) := M38.arr [1, 3, 0, 2, 4, 5] (by decide)
    refine pe rfl (fun K hK => ?_)
    refine e_call 26 [.pointer (some ⟨f, 0, none⟩), .int .i64 n, .slice la ln lc] rfl rfl Try.call26 (app_stale (Mem.here hX40) hst hfok n la ln lc ll (M38.row hlr (by simp)) (hX40.left.off_row hlr) (by omega)) ?_
    rintro e w40 ⟨qa, rfl, H40⟩
    have M40 : Mem w [] w40 [disk (claimD D) p pg mb qa, blk f 96 (fC V p), blk c25 52 (cntC (claimD D)), lst 5 1 (.slice (some ⟨gi1, 0, none⟩) (256 * k) ci1) (256 * k) (bvs (claimD D).pages.flatten), blk g19 37 (supC V.s), book B b bx] := Mem.frame hX40 H40
    refine ⟨_, rfl, ?_⟩
    refine hK.out _ _ ?_
    clear hK K
    simp only [Act.put, z1, z2, z3]
    refine pl M40 (y_move (v := .tuple #[.int .i64 0, .int .i64 3]) rfl rfl rfl) ?_
    simp only [Act.put, z1, z2, z3]
    refine pl M40 (y_ext (v := .int .i64 0) rfl rfl rfl rfl) ?_
    simp only [Act.put, z1, z2, z3]
    refine pl M40 (y_ext (v := .int .i64 3) rfl rfl rfl rfl) ?_
    simp only [Act.put, z1, z2, z3]
    refine pl M40 (y_assign (v := .int .i64 0) rfl rfl rfl) ?_
    simp only [Act.put, z1, z2, z3]
    refine pl M40 (y_assign (v := .int .i64 3) rfl rfl rfl) ?_
    simp only [Act.put, z1, z2, z3]
    refine wpList_nil ?_
    refine hK39 _ _ ?_
    clear hK39
    refine wp_seq_k (fun K41 hK41 => ?_)
    refine wp_region_lit ?_
    refine pl M40 (y_move (v := .pointer (some ⟨f, 0, none⟩)) rfl rfl rfl) ?_
    simp only [Act.put, z1, z2, z3]
    refine pl M40 (y_move (v := .int .i64 n) rfl rfl rfl) ?_
    simp only [Act.put, z1, z2, z3]
    have hX42 : Mem w [] w40 ([disk (claimD D) p pg mb qa, blk f 96 (fC V p)] ++ [blk c25 52 (cntC (claimD D)), lst 5 1 (.slice (some ⟨gi1, 0, none⟩) (256 * k) ci1) (256 * k) (bvs (claimD D).pages.flatten), blk g19 37 (supC V.s), book B b bx]) := M40.arr [0, 1, 2, 3, 4, 5] (by decide)
    refine pe rfl (fun K hK => ?_)
    refine e_call 25 [.pointer (some ⟨f, 0, none⟩), .int .i64 n] rfl rfl Try.call25 (read_stale (Mem.here hX42) hst hfok n) ?_
    rintro e w42 ⟨a3, c3, rfl, H42⟩
    have M42 : Mem w [] w42 [disk (claimD D) p pg mb qa, blk f 96 (fC V p), blk c25 52 (cntC (claimD D)), lst 5 1 (.slice (some ⟨gi1, 0, none⟩) (256 * k) ci1) (256 * k) (bvs (claimD D).pages.flatten), blk g19 37 (supC V.s), book B b bx] := Mem.frame hX42 H42
    refine ⟨_, rfl, ?_⟩
    refine hK.out _ _ ?_
    clear hK K
    simp only [Act.put, z1, z2, z3]
    refine pl M42 (y_move (v := .tuple #[.int .i64 0, .slice a3 0 c3, .int .i64 3]) rfl rfl rfl) ?_
    simp only [Act.put, z1, z2, z3]
    refine pl M42 (y_ext (v := .int .i64 0) rfl rfl rfl rfl) ?_
    simp only [Act.put, z1, z2, z3]
    refine pl M42 (y_ext (v := .slice a3 0 c3) rfl rfl rfl rfl) ?_
    simp only [Act.put, z1, z2, z3]
    refine pl M42 (y_ext (v := .int .i64 3) rfl rfl rfl rfl) ?_
    simp only [Act.put, z1, z2, z3]
    refine pl M42 (y_assign (v := .int .i64 0) rfl rfl rfl) ?_
    simp only [Act.put, z1, z2, z3]
    refine pl M42 (y_assign (v := .slice a3 0 c3) rfl rfl rfl) ?_
    simp only [Act.put, z1, z2, z3]
    refine pl M42 (y_assign (v := .int .i64 3) rfl rfl rfl) ?_
    simp only [Act.put, z1, z2, z3]
    refine wpList_nil ?_
    refine hK41 _ _ ?_
    clear hK41
    refine wp_seq_k (fun K43 hK43 => ?_)
    refine wp_region_lit ?_
    refine pl M42 (y_move (v := .pointer (some ⟨f, 0, none⟩)) rfl rfl rfl) ?_
    simp only [Act.put, z1, z2, z3]
    refine pl M42 (y_move (v := .int .i64 n) rfl rfl rfl) ?_
    simp only [Act.put, z1, z2, z3]
    have hX44 : Mem w [] w42 ([disk (claimD D) p pg mb qa, blk f 96 (fC V p)] ++ [blk c25 52 (cntC (claimD D)), lst 5 1 (.slice (some ⟨gi1, 0, none⟩) (256 * k) ci1) (256 * k) (bvs (claimD D).pages.flatten), blk g19 37 (supC V.s), book B b bx]) := M42.arr [0, 1, 2, 3, 4, 5] (by decide)
    refine pe rfl (fun K hK => ?_)
    refine e_call 28 [.pointer (some ⟨f, 0, none⟩), .int .i64 n] rfl rfl Try.call28 (pub_stale (Mem.here hX44) hst hfok n (by omega)) ?_
    rintro e w44 ⟨qb, rfl, H44⟩
    have M44 : Mem w [] w44 [disk (claimD D) p pg mb qb, blk f 96 (fC V p), blk c25 52 (cntC (claimD D)), lst 5 1 (.slice (some ⟨gi1, 0, none⟩) (256 * k) ci1) (256 * k) (bvs (claimD D).pages.flatten), blk g19 37 (supC V.s), book B b bx] := Mem.frame hX44 H44
    refine ⟨_, rfl, ?_⟩
    refine hK.out _ _ ?_
    clear hK K
    simp only [Act.put, z1, z2, z3]
    refine pl M44 (y_assign (v := .int .i64 3) rfl rfl rfl) ?_
    simp only [Act.put, z1, z2, z3]
    refine wpList_nil ?_
    refine hK43 _ _ ?_
    clear hK43
    refine wp_seq_k (fun K45 hK45 => ?_)
    refine wp_seq_k (fun K46 hK46 => ?_)
    refine wp_region_lit ?_
    refine pl M44 (y_move (v := .int .i64 3) rfl rfl rfl) ?_
    simp only [Act.put, z1, z2, z3]
    refine pl M44 (y_neq (b := false) rfl rfl rfl rfl (by rw [decide_eq_true (by decide)]; rfl)) ?_
    simp only [Act.put, z1, z2, z3]
    refine pl M44 (y_move (v := .bool false) rfl rfl rfl) ?_
    simp only [Act.put, z1, z2, z3]
    refine pl M44 (y_move (v := .int .i64 3) rfl rfl rfl) ?_
    simp only [Act.put, z1, z2, z3]
    refine pl M44 (y_neq (b := false) rfl rfl rfl rfl (by rw [decide_eq_true (by decide)]; rfl)) ?_
    simp only [Act.put, z1, z2, z3]
    refine pl M44 (y_pickF (v := .bool false) rfl rfl rfl rfl) ?_
    simp only [Act.put, z1, z2, z3]
    refine pl M44 (y_move (v := .bool false) rfl rfl rfl) ?_
    simp only [Act.put, z1, z2, z3]
    refine pl M44 (y_move (v := .int .i64 3) rfl rfl rfl) ?_
    simp only [Act.put, z1, z2, z3]
    refine pl M44 (y_neq (b := false) rfl rfl rfl rfl (by rw [decide_eq_true (by decide)]; rfl)) ?_
    simp only [Act.put, z1, z2, z3]
    refine pl M44 (y_pickF (v := .bool false) rfl rfl rfl rfl) ?_
    simp only [Act.put, z1, z2, z3]
    refine pl M44 (y_move (v := .bool false) rfl rfl rfl) ?_
    simp only [Act.put, z1, z2, z3]
    refine pl M44 (y_move (v := .pointer (some ⟨f, 0, none⟩)) rfl rfl rfl) ?_
    simp only [Act.put, z1, z2, z3]
    have hX47 : Mem w [] w44 ([disk (claimD D) p pg mb qb, blk f 96 (fC V p)] ++ [blk c25 52 (cntC (claimD D)), lst 5 1 (.slice (some ⟨gi1, 0, none⟩) (256 * k) ci1) (256 * k) (bvs (claimD D).pages.flatten), blk g19 37 (supC V.s), book B b bx]) := M44.arr [0, 1, 2, 3, 4, 5] (by decide)
    refine pe rfl (fun K hK => ?_)
    refine e_call 21 [.pointer (some ⟨f, 0, none⟩)] rfl rfl Try.call21 (live_stale (Mem.here hX47) hst) ?_
    rintro e w47 ⟨rfl, H47⟩
    have M47 : Mem w [] w47 [disk (claimD D) p pg mb qb, blk f 96 (fC V p), blk c25 52 (cntC (claimD D)), lst 5 1 (.slice (some ⟨gi1, 0, none⟩) (256 * k) ci1) (256 * k) (bvs (claimD D).pages.flatten), blk g19 37 (supC V.s), book B b bx] := Mem.frame hX47 H47
    refine ⟨_, rfl, ?_⟩
    refine hK.out _ _ ?_
    clear hK K
    simp only [Act.put, z1, z2, z3]
    refine pl M47 (y_neq (b := false) rfl rfl rfl rfl (by rw [decide_eq_true (by decide)]; rfl)) ?_
    simp only [Act.put, z1, z2, z3]
    refine pl M47 (y_pickF (v := .bool false) rfl rfl rfl rfl) ?_
    simp only [Act.put, z1, z2, z3]
    refine pl M47 (y_move (v := .bool false) rfl rfl rfl) ?_
    simp only [Act.put, z1, z2, z3]
    refine pl M47 (y_move (v := .int .i64 0) rfl rfl rfl) ?_
    simp only [Act.put, z1, z2, z3]
    refine pl M47 (y_neq (b := false) rfl rfl rfl rfl (by rw [decide_eq_true (by decide)]; rfl)) ?_
    simp only [Act.put, z1, z2, z3]
    refine pl M47 (y_pickF (v := .bool false) rfl rfl rfl rfl) ?_
    simp only [Act.put, z1, z2, z3]
    refine pl M47 (y_move (v := .bool false) rfl rfl rfl) ?_
    simp only [Act.put, z1, z2, z3]
    refine pl M47 (y_move (v := .int .i64 0) rfl rfl rfl) ?_
    simp only [Act.put, z1, z2, z3]
    refine pl M47 (y_neq (b := false) rfl rfl rfl rfl (by rw [decide_eq_true (by decide)]; rfl)) ?_
    simp only [Act.put, z1, z2, z3]
    refine pl M47 (y_pickF (v := .bool false) rfl rfl rfl rfl) ?_
    simp only [Act.put, z1, z2, z3]
    refine pl M47 (y_move (v := .bool false) rfl rfl rfl) ?_
    simp only [Act.put, z1, z2, z3]
    refine pl M47 (y_move (v := .slice a3 0 c3) rfl rfl rfl) ?_
    simp only [Act.put, z1, z2, z3]
    refine pl M47 (y_len rfl rfl rfl Try.underlying22) ?_
    simp only [Act.put, z1, z2, z3]
    refine pl M47 (y_neq (b := false) rfl rfl rfl rfl (by rw [decide_eq_true (by decide)]; rfl)) ?_
    simp only [Act.put, z1, z2, z3]
    refine pl M47 (y_pickF (v := .bool false) rfl rfl rfl rfl) ?_
    simp only [Act.put, z1, z2, z3]
    refine wpList_nil ?_
    refine hK46 _ _ ?_
    clear hK46
    refine wp_cond_false rfl ?_
    refine wp_skip ?_
    refine hK45 _ _ ?_
    clear hK45
    refine wp_seq_k (fun K48 hK48 => ?_)
    refine wp_seq_k (fun K49 hK49 => ?_)
    have M50 := M47.drew
    refine held_begin (fun W => Mem w [] W [blk c25 52 (cntC (claimD D)), blk g19 37 (supC V.s)]) (by kernel_rfl) (M50.arr [2, 4] (by decide)) (fun hS => ?_)
    refine held_take 0 _ rfl (by kernel_rfl) (by kernel_rfl) (by kernel_rfl) (y_move (v := .pointer (some ⟨f, 0, none⟩)) rfl rfl rfl) hS ?_
    simp only [Act.put, z1, z2, z3]
    refine held_take 2 _ rfl (by kernel_rfl) (by kernel_rfl) (by kernel_rfl) (y_loadb (cs := (supC V.s)) rfl rfl rfl Try.underlying37 rfl (size_sup _) (fun W hW => hW.get 1 rfl) (List.take_of_length_le (Nat.le_refl _))) hS ?_
    simp only [Act.put, z1, z2, z3]
    have hX51 : Mem w [] w47.drew ([disk (claimD D) p pg mb qb, blk f 96 (fC V p)] ++ [blk c25 52 (cntC (claimD D)), lst 5 1 (.slice (some ⟨gi1, 0, none⟩) (256 * k) ci1) (256 * k) (bvs (claimD D).pages.flatten), blk g19 37 (supC V.s), book B b bx]) := M50.arr [0, 1, 2, 3, 4, 5] (by decide)
    refine held_step 1 (by kernel_rfl) rfl (by rfl) (fun K hK => ?_)
    refine e_call 19 [.pointer (some ⟨f, 0, none⟩)] rfl rfl Try.call19 (super_any (Mem.here hX51)) ?_
    rintro e w51 ⟨rfl, H51⟩
    have M51 : Mem w [] w51 [disk (claimD D) p pg mb qb, blk f 96 (fC V p), blk c25 52 (cntC (claimD D)), lst 5 1 (.slice (some ⟨gi1, 0, none⟩) (256 * k) ci1) (256 * k) (bvs (claimD D).pages.flatten), blk g19 37 (supC V.s), book B b bx] := Mem.frame hX51 H51
    refine ⟨_, rfl, ?_⟩
    refine hK.out _ _ (M51.arr [2, 4] (by decide)) (fun hS => ?_)
    clear hK K
    simp only [Act.put, z1, z2, z3]
    refine held_take 3 _ rfl (by kernel_rfl) (by kernel_rfl) (by kernel_rfl) (y_nes (r := false) rfl rfl rfl rfl sup_guard (fun W => sup_same _ W)) hS ?_
    simp only [Act.put, z1, z2, z3]
    refine held_take 4 _ rfl (by kernel_rfl) (by kernel_rfl) (by kernel_rfl) (y_move (v := .bool false) rfl rfl rfl) hS ?_
    simp only [Act.put, z1, z2, z3]
    refine held_take 5 _ rfl (by kernel_rfl) (by kernel_rfl) (by kernel_rfl) (y_move (v := .pointer (some ⟨f, 0, none⟩)) rfl rfl rfl) hS ?_
    simp only [Act.put, z1, z2, z3]
    refine held_take 7 _ rfl (by kernel_rfl) (by kernel_rfl) (by kernel_rfl) (y_move (v := .int .i64 V.next) rfl rfl rfl) hS ?_
    simp only [Act.put, z1, z2, z3]
    have hX52 : Mem w [] w51 ([disk (claimD D) p pg mb qb, blk f 96 (fC V p)] ++ [blk c25 52 (cntC (claimD D)), lst 5 1 (.slice (some ⟨gi1, 0, none⟩) (256 * k) ci1) (256 * k) (bvs (claimD D).pages.flatten), blk g19 37 (supC V.s), book B b bx]) := M51.arr [0, 1, 2, 3, 4, 5] (by decide)
    refine held_step 6 (by kernel_rfl) rfl (by rfl) (fun K hK => ?_)
    refine e_call 20 [.pointer (some ⟨f, 0, none⟩)] rfl rfl Try.call20 (next_any (Mem.here hX52)) ?_
    rintro e w52 ⟨rfl, H52⟩
    have M52 : Mem w [] w52 [disk (claimD D) p pg mb qb, blk f 96 (fC V p), blk c25 52 (cntC (claimD D)), lst 5 1 (.slice (some ⟨gi1, 0, none⟩) (256 * k) ci1) (256 * k) (bvs (claimD D).pages.flatten), blk g19 37 (supC V.s), book B b bx] := Mem.frame hX52 H52
    refine ⟨_, rfl, ?_⟩
    refine hK.out _ _ (M52.arr [2, 4] (by decide)) (fun hS => ?_)
    clear hK K
    simp only [Act.put, z1, z2, z3]
    refine held_take 8 _ rfl (by kernel_rfl) (by kernel_rfl) (by kernel_rfl) (y_neq (b := false) rfl rfl rfl rfl (by rw [decide_eq_true rfl]; rfl)) hS ?_
    simp only [Act.put, z1, z2, z3]
    refine held_take 9 _ rfl (by kernel_rfl) (by kernel_rfl) (by kernel_rfl) (y_pickF (v := .bool false) rfl rfl rfl rfl) hS ?_
    simp only [Act.put, z1, z2, z3]
    refine held_take 10 _ rfl (by kernel_rfl) (by kernel_rfl) (by kernel_rfl) (y_move (v := .bool false) rfl rfl rfl) hS ?_
    simp only [Act.put, z1, z2, z3]
    refine held_take 11 _ rfl (by kernel_rfl) (by kernel_rfl) (by kernel_rfl) (y_move (v := .pointer (some ⟨p, 0, none⟩)) rfl rfl rfl) hS ?_
    simp only [Act.put, z1, z2, z3]
    refine held_take 13 _ rfl (by kernel_rfl) (by kernel_rfl) (by kernel_rfl) (y_move (v := .slice (some ⟨gi1, 0, none⟩) (256 * k) ci1) rfl rfl rfl) hS ?_
    simp only [Act.put, z1, z2, z3]
    have hX53 : Mem w [] w52 ([disk (claimD D) p pg mb qb] ++ [blk f 96 (fC V p), blk c25 52 (cntC (claimD D)), lst 5 1 (.slice (some ⟨gi1, 0, none⟩) (256 * k) ci1) (256 * k) (bvs (claimD D).pages.flatten), blk g19 37 (supC V.s), book B b bx]) := M52.arr [0, 1, 2, 3, 4, 5] (by decide)
    refine held_step 12 (by kernel_rfl) rfl (by rfl) (fun K hK => ?_)
    refine e_call 30 [.pointer (some ⟨p, 0, none⟩)] rfl rfl Try.call30 (image_fit (Mem.here hX53) hxk (by omega)) ?_
    rintro e w53 ⟨gi2, ci2, rfl, H53, hci2, hcm2⟩
    have M53 : Mem w [] w53 [disk (claimD D) p pg mb qb, lst 5 1 (.slice (some ⟨gi2, 0, none⟩) (256 * k) ci2) (256 * k) (bvs (claimD D).pages.flatten), blk f 96 (fC V p), blk c25 52 (cntC (claimD D)), lst 5 1 (.slice (some ⟨gi1, 0, none⟩) (256 * k) ci1) (256 * k) (bvs (claimD D).pages.flatten), blk g19 37 (supC V.s), book B b bx] := Mem.frame hX53 H53
    refine ⟨_, rfl, ?_⟩
    refine hK.out _ _ (M53.arr [3, 5] (by decide)) (fun hS => ?_)
    clear hK K
    simp only [Act.put, z1, z2, z3]
    refine held_step 14 (by kernel_rfl) rfl (by rfl) (fun K hK => ?_)
    refine e_call 35 [.slice (some ⟨gi2, 0, none⟩) (256 * k) ci2, .slice (some ⟨gi1, 0, none⟩) (256 * k) ci1] rfl rfl Try.call35 (same_any _ _ _ _ _ _ (claimD D).pages.flatten (claimD D).pages.flatten _ (lst_row (M53.get 1 rfl)) (lst_row (M53.get 4 rfl)) (by unfold maxLen; omega) (by unfold maxLen; omega)) ?_
    rintro e w54 ⟨rfl, H54⟩
    have M54 : Mem w [] w54 [disk (claimD D) p pg mb qb, lst 5 1 (.slice (some ⟨gi2, 0, none⟩) (256 * k) ci2) (256 * k) (bvs (claimD D).pages.flatten), blk f 96 (fC V p), blk c25 52 (cntC (claimD D)), lst 5 1 (.slice (some ⟨gi1, 0, none⟩) (256 * k) ci1) (256 * k) (bvs (claimD D).pages.flatten), blk g19 37 (supC V.s), book B b bx] := M53.step H54
    rw [(eqB_true rfl)]
    refine ⟨_, rfl, ?_⟩
    refine hK.out _ _ (M54.arr [3, 5] (by decide)) (fun hS => ?_)
    clear hK K
    simp only [Act.put, z1, z2, z3]
    refine held_take 15 _ rfl (by kernel_rfl) (by kernel_rfl) (by kernel_rfl) (y_not rfl rfl rfl rfl) hS ?_
    simp only [Act.put, z1, z2, z3]
    refine held_take 16 _ rfl (by kernel_rfl) (by kernel_rfl) (by kernel_rfl) (y_pickF (v := .bool false) rfl rfl rfl rfl) hS ?_
    simp only [Act.put, z1, z2, z3]
    refine held_take 17 _ rfl (by kernel_rfl) (by kernel_rfl) (by kernel_rfl) (y_move (v := .bool false) rfl rfl rfl) hS ?_
    simp only [Act.put, z1, z2, z3]
    refine held_take 18 _ rfl (by kernel_rfl) (by kernel_rfl) (by kernel_rfl) (y_move (v := .pointer (some ⟨p, 0, none⟩)) rfl rfl rfl) hS ?_
    simp only [Act.put, z1, z2, z3]
    refine held_take 19 _ rfl (by kernel_rfl) (by kernel_rfl) (by kernel_rfl) (y_nil rfl rfl rfl) hS ?_
    simp only [Act.put, z1, z2, z3]
    refine held_take 20 _ rfl (by kernel_rfl) (by kernel_rfl) (by kernel_rfl) (y_fa (r := 0) rfl rfl rfl Try.underlying60 rfl Try.sizeOf55 rfl) hS ?_
    simp only [Act.put, z1, z2, z3]
    refine held_take 22 _ rfl (by kernel_rfl) (by kernel_rfl) (by kernel_rfl) (y_loadb (cs := (cntC (claimD D))) rfl rfl rfl Try.underlying52 rfl size_cnt (fun W hW => hW.get 0 rfl) (List.take_of_length_le (Nat.le_refl _))) hS ?_
    simp only [Act.put, z1, z2, z3]
    have hX55 : Mem w [] w54 ([disk (claimD D) p pg mb qb] ++ [lst 5 1 (.slice (some ⟨gi2, 0, none⟩) (256 * k) ci2) (256 * k) (bvs (claimD D).pages.flatten), blk f 96 (fC V p), blk c25 52 (cntC (claimD D)), lst 5 1 (.slice (some ⟨gi1, 0, none⟩) (256 * k) ci1) (256 * k) (bvs (claimD D).pages.flatten), blk g19 37 (supC V.s), book B b bx]) := M54.arr [0, 1, 2, 3, 4, 5, 6] (by decide)
    refine held_step 21 (by kernel_rfl) rfl (by rfl) (fun K hK => ?_)
    refine e_call 23 [.pointer (some ⟨p, 0, none⟩)] rfl rfl Try.call23 (counts_any (Mem.here hX55)) ?_
    rintro e w55 ⟨rfl, H55⟩
    have M55 : Mem w [] w55 [disk (claimD D) p pg mb qb, lst 5 1 (.slice (some ⟨gi2, 0, none⟩) (256 * k) ci2) (256 * k) (bvs (claimD D).pages.flatten), blk f 96 (fC V p), blk c25 52 (cntC (claimD D)), lst 5 1 (.slice (some ⟨gi1, 0, none⟩) (256 * k) ci1) (256 * k) (bvs (claimD D).pages.flatten), blk g19 37 (supC V.s), book B b bx] := Mem.frame hX55 H55
    refine ⟨_, rfl, ?_⟩
    refine hK.out _ _ (M55.arr [3, 5] (by decide)) (fun hS => ?_)
    clear hK K
    simp only [Act.put, z1, z2, z3]
    refine held_take 23 _ rfl (by kernel_rfl) (by kernel_rfl) (by kernel_rfl) (y_nes (r := false) rfl rfl rfl rfl cnt_guard (fun W => cnt_same _ W)) hS ?_
    simp only [Act.put, z1, z2, z3]
    refine held_take 24 _ rfl (by kernel_rfl) (by kernel_rfl) (by kernel_rfl) (y_pickF (v := .bool false) rfl rfl rfl rfl) hS ?_
    simp only [Act.put, z1, z2, z3]
    refine held_done (by kernel_rfl) ?_ _
    refine hK49 _ _ ?_
    clear hK49
    refine wp_cond_false rfl ?_
    refine wp_skip ?_
    refine hK48 _ _ ?_
    clear hK48
    refine wp_seq_k (fun K56 hK56 => ?_)
    refine wp_region_lit ?_
    refine pl M55 (y_move (v := .pointer (some ⟨f, 0, none⟩)) rfl rfl rfl) ?_
    simp only [Act.put, z1, z2, z3]
    have hX57 : Mem w [] w55 ([disk (claimD D) p pg mb qb, blk f 96 (fC V p)] ++ [lst 5 1 (.slice (some ⟨gi2, 0, none⟩) (256 * k) ci2) (256 * k) (bvs (claimD D).pages.flatten), blk c25 52 (cntC (claimD D)), lst 5 1 (.slice (some ⟨gi1, 0, none⟩) (256 * k) ci1) (256 * k) (bvs (claimD D).pages.flatten), blk g19 37 (supC V.s), book B b bx]) := M55.arr [0, 2, 1, 3, 4, 5, 6] (by decide)
    refine pe rfl (fun K hK => ?_)
    refine e_call 39 [.pointer (some ⟨f, 0, none⟩)] rfl rfl Try.call39 (forget_any (Mem.here hX57)) ?_
    rintro e w57 ⟨rfl, H57⟩
    have M57 : Mem w [] w57 [disk (claimD D) p pg mb qb, blk f 96 (fC ({ V with next := V.s.mark } : FV) p), lst 5 1 (.slice (some ⟨gi2, 0, none⟩) (256 * k) ci2) (256 * k) (bvs (claimD D).pages.flatten), blk c25 52 (cntC (claimD D)), lst 5 1 (.slice (some ⟨gi1, 0, none⟩) (256 * k) ci1) (256 * k) (bvs (claimD D).pages.flatten), blk g19 37 (supC V.s), book B b bx] := Mem.frame hX57 H57
    refine ⟨_, rfl, ?_⟩
    refine hK.out _ _ ?_
    clear hK K
    simp only [Act.put, z1, z2, z3]
    refine wpList_nil ?_
    refine hK56 _ _ ?_
    clear hK56
    refine wp_seq_k (fun K58 hK58 => ?_)
    refine wp_seq_k (fun K59 hK59 => ?_)
    have M60 := M57.drew
    refine held_begin (fun W => Mem w [] W [blk g19 37 (supC V.s)]) (by kernel_rfl) (M60.arr [5] (by decide)) (fun hS => ?_)
    refine held_take 0 _ rfl (by kernel_rfl) (by kernel_rfl) (by kernel_rfl) (y_move (v := .pointer (some ⟨f, 0, none⟩)) rfl rfl rfl) hS ?_
    simp only [Act.put, z1, z2, z3]
    refine held_take 2 _ rfl (by kernel_rfl) (by kernel_rfl) (by kernel_rfl) (y_fa (r := 2) rfl rfl rfl Try.underlying37 rfl Try.sizeOf3 rfl) hS ?_
    simp only [Act.put, z1, z2, z3]
    refine held_take 3 _ rfl (by kernel_rfl) (by kernel_rfl) (by kernel_rfl) (y_load (v := .int .i64 V.s.mark) rfl rfl rfl Try.isAgg3 (fun W hW => hW.get 0 rfl) (rfl)) hS ?_
    simp only [Act.put, z1, z2, z3]
    have hX61 : Mem w [] w57.drew ([disk (claimD D) p pg mb qb, blk f 96 (fC ({ V with next := V.s.mark } : FV) p)] ++ [lst 5 1 (.slice (some ⟨gi2, 0, none⟩) (256 * k) ci2) (256 * k) (bvs (claimD D).pages.flatten), blk c25 52 (cntC (claimD D)), lst 5 1 (.slice (some ⟨gi1, 0, none⟩) (256 * k) ci1) (256 * k) (bvs (claimD D).pages.flatten), blk g19 37 (supC V.s), book B b bx]) := M60.arr [0, 1, 2, 3, 4, 5, 6] (by decide)
    refine held_step 1 (by kernel_rfl) rfl (by rfl) (fun K hK => ?_)
    refine e_call 20 [.pointer (some ⟨f, 0, none⟩)] rfl rfl Try.call20 (next_any (Mem.here hX61)) ?_
    rintro e w61 ⟨rfl, H61⟩
    have M61 : Mem w [] w61 [disk (claimD D) p pg mb qb, blk f 96 (fC ({ V with next := V.s.mark } : FV) p), lst 5 1 (.slice (some ⟨gi2, 0, none⟩) (256 * k) ci2) (256 * k) (bvs (claimD D).pages.flatten), blk c25 52 (cntC (claimD D)), lst 5 1 (.slice (some ⟨gi1, 0, none⟩) (256 * k) ci1) (256 * k) (bvs (claimD D).pages.flatten), blk g19 37 (supC V.s), book B b bx] := Mem.frame hX61 H61
    refine ⟨_, rfl, ?_⟩
    refine hK.out _ _ (M61.arr [5] (by decide)) (fun hS => ?_)
    clear hK K
    simp only [Act.put, z1, z2, z3]
    refine held_take 4 _ rfl (by kernel_rfl) (by kernel_rfl) (by kernel_rfl) (y_neq (b := false) rfl rfl rfl rfl (by rw [decide_eq_true rfl]; rfl)) hS ?_
    simp only [Act.put, z1, z2, z3]
    refine held_take 5 _ rfl (by kernel_rfl) (by kernel_rfl) (by kernel_rfl) (y_move (v := .bool false) rfl rfl rfl) hS ?_
    simp only [Act.put, z1, z2, z3]
    refine held_take 6 _ rfl (by kernel_rfl) (by kernel_rfl) (by kernel_rfl) (y_move (v := .pointer (some ⟨f, 0, none⟩)) rfl rfl rfl) hS ?_
    simp only [Act.put, z1, z2, z3]
    have hX62 : Mem w [] w61 ([disk (claimD D) p pg mb qb, blk f 96 (fC ({ V with next := V.s.mark } : FV) p)] ++ [lst 5 1 (.slice (some ⟨gi2, 0, none⟩) (256 * k) ci2) (256 * k) (bvs (claimD D).pages.flatten), blk c25 52 (cntC (claimD D)), lst 5 1 (.slice (some ⟨gi1, 0, none⟩) (256 * k) ci1) (256 * k) (bvs (claimD D).pages.flatten), blk g19 37 (supC V.s), book B b bx]) := M61.arr [0, 1, 2, 3, 4, 5, 6] (by decide)
    refine held_step 7 (by kernel_rfl) rfl (by rfl) (fun K hK => ?_)
    refine e_call 21 [.pointer (some ⟨f, 0, none⟩)] rfl rfl Try.call21 (live_stale (V := ({ V with next := V.s.mark } : FV)) (Mem.here hX62) hst) ?_
    rintro e w62 ⟨rfl, H62⟩
    have M62 : Mem w [] w62 [disk (claimD D) p pg mb qb, blk f 96 (fC ({ V with next := V.s.mark } : FV) p), lst 5 1 (.slice (some ⟨gi2, 0, none⟩) (256 * k) ci2) (256 * k) (bvs (claimD D).pages.flatten), blk c25 52 (cntC (claimD D)), lst 5 1 (.slice (some ⟨gi1, 0, none⟩) (256 * k) ci1) (256 * k) (bvs (claimD D).pages.flatten), blk g19 37 (supC V.s), book B b bx] := Mem.frame hX62 H62
    refine ⟨_, rfl, ?_⟩
    refine hK.out _ _ (M62.arr [5] (by decide)) (fun hS => ?_)
    clear hK K
    simp only [Act.put, z1, z2, z3]
    refine held_take 8 _ rfl (by kernel_rfl) (by kernel_rfl) (by kernel_rfl) (y_neq (b := false) rfl rfl rfl rfl (by rw [decide_eq_true (by decide)]; rfl)) hS ?_
    simp only [Act.put, z1, z2, z3]
    refine held_take 9 _ rfl (by kernel_rfl) (by kernel_rfl) (by kernel_rfl) (y_pickF (v := .bool false) rfl rfl rfl rfl) hS ?_
    simp only [Act.put, z1, z2, z3]
    refine held_done (by kernel_rfl) ?_ _
    refine hK59 _ _ ?_
    clear hK59
    refine wp_cond_false rfl ?_
    refine wp_skip ?_
    refine hK58 _ _ ?_
    clear hK58
    refine wp_seq_k (fun K63 hK63 => ?_)
    have M64 := M62.drew
    refine held_begin (fun W => Mem w [] W [blk f 96 (fC ({ V with next := V.s.mark } : FV) p), blk g19 37 (supC V.s)]) (by kernel_rfl) (M64.arr [1, 5] (by decide)) (fun hS => ?_)
    refine held_take 0 _ rfl (by kernel_rfl) (by kernel_rfl) (by kernel_rfl) (y_move (v := .pointer (some ⟨f, 0, none⟩)) rfl rfl rfl) hS ?_
    simp only [Act.put, z1, z2, z3]
    refine held_take 1 _ rfl (by kernel_rfl) (by kernel_rfl) (by kernel_rfl) (y_move (v := .pointer (some ⟨f, 0, none⟩)) rfl rfl rfl) hS ?_
    simp only [Act.put, z1, z2, z3]
    refine held_take 2 _ rfl (by kernel_rfl) (by kernel_rfl) (by kernel_rfl) (y_eqptr_same rfl rfl rfl rfl Try.underlying33 Try.sizeOf96) hS ?_
    simp only [Act.put, z1, z2, z3]
    refine held_take 3 _ rfl (by kernel_rfl) (by kernel_rfl) (by kernel_rfl) (y_move (v := .bool true) rfl rfl rfl) hS ?_
    simp only [Act.put, z1, z2, z3]
    refine held_take 4 _ rfl (by kernel_rfl) (by kernel_rfl) (by kernel_rfl) (.inr ⟨by rfl, rfl⟩) hS ?_
    simp only [Act.put, z1, z2, z3]
    refine held_take 5 _ rfl (by kernel_rfl) (by kernel_rfl) (by kernel_rfl) (.inr ⟨by rfl, rfl⟩) hS ?_
    simp only [Act.put, z1, z2, z3]
    refine held_take 6 _ rfl (by kernel_rfl) (by kernel_rfl) (by kernel_rfl) (.inr ⟨by rfl, rfl⟩) hS ?_
    simp only [Act.put, z1, z2, z3]
    refine held_take 7 _ rfl (by kernel_rfl) (by kernel_rfl) (by kernel_rfl) (.inr ⟨by rfl, rfl⟩) hS ?_
    simp only [Act.put, z1, z2, z3]
    refine held_take 8 _ rfl (by kernel_rfl) (by kernel_rfl) (by kernel_rfl) (.inr ⟨by rfl, rfl⟩) hS ?_
    simp only [Act.put, z1, z2, z3]
    refine held_take 9 _ rfl (by kernel_rfl) (by kernel_rfl) (by kernel_rfl) (.inr ⟨by rfl, rfl⟩) hS ?_
    simp only [Act.put, z1, z2, z3]
    refine held_take 10 _ rfl (by kernel_rfl) (by kernel_rfl) (by kernel_rfl) (.inr ⟨by rfl, rfl⟩) hS ?_
    simp only [Act.put, z1, z2, z3]
    refine held_take 11 _ rfl (by kernel_rfl) (by kernel_rfl) (by kernel_rfl) (.inr ⟨by rfl, rfl⟩) hS ?_
    simp only [Act.put, z1, z2, z3]
    refine held_take 12 _ rfl (by kernel_rfl) (by kernel_rfl) (by kernel_rfl) (.inr ⟨by rfl, rfl⟩) hS ?_
    simp only [Act.put, z1, z2, z3]
    refine held_take 13 _ rfl (by kernel_rfl) (by kernel_rfl) (by kernel_rfl) (.inr ⟨by rfl, rfl⟩) hS ?_
    simp only [Act.put, z1, z2, z3]
    refine held_take 14 _ rfl (by kernel_rfl) (by kernel_rfl) (by kernel_rfl) (y_pickT (v := .bool true) rfl rfl rfl rfl) hS ?_
    simp only [Act.put, z1, z2, z3]
    refine held_take 15 _ rfl (by kernel_rfl) (by kernel_rfl) (by kernel_rfl) (y_assign (v := .bool true) rfl rfl rfl) hS ?_
    simp only [Act.put, z1, z2, z3]
    refine held_done (by kernel_rfl) ?_ _
    refine hK63 _ _ ?_
    clear hK63
    refine wp_ret ?_
    try simp only [Exit.inBlock, Exit.then]
    refine bodyPost_ret (v := .bool true) (res1 rfl rfl) rfl ?_
    exact ⟨rfl, M64.arr [] (by decide)⟩
  clear hK13
  refine wp_block ?_
  refine wp_loop (fun a' w' => ∃ (i : Nat) (D : DV) (V : FV) (B : BV) (qv : Value) (bx : BX) (us15 : List Value), a' = (⟨#[.int .i64 (k : Int), .int .i64 width, .slice aa an ac, .int .i64 how, .int .i64 n, .slice la ln lc, undef, undef, undef, undef, undef, undef, (us15.getD 0 undef), .pointer (some ⟨p, 0, none⟩), .pointer (some ⟨f, 0, none⟩), .pointer (some ⟨b, 0, none⟩), .int .i64 (i : Int), (us15.getD 1 undef), (us15.getD 2 undef), undef, undef, undef, undef, undef, undef, undef, undef, undef, undef, undef, undef, undef, .int .i64 (k : Int), .int .i64 width, .bool true, .bool false, .tuple #[.pointer (some ⟨p, 0, none⟩), .pointer (some ⟨f, 0, none⟩)], .int .i64 (k : Int), .int .i64 width, .tuple #[.pointer (some ⟨p, 0, none⟩), .pointer (some ⟨f, 0, none⟩)], .pointer (some ⟨p, 0, none⟩), .pointer (some ⟨f, 0, none⟩), .pointer (some ⟨f, 0, none⟩), .bool false, .agg ((bC (⟨[], 2, 1, 0, 0, 0⟩ : BV) (⟨.slice none 0 0, .slice none 0 0, []⟩ : BX))).toArray, .pointer (some ⟨b, 0, none⟩), (us15.getD 3 undef), (us15.getD 4 undef), (us15.getD 5 undef), (us15.getD 6 undef), (us15.getD 7 undef), (us15.getD 8 undef), (us15.getD 9 undef), (us15.getD 10 undef), (us15.getD 11 undef), (us15.getD 12 undef), (us15.getD 13 undef), (us15.getD 14 undef), (us15.getD 15 undef), (us15.getD 16 undef), (us15.getD 17 undef), (us15.getD 18 undef), (us15.getD 19 undef), (us15.getD 20 undef), (us15.getD 21 undef), (us15.getD 22 undef), (us15.getD 23 undef), (us15.getD 24 undef), (us15.getD 25 undef), (us15.getD 26 undef), (us15.getD 27 undef), (us15.getD 28 undef), (us15.getD 29 undef), (us15.getD 30 undef), (us15.getD 31 undef), undef, undef, undef, undef, undef, undef, undef, undef, undef, undef, undef, undef, undef, undef, undef, undef, undef, undef, undef, undef, undef, undef, undef, undef, undef, undef, undef, undef, undef, undef, undef, undef, undef, undef, undef, undef, undef, undef, undef, undef, undef, undef, undef, undef, undef, undef, undef, undef, undef, undef, undef, undef, undef, undef, undef, undef, undef, undef, undef, undef, undef, undef, undef, undef, undef, undef, undef, undef, undef, undef, undef, undef, undef, undef, undef, undef, undef, undef, undef, undef, undef, undef, undef, undef, undef, undef, undef, undef, undef, undef, undef, undef, undef, undef, undef, undef, undef, undef, undef, undef, undef, undef, undef, undef, undef, undef, undef, undef, undef, undef, undef, undef, undef, undef, undef, undef, undef, undef, undef, undef, undef, undef, undef, undef, undef, undef, undef, undef, undef, undef, undef, undef, undef, undef, undef, undef, undef, undef, undef, undef, undef, undef, undef, undef, undef], []⟩ : Act) ∧ (BInv D V B) ∧ (D.q.length ≤ i ∧ i ≤ 60 ∧ D.pages.length = k ∧ D.armed = 0) ∧ (V.s.gen ≤ 1 + i ∧ V.s.width = width) ∧ Mem w [] w' [disk D p pg mb qv, blk f 96 (fC V p), book B b bx]) (fun a' _ => an - (intOf (a'.tmps.getD 16 undef)).toNat) ⟨0, D0, (⟨secondS width k, 2, m⟩ : FV), (⟨[], 2, 1, 0, 0, 0⟩ : BV), qv0, (⟨.slice none 0 0, .slice none 0 0, []⟩ : BX), [.bool false, undef, undef, undef, undef, undef, undef, undef, undef, undef, undef, undef, undef, undef, undef, undef, undef, undef, undef, undef, undef, undef, undef, undef, undef, undef, undef, undef, undef, undef, undef, undef], rfl, hBI, ⟨by rw [hq0]; exact Nat.zero_le _, by omega, hp0, ha0⟩, ⟨by show (1 : Int) ≤ 1 + ((0 : Nat) : Int); decide, rfl⟩, (M12.arr [1, 2, 0] (by decide))⟩ ?_
  clear M12
  rintro a' w65 ⟨i, D, V, B, qv, bx, us15, rfl, hB, hqi, hgi, M65⟩
  refine wp_seq_k (fun K66 hK66 => ?_)
  refine wp_seq_k (fun K67 hK67 => ?_)
  refine wp_region_lit ?_
  refine pl M65 (y_move (v := .int .i64 (i : Int)) rfl rfl rfl) ?_
  simp only [Act.put, z1, z2, z3]
  refine pl M65 (y_move (v := .slice aa an ac) rfl rfl rfl) ?_
  simp only [Act.put, z1, z2, z3]
  refine pl M65 (y_len rfl rfl rfl Try.underlying41) ?_
  simp only [Act.put, z1, z2, z3]
  rcases Decidable.em ((i : Int) < (an : Int)) with h68 | h68
  · obtain ⟨a, hget⟩ : ∃ a, avs[i]? = some a := ⟨_, List.getElem?_eq_getElem (by have := hacts.1; omega)⟩
    obtain ⟨ga, oa, hao, hra⟩ := hacts.2 i a hget
    obtain ⟨hrow, hnil, hmc, hcc⟩ := hok a (List.mem_of_getElem? hget)
    refine pl M65 (y_lss (b := true) rfl rfl rfl rfl (decide_eq_true h68)) ?_
    simp only [Act.put, z1, z2, z3]
    refine pl M65 (y_move (v := .bool true) rfl rfl rfl) ?_
    simp only [Act.put, z1, z2, z3]
    refine pl M65 (y_move (v := .int .i64 (i : Int)) rfl rfl rfl) ?_
    simp only [Act.put, z1, z2, z3]
    rcases Decidable.em ((i : Int) < 60) with h69 | h69
    · refine pl M65 (y_lss (b := true) rfl rfl rfl rfl (decide_eq_true h69)) ?_
      simp only [Act.put, z1, z2, z3]
      refine pl M65 (y_pickT (v := .bool true) rfl rfl rfl rfl) ?_
      simp only [Act.put, z1, z2, z3]
      refine wpList_nil ?_
      refine hK67 _ _ ?_
      clear hK67
      refine wp_cond_true rfl ?_
      refine wp_skip ?_
      refine hK66 _ _ ?_
      clear hK66
      refine wp_seq_k (fun K70 hK70 => ?_)
      refine wp_block ?_
      refine wp_seq_k (fun K71 hK71 => ?_)
      refine wp_region_lit ?_
      refine pl M65 (y_move (v := .slice aa an ac) rfl rfl rfl) ?_
      simp only [Act.put, z1, z2, z3]
      refine pl M65 (y_move (v := .int .i64 (i : Int)) rfl rfl rfl) ?_
      simp only [Act.put, z1, z2, z3]
      refine pl M65 (y_ias (r := oa + i * 3) rfl rfl (congrArg (fun z => Value.slice z an ac) hao) rfl Try.underlying41 Try.sizeOf50 (by omega) (by omega)) ?_
      simp only [Act.put, z1, z2, z3]
      refine pl M65 (y_fa (r := oa + i * 3) rfl rfl rfl Try.underlying50 rfl Try.sizeOf3 rfl) ?_
      simp only [Act.put, z1, z2, z3]
      refine pl M65 (y_loadc (v := .int .i64 a.k) rfl rfl rfl Try.isAgg3 (fun W hW => (hW.range hra (by simp)) 0 _ rfl)) ?_
      simp only [Act.put, z1, z2, z3]
      rcases Decidable.em (a.k = 4) with h72 | h72
      · refine pl M65 (y_neq (b := false) rfl rfl rfl rfl (by rw [decide_eq_true h72]; rfl)) ?_
        simp only [Act.put, z1, z2, z3]
        refine wpList_nil ?_
        refine hK71 _ _ ?_
        clear hK71
        refine wp_cond_false rfl ?_
        refine wp_skip ?_
        refine hK70 _ _ ?_
        clear hK70
        refine wp_region_lit ?_
        refine pl M65 (y_move (v := .int .i64 (i : Int)) rfl rfl rfl) ?_
        simp only [Act.put, z1, z2, z3]
        refine pl M65 (y_add (r := (i : Int) + 1) rfl rfl rfl rfl (rfl) (by omega)) ?_
        simp only [Act.put, z1, z2, z3]
        refine pl M65 (y_assign (v := .int .i64 ((i : Int) + 1)) rfl rfl rfl) ?_
        simp only [Act.put, z1, z2, z3]
        refine wpList_nil ?_
        refine ⟨⟨i + 1, D, V, B, qv, bx, [(us15.getD 0 undef), (us15.getD 1 undef), (us15.getD 2 undef), .int .i64 (i : Int), .slice aa an ac, .int .i64 (an : Int), .bool true, .bool true, .int .i64 (i : Int), .bool true, .bool true, .int .i64 (i : Int), .int .i64 ((i : Int) + 1), .slice aa an ac, .int .i64 (i : Int), .pointer (some ⟨ga, oa + i * 3, none⟩), .pointer (some ⟨ga, oa + i * 3, none⟩), .int .i64 a.k, .bool false, (us15.getD 19 undef), (us15.getD 20 undef), (us15.getD 21 undef), (us15.getD 22 undef), (us15.getD 23 undef), (us15.getD 24 undef), (us15.getD 25 undef), (us15.getD 26 undef), (us15.getD 27 undef), (us15.getD 28 undef), (us15.getD 29 undef), (us15.getD 30 undef), (us15.getD 31 undef)], rfl, (by first | exact hB2 | exact hB), ⟨by first | (have := hkept.que; omega) | omega, by omega, by first | (have := hkept.pages; omega) | omega, by first | exact harm2 | exact hqi.2.2.2⟩, ⟨by first | (have := hkept.gen; omega) | omega, by first | (rw [hkept.width]; exact hgi.2) | exact hgi.2⟩, (M65.arr [0, 1, 2] (by decide))⟩, ?_⟩
        simp [intOf]; omega
      · have hk4 : a.k ≠ 4 := h72
        refine pl M65 (y_neq (b := true) rfl rfl rfl rfl (by rw [decide_eq_false h72]; rfl)) ?_
        simp only [Act.put, z1, z2, z3]
        refine wpList_nil ?_
        refine hK71 _ _ ?_
        clear hK71
        refine wp_cond_true rfl ?_
        refine wp_seq_k (fun K73 hK73 => ?_)
        refine wp_region_lit ?_
        refine pl M65 (y_move (v := .pointer (some ⟨b, 0, none⟩)) rfl rfl rfl) ?_
        simp only [Act.put, z1, z2, z3]
        refine pl M65 (y_move (v := .pointer (some ⟨p, 0, none⟩)) rfl rfl rfl) ?_
        simp only [Act.put, z1, z2, z3]
        refine pl M65 (y_move (v := .pointer (some ⟨f, 0, none⟩)) rfl rfl rfl) ?_
        simp only [Act.put, z1, z2, z3]
        refine pl M65 (y_move (v := .slice aa an ac) rfl rfl rfl) ?_
        simp only [Act.put, z1, z2, z3]
        refine pl M65 (y_move (v := .int .i64 (i : Int)) rfl rfl rfl) ?_
        simp only [Act.put, z1, z2, z3]
        refine pl M65 (y_ias (r := oa + i * 3) rfl rfl (congrArg (fun z => Value.slice z an ac) hao) rfl Try.underlying41 Try.sizeOf50 (by omega) (by omega)) ?_
        simp only [Act.put, z1, z2, z3]
        refine pl M65 (y_loadr (cs := (actC a)) rfl rfl rfl Try.underlying50 rfl (size_act a) (fun W hW => hW.range hra (by simp))) ?_
        simp only [Act.put, z1, z2, z3]
        have hX74 : Mem w [] w65 ([disk D p pg mb qv, blk f 96 (fC V p), book B b bx] ++ []) := M65.arr [0, 1, 2] (by decide)
        refine pe rfl (fun K hK => ?_)
        refine e_call 27 [.pointer (some ⟨b, 0, none⟩), .pointer (some ⟨p, 0, none⟩), .pointer (some ⟨f, 0, none⟩), .agg ((actC a)).toArray] rfl rfl Try.call27 (bact_any (Mem.here hX74) a.k a.n a.ao a.m a.c a.l (M65.row hrow (by simp)) (hX74.left.off_row hrow) (by omega) hB (by omega) (by omega)) ?_
        rintro e w74 ⟨er, E, V2, B2, qv2, bx2, rfl, H74, hout⟩
        have M74 : Mem w [] w74 [disk E p pg mb qv2, blk f 96 (fC V2 p), book B2 b bx2] := Mem.frame hX74 H74
        obtain ⟨her, hkept, hB2, harm2⟩ := hout.good ⟨hk4, hqi.2.2.2⟩
        refine ⟨_, rfl, ?_⟩
        refine hK.out _ _ ?_
        clear hK K
        simp only [Act.put, z1, z2, z3]
        refine pl M74 (y_move (v := .tuple #[.int .i64 er, .bool true]) rfl rfl rfl) ?_
        simp only [Act.put, z1, z2, z3]
        refine pl M74 (y_ext (v := .int .i64 er) rfl rfl rfl rfl) ?_
        simp only [Act.put, z1, z2, z3]
        refine pl M74 (y_ext (v := .bool true) rfl rfl rfl rfl) ?_
        simp only [Act.put, z1, z2, z3]
        refine pl M74 (y_assign (v := .int .i64 er) rfl rfl rfl) ?_
        simp only [Act.put, z1, z2, z3]
        refine pl M74 (y_assign (v := .bool true) rfl rfl rfl) ?_
        simp only [Act.put, z1, z2, z3]
        refine wpList_nil ?_
        refine hK73 _ _ ?_
        clear hK73
        refine wp_seq_k (fun K75 hK75 => ?_)
        refine wp_region_lit ?_
        refine pl M74 (y_move (v := .bool true) rfl rfl rfl) ?_
        simp only [Act.put, z1, z2, z3]
        refine pl M74 (y_not rfl rfl rfl rfl) ?_
        simp only [Act.put, z1, z2, z3]
        refine wpList_nil ?_
        refine hK75 _ _ ?_
        clear hK75
        refine wp_cond_false rfl ?_
        refine wp_skip ?_
        refine hK70 _ _ ?_
        clear hK70
        refine wp_region_lit ?_
        refine pl M74 (y_move (v := .int .i64 (i : Int)) rfl rfl rfl) ?_
        simp only [Act.put, z1, z2, z3]
        refine pl M74 (y_add (r := (i : Int) + 1) rfl rfl rfl rfl (rfl) (by omega)) ?_
        simp only [Act.put, z1, z2, z3]
        refine pl M74 (y_assign (v := .int .i64 ((i : Int) + 1)) rfl rfl rfl) ?_
        simp only [Act.put, z1, z2, z3]
        refine wpList_nil ?_
        refine ⟨⟨i + 1, E, V2, B2, qv2, bx2, [(us15.getD 0 undef), .int .i64 er, .bool true, .int .i64 (i : Int), .slice aa an ac, .int .i64 (an : Int), .bool true, .bool true, .int .i64 (i : Int), .bool true, .bool true, .int .i64 (i : Int), .int .i64 ((i : Int) + 1), .slice aa an ac, .int .i64 (i : Int), .pointer (some ⟨ga, oa + i * 3, none⟩), .pointer (some ⟨ga, oa + i * 3, none⟩), .int .i64 a.k, .bool true, .tuple #[.int .i64 er, .bool true], .pointer (some ⟨b, 0, none⟩), .pointer (some ⟨p, 0, none⟩), .pointer (some ⟨f, 0, none⟩), .slice aa an ac, .int .i64 (i : Int), .pointer (some ⟨ga, oa + i * 3, none⟩), .agg ((actC a)).toArray, .tuple #[.int .i64 er, .bool true], .int .i64 er, .bool true, .bool true, .bool false], rfl, (by first | exact hB2 | exact hB), ⟨by first | (have := hkept.que; omega) | omega, by omega, by first | (have := hkept.pages; omega) | omega, by first | exact harm2 | exact hqi.2.2.2⟩, ⟨by first | (have := hkept.gen; omega) | omega, by first | (rw [hkept.width]; exact hgi.2) | exact hgi.2⟩, (M74.arr [0, 1, 2] (by decide))⟩, ?_⟩
        simp [intOf]; omega
    · refine pl M65 (y_lss (b := false) rfl rfl rfl rfl (decide_eq_false h69)) ?_
      simp only [Act.put, z1, z2, z3]
      refine pl M65 (y_pickT (v := .bool false) rfl rfl rfl rfl) ?_
      simp only [Act.put, z1, z2, z3]
      refine wpList_nil ?_
      refine hK67 _ _ ?_
      clear hK67
      refine wp_cond_false rfl ?_
      refine wp_exit ?_
      exact hcutK13 _ _ ⟨i, D, V, B, qv, bx, [(us15.getD 0 undef), (us15.getD 1 undef), (us15.getD 2 undef), .int .i64 (i : Int), .slice aa an ac, .int .i64 (an : Int), .bool true, .bool true, .int .i64 (i : Int), .bool false, .bool false, (us15.getD 11 undef), (us15.getD 12 undef), (us15.getD 13 undef), (us15.getD 14 undef), (us15.getD 15 undef), (us15.getD 16 undef), (us15.getD 17 undef), (us15.getD 18 undef), (us15.getD 19 undef), (us15.getD 20 undef), (us15.getD 21 undef), (us15.getD 22 undef), (us15.getD 23 undef), (us15.getD 24 undef), (us15.getD 25 undef), (us15.getD 26 undef), (us15.getD 27 undef), (us15.getD 28 undef), (us15.getD 29 undef), (us15.getD 30 undef), (us15.getD 31 undef)], rfl, hB, hqi, hgi, (M65.arr [0, 1, 2] (by decide))⟩
  · refine pl M65 (y_lss (b := false) rfl rfl rfl rfl (decide_eq_false h68)) ?_
    simp only [Act.put, z1, z2, z3]
    refine pl M65 (y_move (v := .bool false) rfl rfl rfl) ?_
    simp only [Act.put, z1, z2, z3]
    with_reducible refine pskip ?_ ?_
    · rfl
    simp only [Act.put, z1, z2, z3]
    with_reducible refine pskip ?_ ?_
    · rfl
    simp only [Act.put, z1, z2, z3]
    refine pl M65 (y_pickF (v := .bool false) rfl rfl rfl rfl) ?_
    simp only [Act.put, z1, z2, z3]
    refine wpList_nil ?_
    refine hK67 _ _ ?_
    clear hK67
    refine wp_cond_false rfl ?_
    refine wp_exit ?_
    exact hcutK13 _ _ ⟨i, D, V, B, qv, bx, [(us15.getD 0 undef), (us15.getD 1 undef), (us15.getD 2 undef), .int .i64 (i : Int), .slice aa an ac, .int .i64 (an : Int), .bool false, .bool false, undef, undef, .bool false, (us15.getD 11 undef), (us15.getD 12 undef), (us15.getD 13 undef), (us15.getD 14 undef), (us15.getD 15 undef), (us15.getD 16 undef), (us15.getD 17 undef), (us15.getD 18 undef), (us15.getD 19 undef), (us15.getD 20 undef), (us15.getD 21 undef), (us15.getD 22 undef), (us15.getD 23 undef), (us15.getD 24 undef), (us15.getD 25 undef), (us15.getD 26 undef), (us15.getD 27 undef), (us15.getD 28 undef), (us15.getD 29 undef), (us15.getD 30 undef), (us15.getD 31 undef)], rfl, hB, hqi, hgi, (M65.arr [0, 1, 2] (by decide))⟩
end Go.Proofs.Ytehnnnohoaapdaa

/- The law FileStale. -/
namespace Go.Proofs.Ytehnnnohoaapdaa
open Go Go.RowKit
set_option linter.unusedVariables false
set_option linter.unusedSimpArgs false
set_option maxRecDepth 100000 in
set_option maxHeartbeats 800000 in
theorem stale_nofit (pages width : Int) (aa : Option Addr) (an ac : Nat) (how n : Int) (la : Option Addr) (ln lc : Nat) (hf : ¬ Fits pages width) (w : World) : Calls Try.prog 9 #[.int .i64 pages, .int .i64 width, .slice aa an ac, .int .i64 how, .int .i64 n, .slice la ln lc] w fun e w' => e = .returned (.bool true) ∧ Mem w [] w' [] := by
  have M := Mem.nil w
  go_enter Try.func9, Try.ntmps9
  refine wp_seq_k (fun K1 hK1 => ?_)
  refine wp_region_lit ?_
  refine pl M (y_assign (v := .bool false) rfl rfl rfl) ?_
  simp only [Act.put, z1, z2, z3]
  refine wpList_nil ?_
  refine hK1 _ _ ?_
  clear hK1
  refine wp_seq_k (fun K2 hK2 => ?_)
  refine wp_seq_k (fun K3 hK3 => ?_)
  refine wp_region_lit ?_
  refine pl M (y_move (v := .int .i64 pages) rfl rfl rfl) ?_
  simp only [Act.put, z1, z2, z3]
  refine pl M (y_move (v := .int .i64 width) rfl rfl rfl) ?_
  simp only [Act.put, z1, z2, z3]
  refine pe rfl (fun K hK => ?_)
  refine e_call 11 [.int .i64 pages, .int .i64 width] rfl rfl Try.call11 (fits_any pages width _) ?_
  rintro e w4 ⟨rfl, H4⟩
  have M4 : Mem w [] w4 [] := M.step H4
  rw [(decide_eq_false hf)]
  refine ⟨_, rfl, ?_⟩
  refine hK.out _ _ ?_
  clear hK K
  simp only [Act.put, z1, z2, z3]
  refine pl M4 (y_not rfl rfl rfl rfl) ?_
  simp only [Act.put, z1, z2, z3]
  refine wpList_nil ?_
  refine hK3 _ _ ?_
  clear hK3
  refine wp_cond_true rfl ?_
  refine wp_seq_k (fun K5 hK5 => ?_)
  refine wp_region_lit ?_
  refine pl M4 (y_assign (v := .bool true) rfl rfl rfl) ?_
  simp only [Act.put, z1, z2, z3]
  refine wpList_nil ?_
  refine hK5 _ _ ?_
  clear hK5
  refine wp_ret ?_
  try simp only [Exit.inBlock, Exit.then]
  refine bodyPost_ret (v := .bool true) (res1 rfl rfl) rfl ?_
  exact ⟨rfl, M4.arr [] (by decide)⟩
theorem stale_walk {w : World} (pages width : Int) (aa : Option Addr) (an ac : Nat) (avs : List AV) (hacts : ListIn actC 3 w aa an avs) (hok : ∀ a ∈ avs, ActIn w a) (han : an ≤ 4611686018427387904) (how n : Int) (la : Option Addr) (ln lc : Nat) (ll : List UInt8) (hlr : Row w la ln ll) (hlm : ln ≤ 140737488351232) : Calls Try.prog 9 #[.int .i64 pages, .int .i64 width, .slice aa an ac, .int .i64 how, .int .i64 n, .slice la ln lc] w fun e w' => e = .returned (.bool true) ∧ Below w.heap.size w w' := by
  have fin : Calls Try.prog 9 #[.int .i64 pages, .int .i64 width, .slice aa an ac, .int .i64 how, .int .i64 n, .slice la ln lc] w (fun e w' => e = .returned (.bool true) ∧ Mem w [] w' []) := by
    by_cases hf : Fits pages width
    · obtain ⟨h1, h2, h3, h4⟩ := hf
      obtain ⟨k, rfl⟩ := Int.eq_ofNat_of_zero_le (show 0 ≤ pages by omega)
      exact (by
        rcases (by omega : how % 3 = 0 ∨ how % 3 = 1 ∨ how % 3 = 2) with hj | hj | hj
        · exact stale_fit0 k width ⟨by omega, by omega⟩ ⟨h3, h4⟩ aa an ac avs hacts hok han how n la ln lc ll hlr hlm hj
        · exact stale_fit1 k width ⟨by omega, by omega⟩ ⟨h3, h4⟩ aa an ac avs hacts hok han how n la ln lc ll hlr hlm hj
        · exact stale_fit2 k width ⟨by omega, by omega⟩ ⟨h3, h4⟩ aa an ac avs hacts hok han how n la ln lc ll hlr hlm hj)
    · exact stale_nofit pages width aa an ac how n la ln lc hf w
  refine fin.mono ?_
  rintro e w' ⟨rfl, h⟩
  exact ⟨rfl, h.below⟩
end Go.Proofs.Ytehnnnohoaapdaa
