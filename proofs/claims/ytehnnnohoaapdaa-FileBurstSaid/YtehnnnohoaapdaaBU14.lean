/- Texts joined: Law3, Law4, Law5, Law6. -/
import Derived.Test.YtehnnnohoaapdaaBU13
/- The book: one more page. -/
namespace Go.Proofs.Ytehnnnohoaapdaa
open Go Go.RowKit
set_option linter.unusedVariables false
set_option linter.unusedSimpArgs false
set_option maxRecDepth 100000 in
set_option maxHeartbeats 4000000 in
theorem bput_any {B : BV} {b : Nat} {bx : BX} (m k : Nat) (ao : Option Addr) (n c : Nat) (l : List UInt8) {w : World} (hM : Mem w (foots [book B b bx]) w [book B b bx]) (hr : Row w ao n l) (hF : ∀ b₁ o, ao = some ⟨b₁, o, none⟩ → 0 < n → b₁ ∉ foots [book B b bx]) (hn : n ≤ 140737488351400) (hm : m ≤ B.ps.length) (hps : B.ps.length ≤ 100000) : Calls Try.prog 52 #[.pointer (some ⟨b, 0, none⟩), .int .i64 ((m + 2 : Nat) : Int), .int .i64 (k : Int), .slice ao n c] w fun e w' => ∃ bx', e = .returned (.bool true) ∧ Mem w (foots [book B b bx]) w' [book { B with ps := putP B.ps (m + 2) (k, l) } b bx'] := by
  have M0 := book_open hM
  clear hM
  obtain ⟨la, lc, e1, hlc⟩ := rows_val (M0.get 1 rfl)
  obtain ⟨ka, kc, e2⟩ := qv_at (M0.get 2 rfl)
  have hkc : B.ps.length ≤ kc := by
    rcases lst_at (M0.get 2 rfl) with ⟨e3, e4, _⟩ | ⟨g, c', e3, e4, _⟩
    · rw [e4]; exact Nat.zero_le _
    · rw [e2] at e3; cases e3; exact e4
  obtain ⟨vs, hvs⟩ : ∃ v, bx.vs = v := ⟨_, rfl⟩
  have hll := B.loads_len
  have hmL : m ≤ B.loads.length := by omega
  have M : Mem w (foots [book B b bx]) w [blk b 48 (bC B ⟨.slice la B.loads.length lc, .slice ka B.ps.length kc, vs⟩), rows (.slice la B.loads.length lc) vs B.loads, lst 3 1 (.slice ka B.ps.length kc) B.ps.length B.kinds] := by rw [← e1, ← e2, ← hvs]; exact M0
  clear M0 e1 e2 hvs
  go_enter Try.func52, Try.ntmps52
  refine wp_seq_k (fun K1 hK1 => ?_)
  refine wp_region_lit ?_
  refine pl M (y_assign (v := .bool false) rfl rfl rfl) ?_
  simp only [Act.put, z1, z2, z3]
  refine wpList_nil ?_
  refine hK1 _ _ ?_
  clear hK1
  refine wp_seq_k (fun K2 hK2 => ?_)
  refine wp_seq_k (fun K3 hK3 => ?_)
  refine wp_region_lit ?_
  refine pl M (y_move (v := .int .i64 ((m + 2 : Nat) : Int)) rfl rfl rfl) ?_
  simp only [Act.put, z1, z2, z3]
  refine pl M (y_lss (b := false) rfl rfl rfl rfl (decide_eq_false (by omega))) ?_
  simp only [Act.put, z1, z2, z3]
  refine pl M (y_move (v := .bool false) rfl rfl rfl) ?_
  simp only [Act.put, z1, z2, z3]
  refine pl M (y_move (v := .int .i64 ((m + 2 : Nat) : Int)) rfl rfl rfl) ?_
  simp only [Act.put, z1, z2, z3]
  refine pl M (y_sub (r := (m : Int)) rfl rfl rfl rfl (by omega) (by omega)) ?_
  simp only [Act.put, z1, z2, z3]
  refine pl M (y_move (v := .pointer (some ⟨b, 0, none⟩)) rfl rfl rfl) ?_
  simp only [Act.put, z1, z2, z3]
  refine pl M (y_nil rfl rfl rfl) ?_
  simp only [Act.put, z1, z2, z3]
  refine pl M (y_fa (r := 0) rfl rfl rfl Try.underlying48 rfl Try.sizeOf45 rfl) ?_
  simp only [Act.put, z1, z2, z3]
  refine pl M (y_load (v := .slice la B.loads.length lc) rfl rfl rfl Try.isAgg45 (fun W hW => hW.get 0 rfl) (rfl)) ?_
  simp only [Act.put, z1, z2, z3]
  refine pl M (y_len rfl rfl rfl Try.underlying45) ?_
  simp only [Act.put, z1, z2, z3]
  refine pl M (y_gtr (b := false) rfl rfl rfl rfl (decide_eq_false (by rw [B.loads_len]; omega))) ?_
  simp only [Act.put, z1, z2, z3]
  refine pl M (y_pickF (v := .bool false) rfl rfl rfl rfl) ?_
  simp only [Act.put, z1, z2, z3]
  refine wpList_nil ?_
  refine hK3 _ _ ?_
  clear hK3
  refine wp_cond_false rfl ?_
  refine wp_skip ?_
  refine hK2 _ _ ?_
  clear hK2
  refine wp_seq_k (fun K4 hK4 => ?_)
  have M5 := M.drew
  refine held_begin (fun W => Mem w (foots [book B b bx]) W []) (by kernel_rfl) (M5.arr [] (by decide)) (fun hS => ?_)
  refine held_take 0 _ rfl (by kernel_rfl) (by kernel_rfl) (by kernel_rfl) (y_move (v := .pointer (some ⟨b, 0, none⟩)) rfl rfl rfl) hS ?_
  simp only [Act.put, z1, z2, z3]
  refine held_take 1 _ rfl (by kernel_rfl) (by kernel_rfl) (by kernel_rfl) (y_move (v := .pointer (some ⟨b, 0, none⟩)) rfl rfl rfl) hS ?_
  simp only [Act.put, z1, z2, z3]
  refine held_take 2 _ rfl (by kernel_rfl) (by kernel_rfl) (by kernel_rfl) (y_nil rfl rfl rfl) hS ?_
  simp only [Act.put, z1, z2, z3]
  refine held_take 3 _ rfl (by kernel_rfl) (by kernel_rfl) (by kernel_rfl) (y_fa (r := 0) rfl rfl rfl Try.underlying48 rfl Try.sizeOf45 rfl) hS ?_
  simp only [Act.put, z1, z2, z3]
  refine held_take 5 _ rfl (by kernel_rfl) (by kernel_rfl) (by kernel_rfl) (y_move (v := .int .i64 ((m + 2 : Nat) : Int)) rfl rfl rfl) hS ?_
  simp only [Act.put, z1, z2, z3]
  refine held_take 6 _ rfl (by kernel_rfl) (by kernel_rfl) (by kernel_rfl) (y_sub (r := (m : Int)) rfl rfl rfl rfl (by omega) (by omega)) hS ?_
  simp only [Act.put, z1, z2, z3]
  refine held_take 8 _ rfl (by kernel_rfl) (by kernel_rfl) (by kernel_rfl) (y_move (v := .slice ao n c) rfl rfl rfl) hS ?_
  simp only [Act.put, z1, z2, z3]
  refine held_step2 4 9 (by kernel_rfl) rfl rfl (by rfl) (by rfl) (fun K hK => ?_) (fun K hK => ?_)
  · refine e_yield (ops := #[]) M5 (y_load (v := .slice la B.loads.length lc) rfl rfl rfl Try.isAgg45 (fun W hW => hW.get 0 rfl) (rfl)) rfl ?_
    refine hK.out _ _ (M5.arr [] (by decide)) (fun hS => ?_)
    clear hK K
    simp only [Act.put, z1, z2, z3]
    refine held_take 7 _ rfl (by kernel_rfl) (by kernel_rfl) (by kernel_rfl) (y_slt (h := m) rfl rfl rfl rfl Try.underlying45 Try.sizeOf22 (by omega)) hS ?_
    simp only [Act.put, z1, z2, z3]
    refine held_step 9 (by kernel_rfl) rfl (by rfl) (fun K hK => ?_)
    refine e_call 32 [.slice ao n c] rfl rfl Try.call32 (copy_any ao n c l _ (M5.row hr hF) (by omega)) ?_
    rintro e w6 ⟨a1, c1, rfl, H6⟩
    have M6 : Mem w _ w6 [bytesL (.slice a1 l.length c1) l, blk b 48 (bC B ⟨.slice la B.loads.length lc, .slice ka B.ps.length kc, vs⟩), rows (.slice la B.loads.length lc) vs B.loads, lst 3 1 (.slice ka B.ps.length kc) B.ps.length B.kinds] := M5.step H6
    refine ⟨_, rfl, ?_⟩
    refine hK.out _ _ (M6.arr [] (by decide)) (fun hS => ?_)
    clear hK K
    simp only [Act.put, z1, z2, z3]
    refine held_step 10 (by kernel_rfl) rfl (by rfl) (fun K hK => ?_)
    refine e_bslice M6 ([.slice a1 l.length c1]) (pv := [(0, .slice a1 l.length c1)]) rfl rfl Try.underlying45 Try.sizeOf22 Try.zeroValue22 (by decide) (by kernel_rfl) ?_
    intro g7 w8 (M8 : Mem w _ w8 [blk g7 22 ([.slice a1 l.length c1]), bytesL (.slice a1 l.length c1) l, blk b 48 (bC B ⟨.slice la B.loads.length lc, .slice ka B.ps.length kc, vs⟩), rows (.slice la B.loads.length lc) vs B.loads, lst 3 1 (.slice ka B.ps.length kc) B.ps.length B.kinds])
    clear M6
    refine hK.out _ _ (M8.arr [] (by decide)) (fun hS => ?_)
    clear hK K
    simp only [Act.put, z1, z2, z3]
    obtain ⟨hcut, M9⟩ := rows_cut (w0 := w) (F := (foots [book B b bx])) (w := w8) (R := [blk g7 22 ([.slice a1 l.length c1]), bytesL (.slice a1 l.length c1) l, blk b 48 (bC B ⟨.slice la B.loads.length lc, .slice ka B.ps.length kc, vs⟩), lst 3 1 (.slice ka B.ps.length kc) B.ps.length B.kinds]) (M8.arr [3, 0, 1, 2, 4] (by decide)) rfl hmL
    clear M8
    replace M9 : Mem w (foots [book B b bx]) w8 [lst 22 1 (.slice la m lc) m (vs.take m), innerA (vs.take m) (B.loads.take m), blk g7 22 ([.slice a1 l.length c1]), bytesL (.slice a1 l.length c1) l, blk b 48 (bC B ⟨.slice la B.loads.length lc, .slice ka B.ps.length kc, vs⟩), lst 3 1 (.slice ka B.ps.length kc) B.ps.length B.kinds] := M9
    refine held_step 11 (by kernel_rfl) rfl (by rfl) (fun K hK => ?_)
    refine e_append M9 0 rowsT (by decide) (news := [.slice a1 l.length c1]) rfl rfl rfl rfl (rfl) (by intro h; cases h) (fun ad e j u hj => by cases e; match j with | 0 => cases hj; exact cell_of_blk (M9.get 2 rfl) rfl | j + 1 => cases hj) (by intro u hu; cases hu with | head => rfl | tail _ h => cases h) (⟨by unfold maxLen; omega, by omega⟩) ?_
    intro v10 w10 (M10 : Mem w _ w10 [lst 22 1 v10 (m + 1) (vs.take m ++ [.slice a1 l.length c1]), innerA (vs.take m) (B.loads.take m), blk g7 22 ([.slice a1 l.length c1]), bytesL (.slice a1 l.length c1) l, blk b 48 (bC B ⟨.slice la B.loads.length lc, .slice ka B.ps.length kc, vs⟩), lst 3 1 (.slice ka B.ps.length kc) B.ps.length B.kinds])
    clear M9
    obtain ⟨a10, c10, rfl⟩ := qv_at (M10.get 0 rfl)
    refine hK.out _ _ (M10.arr [] (by decide)) (fun hS => ?_)
    clear hK K
    simp only [Act.put, z1, z2, z3]
    refine held_take 12 _ rfl (by kernel_rfl) (by kernel_rfl) (by kernel_rfl) (y_nil rfl rfl rfl) hS ?_
    simp only [Act.put, z1, z2, z3]
    refine held_take 13 _ rfl (by kernel_rfl) (by kernel_rfl) (by kernel_rfl) (y_fa (r := 0) rfl rfl rfl Try.underlying48 rfl Try.sizeOf45 rfl) hS ?_
    simp only [Act.put, z1, z2, z3]
    refine held_step 14 (by kernel_rfl) rfl (by rfl) (fun K hK => ?_)
    refine e_store M10 4 (v := .slice a10 (m + 1) c10) rfl rfl rfl rfl rfl rfl Try.sizeOf45 rfl (show (0 : Nat) < 7 by decide) ?_
    intro w11 (M11 : Mem w _ w11 [lst 22 1 (.slice a10 (m + 1) c10) (m + 1) (vs.take m ++ [.slice a1 l.length c1]), innerA (vs.take m) (B.loads.take m), blk g7 22 ([.slice a1 l.length c1]), bytesL (.slice a1 l.length c1) l, blk b 48 ([.slice a10 (m + 1) c10, .slice ka B.ps.length kc, .int .i64 B.mark, .int .i64 B.gen, .int .i64 B.head, .int .i64 B.inMark, .int .i64 B.inHead]), lst 3 1 (.slice ka B.ps.length kc) B.ps.length B.kinds])
    clear M10
    refine hK.out _ _ (M11.arr [] (by decide)) (fun hS => ?_)
    clear hK K
    simp only [Act.put, z1, z2, z3]
    refine held_done (by kernel_rfl) ?_ _
    refine hK4 _ _ ?_
    clear hK4
    refine wp_seq_k (fun K12 hK12 => ?_)
    refine wp_region_lit ?_
    refine pl M11 (y_move (v := .pointer (some ⟨b, 0, none⟩)) rfl rfl rfl) ?_
    simp only [Act.put, z1, z2, z3]
    refine pl M11 (y_move (v := .pointer (some ⟨b, 0, none⟩)) rfl rfl rfl) ?_
    simp only [Act.put, z1, z2, z3]
    refine pl M11 (y_nil rfl rfl rfl) ?_
    simp only [Act.put, z1, z2, z3]
    refine pl M11 (y_fa (r := 1) rfl rfl rfl Try.underlying48 rfl Try.sizeOf46 rfl) ?_
    simp only [Act.put, z1, z2, z3]
    refine pl M11 (y_load (v := .slice ka B.ps.length kc) rfl rfl rfl Try.isAgg46 (fun W hW => hW.get 4 rfl) (rfl)) ?_
    simp only [Act.put, z1, z2, z3]
    refine pl M11 (y_move (v := .int .i64 ((m + 2 : Nat) : Int)) rfl rfl rfl) ?_
    simp only [Act.put, z1, z2, z3]
    refine pl M11 (y_sub (r := (m : Int)) rfl rfl rfl rfl (by omega) (by omega)) ?_
    simp only [Act.put, z1, z2, z3]
    refine pl M11 (y_slt (h := m) rfl rfl rfl rfl Try.underlying46 Try.sizeOf3 (by omega)) ?_
    simp only [Act.put, z1, z2, z3]
    refine pl M11 (y_move (v := .int .i64 (k : Int)) rfl rfl rfl) ?_
    simp only [Act.put, z1, z2, z3]
    refine pe rfl (fun K hK => ?_)
    refine e_bslice M11 ([.int .i64 (k : Int)]) (pv := [(0, .int .i64 (k : Int))]) rfl rfl Try.underlying46 Try.sizeOf3 Try.zeroValue3 (by decide) (by kernel_rfl) ?_
    intro g13 w14 (M14 : Mem w _ w14 [blk g13 3 ([.int .i64 (k : Int)]), lst 22 1 (.slice a10 (m + 1) c10) (m + 1) (vs.take m ++ [.slice a1 l.length c1]), innerA (vs.take m) (B.loads.take m), blk g7 22 ([.slice a1 l.length c1]), bytesL (.slice a1 l.length c1) l, blk b 48 ([.slice a10 (m + 1) c10, .slice ka B.ps.length kc, .int .i64 B.mark, .int .i64 B.gen, .int .i64 B.head, .int .i64 B.inMark, .int .i64 B.inHead]), lst 3 1 (.slice ka B.ps.length kc) B.ps.length B.kinds])
    clear M11
    refine hK.out _ _ ?_
    clear hK K
    simp only [Act.put, z1, z2, z3]
    have M15 : Mem w _ w14 [blk g13 3 ([.int .i64 (k : Int)]), lst 22 1 (.slice a10 (m + 1) c10) (m + 1) (vs.take m ++ [.slice a1 l.length c1]), innerA (vs.take m) (B.loads.take m), blk g7 22 ([.slice a1 l.length c1]), bytesL (.slice a1 l.length c1) l, blk b 48 ([.slice a10 (m + 1) c10, .slice ka B.ps.length kc, .int .i64 B.mark, .int .i64 B.gen, .int .i64 B.head, .int .i64 B.inMark, .int .i64 B.inHead]), lst 3 1 (.slice ka m kc) m (B.kinds.take (m * 1))] := Mem.front M14 6 (m := m) rfl hm
    clear M14
    refine pe rfl (fun K hK => ?_)
    refine e_append M15 6 intsT (by decide) (news := [.int .i64 (k : Int)]) rfl rfl rfl rfl (rfl) (by intro h; cases h) (fun ad e j u hj => by cases e; match j with | 0 => cases hj; exact cell_of_blk (M15.get 0 rfl) rfl | j + 1 => cases hj) (by intro u hu; cases hu with | head => rfl | tail _ h => cases h) (⟨by unfold maxLen; omega, by omega⟩) ?_
    intro v16 w16 (M16 : Mem w _ w16 [blk g13 3 ([.int .i64 (k : Int)]), lst 22 1 (.slice a10 (m + 1) c10) (m + 1) (vs.take m ++ [.slice a1 l.length c1]), innerA (vs.take m) (B.loads.take m), blk g7 22 ([.slice a1 l.length c1]), bytesL (.slice a1 l.length c1) l, blk b 48 ([.slice a10 (m + 1) c10, .slice ka B.ps.length kc, .int .i64 B.mark, .int .i64 B.gen, .int .i64 B.head, .int .i64 B.inMark, .int .i64 B.inHead]), lst 3 1 v16 (m + 1) (B.kinds.take (m * 1) ++ [.int .i64 (k : Int)])])
    clear M15
    obtain ⟨a16, c16, rfl⟩ := qv_at (M16.get 6 rfl)
    refine hK.out _ _ ?_
    clear hK K
    simp only [Act.put, z1, z2, z3]
    refine pl M16 (y_nil rfl rfl rfl) ?_
    simp only [Act.put, z1, z2, z3]
    refine pl M16 (y_fa (r := 1) rfl rfl rfl Try.underlying48 rfl Try.sizeOf46 rfl) ?_
    simp only [Act.put, z1, z2, z3]
    refine pe rfl (fun K hK => ?_)
    refine e_store M16 5 (v := .slice a16 (m + 1) c16) rfl rfl rfl rfl rfl rfl Try.sizeOf46 rfl (show (1 : Nat) < 7 by decide) ?_
    intro w17 (M17 : Mem w _ w17 [blk g13 3 ([.int .i64 (k : Int)]), lst 22 1 (.slice a10 (m + 1) c10) (m + 1) (vs.take m ++ [.slice a1 l.length c1]), innerA (vs.take m) (B.loads.take m), blk g7 22 ([.slice a1 l.length c1]), bytesL (.slice a1 l.length c1) l, blk b 48 ([.slice a10 (m + 1) c10, .slice a16 (m + 1) c16, .int .i64 B.mark, .int .i64 B.gen, .int .i64 B.head, .int .i64 B.inMark, .int .i64 B.inHead]), lst 3 1 (.slice a16 (m + 1) c16) (m + 1) (B.kinds.take (m * 1) ++ [.int .i64 (k : Int)])])
    clear M16
    refine hK.out _ _ ?_
    clear hK K
    simp only [Act.put, z1, z2, z3]
    refine wpList_nil ?_
    refine hK12 _ _ ?_
    clear hK12
    refine wp_seq_k (fun K18 hK18 => ?_)
    refine wp_region_lit ?_
    refine pl M17 (y_assign (v := .bool true) rfl rfl rfl) ?_
    simp only [Act.put, z1, z2, z3]
    refine wpList_nil ?_
    refine hK18 _ _ ?_
    clear hK18
    refine wp_ret ?_
    try simp only [Exit.inBlock, Exit.then]
    refine bodyPost_ret (v := .bool true) (res1 rfl rfl) rfl ?_
    have N := rows_snoc hcut (M17.arr [1, 4, 2, 5, 6] (by decide))
    rw [← put_loads B m k l] at N
    have e1 : B.kinds.take (m * 1) ++ [.int .i64 (k : Int)] = ({ B with ps := putP B.ps (m + 2) (k, l) } : BV).kinds := by rw [put_kinds, Nat.mul_one]
    have e2 : m + 1 = (putP B.ps (m + 2) (k, l)).length := (putP_len B.ps (m + 2) (k, l) hm).symm
    rw [e1] at N
    refine ⟨⟨.slice a10 (m + 1) c10, .slice a16 (m + 1) c16, vs.take m ++ [.slice a1 l.length c1]⟩, rfl, book_close ?_⟩
    have N2 := N.arr [1, 0, 2] (by decide)
    show Mem _ _ _ [_, _, lst 3 1 _ (putP B.ps (m + 2) (k, l)).length _]
    rw [← e2]
    exact N2
  · refine e_call 32 [.slice ao n c] rfl rfl Try.call32 (copy_any ao n c l _ (M5.row hr hF) (by omega)) ?_
    rintro e w19 ⟨a1, c1, rfl, H19⟩
    have M19 : Mem w _ w19 [bytesL (.slice a1 l.length c1) l, blk b 48 (bC B ⟨.slice la B.loads.length lc, .slice ka B.ps.length kc, vs⟩), rows (.slice la B.loads.length lc) vs B.loads, lst 3 1 (.slice ka B.ps.length kc) B.ps.length B.kinds] := M5.step H19
    refine ⟨_, rfl, ?_⟩
    refine hK.out _ _ (M19.arr [] (by decide)) (fun hS => ?_)
    clear hK K
    simp only [Act.put, z1, z2, z3]
    refine held_step2 4 10 (by kernel_rfl) rfl rfl (by rfl) (by rfl) (fun K hK => ?_) (fun K hK => ?_)
    · refine e_yield (ops := #[]) M19 (y_load (v := .slice la B.loads.length lc) rfl rfl rfl Try.isAgg45 (fun W hW => hW.get 1 rfl) (rfl)) rfl ?_
      refine hK.out _ _ (M19.arr [] (by decide)) (fun hS => ?_)
      clear hK K
      simp only [Act.put, z1, z2, z3]
      refine held_take 7 _ rfl (by kernel_rfl) (by kernel_rfl) (by kernel_rfl) (y_slt (h := m) rfl rfl rfl rfl Try.underlying45 Try.sizeOf22 (by omega)) hS ?_
      simp only [Act.put, z1, z2, z3]
      refine held_step 10 (by kernel_rfl) rfl (by rfl) (fun K hK => ?_)
      refine e_bslice M19 ([.slice a1 l.length c1]) (pv := [(0, .slice a1 l.length c1)]) rfl rfl Try.underlying45 Try.sizeOf22 Try.zeroValue22 (by decide) (by kernel_rfl) ?_
      intro g20 w21 (M21 : Mem w _ w21 [blk g20 22 ([.slice a1 l.length c1]), bytesL (.slice a1 l.length c1) l, blk b 48 (bC B ⟨.slice la B.loads.length lc, .slice ka B.ps.length kc, vs⟩), rows (.slice la B.loads.length lc) vs B.loads, lst 3 1 (.slice ka B.ps.length kc) B.ps.length B.kinds])
      clear M19
      refine hK.out _ _ (M21.arr [] (by decide)) (fun hS => ?_)
      clear hK K
      simp only [Act.put, z1, z2, z3]
      obtain ⟨hcut, M22⟩ := rows_cut (w0 := w) (F := (foots [book B b bx])) (w := w21) (R := [blk g20 22 ([.slice a1 l.length c1]), bytesL (.slice a1 l.length c1) l, blk b 48 (bC B ⟨.slice la B.loads.length lc, .slice ka B.ps.length kc, vs⟩), lst 3 1 (.slice ka B.ps.length kc) B.ps.length B.kinds]) (M21.arr [3, 0, 1, 2, 4] (by decide)) rfl hmL
      clear M21
      replace M22 : Mem w (foots [book B b bx]) w21 [lst 22 1 (.slice la m lc) m (vs.take m), innerA (vs.take m) (B.loads.take m), blk g20 22 ([.slice a1 l.length c1]), bytesL (.slice a1 l.length c1) l, blk b 48 (bC B ⟨.slice la B.loads.length lc, .slice ka B.ps.length kc, vs⟩), lst 3 1 (.slice ka B.ps.length kc) B.ps.length B.kinds] := M22
      refine held_step 11 (by kernel_rfl) rfl (by rfl) (fun K hK => ?_)
      refine e_append M22 0 rowsT (by decide) (news := [.slice a1 l.length c1]) rfl rfl rfl rfl (rfl) (by intro h; cases h) (fun ad e j u hj => by cases e; match j with | 0 => cases hj; exact cell_of_blk (M22.get 2 rfl) rfl | j + 1 => cases hj) (by intro u hu; cases hu with | head => rfl | tail _ h => cases h) (⟨by unfold maxLen; omega, by omega⟩) ?_
      intro v23 w23 (M23 : Mem w _ w23 [lst 22 1 v23 (m + 1) (vs.take m ++ [.slice a1 l.length c1]), innerA (vs.take m) (B.loads.take m), blk g20 22 ([.slice a1 l.length c1]), bytesL (.slice a1 l.length c1) l, blk b 48 (bC B ⟨.slice la B.loads.length lc, .slice ka B.ps.length kc, vs⟩), lst 3 1 (.slice ka B.ps.length kc) B.ps.length B.kinds])
      clear M22
      obtain ⟨a23, c23, rfl⟩ := qv_at (M23.get 0 rfl)
      refine hK.out _ _ (M23.arr [] (by decide)) (fun hS => ?_)
      clear hK K
      simp only [Act.put, z1, z2, z3]
      refine held_take 12 _ rfl (by kernel_rfl) (by kernel_rfl) (by kernel_rfl) (y_nil rfl rfl rfl) hS ?_
      simp only [Act.put, z1, z2, z3]
      refine held_take 13 _ rfl (by kernel_rfl) (by kernel_rfl) (by kernel_rfl) (y_fa (r := 0) rfl rfl rfl Try.underlying48 rfl Try.sizeOf45 rfl) hS ?_
      simp only [Act.put, z1, z2, z3]
      refine held_step 14 (by kernel_rfl) rfl (by rfl) (fun K hK => ?_)
      refine e_store M23 4 (v := .slice a23 (m + 1) c23) rfl rfl rfl rfl rfl rfl Try.sizeOf45 rfl (show (0 : Nat) < 7 by decide) ?_
      intro w24 (M24 : Mem w _ w24 [lst 22 1 (.slice a23 (m + 1) c23) (m + 1) (vs.take m ++ [.slice a1 l.length c1]), innerA (vs.take m) (B.loads.take m), blk g20 22 ([.slice a1 l.length c1]), bytesL (.slice a1 l.length c1) l, blk b 48 ([.slice a23 (m + 1) c23, .slice ka B.ps.length kc, .int .i64 B.mark, .int .i64 B.gen, .int .i64 B.head, .int .i64 B.inMark, .int .i64 B.inHead]), lst 3 1 (.slice ka B.ps.length kc) B.ps.length B.kinds])
      clear M23
      refine hK.out _ _ (M24.arr [] (by decide)) (fun hS => ?_)
      clear hK K
      simp only [Act.put, z1, z2, z3]
      refine held_done (by kernel_rfl) ?_ _
      refine hK4 _ _ ?_
      clear hK4
      refine wp_seq_k (fun K25 hK25 => ?_)
      refine wp_region_lit ?_
      refine pl M24 (y_move (v := .pointer (some ⟨b, 0, none⟩)) rfl rfl rfl) ?_
      simp only [Act.put, z1, z2, z3]
      refine pl M24 (y_move (v := .pointer (some ⟨b, 0, none⟩)) rfl rfl rfl) ?_
      simp only [Act.put, z1, z2, z3]
      refine pl M24 (y_nil rfl rfl rfl) ?_
      simp only [Act.put, z1, z2, z3]
      refine pl M24 (y_fa (r := 1) rfl rfl rfl Try.underlying48 rfl Try.sizeOf46 rfl) ?_
      simp only [Act.put, z1, z2, z3]
      refine pl M24 (y_load (v := .slice ka B.ps.length kc) rfl rfl rfl Try.isAgg46 (fun W hW => hW.get 4 rfl) (rfl)) ?_
      simp only [Act.put, z1, z2, z3]
      refine pl M24 (y_move (v := .int .i64 ((m + 2 : Nat) : Int)) rfl rfl rfl) ?_
      simp only [Act.put, z1, z2, z3]
      refine pl M24 (y_sub (r := (m : Int)) rfl rfl rfl rfl (by omega) (by omega)) ?_
      simp only [Act.put, z1, z2, z3]
      refine pl M24 (y_slt (h := m) rfl rfl rfl rfl Try.underlying46 Try.sizeOf3 (by omega)) ?_
      simp only [Act.put, z1, z2, z3]
      refine pl M24 (y_move (v := .int .i64 (k : Int)) rfl rfl rfl) ?_
      simp only [Act.put, z1, z2, z3]
      refine pe rfl (fun K hK => ?_)
      refine e_bslice M24 ([.int .i64 (k : Int)]) (pv := [(0, .int .i64 (k : Int))]) rfl rfl Try.underlying46 Try.sizeOf3 Try.zeroValue3 (by decide) (by kernel_rfl) ?_
      intro g26 w27 (M27 : Mem w _ w27 [blk g26 3 ([.int .i64 (k : Int)]), lst 22 1 (.slice a23 (m + 1) c23) (m + 1) (vs.take m ++ [.slice a1 l.length c1]), innerA (vs.take m) (B.loads.take m), blk g20 22 ([.slice a1 l.length c1]), bytesL (.slice a1 l.length c1) l, blk b 48 ([.slice a23 (m + 1) c23, .slice ka B.ps.length kc, .int .i64 B.mark, .int .i64 B.gen, .int .i64 B.head, .int .i64 B.inMark, .int .i64 B.inHead]), lst 3 1 (.slice ka B.ps.length kc) B.ps.length B.kinds])
      clear M24
      refine hK.out _ _ ?_
      clear hK K
      simp only [Act.put, z1, z2, z3]
      have M28 : Mem w _ w27 [blk g26 3 ([.int .i64 (k : Int)]), lst 22 1 (.slice a23 (m + 1) c23) (m + 1) (vs.take m ++ [.slice a1 l.length c1]), innerA (vs.take m) (B.loads.take m), blk g20 22 ([.slice a1 l.length c1]), bytesL (.slice a1 l.length c1) l, blk b 48 ([.slice a23 (m + 1) c23, .slice ka B.ps.length kc, .int .i64 B.mark, .int .i64 B.gen, .int .i64 B.head, .int .i64 B.inMark, .int .i64 B.inHead]), lst 3 1 (.slice ka m kc) m (B.kinds.take (m * 1))] := Mem.front M27 6 (m := m) rfl hm
      clear M27
      refine pe rfl (fun K hK => ?_)
      refine e_append M28 6 intsT (by decide) (news := [.int .i64 (k : Int)]) rfl rfl rfl rfl (rfl) (by intro h; cases h) (fun ad e j u hj => by cases e; match j with | 0 => cases hj; exact cell_of_blk (M28.get 0 rfl) rfl | j + 1 => cases hj) (by intro u hu; cases hu with | head => rfl | tail _ h => cases h) (⟨by unfold maxLen; omega, by omega⟩) ?_
      intro v29 w29 (M29 : Mem w _ w29 [blk g26 3 ([.int .i64 (k : Int)]), lst 22 1 (.slice a23 (m + 1) c23) (m + 1) (vs.take m ++ [.slice a1 l.length c1]), innerA (vs.take m) (B.loads.take m), blk g20 22 ([.slice a1 l.length c1]), bytesL (.slice a1 l.length c1) l, blk b 48 ([.slice a23 (m + 1) c23, .slice ka B.ps.length kc, .int .i64 B.mark, .int .i64 B.gen, .int .i64 B.head, .int .i64 B.inMark, .int .i64 B.inHead]), lst 3 1 v29 (m + 1) (B.kinds.take (m * 1) ++ [.int .i64 (k : Int)])])
      clear M28
      obtain ⟨a29, c29, rfl⟩ := qv_at (M29.get 6 rfl)
      refine hK.out _ _ ?_
      clear hK K
      simp only [Act.put, z1, z2, z3]
      refine pl M29 (y_nil rfl rfl rfl) ?_
      simp only [Act.put, z1, z2, z3]
      refine pl M29 (y_fa (r := 1) rfl rfl rfl Try.underlying48 rfl Try.sizeOf46 rfl) ?_
      simp only [Act.put, z1, z2, z3]
      refine pe rfl (fun K hK => ?_)
      refine e_store M29 5 (v := .slice a29 (m + 1) c29) rfl rfl rfl rfl rfl rfl Try.sizeOf46 rfl (show (1 : Nat) < 7 by decide) ?_
      intro w30 (M30 : Mem w _ w30 [blk g26 3 ([.int .i64 (k : Int)]), lst 22 1 (.slice a23 (m + 1) c23) (m + 1) (vs.take m ++ [.slice a1 l.length c1]), innerA (vs.take m) (B.loads.take m), blk g20 22 ([.slice a1 l.length c1]), bytesL (.slice a1 l.length c1) l, blk b 48 ([.slice a23 (m + 1) c23, .slice a29 (m + 1) c29, .int .i64 B.mark, .int .i64 B.gen, .int .i64 B.head, .int .i64 B.inMark, .int .i64 B.inHead]), lst 3 1 (.slice a29 (m + 1) c29) (m + 1) (B.kinds.take (m * 1) ++ [.int .i64 (k : Int)])])
      clear M29
      refine hK.out _ _ ?_
      clear hK K
      simp only [Act.put, z1, z2, z3]
      refine wpList_nil ?_
      refine hK25 _ _ ?_
      clear hK25
      refine wp_seq_k (fun K31 hK31 => ?_)
      refine wp_region_lit ?_
      refine pl M30 (y_assign (v := .bool true) rfl rfl rfl) ?_
      simp only [Act.put, z1, z2, z3]
      refine wpList_nil ?_
      refine hK31 _ _ ?_
      clear hK31
      refine wp_ret ?_
      try simp only [Exit.inBlock, Exit.then]
      refine bodyPost_ret (v := .bool true) (res1 rfl rfl) rfl ?_
      have N := rows_snoc hcut (M30.arr [1, 4, 2, 5, 6] (by decide))
      rw [← put_loads B m k l] at N
      have e1 : B.kinds.take (m * 1) ++ [.int .i64 (k : Int)] = ({ B with ps := putP B.ps (m + 2) (k, l) } : BV).kinds := by rw [put_kinds, Nat.mul_one]
      have e2 : m + 1 = (putP B.ps (m + 2) (k, l)).length := (putP_len B.ps (m + 2) (k, l) hm).symm
      rw [e1] at N
      refine ⟨⟨.slice a23 (m + 1) c23, .slice a29 (m + 1) c29, vs.take m ++ [.slice a1 l.length c1]⟩, rfl, book_close ?_⟩
      have N2 := N.arr [1, 0, 2] (by decide)
      show Mem _ _ _ [_, _, lst 3 1 _ (putP B.ps (m + 2) (k, l)).length _]
      rw [← e2]
      exact N2
    · refine e_bslice M19 ([.slice a1 l.length c1]) (pv := [(0, .slice a1 l.length c1)]) rfl rfl Try.underlying45 Try.sizeOf22 Try.zeroValue22 (by decide) (by kernel_rfl) ?_
      intro g32 w33 (M33 : Mem w _ w33 [blk g32 22 ([.slice a1 l.length c1]), bytesL (.slice a1 l.length c1) l, blk b 48 (bC B ⟨.slice la B.loads.length lc, .slice ka B.ps.length kc, vs⟩), rows (.slice la B.loads.length lc) vs B.loads, lst 3 1 (.slice ka B.ps.length kc) B.ps.length B.kinds])
      clear M19
      refine hK.out _ _ (M33.arr [] (by decide)) (fun hS => ?_)
      clear hK K
      simp only [Act.put, z1, z2, z3]
      refine held_step 4 (by kernel_rfl) rfl (by rfl) (fun K hK => ?_)
      refine e_yield (ops := #[]) M33 (y_load (v := .slice la B.loads.length lc) rfl rfl rfl Try.isAgg45 (fun W hW => hW.get 2 rfl) (rfl)) rfl ?_
      refine hK.out _ _ (M33.arr [] (by decide)) (fun hS => ?_)
      clear hK K
      simp only [Act.put, z1, z2, z3]
      refine held_take 7 _ rfl (by kernel_rfl) (by kernel_rfl) (by kernel_rfl) (y_slt (h := m) rfl rfl rfl rfl Try.underlying45 Try.sizeOf22 (by omega)) hS ?_
      simp only [Act.put, z1, z2, z3]
      obtain ⟨hcut, M34⟩ := rows_cut (w0 := w) (F := (foots [book B b bx])) (w := w33) (R := [blk g32 22 ([.slice a1 l.length c1]), bytesL (.slice a1 l.length c1) l, blk b 48 (bC B ⟨.slice la B.loads.length lc, .slice ka B.ps.length kc, vs⟩), lst 3 1 (.slice ka B.ps.length kc) B.ps.length B.kinds]) (M33.arr [3, 0, 1, 2, 4] (by decide)) rfl hmL
      clear M33
      replace M34 : Mem w (foots [book B b bx]) w33 [lst 22 1 (.slice la m lc) m (vs.take m), innerA (vs.take m) (B.loads.take m), blk g32 22 ([.slice a1 l.length c1]), bytesL (.slice a1 l.length c1) l, blk b 48 (bC B ⟨.slice la B.loads.length lc, .slice ka B.ps.length kc, vs⟩), lst 3 1 (.slice ka B.ps.length kc) B.ps.length B.kinds] := M34
      refine held_step 11 (by kernel_rfl) rfl (by rfl) (fun K hK => ?_)
      refine e_append M34 0 rowsT (by decide) (news := [.slice a1 l.length c1]) rfl rfl rfl rfl (rfl) (by intro h; cases h) (fun ad e j u hj => by cases e; match j with | 0 => cases hj; exact cell_of_blk (M34.get 2 rfl) rfl | j + 1 => cases hj) (by intro u hu; cases hu with | head => rfl | tail _ h => cases h) (⟨by unfold maxLen; omega, by omega⟩) ?_
      intro v35 w35 (M35 : Mem w _ w35 [lst 22 1 v35 (m + 1) (vs.take m ++ [.slice a1 l.length c1]), innerA (vs.take m) (B.loads.take m), blk g32 22 ([.slice a1 l.length c1]), bytesL (.slice a1 l.length c1) l, blk b 48 (bC B ⟨.slice la B.loads.length lc, .slice ka B.ps.length kc, vs⟩), lst 3 1 (.slice ka B.ps.length kc) B.ps.length B.kinds])
      clear M34
      obtain ⟨a35, c35, rfl⟩ := qv_at (M35.get 0 rfl)
      refine hK.out _ _ (M35.arr [] (by decide)) (fun hS => ?_)
      clear hK K
      simp only [Act.put, z1, z2, z3]
      refine held_take 12 _ rfl (by kernel_rfl) (by kernel_rfl) (by kernel_rfl) (y_nil rfl rfl rfl) hS ?_
      simp only [Act.put, z1, z2, z3]
      refine held_take 13 _ rfl (by kernel_rfl) (by kernel_rfl) (by kernel_rfl) (y_fa (r := 0) rfl rfl rfl Try.underlying48 rfl Try.sizeOf45 rfl) hS ?_
      simp only [Act.put, z1, z2, z3]
      refine held_step 14 (by kernel_rfl) rfl (by rfl) (fun K hK => ?_)
      refine e_store M35 4 (v := .slice a35 (m + 1) c35) rfl rfl rfl rfl rfl rfl Try.sizeOf45 rfl (show (0 : Nat) < 7 by decide) ?_
      intro w36 (M36 : Mem w _ w36 [lst 22 1 (.slice a35 (m + 1) c35) (m + 1) (vs.take m ++ [.slice a1 l.length c1]), innerA (vs.take m) (B.loads.take m), blk g32 22 ([.slice a1 l.length c1]), bytesL (.slice a1 l.length c1) l, blk b 48 ([.slice a35 (m + 1) c35, .slice ka B.ps.length kc, .int .i64 B.mark, .int .i64 B.gen, .int .i64 B.head, .int .i64 B.inMark, .int .i64 B.inHead]), lst 3 1 (.slice ka B.ps.length kc) B.ps.length B.kinds])
      clear M35
      refine hK.out _ _ (M36.arr [] (by decide)) (fun hS => ?_)
      clear hK K
      simp only [Act.put, z1, z2, z3]
      refine held_done (by kernel_rfl) ?_ _
      refine hK4 _ _ ?_
      clear hK4
      refine wp_seq_k (fun K37 hK37 => ?_)
      refine wp_region_lit ?_
      refine pl M36 (y_move (v := .pointer (some ⟨b, 0, none⟩)) rfl rfl rfl) ?_
      simp only [Act.put, z1, z2, z3]
      refine pl M36 (y_move (v := .pointer (some ⟨b, 0, none⟩)) rfl rfl rfl) ?_
      simp only [Act.put, z1, z2, z3]
      refine pl M36 (y_nil rfl rfl rfl) ?_
      simp only [Act.put, z1, z2, z3]
      refine pl M36 (y_fa (r := 1) rfl rfl rfl Try.underlying48 rfl Try.sizeOf46 rfl) ?_
      simp only [Act.put, z1, z2, z3]
      refine pl M36 (y_load (v := .slice ka B.ps.length kc) rfl rfl rfl Try.isAgg46 (fun W hW => hW.get 4 rfl) (rfl)) ?_
      simp only [Act.put, z1, z2, z3]
      refine pl M36 (y_move (v := .int .i64 ((m + 2 : Nat) : Int)) rfl rfl rfl) ?_
      simp only [Act.put, z1, z2, z3]
      refine pl M36 (y_sub (r := (m : Int)) rfl rfl rfl rfl (by omega) (by omega)) ?_
      simp only [Act.put, z1, z2, z3]
      refine pl M36 (y_slt (h := m) rfl rfl rfl rfl Try.underlying46 Try.sizeOf3 (by omega)) ?_
      simp only [Act.put, z1, z2, z3]
      refine pl M36 (y_move (v := .int .i64 (k : Int)) rfl rfl rfl) ?_
      simp only [Act.put, z1, z2, z3]
      refine pe rfl (fun K hK => ?_)
      refine e_bslice M36 ([.int .i64 (k : Int)]) (pv := [(0, .int .i64 (k : Int))]) rfl rfl Try.underlying46 Try.sizeOf3 Try.zeroValue3 (by decide) (by kernel_rfl) ?_
      intro g38 w39 (M39 : Mem w _ w39 [blk g38 3 ([.int .i64 (k : Int)]), lst 22 1 (.slice a35 (m + 1) c35) (m + 1) (vs.take m ++ [.slice a1 l.length c1]), innerA (vs.take m) (B.loads.take m), blk g32 22 ([.slice a1 l.length c1]), bytesL (.slice a1 l.length c1) l, blk b 48 ([.slice a35 (m + 1) c35, .slice ka B.ps.length kc, .int .i64 B.mark, .int .i64 B.gen, .int .i64 B.head, .int .i64 B.inMark, .int .i64 B.inHead]), lst 3 1 (.slice ka B.ps.length kc) B.ps.length B.kinds])
      clear M36
      refine hK.out _ _ ?_
      clear hK K
      simp only [Act.put, z1, z2, z3]
      have M40 : Mem w _ w39 [blk g38 3 ([.int .i64 (k : Int)]), lst 22 1 (.slice a35 (m + 1) c35) (m + 1) (vs.take m ++ [.slice a1 l.length c1]), innerA (vs.take m) (B.loads.take m), blk g32 22 ([.slice a1 l.length c1]), bytesL (.slice a1 l.length c1) l, blk b 48 ([.slice a35 (m + 1) c35, .slice ka B.ps.length kc, .int .i64 B.mark, .int .i64 B.gen, .int .i64 B.head, .int .i64 B.inMark, .int .i64 B.inHead]), lst 3 1 (.slice ka m kc) m (B.kinds.take (m * 1))] := Mem.front M39 6 (m := m) rfl hm
      clear M39
      refine pe rfl (fun K hK => ?_)
      refine e_append M40 6 intsT (by decide) (news := [.int .i64 (k : Int)]) rfl rfl rfl rfl (rfl) (by intro h; cases h) (fun ad e j u hj => by cases e; match j with | 0 => cases hj; exact cell_of_blk (M40.get 0 rfl) rfl | j + 1 => cases hj) (by intro u hu; cases hu with | head => rfl | tail _ h => cases h) (⟨by unfold maxLen; omega, by omega⟩) ?_
      intro v41 w41 (M41 : Mem w _ w41 [blk g38 3 ([.int .i64 (k : Int)]), lst 22 1 (.slice a35 (m + 1) c35) (m + 1) (vs.take m ++ [.slice a1 l.length c1]), innerA (vs.take m) (B.loads.take m), blk g32 22 ([.slice a1 l.length c1]), bytesL (.slice a1 l.length c1) l, blk b 48 ([.slice a35 (m + 1) c35, .slice ka B.ps.length kc, .int .i64 B.mark, .int .i64 B.gen, .int .i64 B.head, .int .i64 B.inMark, .int .i64 B.inHead]), lst 3 1 v41 (m + 1) (B.kinds.take (m * 1) ++ [.int .i64 (k : Int)])])
      clear M40
      obtain ⟨a41, c41, rfl⟩ := qv_at (M41.get 6 rfl)
      refine hK.out _ _ ?_
      clear hK K
      simp only [Act.put, z1, z2, z3]
      refine pl M41 (y_nil rfl rfl rfl) ?_
      simp only [Act.put, z1, z2, z3]
      refine pl M41 (y_fa (r := 1) rfl rfl rfl Try.underlying48 rfl Try.sizeOf46 rfl) ?_
      simp only [Act.put, z1, z2, z3]
      refine pe rfl (fun K hK => ?_)
      refine e_store M41 5 (v := .slice a41 (m + 1) c41) rfl rfl rfl rfl rfl rfl Try.sizeOf46 rfl (show (1 : Nat) < 7 by decide) ?_
      intro w42 (M42 : Mem w _ w42 [blk g38 3 ([.int .i64 (k : Int)]), lst 22 1 (.slice a35 (m + 1) c35) (m + 1) (vs.take m ++ [.slice a1 l.length c1]), innerA (vs.take m) (B.loads.take m), blk g32 22 ([.slice a1 l.length c1]), bytesL (.slice a1 l.length c1) l, blk b 48 ([.slice a35 (m + 1) c35, .slice a41 (m + 1) c41, .int .i64 B.mark, .int .i64 B.gen, .int .i64 B.head, .int .i64 B.inMark, .int .i64 B.inHead]), lst 3 1 (.slice a41 (m + 1) c41) (m + 1) (B.kinds.take (m * 1) ++ [.int .i64 (k : Int)])])
      clear M41
      refine hK.out _ _ ?_
      clear hK K
      simp only [Act.put, z1, z2, z3]
      refine wpList_nil ?_
      refine hK37 _ _ ?_
      clear hK37
      refine wp_seq_k (fun K43 hK43 => ?_)
      refine wp_region_lit ?_
      refine pl M42 (y_assign (v := .bool true) rfl rfl rfl) ?_
      simp only [Act.put, z1, z2, z3]
      refine wpList_nil ?_
      refine hK43 _ _ ?_
      clear hK43
      refine wp_ret ?_
      try simp only [Exit.inBlock, Exit.then]
      refine bodyPost_ret (v := .bool true) (res1 rfl rfl) rfl ?_
      have N := rows_snoc hcut (M42.arr [1, 4, 2, 5, 6] (by decide))
      rw [← put_loads B m k l] at N
      have e1 : B.kinds.take (m * 1) ++ [.int .i64 (k : Int)] = ({ B with ps := putP B.ps (m + 2) (k, l) } : BV).kinds := by rw [put_kinds, Nat.mul_one]
      have e2 : m + 1 = (putP B.ps (m + 2) (k, l)).length := (putP_len B.ps (m + 2) (k, l) hm).symm
      rw [e1] at N
      refine ⟨⟨.slice a35 (m + 1) c35, .slice a41 (m + 1) c41, vs.take m ++ [.slice a1 l.length c1]⟩, rfl, book_close ?_⟩
      have N2 := N.arr [1, 0, 2] (by decide)
      show Mem _ _ _ [_, _, lst 3 1 _ (putP B.ps (m + 2) (k, l)).length _]
      rw [← e2]
      exact N2
end Go.Proofs.Ytehnnnohoaapdaa

/- The book: does the file hold what stands in it? -/
namespace Go.Proofs.Ytehnnnohoaapdaa
open Go Go.RowKit
set_option linter.unusedVariables false
set_option linter.unusedSimpArgs false
theorem fread_fit {D : DV} {V : FV} {ps : Pgs} {f p pg mb : Nat} {qv : Value} {w : World} (hM : Mem w (foots [disk D p pg mb qv, blk f 96 (fC V p)]) w [disk D p pg mb qv, blk f 96 (fC V p)]) (h : Inv D V ps) (n : Nat) (h1 : 2 ≤ n) (h2 : (n : Int) < V.next) :
    Calls Try.prog 25 #[.pointer (some ⟨f, 0, none⟩), .int .i64 (n : Int)] w fun e w' => ∃ a c r, e = .returned (.tuple #[.int .i64 ((pgAt ps n).1 : Int), .slice a (pgAt ps n).2.length c, .int .i64 0]) ∧ Mem w (foots [disk D p pg mb qv, blk f 96 (fC V p)]) w' [disk (D.rd r) p pg mb qv, blk f 96 (fC V p), bytesL (.slice a (pgAt ps n).2.length c) (pgAt ps n).2] ∧ r = wrap64 (D.reads + 1) := by
  obtain ⟨r1, r2, r3, r4, r5⟩ := h.read h1 h2
  refine (fread_any hM n h.fok).mono ?_
  rintro e w' ⟨v, rfl, h3⟩
  rw [r3, r5] at h3
  rw [r1, r2]
  obtain ⟨a, c, rfl⟩ := qv_at (h3.get 2 rfl)
  exact ⟨a, c, _, rfl, h3, rfl⟩
theorem pg_len {D : DV} {V : FV} {ps : Pgs} (h : Inv D V ps) {n : Nat} (h1 : 2 ≤ n) (h2 : (n : Int) < V.next) : (pgAt ps n).2.length ≤ 246 := by
  have := h.lenN
  exact (pgAt_ok h.plat.good (by omega)).2
set_option maxRecDepth 100000 in
set_option maxHeartbeats 4000000 in
theorem bholds_any {D : DV} {V : FV} {B : BV} {p pg mb f b : Nat} {qv : Value} {bx : BX} {w : World} (hM : Mem w (foots [disk D p pg mb qv, blk f 96 (fC V p), book B b bx]) w [disk D p pg mb qv, blk f 96 (fC V p), book B b bx]) (hI : Inv D V B.ps) (mk : Nat) (h2 : 2 ≤ mk) (hmk : (mk : Int) ≤ V.next) : Calls Try.prog 29 #[.pointer (some ⟨b, 0, none⟩), .pointer (some ⟨f, 0, none⟩), .int .i64 (mk : Int)] w fun e w' => ∃ r, e = .returned (.bool true) ∧ Mem w (foots [disk D p pg mb qv, blk f 96 (fC V p), book B b bx]) w' [disk (D.rd r) p pg mb qv, blk f 96 (fC V p), book B b bx] := by
  obtain ⟨lv, kv, vs⟩ := bx
  have M0 := book_open (hM.arr [2, 0, 1] (by decide))
  clear hM
  obtain ⟨la, lc, hlv, hlc⟩ := rows_val (M0.get 1 rfl)
  have hlen := hI.lenN
  have hnp := hI.nextp
  have hhi := hI.ok.hi
  have M : Mem w _ w [disk D p pg mb qv, blk f 96 (fC V p), blk b 48 (bC B ⟨lv, kv, vs⟩), rows lv vs B.loads, lst 3 1 kv B.ps.length B.kinds] := M0.arr [3, 4, 0, 1, 2] (by decide)
  clear M0
  go_enter Try.func29, Try.ntmps29
  refine wp_seq_k (fun K1 hK1 => ?_)
  refine wp_region_lit ?_
  refine pl M (y_assign (v := .bool false) rfl rfl rfl) ?_
  simp only [Act.put, z1, z2, z3]
  refine wpList_nil ?_
  refine hK1 _ _ ?_
  clear hK1
  refine wp_seq_k (fun K2 hK2 => ?_)
  refine wp_seq_k (fun K3 hK3 => ?_)
  refine wp_region_lit ?_
  refine pl M (y_move (v := .int .i64 (mk : Int)) rfl rfl rfl) ?_
  simp only [Act.put, z1, z2, z3]
  refine pl M (y_lss (b := false) rfl rfl rfl rfl (decide_eq_false (by omega))) ?_
  simp only [Act.put, z1, z2, z3]
  refine pl M (y_move (v := .bool false) rfl rfl rfl) ?_
  simp only [Act.put, z1, z2, z3]
  refine pl M (y_move (v := .int .i64 (mk : Int)) rfl rfl rfl) ?_
  simp only [Act.put, z1, z2, z3]
  refine pl M (y_sub (r := ((mk - 2 : Nat) : Int)) rfl rfl rfl rfl (by omega) (by omega)) ?_
  simp only [Act.put, z1, z2, z3]
  refine pl M (y_move (v := .pointer (some ⟨b, 0, none⟩)) rfl rfl rfl) ?_
  simp only [Act.put, z1, z2, z3]
  refine pl M (y_nil rfl rfl rfl) ?_
  simp only [Act.put, z1, z2, z3]
  refine pl M (y_fa (r := 0) rfl rfl rfl Try.underlying48 rfl Try.sizeOf45 rfl) ?_
  simp only [Act.put, z1, z2, z3]
  refine pl M (y_load (v := lv) rfl rfl rfl Try.isAgg45 (fun W hW => hW.get 2 rfl) (rfl)) ?_
  simp only [Act.put, z1, z2, z3]
  refine pl M (y_len rfl rfl hlv Try.underlying45) ?_
  simp only [Act.put, z1, z2, z3]
  refine pl M (y_gtr (b := false) rfl rfl rfl rfl (decide_eq_false (by rw [B.loads_len]; omega))) ?_
  simp only [Act.put, z1, z2, z3]
  refine pl M (y_pickF (v := .bool false) rfl rfl rfl rfl) ?_
  simp only [Act.put, z1, z2, z3]
  refine wpList_nil ?_
  refine hK3 _ _ ?_
  clear hK3
  refine wp_cond_false rfl ?_
  refine wp_skip ?_
  refine hK2 _ _ ?_
  clear hK2
  refine wp_seq_k (fun K4 hK4 => ?_)
  refine wp_seq_k (fun K5 hK5 => ?_)
  refine wp_region_lit ?_
  refine pl M (y_assign (v := .int .i64 2) rfl rfl rfl) ?_
  simp only [Act.put, z1, z2, z3]
  refine wpList_nil ?_
  refine hK5 _ _ ?_
  clear hK5
  refine wp_block ?_
  refine wp_loop (fun a' w' => ∃ (i : Nat) (r : Int) (us6 : List Value), a' = (⟨#[.pointer (some ⟨b, 0, none⟩), .pointer (some ⟨f, 0, none⟩), .int .i64 (mk : Int), undef, undef, undef, (us6.getD 0 undef), .int .i64 (i : Int), (us6.getD 1 undef), (us6.getD 2 undef), (us6.getD 3 undef), .int .i64 (mk : Int), .bool false, .bool false, .int .i64 (mk : Int), .int .i64 ((mk - 2 : Nat) : Int), .pointer (some ⟨b, 0, none⟩), .pointer (some ⟨b, 0, none⟩), .pointer (some ⟨b, 0, none⟩), lv, .int .i64 (B.loads.length : Int), .bool false, .bool false, (us6.getD 4 undef), (us6.getD 5 undef), (us6.getD 6 undef), (us6.getD 7 undef), (us6.getD 8 undef), (us6.getD 9 undef), (us6.getD 10 undef), (us6.getD 11 undef), (us6.getD 12 undef), (us6.getD 13 undef), (us6.getD 14 undef), (us6.getD 15 undef), (us6.getD 16 undef), (us6.getD 17 undef), (us6.getD 18 undef), (us6.getD 19 undef), (us6.getD 20 undef), (us6.getD 21 undef), (us6.getD 22 undef), (us6.getD 23 undef), (us6.getD 24 undef), (us6.getD 25 undef), (us6.getD 26 undef), (us6.getD 27 undef), (us6.getD 28 undef), (us6.getD 29 undef), (us6.getD 30 undef), (us6.getD 31 undef), (us6.getD 32 undef), (us6.getD 33 undef), (us6.getD 34 undef), (us6.getD 35 undef), (us6.getD 36 undef), (us6.getD 37 undef), (us6.getD 38 undef), (us6.getD 39 undef), (us6.getD 40 undef), (us6.getD 41 undef), (us6.getD 42 undef)], []⟩ : Act) ∧ (2 ≤ i ∧ i ≤ mk) ∧ Mem w (foots [disk D p pg mb qv, blk f 96 (fC V p), book B b ⟨lv, kv, vs⟩]) w' [disk (D.rd r) p pg mb qv, blk f 96 (fC V p), blk b 48 (bC B ⟨lv, kv, vs⟩), rows lv vs B.loads, lst 3 1 kv B.ps.length B.kinds]) (fun a' _ => mk - (intOf (a'.tmps.getD 7 undef)).toNat) ⟨2, D.reads, [.bool false, undef, undef, undef, undef, undef, undef, undef, undef, undef, undef, undef, undef, undef, undef, undef, undef, undef, undef, undef, undef, undef, undef, undef, undef, undef, undef, undef, undef, undef, undef, undef, undef, undef, undef, undef, undef, undef, undef, undef, undef, undef, undef], rfl, ⟨by omega, by omega⟩, M⟩ ?_
  clear M
  rintro a' w7 ⟨i, r, us6, rfl, hi, M7⟩
  refine wp_seq_k (fun K8 hK8 => ?_)
  refine wp_seq_k (fun K9 hK9 => ?_)
  refine wp_region_lit ?_
  refine pl M7 (y_move (v := .int .i64 (i : Int)) rfl rfl rfl) ?_
  simp only [Act.put, z1, z2, z3]
  refine pl M7 (y_move (v := .int .i64 (mk : Int)) rfl rfl rfl) ?_
  simp only [Act.put, z1, z2, z3]
  rcases Decidable.em ((i : Int) < (mk : Int)) with h10 | h10
  · have hib : i - 2 < B.ps.length := by omega
    obtain ⟨gk, ck, hk⟩ := lst_pt (M7.get 4 rfl) (B.kind_at hib)
    obtain ⟨gl, cl, ao, nn, hl, hv, hlen, hfo⟩ := rows_pt (M7.get 3 rfl) (i := i - 2) (by rw [B.loads_len]; exact hib)
    rw [B.load_at] at hv hlen
    have hpl := pg_len hI (n := i) (by omega) (by omega)
    refine pl M7 (y_lss (b := true) rfl rfl rfl rfl (decide_eq_true h10)) ?_
    simp only [Act.put, z1, z2, z3]
    refine wpList_nil ?_
    refine hK9 _ _ ?_
    clear hK9
    refine wp_cond_true rfl ?_
    refine wp_skip ?_
    refine hK8 _ _ ?_
    clear hK8
    refine wp_seq_k (fun K11 hK11 => ?_)
    refine wp_block ?_
    refine wp_seq_k (fun K12 hK12 => ?_)
    refine wp_region_lit ?_
    refine pl M7 (y_move (v := .pointer (some ⟨f, 0, none⟩)) rfl rfl rfl) ?_
    simp only [Act.put, z1, z2, z3]
    refine pl M7 (y_move (v := .int .i64 (i : Int)) rfl rfl rfl) ?_
    simp only [Act.put, z1, z2, z3]
    have hX13 : Mem w _ w7 ([disk (D.rd r) p pg mb qv, blk f 96 (fC V p)] ++ [blk b 48 (bC B ⟨lv, kv, vs⟩), rows lv vs B.loads, lst 3 1 kv B.ps.length B.kinds]) := M7.arr [0, 1, 2, 3, 4] (by decide)
    refine pe rfl (fun K hK => ?_)
    refine e_call 25 [.pointer (some ⟨f, 0, none⟩), .int .i64 (i : Int)] rfl rfl Try.call25 (fread_fit (Mem.here hX13) (hI.rd r) i (by omega) (by omega)) ?_
    rintro e w13 ⟨a2, c2, r2, rfl, H13, hr2⟩
    have M13 : Mem w _ w13 [disk (D.rd r2) p pg mb qv, blk f 96 (fC V p), bytesL (.slice a2 (pgAt B.ps i).2.length c2) (pgAt B.ps i).2, blk b 48 (bC B ⟨lv, kv, vs⟩), rows lv vs B.loads, lst 3 1 kv B.ps.length B.kinds] := Mem.frame hX13 H13
    refine ⟨_, rfl, ?_⟩
    refine hK.out _ _ ?_
    clear hK K
    simp only [Act.put, z1, z2, z3]
    refine pl M13 (y_move (v := .tuple #[.int .i64 ((pgAt B.ps i).1 : Int), .slice a2 ((pgAt B.ps i).2.length) c2, .int .i64 0]) rfl rfl rfl) ?_
    simp only [Act.put, z1, z2, z3]
    refine pl M13 (y_ext (v := .int .i64 ((pgAt B.ps i).1 : Int)) rfl rfl rfl rfl) ?_
    simp only [Act.put, z1, z2, z3]
    refine pl M13 (y_ext (v := .slice a2 ((pgAt B.ps i).2.length) c2) rfl rfl rfl rfl) ?_
    simp only [Act.put, z1, z2, z3]
    refine pl M13 (y_ext (v := .int .i64 0) rfl rfl rfl rfl) ?_
    simp only [Act.put, z1, z2, z3]
    refine pl M13 (y_assign (v := .int .i64 ((pgAt B.ps i).1 : Int)) rfl rfl rfl) ?_
    simp only [Act.put, z1, z2, z3]
    refine pl M13 (y_assign (v := .slice a2 ((pgAt B.ps i).2.length) c2) rfl rfl rfl) ?_
    simp only [Act.put, z1, z2, z3]
    refine pl M13 (y_assign (v := .int .i64 0) rfl rfl rfl) ?_
    simp only [Act.put, z1, z2, z3]
    refine wpList_nil ?_
    refine hK12 _ _ ?_
    clear hK12
    refine wp_seq_k (fun K14 hK14 => ?_)
    refine wp_region_lit ?_
    refine pl M13 (y_move (v := .int .i64 0) rfl rfl rfl) ?_
    simp only [Act.put, z1, z2, z3]
    refine pl M13 (y_neq (b := false) rfl rfl rfl rfl (by rw [decide_eq_true (by decide)]; rfl)) ?_
    simp only [Act.put, z1, z2, z3]
    refine pl M13 (y_move (v := .bool false) rfl rfl rfl) ?_
    simp only [Act.put, z1, z2, z3]
    refine pl M13 (y_move (v := .int .i64 ((pgAt B.ps i).1 : Int)) rfl rfl rfl) ?_
    simp only [Act.put, z1, z2, z3]
    refine pl M13 (y_move (v := .pointer (some ⟨b, 0, none⟩)) rfl rfl rfl) ?_
    simp only [Act.put, z1, z2, z3]
    refine pl M13 (y_nil rfl rfl rfl) ?_
    simp only [Act.put, z1, z2, z3]
    refine pl M13 (y_fa (r := 1) rfl rfl rfl Try.underlying48 rfl Try.sizeOf46 rfl) ?_
    simp only [Act.put, z1, z2, z3]
    refine pl M13 (y_load (v := kv) rfl rfl rfl Try.isAgg46 (fun W hW => hW.get 3 rfl) (rfl)) ?_
    simp only [Act.put, z1, z2, z3]
    refine pl M13 (y_move (v := .int .i64 (i : Int)) rfl rfl rfl) ?_
    simp only [Act.put, z1, z2, z3]
    refine pl M13 (y_sub (r := ((i - 2 : Nat) : Int)) rfl rfl rfl rfl (by omega) (by omega)) ?_
    simp only [Act.put, z1, z2, z3]
    refine pl M13 (y_ias (r := i - 2) rfl rfl hk rfl Try.underlying46 Try.sizeOf3 (by omega) (by omega)) ?_
    simp only [Act.put, z1, z2, z3]
    refine pl M13 (y_loadc (v := .int .i64 ((pgAt B.ps i).1 : Int)) rfl rfl rfl Try.isAgg3 (fun W hW => lst_cell_at (hW.get 5 rfl) hk (B.kind_at hib))) ?_
    simp only [Act.put, z1, z2, z3]
    refine pl M13 (y_neq (b := false) rfl rfl rfl rfl (by rw [decide_eq_true rfl]; rfl)) ?_
    simp only [Act.put, z1, z2, z3]
    refine pl M13 (y_pickF (v := .bool false) rfl rfl rfl rfl) ?_
    simp only [Act.put, z1, z2, z3]
    refine pl M13 (y_move (v := .bool false) rfl rfl rfl) ?_
    simp only [Act.put, z1, z2, z3]
    refine pl M13 (y_move (v := .slice a2 ((pgAt B.ps i).2.length) c2) rfl rfl rfl) ?_
    simp only [Act.put, z1, z2, z3]
    refine pl M13 (y_move (v := .pointer (some ⟨b, 0, none⟩)) rfl rfl rfl) ?_
    simp only [Act.put, z1, z2, z3]
    refine pl M13 (y_nil rfl rfl rfl) ?_
    simp only [Act.put, z1, z2, z3]
    refine pl M13 (y_fa (r := 0) rfl rfl rfl Try.underlying48 rfl Try.sizeOf45 rfl) ?_
    simp only [Act.put, z1, z2, z3]
    refine pl M13 (y_load (v := lv) rfl rfl rfl Try.isAgg45 (fun W hW => hW.get 3 rfl) (rfl)) ?_
    simp only [Act.put, z1, z2, z3]
    refine pl M13 (y_move (v := .int .i64 (i : Int)) rfl rfl rfl) ?_
    simp only [Act.put, z1, z2, z3]
    refine pl M13 (y_sub (r := ((i - 2 : Nat) : Int)) rfl rfl rfl rfl (by omega) (by omega)) ?_
    simp only [Act.put, z1, z2, z3]
    refine pl M13 (y_ias (r := i - 2) rfl rfl hl rfl Try.underlying45 Try.sizeOf22 (by rw [B.loads_len]; omega) (by omega)) ?_
    simp only [Act.put, z1, z2, z3]
    refine pl M13 (y_loadc (v := .slice ao ((pgAt B.ps i).2.length) nn) rfl rfl rfl Try.isAgg22 (fun W hW => rows_cell (hW.get 4 rfl) hl rfl hv)) ?_
    simp only [Act.put, z1, z2, z3]
    refine pe rfl (fun K hK => ?_)
    refine e_call 35 [.slice a2 ((pgAt B.ps i).2.length) c2, .slice ao ((pgAt B.ps i).2.length) nn] rfl rfl Try.call35 (same_any a2 ao _ _ _ _ (pgAt B.ps i).2 (pgAt B.ps i).2 _ (bytesL_row (M13.get 2 rfl)) (by have := rows_row (M13.get 4 rfl) (by rw [B.loads_len]; exact hib) hv; rw [B.load_at] at this; exact this) (by unfold maxLen; omega) (by unfold maxLen; omega)) ?_
    rintro e w15 ⟨rfl, H15⟩
    have M15 : Mem w _ w15 [disk (D.rd r2) p pg mb qv, blk f 96 (fC V p), bytesL (.slice a2 (pgAt B.ps i).2.length c2) (pgAt B.ps i).2, blk b 48 (bC B ⟨lv, kv, vs⟩), rows lv vs B.loads, lst 3 1 kv B.ps.length B.kinds] := M13.step H15
    rw [(eqB_true rfl)]
    refine ⟨_, rfl, ?_⟩
    refine hK.out _ _ ?_
    clear hK K
    simp only [Act.put, z1, z2, z3]
    refine pl M15 (y_not rfl rfl rfl rfl) ?_
    simp only [Act.put, z1, z2, z3]
    refine pl M15 (y_pickF (v := .bool false) rfl rfl rfl rfl) ?_
    simp only [Act.put, z1, z2, z3]
    refine wpList_nil ?_
    refine hK14 _ _ ?_
    clear hK14
    refine wp_cond_false rfl ?_
    refine wp_skip ?_
    refine hK11 _ _ ?_
    clear hK11
    refine wp_region_lit ?_
    refine pl M15 (y_move (v := .int .i64 (i : Int)) rfl rfl rfl) ?_
    simp only [Act.put, z1, z2, z3]
    refine pl M15 (y_add (r := (i : Int) + 1) rfl rfl rfl rfl (rfl) (by omega)) ?_
    simp only [Act.put, z1, z2, z3]
    refine pl M15 (y_assign (v := .int .i64 ((i : Int) + 1)) rfl rfl rfl) ?_
    simp only [Act.put, z1, z2, z3]
    refine wpList_nil ?_
    refine ⟨⟨i + 1, r2, [(us6.getD 0 undef), .int .i64 ((pgAt B.ps i).1 : Int), .slice a2 ((pgAt B.ps i).2.length) c2, .int .i64 0, .int .i64 (i : Int), .int .i64 (mk : Int), .bool true, .int .i64 (i : Int), .int .i64 ((i : Int) + 1), .tuple #[.int .i64 ((pgAt B.ps i).1 : Int), .slice a2 ((pgAt B.ps i).2.length) c2, .int .i64 0], .pointer (some ⟨f, 0, none⟩), .int .i64 (i : Int), .tuple #[.int .i64 ((pgAt B.ps i).1 : Int), .slice a2 ((pgAt B.ps i).2.length) c2, .int .i64 0], .int .i64 ((pgAt B.ps i).1 : Int), .slice a2 ((pgAt B.ps i).2.length) c2, .int .i64 0, .int .i64 0, .bool false, .bool false, .int .i64 ((pgAt B.ps i).1 : Int), .pointer (some ⟨b, 0, none⟩), .pointer (some ⟨b, 0, none⟩), .pointer (some ⟨b, 1, none⟩), kv, .int .i64 (i : Int), .int .i64 ((i - 2 : Nat) : Int), .pointer (some ⟨gk, (i - 2), none⟩), .int .i64 ((pgAt B.ps i).1 : Int), .bool false, .bool false, .bool false, .slice a2 ((pgAt B.ps i).2.length) c2, .pointer (some ⟨b, 0, none⟩), .pointer (some ⟨b, 0, none⟩), .pointer (some ⟨b, 0, none⟩), lv, .int .i64 (i : Int), .int .i64 ((i - 2 : Nat) : Int), .pointer (some ⟨gl, (i - 2), none⟩), .slice ao ((pgAt B.ps i).2.length) nn, .bool true, .bool false, .bool false], rfl, ⟨by omega, by omega⟩, (M15.arr [0, 1, 3, 4, 5] (by decide))⟩, ?_⟩
    simp [intOf]; omega
  · refine pl M7 (y_lss (b := false) rfl rfl rfl rfl (decide_eq_false h10)) ?_
    simp only [Act.put, z1, z2, z3]
    refine wpList_nil ?_
    refine hK9 _ _ ?_
    clear hK9
    refine wp_cond_false rfl ?_
    refine wp_exit ?_
    refine hK4 _ _ ?_
    clear hK4
    refine wp_seq_k (fun K16 hK16 => ?_)
    refine wp_region_lit ?_
    refine pl M7 (y_assign (v := .bool true) rfl rfl rfl) ?_
    simp only [Act.put, z1, z2, z3]
    refine wpList_nil ?_
    refine hK16 _ _ ?_
    clear hK16
    refine wp_ret ?_
    try simp only [Exit.inBlock, Exit.then]
    refine bodyPost_ret (v := .bool true) (res1 rfl rfl) rfl ?_
    have N : Mem _ _ _ [book B b ⟨lv, kv, vs⟩, _, _] := book_close (M7.arr [2, 3, 4, 0, 1] (by decide))
    exact ⟨r, rfl, N.arr [1, 2, 0] (by decide)⟩
end Go.Proofs.Ytehnnnohoaapdaa

/- One act on the book: Append. -/
namespace Go.Proofs.Ytehnnnohoaapdaa
open Go Go.RowKit
set_option linter.unusedVariables false
set_option linter.unusedSimpArgs false
theorem Mem.off {w0 w : World} {F : List Nat} {L : List Asn} {ao : Option Addr} {n c : Nat} {l : List UInt8} (h : Mem w0 F w (bytesL (.slice ao n c) l :: L)) : ∀ {k : Nat} (b o : Nat), ao = some ⟨b, o, none⟩ → 0 < k → b ∉ foots L := by
  intro k b o e _ hb
  subst e
  have hn := h.nodup
  rw [foots_cons, List.nodup_append] at hn
  exact hn.2.2 b (by show b ∈ obs (Value.slice (some ⟨b, o, none⟩) n c); rw [mem_obs]; rfl) b hb rfl
theorem Mem.old_off {w0 w : World} {F : List Nat} {L : List Asn} (h : Mem w0 F w L) {b : Nat} (hb : b < w0.heap.size) (hF : b ∉ F) : b ∉ foots L := fun hx => by
  rcases h.new b hx with h1 | h1
  · exact hF h1
  · omega
theorem xapp_full {D : DV} {V : FV} {ps : Pgs} {f p pg mb : Nat} {qv : Value} {w : World} (hM : Mem w (foots [disk D p pg mb qv, blk f 96 (fC V p)]) w [disk D p pg mb qv, blk f 96 (fC V p)]) (h : Inv D V ps) (k : Nat) (ao : Option Addr) (n c : Nat) (l : List UInt8) (hx : PageOk (k, l)) (hr : Row w ao n l) (hF : ∀ b o, ao = some ⟨b, o, none⟩ → 0 < n → b ∉ foots [disk D p pg mb qv, blk f 96 (fC V p)]) (hq : D.q.length ≤ 400000000000) (hn : V.next = (D.pages.length : Int)) :
    Calls Try.prog 26 #[.pointer (some ⟨f, 0, none⟩), .int .i64 (k : Int), .slice ao n c] w fun e w' => ∃ qv', e = .returned (.tuple #[.int .i64 0, .int .i64 5]) ∧ Mem w (foots [disk D p pg mb qv, blk f 96 (fC V p)]) w' [disk D p pg mb qv', blk f 96 (fC V p)] := by
  obtain ⟨a1, a2, a3, a4⟩ := h.full hx hn
  have := app_any hM (k : Int) ao n c l hr hF (by omega) h.fok
  rw [a1, a2, a3, a4] at this
  exact this
theorem xapp_go {D : DV} {V : FV} {ps : Pgs} {f p pg mb : Nat} {qv : Value} {w : World} (hM : Mem w (foots [disk D p pg mb qv, blk f 96 (fC V p)]) w [disk D p pg mb qv, blk f 96 (fC V p)]) (h : Inv D V ps) (k : Nat) (ao : Option Addr) (n c : Nat) (l : List UInt8) (hx : PageOk (k, l)) (hr : Row w ao n l) (hF : ∀ b o, ao = some ⟨b, o, none⟩ → 0 < n → b ∉ foots [disk D p pg mb qv, blk f 96 (fC V p)]) (hq : D.q.length ≤ 400000000000) (hn : V.next < (D.pages.length : Int)) (m : Nat) (hm : V.next = ((m + 2 : Nat) : Int)) (h0 : actE D = 0) :
    Calls Try.prog 26 #[.pointer (some ⟨f, 0, none⟩), .int .i64 (k : Int), .slice ao n c] w fun e w' => ∃ E qv', e = .returned (.tuple #[.int .i64 ((m + 2 : Nat) : Int), .int .i64 0]) ∧ Mem w (foots [disk D p pg mb qv, blk f 96 (fC V p)]) w' [disk E p pg mb qv', blk f 96 (fC { V with next := V.next + 1 } p)] ∧ E = appD D V k l ∧ Inv E { V with next := V.next + 1 } (putP ps (m + 2) (k, l)) ∧ E.pages.length = D.pages.length := by
  obtain ⟨a1, a2, a3, a4⟩ := h.app hx hn
  have hA := a3 h0
  rw [h0] at a1
  obtain ⟨b1, b2⟩ := app_yes a1
  have := app_any hM (k : Int) ao n c l hr hF (by omega) h.fok
  rw [a1, b1, b2, hm] at this
  have e1 : V.next.toNat = m + 2 := by omega
  rw [e1] at hA
  refine this.mono ?_
  rintro e w' ⟨qv', rfl, h3⟩
  rw [← hm] at h3
  refine ⟨_, qv', rfl, h3, rfl, hA, ?_⟩
  rw [a2, actD_pages]; rfl
theorem xapp_down {D : DV} {V : FV} {ps : Pgs} {f p pg mb : Nat} {qv : Value} {w : World} (hM : Mem w (foots [disk D p pg mb qv, blk f 96 (fC V p)]) w [disk D p pg mb qv, blk f 96 (fC V p)]) (h : Inv D V ps) (k : Nat) (ao : Option Addr) (n c : Nat) (l : List UInt8) (hx : PageOk (k, l)) (hr : Row w ao n l) (hF : ∀ b o, ao = some ⟨b, o, none⟩ → 0 < n → b ∉ foots [disk D p pg mb qv, blk f 96 (fC V p)]) (hq : D.q.length ≤ 400000000000) (hn : V.next < (D.pages.length : Int)) (h0 : actE D = 2) :
    Calls Try.prog 26 #[.pointer (some ⟨f, 0, none⟩), .int .i64 (k : Int), .slice ao n c] w fun e w' => ∃ E qv', e = .returned (.tuple #[.int .i64 0, .int .i64 2]) ∧ Mem w (foots [disk D p pg mb qv, blk f 96 (fC V p)]) w' [disk E p pg mb qv', blk f 96 (fC V p)] ∧ E = appD D V k l ∧ E.pages.length = D.pages.length := by
  obtain ⟨a1, a2, a3, a4⟩ := h.app hx hn
  rw [h0] at a1
  obtain ⟨b1, b2⟩ := app_no a1 (by decide)
  have := app_any hM (k : Int) ao n c l hr hF (by omega) h.fok
  rw [a1, b1, b2] at this
  refine this.mono ?_
  rintro e w' ⟨qv', rfl, h3⟩
  refine ⟨_, qv', rfl, h3, rfl, ?_⟩
  rw [a2, actD_pages]; rfl
theorem xpub_go {D : DV} {V : FV} {ps : Pgs} {f p pg mb : Nat} {qv : Value} {w : World} (hM : Mem w (foots [disk D p pg mb qv, blk f 96 (fC V p)]) w [disk D p pg mb qv, blk f 96 (fC V p)]) (h : Inv D V ps) (head : Int) (hq : D.q.length ≤ 400000000000) (h0 : (pubR D V head).2 = 0) (hp : (pubR D V head).1.pages.length = D.pages.length) :
    Calls Try.prog 28 #[.pointer (some ⟨f, 0, none⟩), .int .i64 head] w fun e w' => ∃ E qv', e = .returned (.int .i64 0) ∧ Mem w (foots [disk D p pg mb qv, blk f 96 (fC V p)]) w' [disk E p pg mb qv', blk f 96 (fC { V with s := pubS V head } p)] ∧ E = (pubR D V head).1 ∧ E.pages.length = D.pages.length := by
  have := pub_any hM head hq h.fok
  have e1 : pubV D V head = { V with s := pubS V head } := if_pos h0
  rw [h0, e1] at this
  refine this.mono ?_
  rintro e w' ⟨qv', rfl, h3⟩
  exact ⟨_, qv', rfl, h3, rfl, hp⟩
theorem xpub_down {D : DV} {V : FV} {ps : Pgs} {f p pg mb : Nat} {qv : Value} {w : World} (hM : Mem w (foots [disk D p pg mb qv, blk f 96 (fC V p)]) w [disk D p pg mb qv, blk f 96 (fC V p)]) (h : Inv D V ps) (head : Int) (hq : D.q.length ≤ 400000000000) (h0 : (pubR D V head).2 = 2) (hp : (pubR D V head).1.pages.length = D.pages.length) :
    Calls Try.prog 28 #[.pointer (some ⟨f, 0, none⟩), .int .i64 head] w fun e w' => ∃ E qv', e = .returned (.int .i64 2) ∧ Mem w (foots [disk D p pg mb qv, blk f 96 (fC V p)]) w' [disk E p pg mb qv', blk f 96 (fC V p)] ∧ E = (pubR D V head).1 ∧ E.pages.length = D.pages.length := by
  have := pub_any hM head hq h.fok
  have e1 : pubV D V head = V := if_neg (by rw [h0]; decide)
  rw [h0, e1] at this
  refine this.mono ?_
  rintro e w' ⟨qv', rfl, h3⟩
  exact ⟨_, qv', rfl, h3, rfl, hp⟩
set_option maxRecDepth 100000 in
set_option maxHeartbeats 4000000 in
theorem act_full {D : DV} {V : FV} {B : BV} {p pg mb f b : Nat} {qv : Value} {bx : BX} {w : World} (hM : Mem w (foots [disk D p pg mb qv, blk f 96 (fC V p), book B b bx]) w [disk D p pg mb qv, blk f 96 (fC V p), book B b bx]) (n : Int) (ao : Option Addr) (nn c : Nat) (l : List UInt8) (hr : Row w ao nn l) (hF : ∀ b₁ o, ao = some ⟨b₁, o, none⟩ → 0 < nn → b₁ ∉ foots [disk D p pg mb qv, blk f 96 (fC V p), book B b bx]) (hnn : nn ≤ 140737488351232) (hq : D.q.length ≤ 400000000000) (hI : Inv D V B.ps) (hf : V.next = (D.pages.length : Int)) : Calls Try.prog 27 #[.pointer (some ⟨b, 0, none⟩), .pointer (some ⟨p, 0, none⟩), .pointer (some ⟨f, 0, none⟩), .agg ([.int .i64 1, .int .i64 n, .slice ao nn c]).toArray] w fun e w' => ∃ qv' bx', e = .returned (.tuple #[.int .i64 0, .bool true]) ∧ Mem w (foots [disk D p pg mb qv, blk f 96 (fC V p), book B b bx]) w' [disk D p pg mb qv', blk f 96 (fC V p), book B b bx'] := by
  obtain ⟨lv, kv, vs⟩ := bx
  have M0 := book_open (hM.arr [2, 0, 1] (by decide))
  clear hM
  have M : Mem w _ w [disk D p pg mb qv, blk f 96 (fC V p), blk b 48 (bC B ⟨lv, kv, vs⟩), rows lv vs B.loads, lst 3 1 kv B.ps.length B.kinds] := M0.arr [3, 4, 0, 1, 2] (by decide)
  clear M0
  obtain ⟨k, hk⟩ : ∃ k : Nat, 1 + n % 3 = (k : Int) := Int.eq_ofNat_of_zero_le (by omega)
  have hnl := hr.1
  go_enter Try.func27, Try.ntmps27
  refine wp_seq_k (fun K1 hK1 => ?_)
  refine wp_region_lit ?_
  refine pe rfl (fun K hK => ?_)
  refine e_box M ([.int .i64 1, .int .i64 n, .slice ao nn c]) rfl rfl ?_
  intro ga w2 (M2 : Mem w _ w2 [blk ga 50 ([.int .i64 1, .int .i64 n, .slice ao nn c]), disk D p pg mb qv, blk f 96 (fC V p), blk b 48 (bC B ⟨lv, kv, vs⟩), rows lv vs B.loads, lst 3 1 kv B.ps.length B.kinds])
  clear M
  refine hK.out _ _ ?_
  clear hK K
  simp only [Act.put, z1, z2, z3]
  refine pl M2 (y_assign (v := .int .i64 0) rfl rfl rfl) ?_
  simp only [Act.put, z1, z2, z3]
  refine pl M2 (y_assign (v := .bool false) rfl rfl rfl) ?_
  simp only [Act.put, z1, z2, z3]
  refine wpList_nil ?_
  refine hK1 _ _ ?_
  clear hK1
  refine wp_seq_k (fun K3 hK3 => ?_)
  refine wp_region_lit ?_
  refine pl M2 (y_move (v := .pointer (some ⟨f, 0, none⟩)) rfl rfl rfl) ?_
  simp only [Act.put, z1, z2, z3]
  have hX4 : Mem w _ w2 ([disk D p pg mb qv, blk f 96 (fC V p)] ++ [blk ga 50 ([.int .i64 1, .int .i64 n, .slice ao nn c]), blk b 48 (bC B ⟨lv, kv, vs⟩), rows lv vs B.loads, lst 3 1 kv B.ps.length B.kinds]) := M2.arr [1, 2, 0, 3, 4, 5] (by decide)
  refine pe rfl (fun K hK => ?_)
  refine e_call 20 [.pointer (some ⟨f, 0, none⟩)] rfl rfl Try.call20 (next_any (Mem.here hX4)) ?_
  rintro e w4 ⟨rfl, H4⟩
  have M4 : Mem w _ w4 [disk D p pg mb qv, blk f 96 (fC V p), blk ga 50 ([.int .i64 1, .int .i64 n, .slice ao nn c]), blk b 48 (bC B ⟨lv, kv, vs⟩), rows lv vs B.loads, lst 3 1 kv B.ps.length B.kinds] := Mem.frame hX4 H4
  refine ⟨_, rfl, ?_⟩
  refine hK.out _ _ ?_
  clear hK K
  simp only [Act.put, z1, z2, z3]
  refine pl M4 (y_assign (v := .int .i64 V.next) rfl rfl rfl) ?_
  simp only [Act.put, z1, z2, z3]
  refine wpList_nil ?_
  refine hK3 _ _ ?_
  clear hK3
  refine wp_seq_k (fun K5 hK5 => ?_)
  refine wp_seq_k (fun K6 hK6 => ?_)
  refine wp_region_lit ?_
  refine pl M4 (y_fa (r := 0) rfl rfl rfl Try.underlying50 rfl Try.sizeOf3 rfl) ?_
  simp only [Act.put, z1, z2, z3]
  refine pl M4 (y_load (v := .int .i64 1) rfl rfl rfl Try.isAgg3 (fun W hW => hW.get 2 rfl) (rfl)) ?_
  simp only [Act.put, z1, z2, z3]
  refine wpList_nil ?_
  refine hK6 _ _ ?_
  clear hK6
  refine wp_block ?_
  refine wp_seq_k (fun K7 hK7 => ?_)
  refine wp_region_lit ?_
  refine pl M4 (y_eql (b := true) rfl rfl rfl rfl (decide_eq_true (by decide))) ?_
  simp only [Act.put, z1, z2, z3]
  refine pl M4 (y_assign (v := .bool true) rfl rfl rfl) ?_
  simp only [Act.put, z1, z2, z3]
  refine wpList_nil ?_
  refine hK7 _ _ ?_
  clear hK7
  refine wp_cond_true rfl ?_
  refine wp_seq_k (fun K8 hK8 => ?_)
  refine wp_region_lit ?_
  refine pl M4 (y_fa (r := 1) rfl rfl rfl Try.underlying50 rfl Try.sizeOf3 rfl) ?_
  simp only [Act.put, z1, z2, z3]
  refine pl M4 (y_load (v := .int .i64 n) rfl rfl rfl Try.isAgg3 (fun W hW => hW.get 2 rfl) (rfl)) ?_
  simp only [Act.put, z1, z2, z3]
  refine pe rfl (fun K hK => ?_)
  refine e_call 13 [.int .i64 n, .int .i64 3] rfl rfl Try.call13 (place3_any n 3 (by decide) (by decide) _) ?_
  rintro e w9 ⟨rfl, H9⟩
  have M9 : Mem w _ w9 [disk D p pg mb qv, blk f 96 (fC V p), blk ga 50 ([.int .i64 1, .int .i64 n, .slice ao nn c]), blk b 48 (bC B ⟨lv, kv, vs⟩), rows lv vs B.loads, lst 3 1 kv B.ps.length B.kinds] := M4.step H9
  refine ⟨_, rfl, ?_⟩
  refine hK.out _ _ ?_
  clear hK K
  simp only [Act.put, z1, z2, z3]
  refine pl M9 (y_add (r := (k : Int)) rfl rfl rfl rfl (hk) (by omega)) ?_
  simp only [Act.put, z1, z2, z3]
  refine pl M9 (y_assign (v := .int .i64 (k : Int)) rfl rfl rfl) ?_
  simp only [Act.put, z1, z2, z3]
  refine wpList_nil ?_
  refine hK8 _ _ ?_
  clear hK8
  refine wp_seq_k (fun K10 hK10 => ?_)
  refine wp_region_lit ?_
  refine pl M9 (y_fa (r := 2) rfl rfl rfl Try.underlying50 rfl Try.sizeOf22 rfl) ?_
  simp only [Act.put, z1, z2, z3]
  refine pl M9 (y_load (v := .slice ao nn c) rfl rfl rfl Try.isAgg22 (fun W hW => hW.get 2 rfl) (rfl)) ?_
  simp only [Act.put, z1, z2, z3]
  refine pe rfl (fun K hK => ?_)
  refine e_call 32 [.slice ao nn c] rfl rfl Try.call32 (copy_any ao nn c l _ (M9.row hr hF) (by omega)) ?_
  rintro e w11 ⟨a1, c1, rfl, H11⟩
  have M11 : Mem w _ w11 [bytesL (.slice a1 l.length c1) l, disk D p pg mb qv, blk f 96 (fC V p), blk ga 50 ([.int .i64 1, .int .i64 n, .slice ao nn c]), blk b 48 (bC B ⟨lv, kv, vs⟩), rows lv vs B.loads, lst 3 1 kv B.ps.length B.kinds] := M9.step H11
  refine ⟨_, rfl, ?_⟩
  refine hK.out _ _ ?_
  clear hK K
  simp only [Act.put, z1, z2, z3]
  refine pl M11 (y_assign (v := .slice a1 l.length c1) rfl rfl rfl) ?_
  simp only [Act.put, z1, z2, z3]
  refine wpList_nil ?_
  refine hK10 _ _ ?_
  clear hK10
  refine wp_seq_k (fun K12 hK12 => ?_)
  refine wp_seq_k (fun K13 hK13 => ?_)
  refine wp_region_lit ?_
  refine pl M11 (y_move (v := .slice a1 l.length c1) rfl rfl rfl) ?_
  simp only [Act.put, z1, z2, z3]
  refine pl M11 (y_len rfl rfl rfl Try.underlying22) ?_
  simp only [Act.put, z1, z2, z3]
  rcases Decidable.em ((246 : Int) < (l.length : Int)) with h14 | h14
  · refine pl M11 (y_gtr (b := true) rfl rfl rfl rfl (decide_eq_true h14)) ?_
    simp only [Act.put, z1, z2, z3]
    refine wpList_nil ?_
    refine hK13 _ _ ?_
    clear hK13
    refine wp_cond_true rfl ?_
    refine wp_region_lit ?_
    refine pl M11 (y_move (v := .slice a1 l.length c1) rfl rfl rfl) ?_
    simp only [Act.put, z1, z2, z3]
    have hcc : l.length ≤ c1 := bytesL_cap (M11.get 0 rfl)
    refine pl M11 (y_slt (h := 246) rfl rfl rfl rfl Try.underlying22 Try.sizeOf5 (by omega)) ?_
    simp only [Act.put, z1, z2, z3]
    have h246 : (l.take 246).length = 246 := by rw [List.length_take]; omega
    have M15 : Mem w (foots [disk D p pg mb qv, blk f 96 (fC V p), book B b ⟨lv, kv, vs⟩]) w11 [bytesL (.slice a1 (l.take 246).length c1) (l.take 246), disk D p pg mb qv, blk f 96 (fC V p), blk ga 50 ([.int .i64 1, .int .i64 n, .slice ao nn c]), blk b 48 (bC B ⟨lv, kv, vs⟩), rows lv vs B.loads, lst 3 1 kv B.ps.length B.kinds] := by
      rw [h246]
      have N := Mem.front M11 0 (m := 246) rfl (by omega)
      have e : (bvs l).take (246 * 1) = bvs (l.take 246) := by unfold bvs; rw [List.map_take]
      rw [e] at N
      unfold bytesL
      rw [h246]
      exact N
    clear M11
    refine pl M15 (y_assign (v := .slice a1 246 c1) rfl rfl rfl) ?_
    simp only [Act.put, z1, z2, z3]
    refine wpList_nil ?_
    refine hK12 _ _ ?_
    clear hK12
    refine wp_seq_k (fun K16 hK16 => ?_)
    refine wp_region_lit ?_
    refine pl M15 (y_move (v := .pointer (some ⟨f, 0, none⟩)) rfl rfl rfl) ?_
    simp only [Act.put, z1, z2, z3]
    refine pl M15 (y_move (v := .int .i64 (k : Int)) rfl rfl rfl) ?_
    simp only [Act.put, z1, z2, z3]
    refine pl M15 (y_move (v := .slice a1 246 c1) rfl rfl rfl) ?_
    simp only [Act.put, z1, z2, z3]
    have hxo : PageOk (k, (l.take 246)) := ⟨⟨by show 1 ≤ k; omega, by show k ≤ 3; omega⟩, by show (l.take 246).length ≤ 246; omega⟩
    have hX17 : Mem w _ w11 ([disk D p pg mb qv, blk f 96 (fC V p)] ++ [bytesL (.slice a1 (l.take 246).length c1) (l.take 246), blk ga 50 ([.int .i64 1, .int .i64 n, .slice ao nn c]), blk b 48 (bC B ⟨lv, kv, vs⟩), rows lv vs B.loads, lst 3 1 kv B.ps.length B.kinds]) := M15.arr [1, 2, 0, 3, 4, 5, 6] (by decide)
    refine pe rfl (fun K hK => ?_)
    refine e_call 26 [.pointer (some ⟨f, 0, none⟩), .int .i64 (k : Int), .slice a1 246 c1] rfl rfl Try.call26 (xapp_full (Mem.here hX17) hI k a1 246 c1 (l.take 246) hxo (by have N := bytesL_row (M15.get 0 rfl); rw [h246] at N; exact N) (Mem.off (L := [disk D p pg mb qv, blk f 96 (fC V p)]) (M15.arr [0, 1, 2] (by decide))) hq hf) ?_
    rintro e w17 ⟨qv', rfl, H17⟩
    have M17 : Mem w _ w17 [disk D p pg mb qv', blk f 96 (fC V p), bytesL (.slice a1 (l.take 246).length c1) (l.take 246), blk ga 50 ([.int .i64 1, .int .i64 n, .slice ao nn c]), blk b 48 (bC B ⟨lv, kv, vs⟩), rows lv vs B.loads, lst 3 1 kv B.ps.length B.kinds] := Mem.frame hX17 H17
    refine ⟨_, rfl, ?_⟩
    refine hK.out _ _ ?_
    clear hK K
    simp only [Act.put, z1, z2, z3]
    refine pl M17 (y_move (v := .tuple #[.int .i64 0, .int .i64 5]) rfl rfl rfl) ?_
    simp only [Act.put, z1, z2, z3]
    refine pl M17 (y_ext (v := .int .i64 0) rfl rfl rfl rfl) ?_
    simp only [Act.put, z1, z2, z3]
    refine pl M17 (y_ext (v := .int .i64 5) rfl rfl rfl rfl) ?_
    simp only [Act.put, z1, z2, z3]
    refine pl M17 (y_assign (v := .int .i64 0) rfl rfl rfl) ?_
    simp only [Act.put, z1, z2, z3]
    refine pl M17 (y_assign (v := .int .i64 5) rfl rfl rfl) ?_
    simp only [Act.put, z1, z2, z3]
    refine wpList_nil ?_
    refine hK16 _ _ ?_
    clear hK16
    refine wp_seq_k (fun K18 hK18 => ?_)
    refine wp_seq_k (fun K19 hK19 => ?_)
    refine wp_region_lit ?_
    refine pl M17 (y_move (v := .int .i64 V.next) rfl rfl rfl) ?_
    simp only [Act.put, z1, z2, z3]
    refine pl M17 (y_move (v := .pointer (some ⟨f, 0, none⟩)) rfl rfl rfl) ?_
    simp only [Act.put, z1, z2, z3]
    refine pl M17 (y_nil rfl rfl rfl) ?_
    simp only [Act.put, z1, z2, z3]
    refine pl M17 (y_fa (r := 0) rfl rfl rfl Try.underlying96 rfl Try.sizeOf24 rfl) ?_
    simp only [Act.put, z1, z2, z3]
    refine pl M17 (y_load (v := .pointer (some ⟨p, 0, none⟩)) rfl rfl rfl Try.isAgg24 (fun W hW => hW.get 1 rfl) (rfl)) ?_
    simp only [Act.put, z1, z2, z3]
    have hX20 : Mem w _ w17 ([disk D p pg mb qv'] ++ [blk f 96 (fC V p), bytesL (.slice a1 (l.take 246).length c1) (l.take 246), blk ga 50 ([.int .i64 1, .int .i64 n, .slice ao nn c]), blk b 48 (bC B ⟨lv, kv, vs⟩), rows lv vs B.loads, lst 3 1 kv B.ps.length B.kinds]) := M17.arr [0, 1, 2, 3, 4, 5, 6] (by decide)
    refine pe rfl (fun K hK => ?_)
    refine e_call 24 [.pointer (some ⟨p, 0, none⟩)] rfl rfl Try.call24 (pages_any (Mem.here hX20)) ?_
    rintro e w20 ⟨rfl, H20⟩
    have M20 : Mem w _ w20 [disk D p pg mb qv', blk f 96 (fC V p), bytesL (.slice a1 (l.take 246).length c1) (l.take 246), blk ga 50 ([.int .i64 1, .int .i64 n, .slice ao nn c]), blk b 48 (bC B ⟨lv, kv, vs⟩), rows lv vs B.loads, lst 3 1 kv B.ps.length B.kinds] := Mem.frame hX20 H20
    refine ⟨_, rfl, ?_⟩
    refine hK.out _ _ ?_
    clear hK K
    simp only [Act.put, z1, z2, z3]
    refine pl M20 (y_eql (b := true) rfl rfl rfl rfl (decide_eq_true hf)) ?_
    simp only [Act.put, z1, z2, z3]
    refine wpList_nil ?_
    refine hK19 _ _ ?_
    clear hK19
    refine wp_cond_true rfl ?_
    refine wp_seq_k (fun K21 hK21 => ?_)
    refine wp_region_lit ?_
    refine pl M20 (y_move (v := .int .i64 5) rfl rfl rfl) ?_
    simp only [Act.put, z1, z2, z3]
    refine pl M20 (y_eql (b := true) rfl rfl rfl rfl (decide_eq_true (by decide))) ?_
    simp only [Act.put, z1, z2, z3]
    refine pl M20 (y_move (v := .bool true) rfl rfl rfl) ?_
    simp only [Act.put, z1, z2, z3]
    refine pl M20 (y_move (v := .int .i64 0) rfl rfl rfl) ?_
    simp only [Act.put, z1, z2, z3]
    refine pl M20 (y_eql (b := true) rfl rfl rfl rfl (decide_eq_true (by decide))) ?_
    simp only [Act.put, z1, z2, z3]
    refine pl M20 (y_pickT (v := .bool true) rfl rfl rfl rfl) ?_
    simp only [Act.put, z1, z2, z3]
    refine pl M20 (y_assign (v := .int .i64 0) rfl rfl rfl) ?_
    simp only [Act.put, z1, z2, z3]
    refine pl M20 (y_assign (v := .bool true) rfl rfl rfl) ?_
    simp only [Act.put, z1, z2, z3]
    refine wpList_nil ?_
    refine hK21 _ _ ?_
    clear hK21
    refine wp_ret ?_
    try simp only [Exit.inBlock, Exit.then]
    refine bodyPost_ret (v := .tuple #[.int .i64 0, .bool true]) (res2 rfl rfl rfl) rfl ?_
    have N : Mem _ _ _ [book _ b ⟨lv, kv, vs⟩, _, _] := book_close (M20.arr [4, 5, 6, 0, 1] (by decide))
    exact ⟨qv', ⟨lv, kv, vs⟩, rfl, N.arr [1, 2, 0] (by decide)⟩
  · refine pl M11 (y_gtr (b := false) rfl rfl rfl rfl (decide_eq_false h14)) ?_
    simp only [Act.put, z1, z2, z3]
    refine wpList_nil ?_
    refine hK13 _ _ ?_
    clear hK13
    refine wp_cond_false rfl ?_
    refine wp_skip ?_
    refine hK12 _ _ ?_
    clear hK12
    refine wp_seq_k (fun K22 hK22 => ?_)
    refine wp_region_lit ?_
    refine pl M11 (y_move (v := .pointer (some ⟨f, 0, none⟩)) rfl rfl rfl) ?_
    simp only [Act.put, z1, z2, z3]
    refine pl M11 (y_move (v := .int .i64 (k : Int)) rfl rfl rfl) ?_
    simp only [Act.put, z1, z2, z3]
    refine pl M11 (y_move (v := .slice a1 l.length c1) rfl rfl rfl) ?_
    simp only [Act.put, z1, z2, z3]
    have hxo : PageOk (k, l) := ⟨⟨by show 1 ≤ k; omega, by show k ≤ 3; omega⟩, by show l.length ≤ 246; omega⟩
    have hX23 : Mem w _ w11 ([disk D p pg mb qv, blk f 96 (fC V p)] ++ [bytesL (.slice a1 l.length c1) l, blk ga 50 ([.int .i64 1, .int .i64 n, .slice ao nn c]), blk b 48 (bC B ⟨lv, kv, vs⟩), rows lv vs B.loads, lst 3 1 kv B.ps.length B.kinds]) := M11.arr [1, 2, 0, 3, 4, 5, 6] (by decide)
    refine pe rfl (fun K hK => ?_)
    refine e_call 26 [.pointer (some ⟨f, 0, none⟩), .int .i64 (k : Int), .slice a1 l.length c1] rfl rfl Try.call26 (xapp_full (Mem.here hX23) hI k a1 l.length c1 l hxo (by have N := bytesL_row (M11.get 0 rfl); exact N) (Mem.off (L := [disk D p pg mb qv, blk f 96 (fC V p)]) (M11.arr [0, 1, 2] (by decide))) hq hf) ?_
    rintro e w23 ⟨qv', rfl, H23⟩
    have M23 : Mem w _ w23 [disk D p pg mb qv', blk f 96 (fC V p), bytesL (.slice a1 l.length c1) l, blk ga 50 ([.int .i64 1, .int .i64 n, .slice ao nn c]), blk b 48 (bC B ⟨lv, kv, vs⟩), rows lv vs B.loads, lst 3 1 kv B.ps.length B.kinds] := Mem.frame hX23 H23
    refine ⟨_, rfl, ?_⟩
    refine hK.out _ _ ?_
    clear hK K
    simp only [Act.put, z1, z2, z3]
    refine pl M23 (y_move (v := .tuple #[.int .i64 0, .int .i64 5]) rfl rfl rfl) ?_
    simp only [Act.put, z1, z2, z3]
    refine pl M23 (y_ext (v := .int .i64 0) rfl rfl rfl rfl) ?_
    simp only [Act.put, z1, z2, z3]
    refine pl M23 (y_ext (v := .int .i64 5) rfl rfl rfl rfl) ?_
    simp only [Act.put, z1, z2, z3]
    refine pl M23 (y_assign (v := .int .i64 0) rfl rfl rfl) ?_
    simp only [Act.put, z1, z2, z3]
    refine pl M23 (y_assign (v := .int .i64 5) rfl rfl rfl) ?_
    simp only [Act.put, z1, z2, z3]
    refine wpList_nil ?_
    refine hK22 _ _ ?_
    clear hK22
    refine wp_seq_k (fun K24 hK24 => ?_)
    refine wp_seq_k (fun K25 hK25 => ?_)
    refine wp_region_lit ?_
    refine pl M23 (y_move (v := .int .i64 V.next) rfl rfl rfl) ?_
    simp only [Act.put, z1, z2, z3]
    refine pl M23 (y_move (v := .pointer (some ⟨f, 0, none⟩)) rfl rfl rfl) ?_
    simp only [Act.put, z1, z2, z3]
    refine pl M23 (y_nil rfl rfl rfl) ?_
    simp only [Act.put, z1, z2, z3]
    refine pl M23 (y_fa (r := 0) rfl rfl rfl Try.underlying96 rfl Try.sizeOf24 rfl) ?_
    simp only [Act.put, z1, z2, z3]
    refine pl M23 (y_load (v := .pointer (some ⟨p, 0, none⟩)) rfl rfl rfl Try.isAgg24 (fun W hW => hW.get 1 rfl) (rfl)) ?_
    simp only [Act.put, z1, z2, z3]
    have hX26 : Mem w _ w23 ([disk D p pg mb qv'] ++ [blk f 96 (fC V p), bytesL (.slice a1 l.length c1) l, blk ga 50 ([.int .i64 1, .int .i64 n, .slice ao nn c]), blk b 48 (bC B ⟨lv, kv, vs⟩), rows lv vs B.loads, lst 3 1 kv B.ps.length B.kinds]) := M23.arr [0, 1, 2, 3, 4, 5, 6] (by decide)
    refine pe rfl (fun K hK => ?_)
    refine e_call 24 [.pointer (some ⟨p, 0, none⟩)] rfl rfl Try.call24 (pages_any (Mem.here hX26)) ?_
    rintro e w26 ⟨rfl, H26⟩
    have M26 : Mem w _ w26 [disk D p pg mb qv', blk f 96 (fC V p), bytesL (.slice a1 l.length c1) l, blk ga 50 ([.int .i64 1, .int .i64 n, .slice ao nn c]), blk b 48 (bC B ⟨lv, kv, vs⟩), rows lv vs B.loads, lst 3 1 kv B.ps.length B.kinds] := Mem.frame hX26 H26
    refine ⟨_, rfl, ?_⟩
    refine hK.out _ _ ?_
    clear hK K
    simp only [Act.put, z1, z2, z3]
    refine pl M26 (y_eql (b := true) rfl rfl rfl rfl (decide_eq_true hf)) ?_
    simp only [Act.put, z1, z2, z3]
    refine wpList_nil ?_
    refine hK25 _ _ ?_
    clear hK25
    refine wp_cond_true rfl ?_
    refine wp_seq_k (fun K27 hK27 => ?_)
    refine wp_region_lit ?_
    refine pl M26 (y_move (v := .int .i64 5) rfl rfl rfl) ?_
    simp only [Act.put, z1, z2, z3]
    refine pl M26 (y_eql (b := true) rfl rfl rfl rfl (decide_eq_true (by decide))) ?_
    simp only [Act.put, z1, z2, z3]
    refine pl M26 (y_move (v := .bool true) rfl rfl rfl) ?_
    simp only [Act.put, z1, z2, z3]
    refine pl M26 (y_move (v := .int .i64 0) rfl rfl rfl) ?_
    simp only [Act.put, z1, z2, z3]
    refine pl M26 (y_eql (b := true) rfl rfl rfl rfl (decide_eq_true (by decide))) ?_
    simp only [Act.put, z1, z2, z3]
    refine pl M26 (y_pickT (v := .bool true) rfl rfl rfl rfl) ?_
    simp only [Act.put, z1, z2, z3]
    refine pl M26 (y_assign (v := .int .i64 0) rfl rfl rfl) ?_
    simp only [Act.put, z1, z2, z3]
    refine pl M26 (y_assign (v := .bool true) rfl rfl rfl) ?_
    simp only [Act.put, z1, z2, z3]
    refine wpList_nil ?_
    refine hK27 _ _ ?_
    clear hK27
    refine wp_ret ?_
    try simp only [Exit.inBlock, Exit.then]
    refine bodyPost_ret (v := .tuple #[.int .i64 0, .bool true]) (res2 rfl rfl rfl) rfl ?_
    have N : Mem _ _ _ [book _ b ⟨lv, kv, vs⟩, _, _] := book_close (M26.arr [4, 5, 6, 0, 1] (by decide))
    exact ⟨qv', ⟨lv, kv, vs⟩, rfl, N.arr [1, 2, 0] (by decide)⟩
set_option maxRecDepth 100000 in
set_option maxHeartbeats 4000000 in
theorem act_go {D : DV} {V : FV} {B : BV} {p pg mb f b : Nat} {qv : Value} {bx : BX} {w : World} (hM : Mem w (foots [disk D p pg mb qv, blk f 96 (fC V p), book B b bx]) w [disk D p pg mb qv, blk f 96 (fC V p), book B b bx]) (n : Int) (ao : Option Addr) (nn c : Nat) (l : List UInt8) (hr : Row w ao nn l) (hF : ∀ b₁ o, ao = some ⟨b₁, o, none⟩ → 0 < nn → b₁ ∉ foots [disk D p pg mb qv, blk f 96 (fC V p), book B b bx]) (hnn : nn ≤ 140737488351232) (hq : D.q.length ≤ 400000000000) (hI : Inv D V B.ps) (hpsl : B.ps.length ≤ D.pages.length) (hf : V.next < (D.pages.length : Int)) (m : Nat) (hm : V.next = ((m + 2 : Nat) : Int)) (h0 : actE D = 0) : Calls Try.prog 27 #[.pointer (some ⟨b, 0, none⟩), .pointer (some ⟨p, 0, none⟩), .pointer (some ⟨f, 0, none⟩), .agg ([.int .i64 1, .int .i64 n, .slice ao nn c]).toArray] w fun e w' => ∃ E r x qv' bx', e = .returned (.tuple #[.int .i64 0, .bool true]) ∧ Mem w (foots [disk D p pg mb qv, blk f 96 (fC V p), book B b bx]) w' [disk (DV.rd E r) p pg mb qv', blk f 96 (fC ({ V with next := V.next + 1 } : FV) p), book ({ B with ps := putP B.ps (m + 2) x } : BV) b bx'] ∧ PageOk x ∧ E = appD D V x.1 x.2 ∧ Inv E { V with next := V.next + 1 } (putP B.ps (m + 2) x) := by
  obtain ⟨lv, kv, vs⟩ := bx
  have M0 := book_open (hM.arr [2, 0, 1] (by decide))
  clear hM
  have M : Mem w _ w [disk D p pg mb qv, blk f 96 (fC V p), blk b 48 (bC B ⟨lv, kv, vs⟩), rows lv vs B.loads, lst 3 1 kv B.ps.length B.kinds] := M0.arr [3, 4, 0, 1, 2] (by decide)
  clear M0
  obtain ⟨k, hk⟩ : ∃ k : Nat, 1 + n % 3 = (k : Int) := Int.eq_ofNat_of_zero_le (by omega)
  have hnl := hr.1
  have hlenN := hI.lenN
  have hhi := hI.ok.hi
  go_enter Try.func27, Try.ntmps27
  refine wp_seq_k (fun K1 hK1 => ?_)
  refine wp_region_lit ?_
  refine pe rfl (fun K hK => ?_)
  refine e_box M ([.int .i64 1, .int .i64 n, .slice ao nn c]) rfl rfl ?_
  intro ga w2 (M2 : Mem w _ w2 [blk ga 50 ([.int .i64 1, .int .i64 n, .slice ao nn c]), disk D p pg mb qv, blk f 96 (fC V p), blk b 48 (bC B ⟨lv, kv, vs⟩), rows lv vs B.loads, lst 3 1 kv B.ps.length B.kinds])
  clear M
  refine hK.out _ _ ?_
  clear hK K
  simp only [Act.put, z1, z2, z3]
  refine pl M2 (y_assign (v := .int .i64 0) rfl rfl rfl) ?_
  simp only [Act.put, z1, z2, z3]
  refine pl M2 (y_assign (v := .bool false) rfl rfl rfl) ?_
  simp only [Act.put, z1, z2, z3]
  refine wpList_nil ?_
  refine hK1 _ _ ?_
  clear hK1
  refine wp_seq_k (fun K3 hK3 => ?_)
  refine wp_region_lit ?_
  refine pl M2 (y_move (v := .pointer (some ⟨f, 0, none⟩)) rfl rfl rfl) ?_
  simp only [Act.put, z1, z2, z3]
  have hX4 : Mem w _ w2 ([disk D p pg mb qv, blk f 96 (fC V p)] ++ [blk ga 50 ([.int .i64 1, .int .i64 n, .slice ao nn c]), blk b 48 (bC B ⟨lv, kv, vs⟩), rows lv vs B.loads, lst 3 1 kv B.ps.length B.kinds]) := M2.arr [1, 2, 0, 3, 4, 5] (by decide)
  refine pe rfl (fun K hK => ?_)
  refine e_call 20 [.pointer (some ⟨f, 0, none⟩)] rfl rfl Try.call20 (next_any (Mem.here hX4)) ?_
  rintro e w4 ⟨rfl, H4⟩
  have M4 : Mem w _ w4 [disk D p pg mb qv, blk f 96 (fC V p), blk ga 50 ([.int .i64 1, .int .i64 n, .slice ao nn c]), blk b 48 (bC B ⟨lv, kv, vs⟩), rows lv vs B.loads, lst 3 1 kv B.ps.length B.kinds] := Mem.frame hX4 H4
  refine ⟨_, rfl, ?_⟩
  refine hK.out _ _ ?_
  clear hK K
  simp only [Act.put, z1, z2, z3]
  refine pl M4 (y_assign (v := .int .i64 V.next) rfl rfl rfl) ?_
  simp only [Act.put, z1, z2, z3]
  refine wpList_nil ?_
  refine hK3 _ _ ?_
  clear hK3
  refine wp_seq_k (fun K5 hK5 => ?_)
  refine wp_seq_k (fun K6 hK6 => ?_)
  refine wp_region_lit ?_
  refine pl M4 (y_fa (r := 0) rfl rfl rfl Try.underlying50 rfl Try.sizeOf3 rfl) ?_
  simp only [Act.put, z1, z2, z3]
  refine pl M4 (y_load (v := .int .i64 1) rfl rfl rfl Try.isAgg3 (fun W hW => hW.get 2 rfl) (rfl)) ?_
  simp only [Act.put, z1, z2, z3]
  refine wpList_nil ?_
  refine hK6 _ _ ?_
  clear hK6
  refine wp_block ?_
  refine wp_seq_k (fun K7 hK7 => ?_)
  refine wp_region_lit ?_
  refine pl M4 (y_eql (b := true) rfl rfl rfl rfl (decide_eq_true (by decide))) ?_
  simp only [Act.put, z1, z2, z3]
  refine pl M4 (y_assign (v := .bool true) rfl rfl rfl) ?_
  simp only [Act.put, z1, z2, z3]
  refine wpList_nil ?_
  refine hK7 _ _ ?_
  clear hK7
  refine wp_cond_true rfl ?_
  refine wp_seq_k (fun K8 hK8 => ?_)
  refine wp_region_lit ?_
  refine pl M4 (y_fa (r := 1) rfl rfl rfl Try.underlying50 rfl Try.sizeOf3 rfl) ?_
  simp only [Act.put, z1, z2, z3]
  refine pl M4 (y_load (v := .int .i64 n) rfl rfl rfl Try.isAgg3 (fun W hW => hW.get 2 rfl) (rfl)) ?_
  simp only [Act.put, z1, z2, z3]
  refine pe rfl (fun K hK => ?_)
  refine e_call 13 [.int .i64 n, .int .i64 3] rfl rfl Try.call13 (place3_any n 3 (by decide) (by decide) _) ?_
  rintro e w9 ⟨rfl, H9⟩
  have M9 : Mem w _ w9 [disk D p pg mb qv, blk f 96 (fC V p), blk ga 50 ([.int .i64 1, .int .i64 n, .slice ao nn c]), blk b 48 (bC B ⟨lv, kv, vs⟩), rows lv vs B.loads, lst 3 1 kv B.ps.length B.kinds] := M4.step H9
  refine ⟨_, rfl, ?_⟩
  refine hK.out _ _ ?_
  clear hK K
  simp only [Act.put, z1, z2, z3]
  refine pl M9 (y_add (r := (k : Int)) rfl rfl rfl rfl (hk) (by omega)) ?_
  simp only [Act.put, z1, z2, z3]
  refine pl M9 (y_assign (v := .int .i64 (k : Int)) rfl rfl rfl) ?_
  simp only [Act.put, z1, z2, z3]
  refine wpList_nil ?_
  refine hK8 _ _ ?_
  clear hK8
  refine wp_seq_k (fun K10 hK10 => ?_)
  refine wp_region_lit ?_
  refine pl M9 (y_fa (r := 2) rfl rfl rfl Try.underlying50 rfl Try.sizeOf22 rfl) ?_
  simp only [Act.put, z1, z2, z3]
  refine pl M9 (y_load (v := .slice ao nn c) rfl rfl rfl Try.isAgg22 (fun W hW => hW.get 2 rfl) (rfl)) ?_
  simp only [Act.put, z1, z2, z3]
  refine pe rfl (fun K hK => ?_)
  refine e_call 32 [.slice ao nn c] rfl rfl Try.call32 (copy_any ao nn c l _ (M9.row hr hF) (by omega)) ?_
  rintro e w11 ⟨a1, c1, rfl, H11⟩
  have M11 : Mem w _ w11 [bytesL (.slice a1 l.length c1) l, disk D p pg mb qv, blk f 96 (fC V p), blk ga 50 ([.int .i64 1, .int .i64 n, .slice ao nn c]), blk b 48 (bC B ⟨lv, kv, vs⟩), rows lv vs B.loads, lst 3 1 kv B.ps.length B.kinds] := M9.step H11
  refine ⟨_, rfl, ?_⟩
  refine hK.out _ _ ?_
  clear hK K
  simp only [Act.put, z1, z2, z3]
  refine pl M11 (y_assign (v := .slice a1 l.length c1) rfl rfl rfl) ?_
  simp only [Act.put, z1, z2, z3]
  refine wpList_nil ?_
  refine hK10 _ _ ?_
  clear hK10
  refine wp_seq_k (fun K12 hK12 => ?_)
  refine wp_seq_k (fun K13 hK13 => ?_)
  refine wp_region_lit ?_
  refine pl M11 (y_move (v := .slice a1 l.length c1) rfl rfl rfl) ?_
  simp only [Act.put, z1, z2, z3]
  refine pl M11 (y_len rfl rfl rfl Try.underlying22) ?_
  simp only [Act.put, z1, z2, z3]
  rcases Decidable.em ((246 : Int) < (l.length : Int)) with h14 | h14
  · refine pl M11 (y_gtr (b := true) rfl rfl rfl rfl (decide_eq_true h14)) ?_
    simp only [Act.put, z1, z2, z3]
    refine wpList_nil ?_
    refine hK13 _ _ ?_
    clear hK13
    refine wp_cond_true rfl ?_
    refine wp_region_lit ?_
    refine pl M11 (y_move (v := .slice a1 l.length c1) rfl rfl rfl) ?_
    simp only [Act.put, z1, z2, z3]
    have hcc : l.length ≤ c1 := bytesL_cap (M11.get 0 rfl)
    refine pl M11 (y_slt (h := 246) rfl rfl rfl rfl Try.underlying22 Try.sizeOf5 (by omega)) ?_
    simp only [Act.put, z1, z2, z3]
    have h246 : (l.take 246).length = 246 := by rw [List.length_take]; omega
    have M15 : Mem w (foots [disk D p pg mb qv, blk f 96 (fC V p), book B b ⟨lv, kv, vs⟩]) w11 [bytesL (.slice a1 (l.take 246).length c1) (l.take 246), disk D p pg mb qv, blk f 96 (fC V p), blk ga 50 ([.int .i64 1, .int .i64 n, .slice ao nn c]), blk b 48 (bC B ⟨lv, kv, vs⟩), rows lv vs B.loads, lst 3 1 kv B.ps.length B.kinds] := by
      rw [h246]
      have N := Mem.front M11 0 (m := 246) rfl (by omega)
      have e : (bvs l).take (246 * 1) = bvs (l.take 246) := by unfold bvs; rw [List.map_take]
      rw [e] at N
      unfold bytesL
      rw [h246]
      exact N
    clear M11
    refine pl M15 (y_assign (v := .slice a1 246 c1) rfl rfl rfl) ?_
    simp only [Act.put, z1, z2, z3]
    refine wpList_nil ?_
    refine hK12 _ _ ?_
    clear hK12
    refine wp_seq_k (fun K16 hK16 => ?_)
    refine wp_region_lit ?_
    refine pl M15 (y_move (v := .pointer (some ⟨f, 0, none⟩)) rfl rfl rfl) ?_
    simp only [Act.put, z1, z2, z3]
    refine pl M15 (y_move (v := .int .i64 (k : Int)) rfl rfl rfl) ?_
    simp only [Act.put, z1, z2, z3]
    refine pl M15 (y_move (v := .slice a1 246 c1) rfl rfl rfl) ?_
    simp only [Act.put, z1, z2, z3]
    have hxo : PageOk (k, (l.take 246)) := ⟨⟨by show 1 ≤ k; omega, by show k ≤ 3; omega⟩, by show (l.take 246).length ≤ 246; omega⟩
    have hX17 : Mem w _ w11 ([disk D p pg mb qv, blk f 96 (fC V p)] ++ [bytesL (.slice a1 (l.take 246).length c1) (l.take 246), blk ga 50 ([.int .i64 1, .int .i64 n, .slice ao nn c]), blk b 48 (bC B ⟨lv, kv, vs⟩), rows lv vs B.loads, lst 3 1 kv B.ps.length B.kinds]) := M15.arr [1, 2, 0, 3, 4, 5, 6] (by decide)
    refine pe rfl (fun K hK => ?_)
    refine e_call 26 [.pointer (some ⟨f, 0, none⟩), .int .i64 (k : Int), .slice a1 246 c1] rfl rfl Try.call26 (xapp_go (Mem.here hX17) hI k a1 246 c1 (l.take 246) hxo (by have N := bytesL_row (M15.get 0 rfl); rw [h246] at N; exact N) (Mem.off (L := [disk D p pg mb qv, blk f 96 (fC V p)]) (M15.arr [0, 1, 2] (by decide))) hq hf m hm h0) ?_
    rintro e w17 ⟨E, qv', rfl, H17, hE, hI2, hpl⟩
    have M17 : Mem w _ w17 [disk E p pg mb qv', blk f 96 (fC ({ V with next := V.next + 1 } : FV) p), bytesL (.slice a1 (l.take 246).length c1) (l.take 246), blk ga 50 ([.int .i64 1, .int .i64 n, .slice ao nn c]), blk b 48 (bC B ⟨lv, kv, vs⟩), rows lv vs B.loads, lst 3 1 kv B.ps.length B.kinds] := Mem.frame hX17 H17
    refine ⟨_, rfl, ?_⟩
    refine hK.out _ _ ?_
    clear hK K
    simp only [Act.put, z1, z2, z3]
    refine pl M17 (y_move (v := .tuple #[.int .i64 ((m + 2 : Nat) : Int), .int .i64 0]) rfl rfl rfl) ?_
    simp only [Act.put, z1, z2, z3]
    refine pl M17 (y_ext (v := .int .i64 ((m + 2 : Nat) : Int)) rfl rfl rfl rfl) ?_
    simp only [Act.put, z1, z2, z3]
    refine pl M17 (y_ext (v := .int .i64 0) rfl rfl rfl rfl) ?_
    simp only [Act.put, z1, z2, z3]
    refine pl M17 (y_assign (v := .int .i64 ((m + 2 : Nat) : Int)) rfl rfl rfl) ?_
    simp only [Act.put, z1, z2, z3]
    refine pl M17 (y_assign (v := .int .i64 0) rfl rfl rfl) ?_
    simp only [Act.put, z1, z2, z3]
    refine wpList_nil ?_
    refine hK16 _ _ ?_
    clear hK16
    refine wp_seq_k (fun K18 hK18 => ?_)
    refine wp_seq_k (fun K19 hK19 => ?_)
    refine wp_region_lit ?_
    refine pl M17 (y_move (v := .int .i64 V.next) rfl rfl rfl) ?_
    simp only [Act.put, z1, z2, z3]
    refine pl M17 (y_move (v := .pointer (some ⟨f, 0, none⟩)) rfl rfl rfl) ?_
    simp only [Act.put, z1, z2, z3]
    refine pl M17 (y_nil rfl rfl rfl) ?_
    simp only [Act.put, z1, z2, z3]
    refine pl M17 (y_fa (r := 0) rfl rfl rfl Try.underlying96 rfl Try.sizeOf24 rfl) ?_
    simp only [Act.put, z1, z2, z3]
    refine pl M17 (y_load (v := .pointer (some ⟨p, 0, none⟩)) rfl rfl rfl Try.isAgg24 (fun W hW => hW.get 1 rfl) (rfl)) ?_
    simp only [Act.put, z1, z2, z3]
    have hX20 : Mem w _ w17 ([disk E p pg mb qv'] ++ [blk f 96 (fC ({ V with next := V.next + 1 } : FV) p), bytesL (.slice a1 (l.take 246).length c1) (l.take 246), blk ga 50 ([.int .i64 1, .int .i64 n, .slice ao nn c]), blk b 48 (bC B ⟨lv, kv, vs⟩), rows lv vs B.loads, lst 3 1 kv B.ps.length B.kinds]) := M17.arr [0, 1, 2, 3, 4, 5, 6] (by decide)
    refine pe rfl (fun K hK => ?_)
    refine e_call 24 [.pointer (some ⟨p, 0, none⟩)] rfl rfl Try.call24 (pages_any (Mem.here hX20)) ?_
    rintro e w20 ⟨rfl, H20⟩
    have M20 : Mem w _ w20 [disk E p pg mb qv', blk f 96 (fC ({ V with next := V.next + 1 } : FV) p), bytesL (.slice a1 (l.take 246).length c1) (l.take 246), blk ga 50 ([.int .i64 1, .int .i64 n, .slice ao nn c]), blk b 48 (bC B ⟨lv, kv, vs⟩), rows lv vs B.loads, lst 3 1 kv B.ps.length B.kinds] := Mem.frame hX20 H20
    refine ⟨_, rfl, ?_⟩
    refine hK.out _ _ ?_
    clear hK K
    simp only [Act.put, z1, z2, z3]
    refine pl M20 (y_eql (b := false) rfl rfl rfl rfl (decide_eq_false (by rw [hpl]; omega))) ?_
    simp only [Act.put, z1, z2, z3]
    refine wpList_nil ?_
    refine hK19 _ _ ?_
    clear hK19
    refine wp_cond_false rfl ?_
    refine wp_skip ?_
    refine hK18 _ _ ?_
    clear hK18
    refine wp_seq_k (fun K21 hK21 => ?_)
    refine wp_seq_k (fun K22 hK22 => ?_)
    refine wp_region_lit ?_
    refine pl M20 (y_move (v := .int .i64 0) rfl rfl rfl) ?_
    simp only [Act.put, z1, z2, z3]
    refine pl M20 (y_eql (b := true) rfl rfl rfl rfl (decide_eq_true (by decide))) ?_
    simp only [Act.put, z1, z2, z3]
    refine wpList_nil ?_
    refine hK22 _ _ ?_
    clear hK22
    refine wp_cond_true rfl ?_
    refine wp_seq_k (fun K23 hK23 => ?_)
    refine wp_seq_k (fun K24 hK24 => ?_)
    refine wp_region_lit ?_
    refine pl M20 (y_move (v := .int .i64 ((m + 2 : Nat) : Int)) rfl rfl rfl) ?_
    simp only [Act.put, z1, z2, z3]
    refine pl M20 (y_move (v := .int .i64 V.next) rfl rfl rfl) ?_
    simp only [Act.put, z1, z2, z3]
    refine pl M20 (y_neq (b := false) rfl rfl rfl rfl (by rw [decide_eq_true hm.symm]; rfl)) ?_
    simp only [Act.put, z1, z2, z3]
    refine pl M20 (y_move (v := .bool false) rfl rfl rfl) ?_
    simp only [Act.put, z1, z2, z3]
    refine pl M20 (y_move (v := .pointer (some ⟨f, 0, none⟩)) rfl rfl rfl) ?_
    simp only [Act.put, z1, z2, z3]
    have hX25 : Mem w _ w20 ([disk E p pg mb qv', blk f 96 (fC ({ V with next := V.next + 1 } : FV) p)] ++ [bytesL (.slice a1 (l.take 246).length c1) (l.take 246), blk ga 50 ([.int .i64 1, .int .i64 n, .slice ao nn c]), blk b 48 (bC B ⟨lv, kv, vs⟩), rows lv vs B.loads, lst 3 1 kv B.ps.length B.kinds]) := M20.arr [0, 1, 2, 3, 4, 5, 6] (by decide)
    refine pe rfl (fun K hK => ?_)
    refine e_call 20 [.pointer (some ⟨f, 0, none⟩)] rfl rfl Try.call20 (next_any (Mem.here hX25)) ?_
    rintro e w25 ⟨rfl, H25⟩
    have M25 : Mem w _ w25 [disk E p pg mb qv', blk f 96 (fC ({ V with next := V.next + 1 } : FV) p), bytesL (.slice a1 (l.take 246).length c1) (l.take 246), blk ga 50 ([.int .i64 1, .int .i64 n, .slice ao nn c]), blk b 48 (bC B ⟨lv, kv, vs⟩), rows lv vs B.loads, lst 3 1 kv B.ps.length B.kinds] := Mem.frame hX25 H25
    refine ⟨_, rfl, ?_⟩
    refine hK.out _ _ ?_
    clear hK K
    simp only [Act.put, z1, z2, z3]
    refine pl M25 (y_move (v := .int .i64 V.next) rfl rfl rfl) ?_
    simp only [Act.put, z1, z2, z3]
    refine pl M25 (y_add (r := V.next + 1) rfl rfl rfl rfl (rfl) (by omega)) ?_
    simp only [Act.put, z1, z2, z3]
    refine pl M25 (y_neq (b := false) rfl rfl rfl rfl (by rw [decide_eq_true rfl]; rfl)) ?_
    simp only [Act.put, z1, z2, z3]
    refine pl M25 (y_pickF (v := .bool false) rfl rfl rfl rfl) ?_
    simp only [Act.put, z1, z2, z3]
    refine wpList_nil ?_
    refine hK24 _ _ ?_
    clear hK24
    refine wp_cond_false rfl ?_
    refine wp_skip ?_
    refine hK23 _ _ ?_
    clear hK23
    refine wp_seq_k (fun K26 hK26 => ?_)
    refine wp_region_lit ?_
    refine pl M25 (y_move (v := .int .i64 0) rfl rfl rfl) ?_
    simp only [Act.put, z1, z2, z3]
    refine pl M25 (y_move (v := .pointer (some ⟨b, 0, none⟩)) rfl rfl rfl) ?_
    simp only [Act.put, z1, z2, z3]
    refine pl M25 (y_move (v := .int .i64 ((m + 2 : Nat) : Int)) rfl rfl rfl) ?_
    simp only [Act.put, z1, z2, z3]
    refine pl M25 (y_move (v := .int .i64 (k : Int)) rfl rfl rfl) ?_
    simp only [Act.put, z1, z2, z3]
    refine pl M25 (y_move (v := .slice a1 246 c1) rfl rfl rfl) ?_
    simp only [Act.put, z1, z2, z3]
    have M27 : Mem w _ w25 [book B b (⟨lv, kv, vs⟩), disk E p pg mb qv', blk f 96 (fC ({ V with next := V.next + 1 } : FV) p), bytesL (.slice a1 (l.take 246).length c1) (l.take 246), blk ga 50 ([.int .i64 1, .int .i64 n, .slice ao nn c])] := book_close (M25.arr [4, 5, 6, 0, 1, 2, 3] (by decide))
    clear M25
    have hX28 : Mem w _ w25 ([book B b (⟨lv, kv, vs⟩)] ++ [disk E p pg mb qv', blk f 96 (fC ({ V with next := V.next + 1 } : FV) p), bytesL (.slice a1 (l.take 246).length c1) (l.take 246), blk ga 50 ([.int .i64 1, .int .i64 n, .slice ao nn c])]) := M27.arr [0, 1, 2, 3, 4] (by decide)
    refine pe rfl (fun K hK => ?_)
    refine e_call 52 [.pointer (some ⟨b, 0, none⟩), .int .i64 ((m + 2 : Nat) : Int), .int .i64 (k : Int), .slice a1 246 c1] rfl rfl Try.call52 (bput_any m k a1 246 c1 (l.take 246) (Mem.here hX28) (by have N := bytesL_row (M27.get 3 rfl); rw [h246] at N; exact N) (Mem.off (L := [book B b (⟨lv, kv, vs⟩)]) (M27.arr [3, 0] (by decide))) (by omega) (by omega) (by omega)) ?_
    rintro e w28 ⟨bx', rfl, H28⟩
    have M28 : Mem w _ w28 [book ({ B with ps := putP B.ps (m + 2) (k, (l.take 246)) } : BV) b bx', disk E p pg mb qv', blk f 96 (fC ({ V with next := V.next + 1 } : FV) p), bytesL (.slice a1 (l.take 246).length c1) (l.take 246), blk ga 50 ([.int .i64 1, .int .i64 n, .slice ao nn c])] := Mem.frame hX28 H28
    refine ⟨_, rfl, ?_⟩
    refine hK.out _ _ ?_
    clear hK K
    simp only [Act.put, z1, z2, z3]
    refine pl M28 (y_move (v := .bool true) rfl rfl rfl) ?_
    simp only [Act.put, z1, z2, z3]
    refine pl M28 (y_move (v := .pointer (some ⟨b, 0, none⟩)) rfl rfl rfl) ?_
    simp only [Act.put, z1, z2, z3]
    refine pl M28 (y_move (v := .pointer (some ⟨f, 0, none⟩)) rfl rfl rfl) ?_
    simp only [Act.put, z1, z2, z3]
    refine pl M28 (y_move (v := .int .i64 V.next) rfl rfl rfl) ?_
    simp only [Act.put, z1, z2, z3]
    refine pl M28 (y_add (r := ((m + 3 : Nat) : Int)) rfl rfl rfl rfl (by omega) (by omega)) ?_
    simp only [Act.put, z1, z2, z3]
    have hX29 : Mem w _ w28 ([disk E p pg mb qv', blk f 96 (fC ({ V with next := V.next + 1 } : FV) p), book ({ B with ps := putP B.ps (m + 2) (k, (l.take 246)) } : BV) b bx'] ++ [bytesL (.slice a1 (l.take 246).length c1) (l.take 246), blk ga 50 ([.int .i64 1, .int .i64 n, .slice ao nn c])]) := M28.arr [1, 2, 0, 3, 4] (by decide)
    refine pe rfl (fun K hK => ?_)
    refine e_call 29 [.pointer (some ⟨b, 0, none⟩), .pointer (some ⟨f, 0, none⟩), .int .i64 ((m + 3 : Nat) : Int)] rfl rfl Try.call29 (bholds_any (Mem.here hX29) (B := ({ B with ps := putP B.ps (m + 2) (k, (l.take 246)) } : BV)) hI2 (m + 3) (by omega) (by show ((m + 3 : Nat) : Int) ≤ V.next + 1; omega)) ?_
    rintro e w29 ⟨r, rfl, H29⟩
    have M29 : Mem w _ w29 [disk (E.rd r) p pg mb qv', blk f 96 (fC ({ V with next := V.next + 1 } : FV) p), book ({ B with ps := putP B.ps (m + 2) (k, (l.take 246)) } : BV) b bx', bytesL (.slice a1 (l.take 246).length c1) (l.take 246), blk ga 50 ([.int .i64 1, .int .i64 n, .slice ao nn c])] := Mem.frame hX29 H29
    refine ⟨_, rfl, ?_⟩
    refine hK.out _ _ ?_
    clear hK K
    simp only [Act.put, z1, z2, z3]
    refine pl M29 (y_pickT (v := .bool true) rfl rfl rfl rfl) ?_
    simp only [Act.put, z1, z2, z3]
    refine pl M29 (y_assign (v := .int .i64 0) rfl rfl rfl) ?_
    simp only [Act.put, z1, z2, z3]
    refine pl M29 (y_assign (v := .bool true) rfl rfl rfl) ?_
    simp only [Act.put, z1, z2, z3]
    refine wpList_nil ?_
    refine hK26 _ _ ?_
    clear hK26
    refine wp_ret ?_
    try simp only [Exit.inBlock, Exit.then]
    refine bodyPost_ret (v := .tuple #[.int .i64 0, .bool true]) (res2 rfl rfl rfl) rfl ?_
    exact ⟨E, r, (k, (l.take 246)), qv', bx', rfl, M29.arr [0, 1, 2] (by decide), hxo, hE, hI2⟩
  · refine pl M11 (y_gtr (b := false) rfl rfl rfl rfl (decide_eq_false h14)) ?_
    simp only [Act.put, z1, z2, z3]
    refine wpList_nil ?_
    refine hK13 _ _ ?_
    clear hK13
    refine wp_cond_false rfl ?_
    refine wp_skip ?_
    refine hK12 _ _ ?_
    clear hK12
    refine wp_seq_k (fun K30 hK30 => ?_)
    refine wp_region_lit ?_
    refine pl M11 (y_move (v := .pointer (some ⟨f, 0, none⟩)) rfl rfl rfl) ?_
    simp only [Act.put, z1, z2, z3]
    refine pl M11 (y_move (v := .int .i64 (k : Int)) rfl rfl rfl) ?_
    simp only [Act.put, z1, z2, z3]
    refine pl M11 (y_move (v := .slice a1 l.length c1) rfl rfl rfl) ?_
    simp only [Act.put, z1, z2, z3]
    have hxo : PageOk (k, l) := ⟨⟨by show 1 ≤ k; omega, by show k ≤ 3; omega⟩, by show l.length ≤ 246; omega⟩
    have hX31 : Mem w _ w11 ([disk D p pg mb qv, blk f 96 (fC V p)] ++ [bytesL (.slice a1 l.length c1) l, blk ga 50 ([.int .i64 1, .int .i64 n, .slice ao nn c]), blk b 48 (bC B ⟨lv, kv, vs⟩), rows lv vs B.loads, lst 3 1 kv B.ps.length B.kinds]) := M11.arr [1, 2, 0, 3, 4, 5, 6] (by decide)
    refine pe rfl (fun K hK => ?_)
    refine e_call 26 [.pointer (some ⟨f, 0, none⟩), .int .i64 (k : Int), .slice a1 l.length c1] rfl rfl Try.call26 (xapp_go (Mem.here hX31) hI k a1 l.length c1 l hxo (by have N := bytesL_row (M11.get 0 rfl); exact N) (Mem.off (L := [disk D p pg mb qv, blk f 96 (fC V p)]) (M11.arr [0, 1, 2] (by decide))) hq hf m hm h0) ?_
    rintro e w31 ⟨E, qv', rfl, H31, hE, hI2, hpl⟩
    have M31 : Mem w _ w31 [disk E p pg mb qv', blk f 96 (fC ({ V with next := V.next + 1 } : FV) p), bytesL (.slice a1 l.length c1) l, blk ga 50 ([.int .i64 1, .int .i64 n, .slice ao nn c]), blk b 48 (bC B ⟨lv, kv, vs⟩), rows lv vs B.loads, lst 3 1 kv B.ps.length B.kinds] := Mem.frame hX31 H31
    refine ⟨_, rfl, ?_⟩
    refine hK.out _ _ ?_
    clear hK K
    simp only [Act.put, z1, z2, z3]
    refine pl M31 (y_move (v := .tuple #[.int .i64 ((m + 2 : Nat) : Int), .int .i64 0]) rfl rfl rfl) ?_
    simp only [Act.put, z1, z2, z3]
    refine pl M31 (y_ext (v := .int .i64 ((m + 2 : Nat) : Int)) rfl rfl rfl rfl) ?_
    simp only [Act.put, z1, z2, z3]
    refine pl M31 (y_ext (v := .int .i64 0) rfl rfl rfl rfl) ?_
    simp only [Act.put, z1, z2, z3]
    refine pl M31 (y_assign (v := .int .i64 ((m + 2 : Nat) : Int)) rfl rfl rfl) ?_
    simp only [Act.put, z1, z2, z3]
    refine pl M31 (y_assign (v := .int .i64 0) rfl rfl rfl) ?_
    simp only [Act.put, z1, z2, z3]
    refine wpList_nil ?_
    refine hK30 _ _ ?_
    clear hK30
    refine wp_seq_k (fun K32 hK32 => ?_)
    refine wp_seq_k (fun K33 hK33 => ?_)
    refine wp_region_lit ?_
    refine pl M31 (y_move (v := .int .i64 V.next) rfl rfl rfl) ?_
    simp only [Act.put, z1, z2, z3]
    refine pl M31 (y_move (v := .pointer (some ⟨f, 0, none⟩)) rfl rfl rfl) ?_
    simp only [Act.put, z1, z2, z3]
    refine pl M31 (y_nil rfl rfl rfl) ?_
    simp only [Act.put, z1, z2, z3]
    refine pl M31 (y_fa (r := 0) rfl rfl rfl Try.underlying96 rfl Try.sizeOf24 rfl) ?_
    simp only [Act.put, z1, z2, z3]
    refine pl M31 (y_load (v := .pointer (some ⟨p, 0, none⟩)) rfl rfl rfl Try.isAgg24 (fun W hW => hW.get 1 rfl) (rfl)) ?_
    simp only [Act.put, z1, z2, z3]
    have hX34 : Mem w _ w31 ([disk E p pg mb qv'] ++ [blk f 96 (fC ({ V with next := V.next + 1 } : FV) p), bytesL (.slice a1 l.length c1) l, blk ga 50 ([.int .i64 1, .int .i64 n, .slice ao nn c]), blk b 48 (bC B ⟨lv, kv, vs⟩), rows lv vs B.loads, lst 3 1 kv B.ps.length B.kinds]) := M31.arr [0, 1, 2, 3, 4, 5, 6] (by decide)
    refine pe rfl (fun K hK => ?_)
    refine e_call 24 [.pointer (some ⟨p, 0, none⟩)] rfl rfl Try.call24 (pages_any (Mem.here hX34)) ?_
    rintro e w34 ⟨rfl, H34⟩
    have M34 : Mem w _ w34 [disk E p pg mb qv', blk f 96 (fC ({ V with next := V.next + 1 } : FV) p), bytesL (.slice a1 l.length c1) l, blk ga 50 ([.int .i64 1, .int .i64 n, .slice ao nn c]), blk b 48 (bC B ⟨lv, kv, vs⟩), rows lv vs B.loads, lst 3 1 kv B.ps.length B.kinds] := Mem.frame hX34 H34
    refine ⟨_, rfl, ?_⟩
    refine hK.out _ _ ?_
    clear hK K
    simp only [Act.put, z1, z2, z3]
    refine pl M34 (y_eql (b := false) rfl rfl rfl rfl (decide_eq_false (by rw [hpl]; omega))) ?_
    simp only [Act.put, z1, z2, z3]
    refine wpList_nil ?_
    refine hK33 _ _ ?_
    clear hK33
    refine wp_cond_false rfl ?_
    refine wp_skip ?_
    refine hK32 _ _ ?_
    clear hK32
    refine wp_seq_k (fun K35 hK35 => ?_)
    refine wp_seq_k (fun K36 hK36 => ?_)
    refine wp_region_lit ?_
    refine pl M34 (y_move (v := .int .i64 0) rfl rfl rfl) ?_
    simp only [Act.put, z1, z2, z3]
    refine pl M34 (y_eql (b := true) rfl rfl rfl rfl (decide_eq_true (by decide))) ?_
    simp only [Act.put, z1, z2, z3]
    refine wpList_nil ?_
    refine hK36 _ _ ?_
    clear hK36
    refine wp_cond_true rfl ?_
    refine wp_seq_k (fun K37 hK37 => ?_)
    refine wp_seq_k (fun K38 hK38 => ?_)
    refine wp_region_lit ?_
    refine pl M34 (y_move (v := .int .i64 ((m + 2 : Nat) : Int)) rfl rfl rfl) ?_
    simp only [Act.put, z1, z2, z3]
    refine pl M34 (y_move (v := .int .i64 V.next) rfl rfl rfl) ?_
    simp only [Act.put, z1, z2, z3]
    refine pl M34 (y_neq (b := false) rfl rfl rfl rfl (by rw [decide_eq_true hm.symm]; rfl)) ?_
    simp only [Act.put, z1, z2, z3]
    refine pl M34 (y_move (v := .bool false) rfl rfl rfl) ?_
    simp only [Act.put, z1, z2, z3]
    refine pl M34 (y_move (v := .pointer (some ⟨f, 0, none⟩)) rfl rfl rfl) ?_
    simp only [Act.put, z1, z2, z3]
    have hX39 : Mem w _ w34 ([disk E p pg mb qv', blk f 96 (fC ({ V with next := V.next + 1 } : FV) p)] ++ [bytesL (.slice a1 l.length c1) l, blk ga 50 ([.int .i64 1, .int .i64 n, .slice ao nn c]), blk b 48 (bC B ⟨lv, kv, vs⟩), rows lv vs B.loads, lst 3 1 kv B.ps.length B.kinds]) := M34.arr [0, 1, 2, 3, 4, 5, 6] (by decide)
    refine pe rfl (fun K hK => ?_)
    refine e_call 20 [.pointer (some ⟨f, 0, none⟩)] rfl rfl Try.call20 (next_any (Mem.here hX39)) ?_
    rintro e w39 ⟨rfl, H39⟩
    have M39 : Mem w _ w39 [disk E p pg mb qv', blk f 96 (fC ({ V with next := V.next + 1 } : FV) p), bytesL (.slice a1 l.length c1) l, blk ga 50 ([.int .i64 1, .int .i64 n, .slice ao nn c]), blk b 48 (bC B ⟨lv, kv, vs⟩), rows lv vs B.loads, lst 3 1 kv B.ps.length B.kinds] := Mem.frame hX39 H39
    refine ⟨_, rfl, ?_⟩
    refine hK.out _ _ ?_
    clear hK K
    simp only [Act.put, z1, z2, z3]
    refine pl M39 (y_move (v := .int .i64 V.next) rfl rfl rfl) ?_
    simp only [Act.put, z1, z2, z3]
    refine pl M39 (y_add (r := V.next + 1) rfl rfl rfl rfl (rfl) (by omega)) ?_
    simp only [Act.put, z1, z2, z3]
    refine pl M39 (y_neq (b := false) rfl rfl rfl rfl (by rw [decide_eq_true rfl]; rfl)) ?_
    simp only [Act.put, z1, z2, z3]
    refine pl M39 (y_pickF (v := .bool false) rfl rfl rfl rfl) ?_
    simp only [Act.put, z1, z2, z3]
    refine wpList_nil ?_
    refine hK38 _ _ ?_
    clear hK38
    refine wp_cond_false rfl ?_
    refine wp_skip ?_
    refine hK37 _ _ ?_
    clear hK37
    refine wp_seq_k (fun K40 hK40 => ?_)
    refine wp_region_lit ?_
    refine pl M39 (y_move (v := .int .i64 0) rfl rfl rfl) ?_
    simp only [Act.put, z1, z2, z3]
    refine pl M39 (y_move (v := .pointer (some ⟨b, 0, none⟩)) rfl rfl rfl) ?_
    simp only [Act.put, z1, z2, z3]
    refine pl M39 (y_move (v := .int .i64 ((m + 2 : Nat) : Int)) rfl rfl rfl) ?_
    simp only [Act.put, z1, z2, z3]
    refine pl M39 (y_move (v := .int .i64 (k : Int)) rfl rfl rfl) ?_
    simp only [Act.put, z1, z2, z3]
    refine pl M39 (y_move (v := .slice a1 l.length c1) rfl rfl rfl) ?_
    simp only [Act.put, z1, z2, z3]
    have M41 : Mem w _ w39 [book B b (⟨lv, kv, vs⟩), disk E p pg mb qv', blk f 96 (fC ({ V with next := V.next + 1 } : FV) p), bytesL (.slice a1 l.length c1) l, blk ga 50 ([.int .i64 1, .int .i64 n, .slice ao nn c])] := book_close (M39.arr [4, 5, 6, 0, 1, 2, 3] (by decide))
    clear M39
    have hX42 : Mem w _ w39 ([book B b (⟨lv, kv, vs⟩)] ++ [disk E p pg mb qv', blk f 96 (fC ({ V with next := V.next + 1 } : FV) p), bytesL (.slice a1 l.length c1) l, blk ga 50 ([.int .i64 1, .int .i64 n, .slice ao nn c])]) := M41.arr [0, 1, 2, 3, 4] (by decide)
    refine pe rfl (fun K hK => ?_)
    refine e_call 52 [.pointer (some ⟨b, 0, none⟩), .int .i64 ((m + 2 : Nat) : Int), .int .i64 (k : Int), .slice a1 l.length c1] rfl rfl Try.call52 (bput_any m k a1 l.length c1 l (Mem.here hX42) (by have N := bytesL_row (M41.get 3 rfl); exact N) (Mem.off (L := [book B b (⟨lv, kv, vs⟩)]) (M41.arr [3, 0] (by decide))) (by omega) (by omega) (by omega)) ?_
    rintro e w42 ⟨bx', rfl, H42⟩
    have M42 : Mem w _ w42 [book ({ B with ps := putP B.ps (m + 2) (k, l) } : BV) b bx', disk E p pg mb qv', blk f 96 (fC ({ V with next := V.next + 1 } : FV) p), bytesL (.slice a1 l.length c1) l, blk ga 50 ([.int .i64 1, .int .i64 n, .slice ao nn c])] := Mem.frame hX42 H42
    refine ⟨_, rfl, ?_⟩
    refine hK.out _ _ ?_
    clear hK K
    simp only [Act.put, z1, z2, z3]
    refine pl M42 (y_move (v := .bool true) rfl rfl rfl) ?_
    simp only [Act.put, z1, z2, z3]
    refine pl M42 (y_move (v := .pointer (some ⟨b, 0, none⟩)) rfl rfl rfl) ?_
    simp only [Act.put, z1, z2, z3]
    refine pl M42 (y_move (v := .pointer (some ⟨f, 0, none⟩)) rfl rfl rfl) ?_
    simp only [Act.put, z1, z2, z3]
    refine pl M42 (y_move (v := .int .i64 V.next) rfl rfl rfl) ?_
    simp only [Act.put, z1, z2, z3]
    refine pl M42 (y_add (r := ((m + 3 : Nat) : Int)) rfl rfl rfl rfl (by omega) (by omega)) ?_
    simp only [Act.put, z1, z2, z3]
    have hX43 : Mem w _ w42 ([disk E p pg mb qv', blk f 96 (fC ({ V with next := V.next + 1 } : FV) p), book ({ B with ps := putP B.ps (m + 2) (k, l) } : BV) b bx'] ++ [bytesL (.slice a1 l.length c1) l, blk ga 50 ([.int .i64 1, .int .i64 n, .slice ao nn c])]) := M42.arr [1, 2, 0, 3, 4] (by decide)
    refine pe rfl (fun K hK => ?_)
    refine e_call 29 [.pointer (some ⟨b, 0, none⟩), .pointer (some ⟨f, 0, none⟩), .int .i64 ((m + 3 : Nat) : Int)] rfl rfl Try.call29 (bholds_any (Mem.here hX43) (B := ({ B with ps := putP B.ps (m + 2) (k, l) } : BV)) hI2 (m + 3) (by omega) (by show ((m + 3 : Nat) : Int) ≤ V.next + 1; omega)) ?_
    rintro e w43 ⟨r, rfl, H43⟩
    have M43 : Mem w _ w43 [disk (E.rd r) p pg mb qv', blk f 96 (fC ({ V with next := V.next + 1 } : FV) p), book ({ B with ps := putP B.ps (m + 2) (k, l) } : BV) b bx', bytesL (.slice a1 l.length c1) l, blk ga 50 ([.int .i64 1, .int .i64 n, .slice ao nn c])] := Mem.frame hX43 H43
    refine ⟨_, rfl, ?_⟩
    refine hK.out _ _ ?_
    clear hK K
    simp only [Act.put, z1, z2, z3]
    refine pl M43 (y_pickT (v := .bool true) rfl rfl rfl rfl) ?_
    simp only [Act.put, z1, z2, z3]
    refine pl M43 (y_assign (v := .int .i64 0) rfl rfl rfl) ?_
    simp only [Act.put, z1, z2, z3]
    refine pl M43 (y_assign (v := .bool true) rfl rfl rfl) ?_
    simp only [Act.put, z1, z2, z3]
    refine wpList_nil ?_
    refine hK40 _ _ ?_
    clear hK40
    refine wp_ret ?_
    try simp only [Exit.inBlock, Exit.then]
    refine bodyPost_ret (v := .tuple #[.int .i64 0, .bool true]) (res2 rfl rfl rfl) rfl ?_
    exact ⟨E, r, (k, l), qv', bx', rfl, M43.arr [0, 1, 2] (by decide), hxo, hE, hI2⟩
set_option maxRecDepth 100000 in
set_option maxHeartbeats 4000000 in
theorem act_down {D : DV} {V : FV} {B : BV} {p pg mb f b : Nat} {qv : Value} {bx : BX} {w : World} (hM : Mem w (foots [disk D p pg mb qv, blk f 96 (fC V p), book B b bx]) w [disk D p pg mb qv, blk f 96 (fC V p), book B b bx]) (n : Int) (ao : Option Addr) (nn c : Nat) (l : List UInt8) (hr : Row w ao nn l) (hF : ∀ b₁ o, ao = some ⟨b₁, o, none⟩ → 0 < nn → b₁ ∉ foots [disk D p pg mb qv, blk f 96 (fC V p), book B b bx]) (hnn : nn ≤ 140737488351232) (hq : D.q.length ≤ 400000000000) (hI : Inv D V B.ps) (hf : V.next < (D.pages.length : Int)) (h0 : actE D = 2) : Calls Try.prog 27 #[.pointer (some ⟨b, 0, none⟩), .pointer (some ⟨p, 0, none⟩), .pointer (some ⟨f, 0, none⟩), .agg ([.int .i64 1, .int .i64 n, .slice ao nn c]).toArray] w fun e w' => ∃ E x qv' bx', e = .returned (.tuple #[.int .i64 2, .bool true]) ∧ Mem w (foots [disk D p pg mb qv, blk f 96 (fC V p), book B b bx]) w' [disk E p pg mb qv', blk f 96 (fC V p), book B b bx'] ∧ PageOk x ∧ E = appD D V x.1 x.2 := by
  obtain ⟨lv, kv, vs⟩ := bx
  have M0 := book_open (hM.arr [2, 0, 1] (by decide))
  clear hM
  have M : Mem w _ w [disk D p pg mb qv, blk f 96 (fC V p), blk b 48 (bC B ⟨lv, kv, vs⟩), rows lv vs B.loads, lst 3 1 kv B.ps.length B.kinds] := M0.arr [3, 4, 0, 1, 2] (by decide)
  clear M0
  obtain ⟨k, hk⟩ : ∃ k : Nat, 1 + n % 3 = (k : Int) := Int.eq_ofNat_of_zero_le (by omega)
  have hnl := hr.1
  go_enter Try.func27, Try.ntmps27
  refine wp_seq_k (fun K1 hK1 => ?_)
  refine wp_region_lit ?_
  refine pe rfl (fun K hK => ?_)
  refine e_box M ([.int .i64 1, .int .i64 n, .slice ao nn c]) rfl rfl ?_
  intro ga w2 (M2 : Mem w _ w2 [blk ga 50 ([.int .i64 1, .int .i64 n, .slice ao nn c]), disk D p pg mb qv, blk f 96 (fC V p), blk b 48 (bC B ⟨lv, kv, vs⟩), rows lv vs B.loads, lst 3 1 kv B.ps.length B.kinds])
  clear M
  refine hK.out _ _ ?_
  clear hK K
  simp only [Act.put, z1, z2, z3]
  refine pl M2 (y_assign (v := .int .i64 0) rfl rfl rfl) ?_
  simp only [Act.put, z1, z2, z3]
  refine pl M2 (y_assign (v := .bool false) rfl rfl rfl) ?_
  simp only [Act.put, z1, z2, z3]
  refine wpList_nil ?_
  refine hK1 _ _ ?_
  clear hK1
  refine wp_seq_k (fun K3 hK3 => ?_)
  refine wp_region_lit ?_
  refine pl M2 (y_move (v := .pointer (some ⟨f, 0, none⟩)) rfl rfl rfl) ?_
  simp only [Act.put, z1, z2, z3]
  have hX4 : Mem w _ w2 ([disk D p pg mb qv, blk f 96 (fC V p)] ++ [blk ga 50 ([.int .i64 1, .int .i64 n, .slice ao nn c]), blk b 48 (bC B ⟨lv, kv, vs⟩), rows lv vs B.loads, lst 3 1 kv B.ps.length B.kinds]) := M2.arr [1, 2, 0, 3, 4, 5] (by decide)
  refine pe rfl (fun K hK => ?_)
  refine e_call 20 [.pointer (some ⟨f, 0, none⟩)] rfl rfl Try.call20 (next_any (Mem.here hX4)) ?_
  rintro e w4 ⟨rfl, H4⟩
  have M4 : Mem w _ w4 [disk D p pg mb qv, blk f 96 (fC V p), blk ga 50 ([.int .i64 1, .int .i64 n, .slice ao nn c]), blk b 48 (bC B ⟨lv, kv, vs⟩), rows lv vs B.loads, lst 3 1 kv B.ps.length B.kinds] := Mem.frame hX4 H4
  refine ⟨_, rfl, ?_⟩
  refine hK.out _ _ ?_
  clear hK K
  simp only [Act.put, z1, z2, z3]
  refine pl M4 (y_assign (v := .int .i64 V.next) rfl rfl rfl) ?_
  simp only [Act.put, z1, z2, z3]
  refine wpList_nil ?_
  refine hK3 _ _ ?_
  clear hK3
  refine wp_seq_k (fun K5 hK5 => ?_)
  refine wp_seq_k (fun K6 hK6 => ?_)
  refine wp_region_lit ?_
  refine pl M4 (y_fa (r := 0) rfl rfl rfl Try.underlying50 rfl Try.sizeOf3 rfl) ?_
  simp only [Act.put, z1, z2, z3]
  refine pl M4 (y_load (v := .int .i64 1) rfl rfl rfl Try.isAgg3 (fun W hW => hW.get 2 rfl) (rfl)) ?_
  simp only [Act.put, z1, z2, z3]
  refine wpList_nil ?_
  refine hK6 _ _ ?_
  clear hK6
  refine wp_block ?_
  refine wp_seq_k (fun K7 hK7 => ?_)
  refine wp_region_lit ?_
  refine pl M4 (y_eql (b := true) rfl rfl rfl rfl (decide_eq_true (by decide))) ?_
  simp only [Act.put, z1, z2, z3]
  refine pl M4 (y_assign (v := .bool true) rfl rfl rfl) ?_
  simp only [Act.put, z1, z2, z3]
  refine wpList_nil ?_
  refine hK7 _ _ ?_
  clear hK7
  refine wp_cond_true rfl ?_
  refine wp_seq_k (fun K8 hK8 => ?_)
  refine wp_region_lit ?_
  refine pl M4 (y_fa (r := 1) rfl rfl rfl Try.underlying50 rfl Try.sizeOf3 rfl) ?_
  simp only [Act.put, z1, z2, z3]
  refine pl M4 (y_load (v := .int .i64 n) rfl rfl rfl Try.isAgg3 (fun W hW => hW.get 2 rfl) (rfl)) ?_
  simp only [Act.put, z1, z2, z3]
  refine pe rfl (fun K hK => ?_)
  refine e_call 13 [.int .i64 n, .int .i64 3] rfl rfl Try.call13 (place3_any n 3 (by decide) (by decide) _) ?_
  rintro e w9 ⟨rfl, H9⟩
  have M9 : Mem w _ w9 [disk D p pg mb qv, blk f 96 (fC V p), blk ga 50 ([.int .i64 1, .int .i64 n, .slice ao nn c]), blk b 48 (bC B ⟨lv, kv, vs⟩), rows lv vs B.loads, lst 3 1 kv B.ps.length B.kinds] := M4.step H9
  refine ⟨_, rfl, ?_⟩
  refine hK.out _ _ ?_
  clear hK K
  simp only [Act.put, z1, z2, z3]
  refine pl M9 (y_add (r := (k : Int)) rfl rfl rfl rfl (hk) (by omega)) ?_
  simp only [Act.put, z1, z2, z3]
  refine pl M9 (y_assign (v := .int .i64 (k : Int)) rfl rfl rfl) ?_
  simp only [Act.put, z1, z2, z3]
  refine wpList_nil ?_
  refine hK8 _ _ ?_
  clear hK8
  refine wp_seq_k (fun K10 hK10 => ?_)
  refine wp_region_lit ?_
  refine pl M9 (y_fa (r := 2) rfl rfl rfl Try.underlying50 rfl Try.sizeOf22 rfl) ?_
  simp only [Act.put, z1, z2, z3]
  refine pl M9 (y_load (v := .slice ao nn c) rfl rfl rfl Try.isAgg22 (fun W hW => hW.get 2 rfl) (rfl)) ?_
  simp only [Act.put, z1, z2, z3]
  refine pe rfl (fun K hK => ?_)
  refine e_call 32 [.slice ao nn c] rfl rfl Try.call32 (copy_any ao nn c l _ (M9.row hr hF) (by omega)) ?_
  rintro e w11 ⟨a1, c1, rfl, H11⟩
  have M11 : Mem w _ w11 [bytesL (.slice a1 l.length c1) l, disk D p pg mb qv, blk f 96 (fC V p), blk ga 50 ([.int .i64 1, .int .i64 n, .slice ao nn c]), blk b 48 (bC B ⟨lv, kv, vs⟩), rows lv vs B.loads, lst 3 1 kv B.ps.length B.kinds] := M9.step H11
  refine ⟨_, rfl, ?_⟩
  refine hK.out _ _ ?_
  clear hK K
  simp only [Act.put, z1, z2, z3]
  refine pl M11 (y_assign (v := .slice a1 l.length c1) rfl rfl rfl) ?_
  simp only [Act.put, z1, z2, z3]
  refine wpList_nil ?_
  refine hK10 _ _ ?_
  clear hK10
  refine wp_seq_k (fun K12 hK12 => ?_)
  refine wp_seq_k (fun K13 hK13 => ?_)
  refine wp_region_lit ?_
  refine pl M11 (y_move (v := .slice a1 l.length c1) rfl rfl rfl) ?_
  simp only [Act.put, z1, z2, z3]
  refine pl M11 (y_len rfl rfl rfl Try.underlying22) ?_
  simp only [Act.put, z1, z2, z3]
  rcases Decidable.em ((246 : Int) < (l.length : Int)) with h14 | h14
  · refine pl M11 (y_gtr (b := true) rfl rfl rfl rfl (decide_eq_true h14)) ?_
    simp only [Act.put, z1, z2, z3]
    refine wpList_nil ?_
    refine hK13 _ _ ?_
    clear hK13
    refine wp_cond_true rfl ?_
    refine wp_region_lit ?_
    refine pl M11 (y_move (v := .slice a1 l.length c1) rfl rfl rfl) ?_
    simp only [Act.put, z1, z2, z3]
    have hcc : l.length ≤ c1 := bytesL_cap (M11.get 0 rfl)
    refine pl M11 (y_slt (h := 246) rfl rfl rfl rfl Try.underlying22 Try.sizeOf5 (by omega)) ?_
    simp only [Act.put, z1, z2, z3]
    have h246 : (l.take 246).length = 246 := by rw [List.length_take]; omega
    have M15 : Mem w (foots [disk D p pg mb qv, blk f 96 (fC V p), book B b ⟨lv, kv, vs⟩]) w11 [bytesL (.slice a1 (l.take 246).length c1) (l.take 246), disk D p pg mb qv, blk f 96 (fC V p), blk ga 50 ([.int .i64 1, .int .i64 n, .slice ao nn c]), blk b 48 (bC B ⟨lv, kv, vs⟩), rows lv vs B.loads, lst 3 1 kv B.ps.length B.kinds] := by
      rw [h246]
      have N := Mem.front M11 0 (m := 246) rfl (by omega)
      have e : (bvs l).take (246 * 1) = bvs (l.take 246) := by unfold bvs; rw [List.map_take]
      rw [e] at N
      unfold bytesL
      rw [h246]
      exact N
    clear M11
    refine pl M15 (y_assign (v := .slice a1 246 c1) rfl rfl rfl) ?_
    simp only [Act.put, z1, z2, z3]
    refine wpList_nil ?_
    refine hK12 _ _ ?_
    clear hK12
    refine wp_seq_k (fun K16 hK16 => ?_)
    refine wp_region_lit ?_
    refine pl M15 (y_move (v := .pointer (some ⟨f, 0, none⟩)) rfl rfl rfl) ?_
    simp only [Act.put, z1, z2, z3]
    refine pl M15 (y_move (v := .int .i64 (k : Int)) rfl rfl rfl) ?_
    simp only [Act.put, z1, z2, z3]
    refine pl M15 (y_move (v := .slice a1 246 c1) rfl rfl rfl) ?_
    simp only [Act.put, z1, z2, z3]
    have hxo : PageOk (k, (l.take 246)) := ⟨⟨by show 1 ≤ k; omega, by show k ≤ 3; omega⟩, by show (l.take 246).length ≤ 246; omega⟩
    have hX17 : Mem w _ w11 ([disk D p pg mb qv, blk f 96 (fC V p)] ++ [bytesL (.slice a1 (l.take 246).length c1) (l.take 246), blk ga 50 ([.int .i64 1, .int .i64 n, .slice ao nn c]), blk b 48 (bC B ⟨lv, kv, vs⟩), rows lv vs B.loads, lst 3 1 kv B.ps.length B.kinds]) := M15.arr [1, 2, 0, 3, 4, 5, 6] (by decide)
    refine pe rfl (fun K hK => ?_)
    refine e_call 26 [.pointer (some ⟨f, 0, none⟩), .int .i64 (k : Int), .slice a1 246 c1] rfl rfl Try.call26 (xapp_down (Mem.here hX17) hI k a1 246 c1 (l.take 246) hxo (by have N := bytesL_row (M15.get 0 rfl); rw [h246] at N; exact N) (Mem.off (L := [disk D p pg mb qv, blk f 96 (fC V p)]) (M15.arr [0, 1, 2] (by decide))) hq hf h0) ?_
    rintro e w17 ⟨E, qv', rfl, H17, hE, hpl⟩
    have M17 : Mem w _ w17 [disk E p pg mb qv', blk f 96 (fC V p), bytesL (.slice a1 (l.take 246).length c1) (l.take 246), blk ga 50 ([.int .i64 1, .int .i64 n, .slice ao nn c]), blk b 48 (bC B ⟨lv, kv, vs⟩), rows lv vs B.loads, lst 3 1 kv B.ps.length B.kinds] := Mem.frame hX17 H17
    refine ⟨_, rfl, ?_⟩
    refine hK.out _ _ ?_
    clear hK K
    simp only [Act.put, z1, z2, z3]
    refine pl M17 (y_move (v := .tuple #[.int .i64 0, .int .i64 2]) rfl rfl rfl) ?_
    simp only [Act.put, z1, z2, z3]
    refine pl M17 (y_ext (v := .int .i64 0) rfl rfl rfl rfl) ?_
    simp only [Act.put, z1, z2, z3]
    refine pl M17 (y_ext (v := .int .i64 2) rfl rfl rfl rfl) ?_
    simp only [Act.put, z1, z2, z3]
    refine pl M17 (y_assign (v := .int .i64 0) rfl rfl rfl) ?_
    simp only [Act.put, z1, z2, z3]
    refine pl M17 (y_assign (v := .int .i64 2) rfl rfl rfl) ?_
    simp only [Act.put, z1, z2, z3]
    refine wpList_nil ?_
    refine hK16 _ _ ?_
    clear hK16
    refine wp_seq_k (fun K18 hK18 => ?_)
    refine wp_seq_k (fun K19 hK19 => ?_)
    refine wp_region_lit ?_
    refine pl M17 (y_move (v := .int .i64 V.next) rfl rfl rfl) ?_
    simp only [Act.put, z1, z2, z3]
    refine pl M17 (y_move (v := .pointer (some ⟨f, 0, none⟩)) rfl rfl rfl) ?_
    simp only [Act.put, z1, z2, z3]
    refine pl M17 (y_nil rfl rfl rfl) ?_
    simp only [Act.put, z1, z2, z3]
    refine pl M17 (y_fa (r := 0) rfl rfl rfl Try.underlying96 rfl Try.sizeOf24 rfl) ?_
    simp only [Act.put, z1, z2, z3]
    refine pl M17 (y_load (v := .pointer (some ⟨p, 0, none⟩)) rfl rfl rfl Try.isAgg24 (fun W hW => hW.get 1 rfl) (rfl)) ?_
    simp only [Act.put, z1, z2, z3]
    have hX20 : Mem w _ w17 ([disk E p pg mb qv'] ++ [blk f 96 (fC V p), bytesL (.slice a1 (l.take 246).length c1) (l.take 246), blk ga 50 ([.int .i64 1, .int .i64 n, .slice ao nn c]), blk b 48 (bC B ⟨lv, kv, vs⟩), rows lv vs B.loads, lst 3 1 kv B.ps.length B.kinds]) := M17.arr [0, 1, 2, 3, 4, 5, 6] (by decide)
    refine pe rfl (fun K hK => ?_)
    refine e_call 24 [.pointer (some ⟨p, 0, none⟩)] rfl rfl Try.call24 (pages_any (Mem.here hX20)) ?_
    rintro e w20 ⟨rfl, H20⟩
    have M20 : Mem w _ w20 [disk E p pg mb qv', blk f 96 (fC V p), bytesL (.slice a1 (l.take 246).length c1) (l.take 246), blk ga 50 ([.int .i64 1, .int .i64 n, .slice ao nn c]), blk b 48 (bC B ⟨lv, kv, vs⟩), rows lv vs B.loads, lst 3 1 kv B.ps.length B.kinds] := Mem.frame hX20 H20
    refine ⟨_, rfl, ?_⟩
    refine hK.out _ _ ?_
    clear hK K
    simp only [Act.put, z1, z2, z3]
    refine pl M20 (y_eql (b := false) rfl rfl rfl rfl (decide_eq_false (by rw [hpl]; omega))) ?_
    simp only [Act.put, z1, z2, z3]
    refine wpList_nil ?_
    refine hK19 _ _ ?_
    clear hK19
    refine wp_cond_false rfl ?_
    refine wp_skip ?_
    refine hK18 _ _ ?_
    clear hK18
    refine wp_seq_k (fun K21 hK21 => ?_)
    refine wp_seq_k (fun K22 hK22 => ?_)
    refine wp_region_lit ?_
    refine pl M20 (y_move (v := .int .i64 2) rfl rfl rfl) ?_
    simp only [Act.put, z1, z2, z3]
    refine pl M20 (y_eql (b := false) rfl rfl rfl rfl (decide_eq_false (by decide))) ?_
    simp only [Act.put, z1, z2, z3]
    refine wpList_nil ?_
    refine hK22 _ _ ?_
    clear hK22
    refine wp_cond_false rfl ?_
    refine wp_skip ?_
    refine hK21 _ _ ?_
    clear hK21
    refine wp_seq_k (fun K23 hK23 => ?_)
    refine wp_region_lit ?_
    refine pl M20 (y_move (v := .int .i64 2) rfl rfl rfl) ?_
    simp only [Act.put, z1, z2, z3]
    refine pl M20 (y_move (v := .int .i64 2) rfl rfl rfl) ?_
    simp only [Act.put, z1, z2, z3]
    refine pl M20 (y_eql (b := true) rfl rfl rfl rfl (decide_eq_true (by decide))) ?_
    simp only [Act.put, z1, z2, z3]
    refine pl M20 (y_move (v := .bool true) rfl rfl rfl) ?_
    simp only [Act.put, z1, z2, z3]
    refine pl M20 (y_move (v := .pointer (some ⟨f, 0, none⟩)) rfl rfl rfl) ?_
    simp only [Act.put, z1, z2, z3]
    have hX24 : Mem w _ w20 ([disk E p pg mb qv', blk f 96 (fC V p)] ++ [bytesL (.slice a1 (l.take 246).length c1) (l.take 246), blk ga 50 ([.int .i64 1, .int .i64 n, .slice ao nn c]), blk b 48 (bC B ⟨lv, kv, vs⟩), rows lv vs B.loads, lst 3 1 kv B.ps.length B.kinds]) := M20.arr [0, 1, 2, 3, 4, 5, 6] (by decide)
    refine pe rfl (fun K hK => ?_)
    refine e_call 20 [.pointer (some ⟨f, 0, none⟩)] rfl rfl Try.call20 (next_any (Mem.here hX24)) ?_
    rintro e w24 ⟨rfl, H24⟩
    have M24 : Mem w _ w24 [disk E p pg mb qv', blk f 96 (fC V p), bytesL (.slice a1 (l.take 246).length c1) (l.take 246), blk ga 50 ([.int .i64 1, .int .i64 n, .slice ao nn c]), blk b 48 (bC B ⟨lv, kv, vs⟩), rows lv vs B.loads, lst 3 1 kv B.ps.length B.kinds] := Mem.frame hX24 H24
    refine ⟨_, rfl, ?_⟩
    refine hK.out _ _ ?_
    clear hK K
    simp only [Act.put, z1, z2, z3]
    refine pl M24 (y_move (v := .int .i64 V.next) rfl rfl rfl) ?_
    simp only [Act.put, z1, z2, z3]
    refine pl M24 (y_eql (b := true) rfl rfl rfl rfl (decide_eq_true rfl)) ?_
    simp only [Act.put, z1, z2, z3]
    refine pl M24 (y_pickT (v := .bool true) rfl rfl rfl rfl) ?_
    simp only [Act.put, z1, z2, z3]
    refine pl M24 (y_assign (v := .int .i64 2) rfl rfl rfl) ?_
    simp only [Act.put, z1, z2, z3]
    refine pl M24 (y_assign (v := .bool true) rfl rfl rfl) ?_
    simp only [Act.put, z1, z2, z3]
    refine wpList_nil ?_
    refine hK23 _ _ ?_
    clear hK23
    refine wp_ret ?_
    try simp only [Exit.inBlock, Exit.then]
    refine bodyPost_ret (v := .tuple #[.int .i64 2, .bool true]) (res2 rfl rfl rfl) rfl ?_
    have N : Mem _ _ _ [book _ b ⟨lv, kv, vs⟩, _, _] := book_close (M24.arr [4, 5, 6, 0, 1] (by decide))
    exact ⟨E, (k, (l.take 246)), qv', ⟨lv, kv, vs⟩, rfl, N.arr [1, 2, 0] (by decide), hxo, hE⟩
  · refine pl M11 (y_gtr (b := false) rfl rfl rfl rfl (decide_eq_false h14)) ?_
    simp only [Act.put, z1, z2, z3]
    refine wpList_nil ?_
    refine hK13 _ _ ?_
    clear hK13
    refine wp_cond_false rfl ?_
    refine wp_skip ?_
    refine hK12 _ _ ?_
    clear hK12
    refine wp_seq_k (fun K25 hK25 => ?_)
    refine wp_region_lit ?_
    refine pl M11 (y_move (v := .pointer (some ⟨f, 0, none⟩)) rfl rfl rfl) ?_
    simp only [Act.put, z1, z2, z3]
    refine pl M11 (y_move (v := .int .i64 (k : Int)) rfl rfl rfl) ?_
    simp only [Act.put, z1, z2, z3]
    refine pl M11 (y_move (v := .slice a1 l.length c1) rfl rfl rfl) ?_
    simp only [Act.put, z1, z2, z3]
    have hxo : PageOk (k, l) := ⟨⟨by show 1 ≤ k; omega, by show k ≤ 3; omega⟩, by show l.length ≤ 246; omega⟩
    have hX26 : Mem w _ w11 ([disk D p pg mb qv, blk f 96 (fC V p)] ++ [bytesL (.slice a1 l.length c1) l, blk ga 50 ([.int .i64 1, .int .i64 n, .slice ao nn c]), blk b 48 (bC B ⟨lv, kv, vs⟩), rows lv vs B.loads, lst 3 1 kv B.ps.length B.kinds]) := M11.arr [1, 2, 0, 3, 4, 5, 6] (by decide)
    refine pe rfl (fun K hK => ?_)
    refine e_call 26 [.pointer (some ⟨f, 0, none⟩), .int .i64 (k : Int), .slice a1 l.length c1] rfl rfl Try.call26 (xapp_down (Mem.here hX26) hI k a1 l.length c1 l hxo (by have N := bytesL_row (M11.get 0 rfl); exact N) (Mem.off (L := [disk D p pg mb qv, blk f 96 (fC V p)]) (M11.arr [0, 1, 2] (by decide))) hq hf h0) ?_
    rintro e w26 ⟨E, qv', rfl, H26, hE, hpl⟩
    have M26 : Mem w _ w26 [disk E p pg mb qv', blk f 96 (fC V p), bytesL (.slice a1 l.length c1) l, blk ga 50 ([.int .i64 1, .int .i64 n, .slice ao nn c]), blk b 48 (bC B ⟨lv, kv, vs⟩), rows lv vs B.loads, lst 3 1 kv B.ps.length B.kinds] := Mem.frame hX26 H26
    refine ⟨_, rfl, ?_⟩
    refine hK.out _ _ ?_
    clear hK K
    simp only [Act.put, z1, z2, z3]
    refine pl M26 (y_move (v := .tuple #[.int .i64 0, .int .i64 2]) rfl rfl rfl) ?_
    simp only [Act.put, z1, z2, z3]
    refine pl M26 (y_ext (v := .int .i64 0) rfl rfl rfl rfl) ?_
    simp only [Act.put, z1, z2, z3]
    refine pl M26 (y_ext (v := .int .i64 2) rfl rfl rfl rfl) ?_
    simp only [Act.put, z1, z2, z3]
    refine pl M26 (y_assign (v := .int .i64 0) rfl rfl rfl) ?_
    simp only [Act.put, z1, z2, z3]
    refine pl M26 (y_assign (v := .int .i64 2) rfl rfl rfl) ?_
    simp only [Act.put, z1, z2, z3]
    refine wpList_nil ?_
    refine hK25 _ _ ?_
    clear hK25
    refine wp_seq_k (fun K27 hK27 => ?_)
    refine wp_seq_k (fun K28 hK28 => ?_)
    refine wp_region_lit ?_
    refine pl M26 (y_move (v := .int .i64 V.next) rfl rfl rfl) ?_
    simp only [Act.put, z1, z2, z3]
    refine pl M26 (y_move (v := .pointer (some ⟨f, 0, none⟩)) rfl rfl rfl) ?_
    simp only [Act.put, z1, z2, z3]
    refine pl M26 (y_nil rfl rfl rfl) ?_
    simp only [Act.put, z1, z2, z3]
    refine pl M26 (y_fa (r := 0) rfl rfl rfl Try.underlying96 rfl Try.sizeOf24 rfl) ?_
    simp only [Act.put, z1, z2, z3]
    refine pl M26 (y_load (v := .pointer (some ⟨p, 0, none⟩)) rfl rfl rfl Try.isAgg24 (fun W hW => hW.get 1 rfl) (rfl)) ?_
    simp only [Act.put, z1, z2, z3]
    have hX29 : Mem w _ w26 ([disk E p pg mb qv'] ++ [blk f 96 (fC V p), bytesL (.slice a1 l.length c1) l, blk ga 50 ([.int .i64 1, .int .i64 n, .slice ao nn c]), blk b 48 (bC B ⟨lv, kv, vs⟩), rows lv vs B.loads, lst 3 1 kv B.ps.length B.kinds]) := M26.arr [0, 1, 2, 3, 4, 5, 6] (by decide)
    refine pe rfl (fun K hK => ?_)
    refine e_call 24 [.pointer (some ⟨p, 0, none⟩)] rfl rfl Try.call24 (pages_any (Mem.here hX29)) ?_
    rintro e w29 ⟨rfl, H29⟩
    have M29 : Mem w _ w29 [disk E p pg mb qv', blk f 96 (fC V p), bytesL (.slice a1 l.length c1) l, blk ga 50 ([.int .i64 1, .int .i64 n, .slice ao nn c]), blk b 48 (bC B ⟨lv, kv, vs⟩), rows lv vs B.loads, lst 3 1 kv B.ps.length B.kinds] := Mem.frame hX29 H29
    refine ⟨_, rfl, ?_⟩
    refine hK.out _ _ ?_
    clear hK K
    simp only [Act.put, z1, z2, z3]
    refine pl M29 (y_eql (b := false) rfl rfl rfl rfl (decide_eq_false (by rw [hpl]; omega))) ?_
    simp only [Act.put, z1, z2, z3]
    refine wpList_nil ?_
    refine hK28 _ _ ?_
    clear hK28
    refine wp_cond_false rfl ?_
    refine wp_skip ?_
    refine hK27 _ _ ?_
    clear hK27
    refine wp_seq_k (fun K30 hK30 => ?_)
    refine wp_seq_k (fun K31 hK31 => ?_)
    refine wp_region_lit ?_
    refine pl M29 (y_move (v := .int .i64 2) rfl rfl rfl) ?_
    simp only [Act.put, z1, z2, z3]
    refine pl M29 (y_eql (b := false) rfl rfl rfl rfl (decide_eq_false (by decide))) ?_
    simp only [Act.put, z1, z2, z3]
    refine wpList_nil ?_
    refine hK31 _ _ ?_
    clear hK31
    refine wp_cond_false rfl ?_
    refine wp_skip ?_
    refine hK30 _ _ ?_
    clear hK30
    refine wp_seq_k (fun K32 hK32 => ?_)
    refine wp_region_lit ?_
    refine pl M29 (y_move (v := .int .i64 2) rfl rfl rfl) ?_
    simp only [Act.put, z1, z2, z3]
    refine pl M29 (y_move (v := .int .i64 2) rfl rfl rfl) ?_
    simp only [Act.put, z1, z2, z3]
    refine pl M29 (y_eql (b := true) rfl rfl rfl rfl (decide_eq_true (by decide))) ?_
    simp only [Act.put, z1, z2, z3]
    refine pl M29 (y_move (v := .bool true) rfl rfl rfl) ?_
    simp only [Act.put, z1, z2, z3]
    refine pl M29 (y_move (v := .pointer (some ⟨f, 0, none⟩)) rfl rfl rfl) ?_
    simp only [Act.put, z1, z2, z3]
    have hX33 : Mem w _ w29 ([disk E p pg mb qv', blk f 96 (fC V p)] ++ [bytesL (.slice a1 l.length c1) l, blk ga 50 ([.int .i64 1, .int .i64 n, .slice ao nn c]), blk b 48 (bC B ⟨lv, kv, vs⟩), rows lv vs B.loads, lst 3 1 kv B.ps.length B.kinds]) := M29.arr [0, 1, 2, 3, 4, 5, 6] (by decide)
    refine pe rfl (fun K hK => ?_)
    refine e_call 20 [.pointer (some ⟨f, 0, none⟩)] rfl rfl Try.call20 (next_any (Mem.here hX33)) ?_
    rintro e w33 ⟨rfl, H33⟩
    have M33 : Mem w _ w33 [disk E p pg mb qv', blk f 96 (fC V p), bytesL (.slice a1 l.length c1) l, blk ga 50 ([.int .i64 1, .int .i64 n, .slice ao nn c]), blk b 48 (bC B ⟨lv, kv, vs⟩), rows lv vs B.loads, lst 3 1 kv B.ps.length B.kinds] := Mem.frame hX33 H33
    refine ⟨_, rfl, ?_⟩
    refine hK.out _ _ ?_
    clear hK K
    simp only [Act.put, z1, z2, z3]
    refine pl M33 (y_move (v := .int .i64 V.next) rfl rfl rfl) ?_
    simp only [Act.put, z1, z2, z3]
    refine pl M33 (y_eql (b := true) rfl rfl rfl rfl (decide_eq_true rfl)) ?_
    simp only [Act.put, z1, z2, z3]
    refine pl M33 (y_pickT (v := .bool true) rfl rfl rfl rfl) ?_
    simp only [Act.put, z1, z2, z3]
    refine pl M33 (y_assign (v := .int .i64 2) rfl rfl rfl) ?_
    simp only [Act.put, z1, z2, z3]
    refine pl M33 (y_assign (v := .bool true) rfl rfl rfl) ?_
    simp only [Act.put, z1, z2, z3]
    refine wpList_nil ?_
    refine hK32 _ _ ?_
    clear hK32
    refine wp_ret ?_
    try simp only [Exit.inBlock, Exit.then]
    refine bodyPost_ret (v := .tuple #[.int .i64 2, .bool true]) (res2 rfl rfl rfl) rfl ?_
    have N : Mem _ _ _ [book _ b ⟨lv, kv, vs⟩, _, _] := book_close (M33.arr [4, 5, 6, 0, 1] (by decide))
    exact ⟨E, (k, l), qv', ⟨lv, kv, vs⟩, rfl, N.arr [1, 2, 0] (by decide), hxo, hE⟩
end Go.Proofs.Ytehnnnohoaapdaa

/- One act on the book: Publish, Forget, Arm. -/
namespace Go.Proofs.Ytehnnnohoaapdaa
open Go Go.RowKit
set_option linter.unusedVariables false
set_option linter.unusedSimpArgs false
set_option maxRecDepth 100000 in
set_option maxHeartbeats 4000000 in
theorem act_pub_go_h {D : DV} {V : FV} {B : BV} {p pg mb f b : Nat} {qv : Value} {bx : BX} {w : World} (hM : Mem w (foots [disk D p pg mb qv, blk f 96 (fC V p), book B b bx]) w [disk D p pg mb qv, blk f 96 (fC V p), book B b bx]) (n : Int) (ao : Option Addr) (nn c : Nat) {ps : Pgs} (hI : Inv D V ps) (hg : V.s.gen = B.gen) (hgm : V.s.gen < 1099511627776) (hq : D.q.length ≤ 400000000000) (h1 : n % 2 = 1) (h2 : 2 < V.next) (h0 : (pubR D V (V.next - 1)).2 = 0) (hpp : (pubR D V (V.next - 1)).1.pages.length = D.pages.length) : Calls Try.prog 27 #[.pointer (some ⟨b, 0, none⟩), .pointer (some ⟨p, 0, none⟩), .pointer (some ⟨f, 0, none⟩), .agg ([.int .i64 2, .int .i64 n, .slice ao nn c]).toArray] w fun e w' => ∃ E qv' bx', e = .returned (.tuple #[.int .i64 0, .bool true]) ∧ Mem w (foots [disk D p pg mb qv, blk f 96 (fC V p), book B b bx]) w' [disk E p pg mb qv', blk f 96 (fC ({ V with s := pubS V (V.next - 1) } : FV) p), book ({ B with mark := V.next, head := V.next - 1, gen := B.gen + 1 } : BV) b bx'] ∧ E = (pubR D V (V.next - 1)).1 := by
  obtain ⟨lv, kv, vs⟩ := bx
  have M0 := book_open (hM.arr [2, 0, 1] (by decide))
  clear hM
  have M : Mem w _ w [disk D p pg mb qv, blk f 96 (fC V p), blk b 48 (bC B ⟨lv, kv, vs⟩), rows lv vs B.loads, lst 3 1 kv B.ps.length B.kinds] := M0.arr [3, 4, 0, 1, 2] (by decide)
  clear M0
  have hpg := hI.plat.pages
  have hg1 := hI.plat.gen0
  have hn2 := hI.next2
  have hnp := hI.nextp
  have hhi := hI.ok.hi
  go_enter Try.func27, Try.ntmps27
  refine wp_seq_k (fun K1 hK1 => ?_)
  refine wp_region_lit ?_
  refine pe rfl (fun K hK => ?_)
  refine e_box M ([.int .i64 2, .int .i64 n, .slice ao nn c]) rfl rfl ?_
  intro ga w2 (M2 : Mem w _ w2 [blk ga 50 ([.int .i64 2, .int .i64 n, .slice ao nn c]), disk D p pg mb qv, blk f 96 (fC V p), blk b 48 (bC B ⟨lv, kv, vs⟩), rows lv vs B.loads, lst 3 1 kv B.ps.length B.kinds])
  clear M
  refine hK.out _ _ ?_
  clear hK K
  simp only [Act.put, z1, z2, z3]
  refine pl M2 (y_assign (v := .int .i64 0) rfl rfl rfl) ?_
  simp only [Act.put, z1, z2, z3]
  refine pl M2 (y_assign (v := .bool false) rfl rfl rfl) ?_
  simp only [Act.put, z1, z2, z3]
  refine wpList_nil ?_
  refine hK1 _ _ ?_
  clear hK1
  refine wp_seq_k (fun K3 hK3 => ?_)
  refine wp_region_lit ?_
  refine pl M2 (y_move (v := .pointer (some ⟨f, 0, none⟩)) rfl rfl rfl) ?_
  simp only [Act.put, z1, z2, z3]
  have hX4 : Mem w _ w2 ([disk D p pg mb qv, blk f 96 (fC V p)] ++ [blk ga 50 ([.int .i64 2, .int .i64 n, .slice ao nn c]), blk b 48 (bC B ⟨lv, kv, vs⟩), rows lv vs B.loads, lst 3 1 kv B.ps.length B.kinds]) := M2.arr [1, 2, 0, 3, 4, 5] (by decide)
  refine pe rfl (fun K hK => ?_)
  refine e_call 20 [.pointer (some ⟨f, 0, none⟩)] rfl rfl Try.call20 (next_any (Mem.here hX4)) ?_
  rintro e w4 ⟨rfl, H4⟩
  have M4 : Mem w _ w4 [disk D p pg mb qv, blk f 96 (fC V p), blk ga 50 ([.int .i64 2, .int .i64 n, .slice ao nn c]), blk b 48 (bC B ⟨lv, kv, vs⟩), rows lv vs B.loads, lst 3 1 kv B.ps.length B.kinds] := Mem.frame hX4 H4
  refine ⟨_, rfl, ?_⟩
  refine hK.out _ _ ?_
  clear hK K
  simp only [Act.put, z1, z2, z3]
  refine pl M4 (y_assign (v := .int .i64 V.next) rfl rfl rfl) ?_
  simp only [Act.put, z1, z2, z3]
  refine wpList_nil ?_
  refine hK3 _ _ ?_
  clear hK3
  refine wp_seq_k (fun K5 hK5 => ?_)
  refine wp_seq_k (fun K6 hK6 => ?_)
  refine wp_region_lit ?_
  refine pl M4 (y_fa (r := 0) rfl rfl rfl Try.underlying50 rfl Try.sizeOf3 rfl) ?_
  simp only [Act.put, z1, z2, z3]
  refine pl M4 (y_load (v := .int .i64 2) rfl rfl rfl Try.isAgg3 (fun W hW => hW.get 2 rfl) (rfl)) ?_
  simp only [Act.put, z1, z2, z3]
  refine wpList_nil ?_
  refine hK6 _ _ ?_
  clear hK6
  refine wp_block ?_
  refine wp_seq_k (fun K7 hK7 => ?_)
  refine wp_region_lit ?_
  refine pl M4 (y_eql (b := false) rfl rfl rfl rfl (decide_eq_false (by decide))) ?_
  simp only [Act.put, z1, z2, z3]
  refine pl M4 (y_assign (v := .bool false) rfl rfl rfl) ?_
  simp only [Act.put, z1, z2, z3]
  refine wpList_nil ?_
  refine hK7 _ _ ?_
  clear hK7
  refine wp_cond_false rfl ?_
  refine wp_seq_k (fun K8 hK8 => ?_)
  refine wp_region_lit ?_
  refine pl M4 (y_eql (b := true) rfl rfl rfl rfl (decide_eq_true (by decide))) ?_
  simp only [Act.put, z1, z2, z3]
  refine pl M4 (y_assign (v := .bool true) rfl rfl rfl) ?_
  simp only [Act.put, z1, z2, z3]
  refine wpList_nil ?_
  refine hK8 _ _ ?_
  clear hK8
  refine wp_cond_true rfl ?_
  refine wp_seq_k (fun K9 hK9 => ?_)
  refine wp_region_lit ?_
  refine pl M4 (y_assign (v := .int .i64 0) rfl rfl rfl) ?_
  simp only [Act.put, z1, z2, z3]
  refine wpList_nil ?_
  refine hK9 _ _ ?_
  clear hK9
  refine wp_seq_k (fun K10 hK10 => ?_)
  refine wp_seq_k (fun K11 hK11 => ?_)
  refine wp_region_lit ?_
  refine pl M4 (y_fa (r := 1) rfl rfl rfl Try.underlying50 rfl Try.sizeOf3 rfl) ?_
  simp only [Act.put, z1, z2, z3]
  refine pl M4 (y_load (v := .int .i64 n) rfl rfl rfl Try.isAgg3 (fun W hW => hW.get 2 rfl) (rfl)) ?_
  simp only [Act.put, z1, z2, z3]
  refine pe rfl (fun K hK => ?_)
  refine e_call 13 [.int .i64 n, .int .i64 2] rfl rfl Try.call13 (place3_any n 2 (by decide) (by decide) _) ?_
  rintro e w12 ⟨rfl, H12⟩
  have M12 : Mem w _ w12 [disk D p pg mb qv, blk f 96 (fC V p), blk ga 50 ([.int .i64 2, .int .i64 n, .slice ao nn c]), blk b 48 (bC B ⟨lv, kv, vs⟩), rows lv vs B.loads, lst 3 1 kv B.ps.length B.kinds] := M4.step H12
  refine ⟨_, rfl, ?_⟩
  refine hK.out _ _ ?_
  clear hK K
  simp only [Act.put, z1, z2, z3]
  refine pl M12 (y_eql (b := true) rfl rfl rfl rfl (decide_eq_true h1)) ?_
  simp only [Act.put, z1, z2, z3]
  refine pl M12 (y_move (v := .bool true) rfl rfl rfl) ?_
  simp only [Act.put, z1, z2, z3]
  refine pl M12 (y_move (v := .int .i64 V.next) rfl rfl rfl) ?_
  simp only [Act.put, z1, z2, z3]
  refine pl M12 (y_gtr (b := true) rfl rfl rfl rfl (decide_eq_true h2)) ?_
  simp only [Act.put, z1, z2, z3]
  refine pl M12 (y_pickT (v := .bool true) rfl rfl rfl rfl) ?_
  simp only [Act.put, z1, z2, z3]
  refine wpList_nil ?_
  refine hK11 _ _ ?_
  clear hK11
  refine wp_cond_true rfl ?_
  refine wp_region_lit ?_
  refine pl M12 (y_move (v := .int .i64 V.next) rfl rfl rfl) ?_
  simp only [Act.put, z1, z2, z3]
  refine pl M12 (y_sub (r := V.next - 1) rfl rfl rfl rfl (rfl) (by omega)) ?_
  simp only [Act.put, z1, z2, z3]
  refine pl M12 (y_assign (v := .int .i64 (V.next - 1)) rfl rfl rfl) ?_
  simp only [Act.put, z1, z2, z3]
  refine wpList_nil ?_
  refine hK10 _ _ ?_
  clear hK10
  refine wp_seq_k (fun K13 hK13 => ?_)
  refine wp_region_lit ?_
  refine pl M12 (y_move (v := .pointer (some ⟨f, 0, none⟩)) rfl rfl rfl) ?_
  simp only [Act.put, z1, z2, z3]
  refine pl M12 (y_move (v := .int .i64 (V.next - 1)) rfl rfl rfl) ?_
  simp only [Act.put, z1, z2, z3]
  have hX14 : Mem w _ w12 ([disk D p pg mb qv, blk f 96 (fC V p)] ++ [blk ga 50 ([.int .i64 2, .int .i64 n, .slice ao nn c]), blk b 48 (bC B ⟨lv, kv, vs⟩), rows lv vs B.loads, lst 3 1 kv B.ps.length B.kinds]) := M12.arr [0, 1, 2, 3, 4, 5] (by decide)
  refine pe rfl (fun K hK => ?_)
  refine e_call 28 [.pointer (some ⟨f, 0, none⟩), .int .i64 (V.next - 1)] rfl rfl Try.call28 (xpub_go (Mem.here hX14) hI (V.next - 1) hq h0 hpp) ?_
  rintro e w14 ⟨E, qv', rfl, H14, hE, hpl⟩
  have M14 : Mem w _ w14 [disk E p pg mb qv', blk f 96 (fC ({ V with s := pubS V (V.next - 1) } : FV) p), blk ga 50 ([.int .i64 2, .int .i64 n, .slice ao nn c]), blk b 48 (bC B ⟨lv, kv, vs⟩), rows lv vs B.loads, lst 3 1 kv B.ps.length B.kinds] := Mem.frame hX14 H14
  have hcs : [.int .i64 V.s.width, .int .i64 (B.gen + 1), .int .i64 V.next, .int .i64 (V.next - 1), .int .i64 (E.pages.length : Int)] = supC (pubS V (V.next - 1)) := by rw [hpl, ← hg, ← hpg]; rfl
  refine ⟨_, rfl, ?_⟩
  refine hK.out _ _ ?_
  clear hK K
  simp only [Act.put, z1, z2, z3]
  refine pl M14 (y_assign (v := .int .i64 0) rfl rfl rfl) ?_
  simp only [Act.put, z1, z2, z3]
  refine wpList_nil ?_
  refine hK13 _ _ ?_
  clear hK13
  refine wp_seq_k (fun K15 hK15 => ?_)
  refine wp_seq_k (fun K16 hK16 => ?_)
  refine wp_region_lit ?_
  refine pl M14 (y_move (v := .int .i64 0) rfl rfl rfl) ?_
  simp only [Act.put, z1, z2, z3]
  refine pl M14 (y_eql (b := true) rfl rfl rfl rfl (decide_eq_true (by decide))) ?_
  simp only [Act.put, z1, z2, z3]
  refine wpList_nil ?_
  refine hK16 _ _ ?_
  clear hK16
  refine wp_cond_true rfl ?_
  refine wp_seq_k (fun K17 hK17 => ?_)
  refine wp_region_lit ?_
  refine pl M14 (y_move (v := .pointer (some ⟨b, 0, none⟩)) rfl rfl rfl) ?_
  simp only [Act.put, z1, z2, z3]
  refine pl M14 (y_move (v := .pointer (some ⟨b, 0, none⟩)) rfl rfl rfl) ?_
  simp only [Act.put, z1, z2, z3]
  refine pl M14 (y_move (v := .int .i64 V.next) rfl rfl rfl) ?_
  simp only [Act.put, z1, z2, z3]
  refine pl M14 (y_move (v := .int .i64 (V.next - 1)) rfl rfl rfl) ?_
  simp only [Act.put, z1, z2, z3]
  refine pl M14 (y_nil rfl rfl rfl) ?_
  simp only [Act.put, z1, z2, z3]
  refine pl M14 (y_fa (r := 2) rfl rfl rfl Try.underlying48 rfl Try.sizeOf3 rfl) ?_
  simp only [Act.put, z1, z2, z3]
  refine pe rfl (fun K hK => ?_)
  refine e_store M14 3 (v := .int .i64 V.next) rfl rfl rfl rfl rfl rfl Try.sizeOf3 rfl (show (2 : Nat) < 7 by decide) ?_
  intro w18 (M18 : Mem w _ w18 [disk E p pg mb qv', blk f 96 (fC ({ V with s := pubS V (V.next - 1) } : FV) p), blk ga 50 ([.int .i64 2, .int .i64 n, .slice ao nn c]), blk b 48 ([lv, kv, .int .i64 V.next, .int .i64 B.gen, .int .i64 B.head, .int .i64 B.inMark, .int .i64 B.inHead]), rows lv vs B.loads, lst 3 1 kv B.ps.length B.kinds])
  clear M14
  refine hK.out _ _ ?_
  clear hK K
  simp only [Act.put, z1, z2, z3]
  refine pl M18 (y_nil rfl rfl rfl) ?_
  simp only [Act.put, z1, z2, z3]
  refine pl M18 (y_fa (r := 4) rfl rfl rfl Try.underlying48 rfl Try.sizeOf3 rfl) ?_
  simp only [Act.put, z1, z2, z3]
  refine pe rfl (fun K hK => ?_)
  refine e_store M18 3 (v := .int .i64 (V.next - 1)) rfl rfl rfl rfl rfl rfl Try.sizeOf3 rfl (show (4 : Nat) < 7 by decide) ?_
  intro w19 (M19 : Mem w _ w19 [disk E p pg mb qv', blk f 96 (fC ({ V with s := pubS V (V.next - 1) } : FV) p), blk ga 50 ([.int .i64 2, .int .i64 n, .slice ao nn c]), blk b 48 ([lv, kv, .int .i64 V.next, .int .i64 B.gen, .int .i64 (V.next - 1), .int .i64 B.inMark, .int .i64 B.inHead]), rows lv vs B.loads, lst 3 1 kv B.ps.length B.kinds])
  clear M18
  refine hK.out _ _ ?_
  clear hK K
  simp only [Act.put, z1, z2, z3]
  refine wpList_nil ?_
  refine hK17 _ _ ?_
  clear hK17
  refine wp_seq_k (fun K20 hK20 => ?_)
  refine wp_region_lit ?_
  refine pl M19 (y_move (v := .pointer (some ⟨b, 0, none⟩)) rfl rfl rfl) ?_
  simp only [Act.put, z1, z2, z3]
  refine pl M19 (y_nil rfl rfl rfl) ?_
  simp only [Act.put, z1, z2, z3]
  refine pl M19 (y_fa (r := 3) rfl rfl rfl Try.underlying48 rfl Try.sizeOf3 rfl) ?_
  simp only [Act.put, z1, z2, z3]
  refine pl M19 (y_load (v := .int .i64 B.gen) rfl rfl rfl Try.isAgg3 (fun W hW => hW.get 3 rfl) (rfl)) ?_
  simp only [Act.put, z1, z2, z3]
  refine pl M19 (y_add (r := B.gen + 1) rfl rfl rfl rfl (rfl) (by omega)) ?_
  simp only [Act.put, z1, z2, z3]
  refine pl M19 (y_nil rfl rfl rfl) ?_
  simp only [Act.put, z1, z2, z3]
  refine pl M19 (y_fa (r := 3) rfl rfl rfl Try.underlying48 rfl Try.sizeOf3 rfl) ?_
  simp only [Act.put, z1, z2, z3]
  refine pe rfl (fun K hK => ?_)
  refine e_store M19 3 (v := .int .i64 (B.gen + 1)) rfl rfl rfl rfl rfl rfl Try.sizeOf3 rfl (show (3 : Nat) < 7 by decide) ?_
  intro w21 (M21 : Mem w _ w21 [disk E p pg mb qv', blk f 96 (fC ({ V with s := pubS V (V.next - 1) } : FV) p), blk ga 50 ([.int .i64 2, .int .i64 n, .slice ao nn c]), blk b 48 ([lv, kv, .int .i64 V.next, .int .i64 (B.gen + 1), .int .i64 (V.next - 1), .int .i64 B.inMark, .int .i64 B.inHead]), rows lv vs B.loads, lst 3 1 kv B.ps.length B.kinds])
  clear M19
  refine hK.out _ _ ?_
  clear hK K
  simp only [Act.put, z1, z2, z3]
  refine wpList_nil ?_
  refine hK20 _ _ ?_
  clear hK20
  refine wp_seq_k (fun K22 hK22 => ?_)
  have M23 := M21.drew
  refine held_begin (fun W => Mem w (foots [disk D p pg mb qv, blk f 96 (fC V p), book B b ⟨lv, kv, vs⟩]) W [blk b 48 ([lv, kv, .int .i64 V.next, .int .i64 (B.gen + 1), .int .i64 (V.next - 1), .int .i64 B.inMark, .int .i64 B.inHead])]) (by kernel_rfl) (M23.arr [3] (by decide)) (fun hS => ?_)
  refine held_take 0 _ rfl (by kernel_rfl) (by kernel_rfl) (by kernel_rfl) (y_move (v := .int .i64 0) rfl rfl rfl) hS ?_
  simp only [Act.put, z1, z2, z3]
  refine held_take 1 _ rfl (by kernel_rfl) (by kernel_rfl) (by kernel_rfl) (y_move (v := .pointer (some ⟨f, 0, none⟩)) rfl rfl rfl) hS ?_
  simp only [Act.put, z1, z2, z3]
  refine held_take 3 _ rfl (by kernel_rfl) (by kernel_rfl) (by kernel_rfl) (y_move (v := .pointer (some ⟨f, 0, none⟩)) rfl rfl rfl) hS ?_
  simp only [Act.put, z1, z2, z3]
  refine held_take 6 _ rfl (by kernel_rfl) (by kernel_rfl) (by kernel_rfl) (y_move (v := .pointer (some ⟨b, 0, none⟩)) rfl rfl rfl) hS ?_
  simp only [Act.put, z1, z2, z3]
  refine held_take 7 _ rfl (by kernel_rfl) (by kernel_rfl) (by kernel_rfl) (y_nil rfl rfl rfl) hS ?_
  simp only [Act.put, z1, z2, z3]
  refine held_take 8 _ rfl (by kernel_rfl) (by kernel_rfl) (by kernel_rfl) (y_fa (r := 3) rfl rfl rfl Try.underlying48 rfl Try.sizeOf3 rfl) hS ?_
  simp only [Act.put, z1, z2, z3]
  refine held_take 9 _ rfl (by kernel_rfl) (by kernel_rfl) (by kernel_rfl) (y_load (v := .int .i64 (B.gen + 1)) rfl rfl rfl Try.isAgg3 (fun W hW => hW.get 0 rfl) (rfl)) hS ?_
  simp only [Act.put, z1, z2, z3]
  refine held_take 10 _ rfl (by kernel_rfl) (by kernel_rfl) (by kernel_rfl) (y_move (v := .int .i64 V.next) rfl rfl rfl) hS ?_
  simp only [Act.put, z1, z2, z3]
  refine held_take 11 _ rfl (by kernel_rfl) (by kernel_rfl) (by kernel_rfl) (y_move (v := .int .i64 (V.next - 1)) rfl rfl rfl) hS ?_
  simp only [Act.put, z1, z2, z3]
  refine held_take 12 _ rfl (by kernel_rfl) (by kernel_rfl) (by kernel_rfl) (y_move (v := .pointer (some ⟨p, 0, none⟩)) rfl rfl rfl) hS ?_
  simp only [Act.put, z1, z2, z3]
  have hX24 : Mem w _ w21.drew ([disk E p pg mb qv', blk f 96 (fC ({ V with s := pubS V (V.next - 1) } : FV) p)] ++ [blk ga 50 ([.int .i64 2, .int .i64 n, .slice ao nn c]), blk b 48 ([lv, kv, .int .i64 V.next, .int .i64 (B.gen + 1), .int .i64 (V.next - 1), .int .i64 B.inMark, .int .i64 B.inHead]), rows lv vs B.loads, lst 3 1 kv B.ps.length B.kinds]) := M23.arr [0, 1, 2, 3, 4, 5] (by decide)
  refine held_step 2 (by kernel_rfl) rfl (by rfl) (fun K hK => ?_)
  refine e_call 19 [.pointer (some ⟨f, 0, none⟩)] rfl rfl Try.call19 (super_any (Mem.here hX24)) ?_
  rintro e w24 ⟨rfl, H24⟩
  have M24 : Mem w _ w24 [disk E p pg mb qv', blk f 96 (fC ({ V with s := pubS V (V.next - 1) } : FV) p), blk ga 50 ([.int .i64 2, .int .i64 n, .slice ao nn c]), blk b 48 ([lv, kv, .int .i64 V.next, .int .i64 (B.gen + 1), .int .i64 (V.next - 1), .int .i64 B.inMark, .int .i64 B.inHead]), rows lv vs B.loads, lst 3 1 kv B.ps.length B.kinds] := Mem.frame hX24 H24
  refine ⟨_, rfl, ?_⟩
  refine hK.out _ _ (M24.arr [3] (by decide)) (fun hS => ?_)
  clear hK K
  simp only [Act.put, z1, z2, z3]
  have hX25 : Mem w _ w24 ([disk E p pg mb qv', blk f 96 (fC ({ V with s := pubS V (V.next - 1) } : FV) p)] ++ [blk ga 50 ([.int .i64 2, .int .i64 n, .slice ao nn c]), blk b 48 ([lv, kv, .int .i64 V.next, .int .i64 (B.gen + 1), .int .i64 (V.next - 1), .int .i64 B.inMark, .int .i64 B.inHead]), rows lv vs B.loads, lst 3 1 kv B.ps.length B.kinds]) := M24.arr [0, 1, 2, 3, 4, 5] (by decide)
  refine held_step 4 (by kernel_rfl) rfl (by rfl) (fun K hK => ?_)
  refine e_call 19 [.pointer (some ⟨f, 0, none⟩)] rfl rfl Try.call19 (super_any (Mem.here hX25)) ?_
  rintro e w25 ⟨rfl, H25⟩
  have M25 : Mem w _ w25 [disk E p pg mb qv', blk f 96 (fC ({ V with s := pubS V (V.next - 1) } : FV) p), blk ga 50 ([.int .i64 2, .int .i64 n, .slice ao nn c]), blk b 48 ([lv, kv, .int .i64 V.next, .int .i64 (B.gen + 1), .int .i64 (V.next - 1), .int .i64 B.inMark, .int .i64 B.inHead]), rows lv vs B.loads, lst 3 1 kv B.ps.length B.kinds] := Mem.frame hX25 H25
  refine ⟨_, rfl, ?_⟩
  refine hK.out _ _ (M25.arr [3] (by decide)) (fun hS => ?_)
  clear hK K
  simp only [Act.put, z1, z2, z3]
  refine held_take 5 _ rfl (by kernel_rfl) (by kernel_rfl) (by kernel_rfl) (y_field1 (v := .int .i64 V.s.width) rfl rfl rfl Try.underlying37 rfl Try.isAgg3 rfl) hS ?_
  simp only [Act.put, z1, z2, z3]
  have hX26 : Mem w _ w25 ([disk E p pg mb qv'] ++ [blk f 96 (fC ({ V with s := pubS V (V.next - 1) } : FV) p), blk ga 50 ([.int .i64 2, .int .i64 n, .slice ao nn c]), blk b 48 ([lv, kv, .int .i64 V.next, .int .i64 (B.gen + 1), .int .i64 (V.next - 1), .int .i64 B.inMark, .int .i64 B.inHead]), rows lv vs B.loads, lst 3 1 kv B.ps.length B.kinds]) := M25.arr [0, 1, 2, 3, 4, 5] (by decide)
  refine held_step 13 (by kernel_rfl) rfl (by rfl) (fun K hK => ?_)
  refine e_call 24 [.pointer (some ⟨p, 0, none⟩)] rfl rfl Try.call24 (pages_any (Mem.here hX26)) ?_
  rintro e w26 ⟨rfl, H26⟩
  have M26 : Mem w _ w26 [disk E p pg mb qv', blk f 96 (fC ({ V with s := pubS V (V.next - 1) } : FV) p), blk ga 50 ([.int .i64 2, .int .i64 n, .slice ao nn c]), blk b 48 ([lv, kv, .int .i64 V.next, .int .i64 (B.gen + 1), .int .i64 (V.next - 1), .int .i64 B.inMark, .int .i64 B.inHead]), rows lv vs B.loads, lst 3 1 kv B.ps.length B.kinds] := Mem.frame hX26 H26
  refine ⟨_, rfl, ?_⟩
  refine hK.out _ _ (M26.arr [3] (by decide)) (fun hS => ?_)
  clear hK K
  simp only [Act.put, z1, z2, z3]
  refine held_take 14 _ rfl (by kernel_rfl) (by kernel_rfl) (by kernel_rfl) (y_build (ps := [(0, .tmp 127), (1, .tmp 131), (2, .tmp 132), (3, .tmp 133), (4, .tmp 135)]) (pv := [(0, .int .i64 V.s.width), (1, .int .i64 (B.gen + 1)), (2, .int .i64 V.next), (3, .int .i64 (V.next - 1)), (4, .int .i64 (E.pages.length : Int))]) (cs := [.int .i64 V.s.width, .int .i64 (B.gen + 1), .int .i64 V.next, .int .i64 (V.next - 1), .int .i64 (E.pages.length : Int)]) rfl rfl rfl (by kernel_rfl)) hS ?_
  simp only [Act.put, z1, z2, z3]
  refine held_take 15 _ rfl (by kernel_rfl) (by kernel_rfl) (by kernel_rfl) (y_eqs (r := true) rfl rfl rfl rfl sup_guard (fun W => by rw [hcs]; exact sup_same _ W)) hS ?_
  simp only [Act.put, z1, z2, z3]
  refine held_take 16 _ rfl (by kernel_rfl) (by kernel_rfl) (by kernel_rfl) (y_assign (v := .int .i64 0) rfl rfl rfl) hS ?_
  simp only [Act.put, z1, z2, z3]
  refine held_take 17 _ rfl (by kernel_rfl) (by kernel_rfl) (by kernel_rfl) (y_assign (v := .bool true) rfl rfl rfl) hS ?_
  simp only [Act.put, z1, z2, z3]
  refine held_done (by kernel_rfl) ?_ _
  refine hK22 _ _ ?_
  clear hK22
  refine wp_ret ?_
  try simp only [Exit.inBlock, Exit.then]
  refine bodyPost_ret (v := .tuple #[.int .i64 0, .bool true]) (res2 rfl rfl rfl) rfl ?_
  have N : Mem _ _ _ [book ({ B with mark := V.next, head := V.next - 1, gen := B.gen + 1 } : BV) b ⟨lv, kv, vs⟩, _, _] := book_close (M26.arr [3, 4, 5, 0, 1] (by decide))
  exact ⟨E, qv', ⟨lv, kv, vs⟩, rfl, N.arr [1, 2, 0] (by decide), hE⟩
set_option maxRecDepth 100000 in
set_option maxHeartbeats 4000000 in
theorem act_pub_down_h {D : DV} {V : FV} {B : BV} {p pg mb f b : Nat} {qv : Value} {bx : BX} {w : World} (hM : Mem w (foots [disk D p pg mb qv, blk f 96 (fC V p), book B b bx]) w [disk D p pg mb qv, blk f 96 (fC V p), book B b bx]) (n : Int) (ao : Option Addr) (nn c : Nat) {ps : Pgs} (hI : Inv D V ps) (hg : V.s.gen = B.gen) (hgm : V.s.gen < 1099511627776) (hq : D.q.length ≤ 400000000000) (h1 : n % 2 = 1) (h2 : 2 < V.next) (h0 : (pubR D V (V.next - 1)).2 = 2) (hpp : (pubR D V (V.next - 1)).1.pages.length = D.pages.length) : Calls Try.prog 27 #[.pointer (some ⟨b, 0, none⟩), .pointer (some ⟨p, 0, none⟩), .pointer (some ⟨f, 0, none⟩), .agg ([.int .i64 2, .int .i64 n, .slice ao nn c]).toArray] w fun e w' => ∃ E qv' bx', e = .returned (.tuple #[.int .i64 2, .bool true]) ∧ Mem w (foots [disk D p pg mb qv, blk f 96 (fC V p), book B b bx]) w' [disk E p pg mb qv', blk f 96 (fC V p), book ({ B with inMark := V.next, inHead := V.next - 1 } : BV) b bx'] ∧ E = (pubR D V (V.next - 1)).1 := by
  obtain ⟨lv, kv, vs⟩ := bx
  have M0 := book_open (hM.arr [2, 0, 1] (by decide))
  clear hM
  have M : Mem w _ w [disk D p pg mb qv, blk f 96 (fC V p), blk b 48 (bC B ⟨lv, kv, vs⟩), rows lv vs B.loads, lst 3 1 kv B.ps.length B.kinds] := M0.arr [3, 4, 0, 1, 2] (by decide)
  clear M0
  have hn2 := hI.next2
  have hnp := hI.nextp
  have hhi := hI.ok.hi
  go_enter Try.func27, Try.ntmps27
  refine wp_seq_k (fun K1 hK1 => ?_)
  refine wp_region_lit ?_
  refine pe rfl (fun K hK => ?_)
  refine e_box M ([.int .i64 2, .int .i64 n, .slice ao nn c]) rfl rfl ?_
  intro ga w2 (M2 : Mem w _ w2 [blk ga 50 ([.int .i64 2, .int .i64 n, .slice ao nn c]), disk D p pg mb qv, blk f 96 (fC V p), blk b 48 (bC B ⟨lv, kv, vs⟩), rows lv vs B.loads, lst 3 1 kv B.ps.length B.kinds])
  clear M
  refine hK.out _ _ ?_
  clear hK K
  simp only [Act.put, z1, z2, z3]
  refine pl M2 (y_assign (v := .int .i64 0) rfl rfl rfl) ?_
  simp only [Act.put, z1, z2, z3]
  refine pl M2 (y_assign (v := .bool false) rfl rfl rfl) ?_
  simp only [Act.put, z1, z2, z3]
  refine wpList_nil ?_
  refine hK1 _ _ ?_
  clear hK1
  refine wp_seq_k (fun K3 hK3 => ?_)
  refine wp_region_lit ?_
  refine pl M2 (y_move (v := .pointer (some ⟨f, 0, none⟩)) rfl rfl rfl) ?_
  simp only [Act.put, z1, z2, z3]
  have hX4 : Mem w _ w2 ([disk D p pg mb qv, blk f 96 (fC V p)] ++ [blk ga 50 ([.int .i64 2, .int .i64 n, .slice ao nn c]), blk b 48 (bC B ⟨lv, kv, vs⟩), rows lv vs B.loads, lst 3 1 kv B.ps.length B.kinds]) := M2.arr [1, 2, 0, 3, 4, 5] (by decide)
  refine pe rfl (fun K hK => ?_)
  refine e_call 20 [.pointer (some ⟨f, 0, none⟩)] rfl rfl Try.call20 (next_any (Mem.here hX4)) ?_
  rintro e w4 ⟨rfl, H4⟩
  have M4 : Mem w _ w4 [disk D p pg mb qv, blk f 96 (fC V p), blk ga 50 ([.int .i64 2, .int .i64 n, .slice ao nn c]), blk b 48 (bC B ⟨lv, kv, vs⟩), rows lv vs B.loads, lst 3 1 kv B.ps.length B.kinds] := Mem.frame hX4 H4
  refine ⟨_, rfl, ?_⟩
  refine hK.out _ _ ?_
  clear hK K
  simp only [Act.put, z1, z2, z3]
  refine pl M4 (y_assign (v := .int .i64 V.next) rfl rfl rfl) ?_
  simp only [Act.put, z1, z2, z3]
  refine wpList_nil ?_
  refine hK3 _ _ ?_
  clear hK3
  refine wp_seq_k (fun K5 hK5 => ?_)
  refine wp_seq_k (fun K6 hK6 => ?_)
  refine wp_region_lit ?_
  refine pl M4 (y_fa (r := 0) rfl rfl rfl Try.underlying50 rfl Try.sizeOf3 rfl) ?_
  simp only [Act.put, z1, z2, z3]
  refine pl M4 (y_load (v := .int .i64 2) rfl rfl rfl Try.isAgg3 (fun W hW => hW.get 2 rfl) (rfl)) ?_
  simp only [Act.put, z1, z2, z3]
  refine wpList_nil ?_
  refine hK6 _ _ ?_
  clear hK6
  refine wp_block ?_
  refine wp_seq_k (fun K7 hK7 => ?_)
  refine wp_region_lit ?_
  refine pl M4 (y_eql (b := false) rfl rfl rfl rfl (decide_eq_false (by decide))) ?_
  simp only [Act.put, z1, z2, z3]
  refine pl M4 (y_assign (v := .bool false) rfl rfl rfl) ?_
  simp only [Act.put, z1, z2, z3]
  refine wpList_nil ?_
  refine hK7 _ _ ?_
  clear hK7
  refine wp_cond_false rfl ?_
  refine wp_seq_k (fun K8 hK8 => ?_)
  refine wp_region_lit ?_
  refine pl M4 (y_eql (b := true) rfl rfl rfl rfl (decide_eq_true (by decide))) ?_
  simp only [Act.put, z1, z2, z3]
  refine pl M4 (y_assign (v := .bool true) rfl rfl rfl) ?_
  simp only [Act.put, z1, z2, z3]
  refine wpList_nil ?_
  refine hK8 _ _ ?_
  clear hK8
  refine wp_cond_true rfl ?_
  refine wp_seq_k (fun K9 hK9 => ?_)
  refine wp_region_lit ?_
  refine pl M4 (y_assign (v := .int .i64 0) rfl rfl rfl) ?_
  simp only [Act.put, z1, z2, z3]
  refine wpList_nil ?_
  refine hK9 _ _ ?_
  clear hK9
  refine wp_seq_k (fun K10 hK10 => ?_)
  refine wp_seq_k (fun K11 hK11 => ?_)
  refine wp_region_lit ?_
  refine pl M4 (y_fa (r := 1) rfl rfl rfl Try.underlying50 rfl Try.sizeOf3 rfl) ?_
  simp only [Act.put, z1, z2, z3]
  refine pl M4 (y_load (v := .int .i64 n) rfl rfl rfl Try.isAgg3 (fun W hW => hW.get 2 rfl) (rfl)) ?_
  simp only [Act.put, z1, z2, z3]
  refine pe rfl (fun K hK => ?_)
  refine e_call 13 [.int .i64 n, .int .i64 2] rfl rfl Try.call13 (place3_any n 2 (by decide) (by decide) _) ?_
  rintro e w12 ⟨rfl, H12⟩
  have M12 : Mem w _ w12 [disk D p pg mb qv, blk f 96 (fC V p), blk ga 50 ([.int .i64 2, .int .i64 n, .slice ao nn c]), blk b 48 (bC B ⟨lv, kv, vs⟩), rows lv vs B.loads, lst 3 1 kv B.ps.length B.kinds] := M4.step H12
  refine ⟨_, rfl, ?_⟩
  refine hK.out _ _ ?_
  clear hK K
  simp only [Act.put, z1, z2, z3]
  refine pl M12 (y_eql (b := true) rfl rfl rfl rfl (decide_eq_true h1)) ?_
  simp only [Act.put, z1, z2, z3]
  refine pl M12 (y_move (v := .bool true) rfl rfl rfl) ?_
  simp only [Act.put, z1, z2, z3]
  refine pl M12 (y_move (v := .int .i64 V.next) rfl rfl rfl) ?_
  simp only [Act.put, z1, z2, z3]
  refine pl M12 (y_gtr (b := true) rfl rfl rfl rfl (decide_eq_true h2)) ?_
  simp only [Act.put, z1, z2, z3]
  refine pl M12 (y_pickT (v := .bool true) rfl rfl rfl rfl) ?_
  simp only [Act.put, z1, z2, z3]
  refine wpList_nil ?_
  refine hK11 _ _ ?_
  clear hK11
  refine wp_cond_true rfl ?_
  refine wp_region_lit ?_
  refine pl M12 (y_move (v := .int .i64 V.next) rfl rfl rfl) ?_
  simp only [Act.put, z1, z2, z3]
  refine pl M12 (y_sub (r := V.next - 1) rfl rfl rfl rfl (rfl) (by omega)) ?_
  simp only [Act.put, z1, z2, z3]
  refine pl M12 (y_assign (v := .int .i64 (V.next - 1)) rfl rfl rfl) ?_
  simp only [Act.put, z1, z2, z3]
  refine wpList_nil ?_
  refine hK10 _ _ ?_
  clear hK10
  refine wp_seq_k (fun K13 hK13 => ?_)
  refine wp_region_lit ?_
  refine pl M12 (y_move (v := .pointer (some ⟨f, 0, none⟩)) rfl rfl rfl) ?_
  simp only [Act.put, z1, z2, z3]
  refine pl M12 (y_move (v := .int .i64 (V.next - 1)) rfl rfl rfl) ?_
  simp only [Act.put, z1, z2, z3]
  have hX14 : Mem w _ w12 ([disk D p pg mb qv, blk f 96 (fC V p)] ++ [blk ga 50 ([.int .i64 2, .int .i64 n, .slice ao nn c]), blk b 48 (bC B ⟨lv, kv, vs⟩), rows lv vs B.loads, lst 3 1 kv B.ps.length B.kinds]) := M12.arr [0, 1, 2, 3, 4, 5] (by decide)
  refine pe rfl (fun K hK => ?_)
  refine e_call 28 [.pointer (some ⟨f, 0, none⟩), .int .i64 (V.next - 1)] rfl rfl Try.call28 (xpub_down (Mem.here hX14) hI (V.next - 1) hq h0 hpp) ?_
  rintro e w14 ⟨E, qv', rfl, H14, hE, hpl⟩
  have M14 : Mem w _ w14 [disk E p pg mb qv', blk f 96 (fC V p), blk ga 50 ([.int .i64 2, .int .i64 n, .slice ao nn c]), blk b 48 (bC B ⟨lv, kv, vs⟩), rows lv vs B.loads, lst 3 1 kv B.ps.length B.kinds] := Mem.frame hX14 H14
  refine ⟨_, rfl, ?_⟩
  refine hK.out _ _ ?_
  clear hK K
  simp only [Act.put, z1, z2, z3]
  refine pl M14 (y_assign (v := .int .i64 2) rfl rfl rfl) ?_
  simp only [Act.put, z1, z2, z3]
  refine wpList_nil ?_
  refine hK13 _ _ ?_
  clear hK13
  refine wp_seq_k (fun K15 hK15 => ?_)
  refine wp_seq_k (fun K16 hK16 => ?_)
  refine wp_region_lit ?_
  refine pl M14 (y_move (v := .int .i64 2) rfl rfl rfl) ?_
  simp only [Act.put, z1, z2, z3]
  refine pl M14 (y_eql (b := false) rfl rfl rfl rfl (decide_eq_false (by decide))) ?_
  simp only [Act.put, z1, z2, z3]
  refine wpList_nil ?_
  refine hK16 _ _ ?_
  clear hK16
  refine wp_cond_false rfl ?_
  refine wp_skip ?_
  refine hK15 _ _ ?_
  clear hK15
  refine wp_seq_k (fun K17 hK17 => ?_)
  refine wp_region_lit ?_
  refine pl M14 (y_move (v := .pointer (some ⟨b, 0, none⟩)) rfl rfl rfl) ?_
  simp only [Act.put, z1, z2, z3]
  refine pl M14 (y_move (v := .pointer (some ⟨b, 0, none⟩)) rfl rfl rfl) ?_
  simp only [Act.put, z1, z2, z3]
  refine pl M14 (y_move (v := .int .i64 V.next) rfl rfl rfl) ?_
  simp only [Act.put, z1, z2, z3]
  refine pl M14 (y_move (v := .int .i64 (V.next - 1)) rfl rfl rfl) ?_
  simp only [Act.put, z1, z2, z3]
  refine pl M14 (y_nil rfl rfl rfl) ?_
  simp only [Act.put, z1, z2, z3]
  refine pl M14 (y_fa (r := 5) rfl rfl rfl Try.underlying48 rfl Try.sizeOf3 rfl) ?_
  simp only [Act.put, z1, z2, z3]
  refine pe rfl (fun K hK => ?_)
  refine e_store M14 3 (v := .int .i64 V.next) rfl rfl rfl rfl rfl rfl Try.sizeOf3 rfl (show (5 : Nat) < 7 by decide) ?_
  intro w18 (M18 : Mem w _ w18 [disk E p pg mb qv', blk f 96 (fC V p), blk ga 50 ([.int .i64 2, .int .i64 n, .slice ao nn c]), blk b 48 ([lv, kv, .int .i64 B.mark, .int .i64 B.gen, .int .i64 B.head, .int .i64 V.next, .int .i64 B.inHead]), rows lv vs B.loads, lst 3 1 kv B.ps.length B.kinds])
  clear M14
  refine hK.out _ _ ?_
  clear hK K
  simp only [Act.put, z1, z2, z3]
  refine pl M18 (y_nil rfl rfl rfl) ?_
  simp only [Act.put, z1, z2, z3]
  refine pl M18 (y_fa (r := 6) rfl rfl rfl Try.underlying48 rfl Try.sizeOf3 rfl) ?_
  simp only [Act.put, z1, z2, z3]
  refine pe rfl (fun K hK => ?_)
  refine e_store M18 3 (v := .int .i64 (V.next - 1)) rfl rfl rfl rfl rfl rfl Try.sizeOf3 rfl (show (6 : Nat) < 7 by decide) ?_
  intro w19 (M19 : Mem w _ w19 [disk E p pg mb qv', blk f 96 (fC V p), blk ga 50 ([.int .i64 2, .int .i64 n, .slice ao nn c]), blk b 48 ([lv, kv, .int .i64 B.mark, .int .i64 B.gen, .int .i64 B.head, .int .i64 V.next, .int .i64 (V.next - 1)]), rows lv vs B.loads, lst 3 1 kv B.ps.length B.kinds])
  clear M18
  refine hK.out _ _ ?_
  clear hK K
  simp only [Act.put, z1, z2, z3]
  refine wpList_nil ?_
  refine hK17 _ _ ?_
  clear hK17
  refine wp_seq_k (fun K20 hK20 => ?_)
  refine wp_region_lit ?_
  refine pl M19 (y_move (v := .int .i64 2) rfl rfl rfl) ?_
  simp only [Act.put, z1, z2, z3]
  refine pl M19 (y_move (v := .int .i64 2) rfl rfl rfl) ?_
  simp only [Act.put, z1, z2, z3]
  refine pl M19 (y_eql (b := true) rfl rfl rfl rfl (decide_eq_true (by decide))) ?_
  simp only [Act.put, z1, z2, z3]
  refine pl M19 (y_assign (v := .int .i64 2) rfl rfl rfl) ?_
  simp only [Act.put, z1, z2, z3]
  refine pl M19 (y_assign (v := .bool true) rfl rfl rfl) ?_
  simp only [Act.put, z1, z2, z3]
  refine wpList_nil ?_
  refine hK20 _ _ ?_
  clear hK20
  refine wp_ret ?_
  try simp only [Exit.inBlock, Exit.then]
  refine bodyPost_ret (v := .tuple #[.int .i64 2, .bool true]) (res2 rfl rfl rfl) rfl ?_
  have N : Mem _ _ _ [book ({ B with inMark := V.next, inHead := V.next - 1 } : BV) b ⟨lv, kv, vs⟩, _, _] := book_close (M19.arr [3, 4, 5, 0, 1] (by decide))
  exact ⟨E, qv', ⟨lv, kv, vs⟩, rfl, N.arr [1, 2, 0] (by decide), hE⟩
set_option maxRecDepth 100000 in
set_option maxHeartbeats 4000000 in
theorem act_pub_go_z1 {D : DV} {V : FV} {B : BV} {p pg mb f b : Nat} {qv : Value} {bx : BX} {w : World} (hM : Mem w (foots [disk D p pg mb qv, blk f 96 (fC V p), book B b bx]) w [disk D p pg mb qv, blk f 96 (fC V p), book B b bx]) (n : Int) (ao : Option Addr) (nn c : Nat) {ps : Pgs} (hI : Inv D V ps) (hg : V.s.gen = B.gen) (hgm : V.s.gen < 1099511627776) (hq : D.q.length ≤ 400000000000) (h1 : n % 2 = 1) (h2 : ¬ 2 < V.next) (h0 : (pubR D V (0)).2 = 0) (hpp : (pubR D V (0)).1.pages.length = D.pages.length) : Calls Try.prog 27 #[.pointer (some ⟨b, 0, none⟩), .pointer (some ⟨p, 0, none⟩), .pointer (some ⟨f, 0, none⟩), .agg ([.int .i64 2, .int .i64 n, .slice ao nn c]).toArray] w fun e w' => ∃ E qv' bx', e = .returned (.tuple #[.int .i64 0, .bool true]) ∧ Mem w (foots [disk D p pg mb qv, blk f 96 (fC V p), book B b bx]) w' [disk E p pg mb qv', blk f 96 (fC ({ V with s := pubS V (0) } : FV) p), book ({ B with mark := V.next, head := 0, gen := B.gen + 1 } : BV) b bx'] ∧ E = (pubR D V (0)).1 := by
  obtain ⟨lv, kv, vs⟩ := bx
  have M0 := book_open (hM.arr [2, 0, 1] (by decide))
  clear hM
  have M : Mem w _ w [disk D p pg mb qv, blk f 96 (fC V p), blk b 48 (bC B ⟨lv, kv, vs⟩), rows lv vs B.loads, lst 3 1 kv B.ps.length B.kinds] := M0.arr [3, 4, 0, 1, 2] (by decide)
  clear M0
  have hpg := hI.plat.pages
  have hg1 := hI.plat.gen0
  have hn2 := hI.next2
  have hnp := hI.nextp
  have hhi := hI.ok.hi
  go_enter Try.func27, Try.ntmps27
  refine wp_seq_k (fun K1 hK1 => ?_)
  refine wp_region_lit ?_
  refine pe rfl (fun K hK => ?_)
  refine e_box M ([.int .i64 2, .int .i64 n, .slice ao nn c]) rfl rfl ?_
  intro ga w2 (M2 : Mem w _ w2 [blk ga 50 ([.int .i64 2, .int .i64 n, .slice ao nn c]), disk D p pg mb qv, blk f 96 (fC V p), blk b 48 (bC B ⟨lv, kv, vs⟩), rows lv vs B.loads, lst 3 1 kv B.ps.length B.kinds])
  clear M
  refine hK.out _ _ ?_
  clear hK K
  simp only [Act.put, z1, z2, z3]
  refine pl M2 (y_assign (v := .int .i64 0) rfl rfl rfl) ?_
  simp only [Act.put, z1, z2, z3]
  refine pl M2 (y_assign (v := .bool false) rfl rfl rfl) ?_
  simp only [Act.put, z1, z2, z3]
  refine wpList_nil ?_
  refine hK1 _ _ ?_
  clear hK1
  refine wp_seq_k (fun K3 hK3 => ?_)
  refine wp_region_lit ?_
  refine pl M2 (y_move (v := .pointer (some ⟨f, 0, none⟩)) rfl rfl rfl) ?_
  simp only [Act.put, z1, z2, z3]
  have hX4 : Mem w _ w2 ([disk D p pg mb qv, blk f 96 (fC V p)] ++ [blk ga 50 ([.int .i64 2, .int .i64 n, .slice ao nn c]), blk b 48 (bC B ⟨lv, kv, vs⟩), rows lv vs B.loads, lst 3 1 kv B.ps.length B.kinds]) := M2.arr [1, 2, 0, 3, 4, 5] (by decide)
  refine pe rfl (fun K hK => ?_)
  refine e_call 20 [.pointer (some ⟨f, 0, none⟩)] rfl rfl Try.call20 (next_any (Mem.here hX4)) ?_
  rintro e w4 ⟨rfl, H4⟩
  have M4 : Mem w _ w4 [disk D p pg mb qv, blk f 96 (fC V p), blk ga 50 ([.int .i64 2, .int .i64 n, .slice ao nn c]), blk b 48 (bC B ⟨lv, kv, vs⟩), rows lv vs B.loads, lst 3 1 kv B.ps.length B.kinds] := Mem.frame hX4 H4
  refine ⟨_, rfl, ?_⟩
  refine hK.out _ _ ?_
  clear hK K
  simp only [Act.put, z1, z2, z3]
  refine pl M4 (y_assign (v := .int .i64 V.next) rfl rfl rfl) ?_
  simp only [Act.put, z1, z2, z3]
  refine wpList_nil ?_
  refine hK3 _ _ ?_
  clear hK3
  refine wp_seq_k (fun K5 hK5 => ?_)
  refine wp_seq_k (fun K6 hK6 => ?_)
  refine wp_region_lit ?_
  refine pl M4 (y_fa (r := 0) rfl rfl rfl Try.underlying50 rfl Try.sizeOf3 rfl) ?_
  simp only [Act.put, z1, z2, z3]
  refine pl M4 (y_load (v := .int .i64 2) rfl rfl rfl Try.isAgg3 (fun W hW => hW.get 2 rfl) (rfl)) ?_
  simp only [Act.put, z1, z2, z3]
  refine wpList_nil ?_
  refine hK6 _ _ ?_
  clear hK6
  refine wp_block ?_
  refine wp_seq_k (fun K7 hK7 => ?_)
  refine wp_region_lit ?_
  refine pl M4 (y_eql (b := false) rfl rfl rfl rfl (decide_eq_false (by decide))) ?_
  simp only [Act.put, z1, z2, z3]
  refine pl M4 (y_assign (v := .bool false) rfl rfl rfl) ?_
  simp only [Act.put, z1, z2, z3]
  refine wpList_nil ?_
  refine hK7 _ _ ?_
  clear hK7
  refine wp_cond_false rfl ?_
  refine wp_seq_k (fun K8 hK8 => ?_)
  refine wp_region_lit ?_
  refine pl M4 (y_eql (b := true) rfl rfl rfl rfl (decide_eq_true (by decide))) ?_
  simp only [Act.put, z1, z2, z3]
  refine pl M4 (y_assign (v := .bool true) rfl rfl rfl) ?_
  simp only [Act.put, z1, z2, z3]
  refine wpList_nil ?_
  refine hK8 _ _ ?_
  clear hK8
  refine wp_cond_true rfl ?_
  refine wp_seq_k (fun K9 hK9 => ?_)
  refine wp_region_lit ?_
  refine pl M4 (y_assign (v := .int .i64 0) rfl rfl rfl) ?_
  simp only [Act.put, z1, z2, z3]
  refine wpList_nil ?_
  refine hK9 _ _ ?_
  clear hK9
  refine wp_seq_k (fun K10 hK10 => ?_)
  refine wp_seq_k (fun K11 hK11 => ?_)
  refine wp_region_lit ?_
  refine pl M4 (y_fa (r := 1) rfl rfl rfl Try.underlying50 rfl Try.sizeOf3 rfl) ?_
  simp only [Act.put, z1, z2, z3]
  refine pl M4 (y_load (v := .int .i64 n) rfl rfl rfl Try.isAgg3 (fun W hW => hW.get 2 rfl) (rfl)) ?_
  simp only [Act.put, z1, z2, z3]
  refine pe rfl (fun K hK => ?_)
  refine e_call 13 [.int .i64 n, .int .i64 2] rfl rfl Try.call13 (place3_any n 2 (by decide) (by decide) _) ?_
  rintro e w12 ⟨rfl, H12⟩
  have M12 : Mem w _ w12 [disk D p pg mb qv, blk f 96 (fC V p), blk ga 50 ([.int .i64 2, .int .i64 n, .slice ao nn c]), blk b 48 (bC B ⟨lv, kv, vs⟩), rows lv vs B.loads, lst 3 1 kv B.ps.length B.kinds] := M4.step H12
  refine ⟨_, rfl, ?_⟩
  refine hK.out _ _ ?_
  clear hK K
  simp only [Act.put, z1, z2, z3]
  refine pl M12 (y_eql (b := true) rfl rfl rfl rfl (decide_eq_true h1)) ?_
  simp only [Act.put, z1, z2, z3]
  refine pl M12 (y_move (v := .bool true) rfl rfl rfl) ?_
  simp only [Act.put, z1, z2, z3]
  refine pl M12 (y_move (v := .int .i64 V.next) rfl rfl rfl) ?_
  simp only [Act.put, z1, z2, z3]
  refine pl M12 (y_gtr (b := false) rfl rfl rfl rfl (decide_eq_false h2)) ?_
  simp only [Act.put, z1, z2, z3]
  refine pl M12 (y_pickT (v := .bool false) rfl rfl rfl rfl) ?_
  simp only [Act.put, z1, z2, z3]
  refine wpList_nil ?_
  refine hK11 _ _ ?_
  clear hK11
  refine wp_cond_false rfl ?_
  refine wp_skip ?_
  refine hK10 _ _ ?_
  clear hK10
  refine wp_seq_k (fun K13 hK13 => ?_)
  refine wp_region_lit ?_
  refine pl M12 (y_move (v := .pointer (some ⟨f, 0, none⟩)) rfl rfl rfl) ?_
  simp only [Act.put, z1, z2, z3]
  refine pl M12 (y_move (v := .int .i64 0) rfl rfl rfl) ?_
  simp only [Act.put, z1, z2, z3]
  have hX14 : Mem w _ w12 ([disk D p pg mb qv, blk f 96 (fC V p)] ++ [blk ga 50 ([.int .i64 2, .int .i64 n, .slice ao nn c]), blk b 48 (bC B ⟨lv, kv, vs⟩), rows lv vs B.loads, lst 3 1 kv B.ps.length B.kinds]) := M12.arr [0, 1, 2, 3, 4, 5] (by decide)
  refine pe rfl (fun K hK => ?_)
  refine e_call 28 [.pointer (some ⟨f, 0, none⟩), .int .i64 0] rfl rfl Try.call28 (xpub_go (Mem.here hX14) hI (0) hq h0 hpp) ?_
  rintro e w14 ⟨E, qv', rfl, H14, hE, hpl⟩
  have M14 : Mem w _ w14 [disk E p pg mb qv', blk f 96 (fC ({ V with s := pubS V (0) } : FV) p), blk ga 50 ([.int .i64 2, .int .i64 n, .slice ao nn c]), blk b 48 (bC B ⟨lv, kv, vs⟩), rows lv vs B.loads, lst 3 1 kv B.ps.length B.kinds] := Mem.frame hX14 H14
  have hcs : [.int .i64 V.s.width, .int .i64 (B.gen + 1), .int .i64 V.next, .int .i64 (0), .int .i64 (E.pages.length : Int)] = supC (pubS V (0)) := by rw [hpl, ← hg, ← hpg]; rfl
  refine ⟨_, rfl, ?_⟩
  refine hK.out _ _ ?_
  clear hK K
  simp only [Act.put, z1, z2, z3]
  refine pl M14 (y_assign (v := .int .i64 0) rfl rfl rfl) ?_
  simp only [Act.put, z1, z2, z3]
  refine wpList_nil ?_
  refine hK13 _ _ ?_
  clear hK13
  refine wp_seq_k (fun K15 hK15 => ?_)
  refine wp_seq_k (fun K16 hK16 => ?_)
  refine wp_region_lit ?_
  refine pl M14 (y_move (v := .int .i64 0) rfl rfl rfl) ?_
  simp only [Act.put, z1, z2, z3]
  refine pl M14 (y_eql (b := true) rfl rfl rfl rfl (decide_eq_true (by decide))) ?_
  simp only [Act.put, z1, z2, z3]
  refine wpList_nil ?_
  refine hK16 _ _ ?_
  clear hK16
  refine wp_cond_true rfl ?_
  refine wp_seq_k (fun K17 hK17 => ?_)
  refine wp_region_lit ?_
  refine pl M14 (y_move (v := .pointer (some ⟨b, 0, none⟩)) rfl rfl rfl) ?_
  simp only [Act.put, z1, z2, z3]
  refine pl M14 (y_move (v := .pointer (some ⟨b, 0, none⟩)) rfl rfl rfl) ?_
  simp only [Act.put, z1, z2, z3]
  refine pl M14 (y_move (v := .int .i64 V.next) rfl rfl rfl) ?_
  simp only [Act.put, z1, z2, z3]
  refine pl M14 (y_move (v := .int .i64 0) rfl rfl rfl) ?_
  simp only [Act.put, z1, z2, z3]
  refine pl M14 (y_nil rfl rfl rfl) ?_
  simp only [Act.put, z1, z2, z3]
  refine pl M14 (y_fa (r := 2) rfl rfl rfl Try.underlying48 rfl Try.sizeOf3 rfl) ?_
  simp only [Act.put, z1, z2, z3]
  refine pe rfl (fun K hK => ?_)
  refine e_store M14 3 (v := .int .i64 V.next) rfl rfl rfl rfl rfl rfl Try.sizeOf3 rfl (show (2 : Nat) < 7 by decide) ?_
  intro w18 (M18 : Mem w _ w18 [disk E p pg mb qv', blk f 96 (fC ({ V with s := pubS V (0) } : FV) p), blk ga 50 ([.int .i64 2, .int .i64 n, .slice ao nn c]), blk b 48 ([lv, kv, .int .i64 V.next, .int .i64 B.gen, .int .i64 B.head, .int .i64 B.inMark, .int .i64 B.inHead]), rows lv vs B.loads, lst 3 1 kv B.ps.length B.kinds])
  clear M14
  refine hK.out _ _ ?_
  clear hK K
  simp only [Act.put, z1, z2, z3]
  refine pl M18 (y_nil rfl rfl rfl) ?_
  simp only [Act.put, z1, z2, z3]
  refine pl M18 (y_fa (r := 4) rfl rfl rfl Try.underlying48 rfl Try.sizeOf3 rfl) ?_
  simp only [Act.put, z1, z2, z3]
  refine pe rfl (fun K hK => ?_)
  refine e_store M18 3 (v := .int .i64 0) rfl rfl rfl rfl rfl rfl Try.sizeOf3 rfl (show (4 : Nat) < 7 by decide) ?_
  intro w19 (M19 : Mem w _ w19 [disk E p pg mb qv', blk f 96 (fC ({ V with s := pubS V (0) } : FV) p), blk ga 50 ([.int .i64 2, .int .i64 n, .slice ao nn c]), blk b 48 ([lv, kv, .int .i64 V.next, .int .i64 B.gen, .int .i64 0, .int .i64 B.inMark, .int .i64 B.inHead]), rows lv vs B.loads, lst 3 1 kv B.ps.length B.kinds])
  clear M18
  refine hK.out _ _ ?_
  clear hK K
  simp only [Act.put, z1, z2, z3]
  refine wpList_nil ?_
  refine hK17 _ _ ?_
  clear hK17
  refine wp_seq_k (fun K20 hK20 => ?_)
  refine wp_region_lit ?_
  refine pl M19 (y_move (v := .pointer (some ⟨b, 0, none⟩)) rfl rfl rfl) ?_
  simp only [Act.put, z1, z2, z3]
  refine pl M19 (y_nil rfl rfl rfl) ?_
  simp only [Act.put, z1, z2, z3]
  refine pl M19 (y_fa (r := 3) rfl rfl rfl Try.underlying48 rfl Try.sizeOf3 rfl) ?_
  simp only [Act.put, z1, z2, z3]
  refine pl M19 (y_load (v := .int .i64 B.gen) rfl rfl rfl Try.isAgg3 (fun W hW => hW.get 3 rfl) (rfl)) ?_
  simp only [Act.put, z1, z2, z3]
  refine pl M19 (y_add (r := B.gen + 1) rfl rfl rfl rfl (rfl) (by omega)) ?_
  simp only [Act.put, z1, z2, z3]
  refine pl M19 (y_nil rfl rfl rfl) ?_
  simp only [Act.put, z1, z2, z3]
  refine pl M19 (y_fa (r := 3) rfl rfl rfl Try.underlying48 rfl Try.sizeOf3 rfl) ?_
  simp only [Act.put, z1, z2, z3]
  refine pe rfl (fun K hK => ?_)
  refine e_store M19 3 (v := .int .i64 (B.gen + 1)) rfl rfl rfl rfl rfl rfl Try.sizeOf3 rfl (show (3 : Nat) < 7 by decide) ?_
  intro w21 (M21 : Mem w _ w21 [disk E p pg mb qv', blk f 96 (fC ({ V with s := pubS V (0) } : FV) p), blk ga 50 ([.int .i64 2, .int .i64 n, .slice ao nn c]), blk b 48 ([lv, kv, .int .i64 V.next, .int .i64 (B.gen + 1), .int .i64 0, .int .i64 B.inMark, .int .i64 B.inHead]), rows lv vs B.loads, lst 3 1 kv B.ps.length B.kinds])
  clear M19
  refine hK.out _ _ ?_
  clear hK K
  simp only [Act.put, z1, z2, z3]
  refine wpList_nil ?_
  refine hK20 _ _ ?_
  clear hK20
  refine wp_seq_k (fun K22 hK22 => ?_)
  have M23 := M21.drew
  refine held_begin (fun W => Mem w (foots [disk D p pg mb qv, blk f 96 (fC V p), book B b ⟨lv, kv, vs⟩]) W [blk b 48 ([lv, kv, .int .i64 V.next, .int .i64 (B.gen + 1), .int .i64 0, .int .i64 B.inMark, .int .i64 B.inHead])]) (by kernel_rfl) (M23.arr [3] (by decide)) (fun hS => ?_)
  refine held_take 0 _ rfl (by kernel_rfl) (by kernel_rfl) (by kernel_rfl) (y_move (v := .int .i64 0) rfl rfl rfl) hS ?_
  simp only [Act.put, z1, z2, z3]
  refine held_take 1 _ rfl (by kernel_rfl) (by kernel_rfl) (by kernel_rfl) (y_move (v := .pointer (some ⟨f, 0, none⟩)) rfl rfl rfl) hS ?_
  simp only [Act.put, z1, z2, z3]
  refine held_take 3 _ rfl (by kernel_rfl) (by kernel_rfl) (by kernel_rfl) (y_move (v := .pointer (some ⟨f, 0, none⟩)) rfl rfl rfl) hS ?_
  simp only [Act.put, z1, z2, z3]
  refine held_take 6 _ rfl (by kernel_rfl) (by kernel_rfl) (by kernel_rfl) (y_move (v := .pointer (some ⟨b, 0, none⟩)) rfl rfl rfl) hS ?_
  simp only [Act.put, z1, z2, z3]
  refine held_take 7 _ rfl (by kernel_rfl) (by kernel_rfl) (by kernel_rfl) (y_nil rfl rfl rfl) hS ?_
  simp only [Act.put, z1, z2, z3]
  refine held_take 8 _ rfl (by kernel_rfl) (by kernel_rfl) (by kernel_rfl) (y_fa (r := 3) rfl rfl rfl Try.underlying48 rfl Try.sizeOf3 rfl) hS ?_
  simp only [Act.put, z1, z2, z3]
  refine held_take 9 _ rfl (by kernel_rfl) (by kernel_rfl) (by kernel_rfl) (y_load (v := .int .i64 (B.gen + 1)) rfl rfl rfl Try.isAgg3 (fun W hW => hW.get 0 rfl) (rfl)) hS ?_
  simp only [Act.put, z1, z2, z3]
  refine held_take 10 _ rfl (by kernel_rfl) (by kernel_rfl) (by kernel_rfl) (y_move (v := .int .i64 V.next) rfl rfl rfl) hS ?_
  simp only [Act.put, z1, z2, z3]
  refine held_take 11 _ rfl (by kernel_rfl) (by kernel_rfl) (by kernel_rfl) (y_move (v := .int .i64 0) rfl rfl rfl) hS ?_
  simp only [Act.put, z1, z2, z3]
  refine held_take 12 _ rfl (by kernel_rfl) (by kernel_rfl) (by kernel_rfl) (y_move (v := .pointer (some ⟨p, 0, none⟩)) rfl rfl rfl) hS ?_
  simp only [Act.put, z1, z2, z3]
  have hX24 : Mem w _ w21.drew ([disk E p pg mb qv', blk f 96 (fC ({ V with s := pubS V (0) } : FV) p)] ++ [blk ga 50 ([.int .i64 2, .int .i64 n, .slice ao nn c]), blk b 48 ([lv, kv, .int .i64 V.next, .int .i64 (B.gen + 1), .int .i64 0, .int .i64 B.inMark, .int .i64 B.inHead]), rows lv vs B.loads, lst 3 1 kv B.ps.length B.kinds]) := M23.arr [0, 1, 2, 3, 4, 5] (by decide)
  refine held_step 2 (by kernel_rfl) rfl (by rfl) (fun K hK => ?_)
  refine e_call 19 [.pointer (some ⟨f, 0, none⟩)] rfl rfl Try.call19 (super_any (Mem.here hX24)) ?_
  rintro e w24 ⟨rfl, H24⟩
  have M24 : Mem w _ w24 [disk E p pg mb qv', blk f 96 (fC ({ V with s := pubS V (0) } : FV) p), blk ga 50 ([.int .i64 2, .int .i64 n, .slice ao nn c]), blk b 48 ([lv, kv, .int .i64 V.next, .int .i64 (B.gen + 1), .int .i64 0, .int .i64 B.inMark, .int .i64 B.inHead]), rows lv vs B.loads, lst 3 1 kv B.ps.length B.kinds] := Mem.frame hX24 H24
  refine ⟨_, rfl, ?_⟩
  refine hK.out _ _ (M24.arr [3] (by decide)) (fun hS => ?_)
  clear hK K
  simp only [Act.put, z1, z2, z3]
  have hX25 : Mem w _ w24 ([disk E p pg mb qv', blk f 96 (fC ({ V with s := pubS V (0) } : FV) p)] ++ [blk ga 50 ([.int .i64 2, .int .i64 n, .slice ao nn c]), blk b 48 ([lv, kv, .int .i64 V.next, .int .i64 (B.gen + 1), .int .i64 0, .int .i64 B.inMark, .int .i64 B.inHead]), rows lv vs B.loads, lst 3 1 kv B.ps.length B.kinds]) := M24.arr [0, 1, 2, 3, 4, 5] (by decide)
  refine held_step 4 (by kernel_rfl) rfl (by rfl) (fun K hK => ?_)
  refine e_call 19 [.pointer (some ⟨f, 0, none⟩)] rfl rfl Try.call19 (super_any (Mem.here hX25)) ?_
  rintro e w25 ⟨rfl, H25⟩
  have M25 : Mem w _ w25 [disk E p pg mb qv', blk f 96 (fC ({ V with s := pubS V (0) } : FV) p), blk ga 50 ([.int .i64 2, .int .i64 n, .slice ao nn c]), blk b 48 ([lv, kv, .int .i64 V.next, .int .i64 (B.gen + 1), .int .i64 0, .int .i64 B.inMark, .int .i64 B.inHead]), rows lv vs B.loads, lst 3 1 kv B.ps.length B.kinds] := Mem.frame hX25 H25
  refine ⟨_, rfl, ?_⟩
  refine hK.out _ _ (M25.arr [3] (by decide)) (fun hS => ?_)
  clear hK K
  simp only [Act.put, z1, z2, z3]
  refine held_take 5 _ rfl (by kernel_rfl) (by kernel_rfl) (by kernel_rfl) (y_field1 (v := .int .i64 V.s.width) rfl rfl rfl Try.underlying37 rfl Try.isAgg3 rfl) hS ?_
  simp only [Act.put, z1, z2, z3]
  have hX26 : Mem w _ w25 ([disk E p pg mb qv'] ++ [blk f 96 (fC ({ V with s := pubS V (0) } : FV) p), blk ga 50 ([.int .i64 2, .int .i64 n, .slice ao nn c]), blk b 48 ([lv, kv, .int .i64 V.next, .int .i64 (B.gen + 1), .int .i64 0, .int .i64 B.inMark, .int .i64 B.inHead]), rows lv vs B.loads, lst 3 1 kv B.ps.length B.kinds]) := M25.arr [0, 1, 2, 3, 4, 5] (by decide)
  refine held_step 13 (by kernel_rfl) rfl (by rfl) (fun K hK => ?_)
  refine e_call 24 [.pointer (some ⟨p, 0, none⟩)] rfl rfl Try.call24 (pages_any (Mem.here hX26)) ?_
  rintro e w26 ⟨rfl, H26⟩
  have M26 : Mem w _ w26 [disk E p pg mb qv', blk f 96 (fC ({ V with s := pubS V (0) } : FV) p), blk ga 50 ([.int .i64 2, .int .i64 n, .slice ao nn c]), blk b 48 ([lv, kv, .int .i64 V.next, .int .i64 (B.gen + 1), .int .i64 0, .int .i64 B.inMark, .int .i64 B.inHead]), rows lv vs B.loads, lst 3 1 kv B.ps.length B.kinds] := Mem.frame hX26 H26
  refine ⟨_, rfl, ?_⟩
  refine hK.out _ _ (M26.arr [3] (by decide)) (fun hS => ?_)
  clear hK K
  simp only [Act.put, z1, z2, z3]
  refine held_take 14 _ rfl (by kernel_rfl) (by kernel_rfl) (by kernel_rfl) (y_build (ps := [(0, .tmp 127), (1, .tmp 131), (2, .tmp 132), (3, .tmp 133), (4, .tmp 135)]) (pv := [(0, .int .i64 V.s.width), (1, .int .i64 (B.gen + 1)), (2, .int .i64 V.next), (3, .int .i64 0), (4, .int .i64 (E.pages.length : Int))]) (cs := [.int .i64 V.s.width, .int .i64 (B.gen + 1), .int .i64 V.next, .int .i64 (0), .int .i64 (E.pages.length : Int)]) rfl rfl rfl (by kernel_rfl)) hS ?_
  simp only [Act.put, z1, z2, z3]
  refine held_take 15 _ rfl (by kernel_rfl) (by kernel_rfl) (by kernel_rfl) (y_eqs (r := true) rfl rfl rfl rfl sup_guard (fun W => by rw [hcs]; exact sup_same _ W)) hS ?_
  simp only [Act.put, z1, z2, z3]
  refine held_take 16 _ rfl (by kernel_rfl) (by kernel_rfl) (by kernel_rfl) (y_assign (v := .int .i64 0) rfl rfl rfl) hS ?_
  simp only [Act.put, z1, z2, z3]
  refine held_take 17 _ rfl (by kernel_rfl) (by kernel_rfl) (by kernel_rfl) (y_assign (v := .bool true) rfl rfl rfl) hS ?_
  simp only [Act.put, z1, z2, z3]
  refine held_done (by kernel_rfl) ?_ _
  refine hK22 _ _ ?_
  clear hK22
  refine wp_ret ?_
  try simp only [Exit.inBlock, Exit.then]
  refine bodyPost_ret (v := .tuple #[.int .i64 0, .bool true]) (res2 rfl rfl rfl) rfl ?_
  have N : Mem _ _ _ [book ({ B with mark := V.next, head := 0, gen := B.gen + 1 } : BV) b ⟨lv, kv, vs⟩, _, _] := book_close (M26.arr [3, 4, 5, 0, 1] (by decide))
  exact ⟨E, qv', ⟨lv, kv, vs⟩, rfl, N.arr [1, 2, 0] (by decide), hE⟩
set_option maxRecDepth 100000 in
set_option maxHeartbeats 4000000 in
theorem act_pub_down_z1 {D : DV} {V : FV} {B : BV} {p pg mb f b : Nat} {qv : Value} {bx : BX} {w : World} (hM : Mem w (foots [disk D p pg mb qv, blk f 96 (fC V p), book B b bx]) w [disk D p pg mb qv, blk f 96 (fC V p), book B b bx]) (n : Int) (ao : Option Addr) (nn c : Nat) {ps : Pgs} (hI : Inv D V ps) (hg : V.s.gen = B.gen) (hgm : V.s.gen < 1099511627776) (hq : D.q.length ≤ 400000000000) (h1 : n % 2 = 1) (h2 : ¬ 2 < V.next) (h0 : (pubR D V (0)).2 = 2) (hpp : (pubR D V (0)).1.pages.length = D.pages.length) : Calls Try.prog 27 #[.pointer (some ⟨b, 0, none⟩), .pointer (some ⟨p, 0, none⟩), .pointer (some ⟨f, 0, none⟩), .agg ([.int .i64 2, .int .i64 n, .slice ao nn c]).toArray] w fun e w' => ∃ E qv' bx', e = .returned (.tuple #[.int .i64 2, .bool true]) ∧ Mem w (foots [disk D p pg mb qv, blk f 96 (fC V p), book B b bx]) w' [disk E p pg mb qv', blk f 96 (fC V p), book ({ B with inMark := V.next, inHead := 0 } : BV) b bx'] ∧ E = (pubR D V (0)).1 := by
  obtain ⟨lv, kv, vs⟩ := bx
  have M0 := book_open (hM.arr [2, 0, 1] (by decide))
  clear hM
  have M : Mem w _ w [disk D p pg mb qv, blk f 96 (fC V p), blk b 48 (bC B ⟨lv, kv, vs⟩), rows lv vs B.loads, lst 3 1 kv B.ps.length B.kinds] := M0.arr [3, 4, 0, 1, 2] (by decide)
  clear M0
  have hn2 := hI.next2
  have hnp := hI.nextp
  have hhi := hI.ok.hi
  go_enter Try.func27, Try.ntmps27
  refine wp_seq_k (fun K1 hK1 => ?_)
  refine wp_region_lit ?_
  refine pe rfl (fun K hK => ?_)
  refine e_box M ([.int .i64 2, .int .i64 n, .slice ao nn c]) rfl rfl ?_
  intro ga w2 (M2 : Mem w _ w2 [blk ga 50 ([.int .i64 2, .int .i64 n, .slice ao nn c]), disk D p pg mb qv, blk f 96 (fC V p), blk b 48 (bC B ⟨lv, kv, vs⟩), rows lv vs B.loads, lst 3 1 kv B.ps.length B.kinds])
  clear M
  refine hK.out _ _ ?_
  clear hK K
  simp only [Act.put, z1, z2, z3]
  refine pl M2 (y_assign (v := .int .i64 0) rfl rfl rfl) ?_
  simp only [Act.put, z1, z2, z3]
  refine pl M2 (y_assign (v := .bool false) rfl rfl rfl) ?_
  simp only [Act.put, z1, z2, z3]
  refine wpList_nil ?_
  refine hK1 _ _ ?_
  clear hK1
  refine wp_seq_k (fun K3 hK3 => ?_)
  refine wp_region_lit ?_
  refine pl M2 (y_move (v := .pointer (some ⟨f, 0, none⟩)) rfl rfl rfl) ?_
  simp only [Act.put, z1, z2, z3]
  have hX4 : Mem w _ w2 ([disk D p pg mb qv, blk f 96 (fC V p)] ++ [blk ga 50 ([.int .i64 2, .int .i64 n, .slice ao nn c]), blk b 48 (bC B ⟨lv, kv, vs⟩), rows lv vs B.loads, lst 3 1 kv B.ps.length B.kinds]) := M2.arr [1, 2, 0, 3, 4, 5] (by decide)
  refine pe rfl (fun K hK => ?_)
  refine e_call 20 [.pointer (some ⟨f, 0, none⟩)] rfl rfl Try.call20 (next_any (Mem.here hX4)) ?_
  rintro e w4 ⟨rfl, H4⟩
  have M4 : Mem w _ w4 [disk D p pg mb qv, blk f 96 (fC V p), blk ga 50 ([.int .i64 2, .int .i64 n, .slice ao nn c]), blk b 48 (bC B ⟨lv, kv, vs⟩), rows lv vs B.loads, lst 3 1 kv B.ps.length B.kinds] := Mem.frame hX4 H4
  refine ⟨_, rfl, ?_⟩
  refine hK.out _ _ ?_
  clear hK K
  simp only [Act.put, z1, z2, z3]
  refine pl M4 (y_assign (v := .int .i64 V.next) rfl rfl rfl) ?_
  simp only [Act.put, z1, z2, z3]
  refine wpList_nil ?_
  refine hK3 _ _ ?_
  clear hK3
  refine wp_seq_k (fun K5 hK5 => ?_)
  refine wp_seq_k (fun K6 hK6 => ?_)
  refine wp_region_lit ?_
  refine pl M4 (y_fa (r := 0) rfl rfl rfl Try.underlying50 rfl Try.sizeOf3 rfl) ?_
  simp only [Act.put, z1, z2, z3]
  refine pl M4 (y_load (v := .int .i64 2) rfl rfl rfl Try.isAgg3 (fun W hW => hW.get 2 rfl) (rfl)) ?_
  simp only [Act.put, z1, z2, z3]
  refine wpList_nil ?_
  refine hK6 _ _ ?_
  clear hK6
  refine wp_block ?_
  refine wp_seq_k (fun K7 hK7 => ?_)
  refine wp_region_lit ?_
  refine pl M4 (y_eql (b := false) rfl rfl rfl rfl (decide_eq_false (by decide))) ?_
  simp only [Act.put, z1, z2, z3]
  refine pl M4 (y_assign (v := .bool false) rfl rfl rfl) ?_
  simp only [Act.put, z1, z2, z3]
  refine wpList_nil ?_
  refine hK7 _ _ ?_
  clear hK7
  refine wp_cond_false rfl ?_
  refine wp_seq_k (fun K8 hK8 => ?_)
  refine wp_region_lit ?_
  refine pl M4 (y_eql (b := true) rfl rfl rfl rfl (decide_eq_true (by decide))) ?_
  simp only [Act.put, z1, z2, z3]
  refine pl M4 (y_assign (v := .bool true) rfl rfl rfl) ?_
  simp only [Act.put, z1, z2, z3]
  refine wpList_nil ?_
  refine hK8 _ _ ?_
  clear hK8
  refine wp_cond_true rfl ?_
  refine wp_seq_k (fun K9 hK9 => ?_)
  refine wp_region_lit ?_
  refine pl M4 (y_assign (v := .int .i64 0) rfl rfl rfl) ?_
  simp only [Act.put, z1, z2, z3]
  refine wpList_nil ?_
  refine hK9 _ _ ?_
  clear hK9
  refine wp_seq_k (fun K10 hK10 => ?_)
  refine wp_seq_k (fun K11 hK11 => ?_)
  refine wp_region_lit ?_
  refine pl M4 (y_fa (r := 1) rfl rfl rfl Try.underlying50 rfl Try.sizeOf3 rfl) ?_
  simp only [Act.put, z1, z2, z3]
  refine pl M4 (y_load (v := .int .i64 n) rfl rfl rfl Try.isAgg3 (fun W hW => hW.get 2 rfl) (rfl)) ?_
  simp only [Act.put, z1, z2, z3]
  refine pe rfl (fun K hK => ?_)
  refine e_call 13 [.int .i64 n, .int .i64 2] rfl rfl Try.call13 (place3_any n 2 (by decide) (by decide) _) ?_
  rintro e w12 ⟨rfl, H12⟩
  have M12 : Mem w _ w12 [disk D p pg mb qv, blk f 96 (fC V p), blk ga 50 ([.int .i64 2, .int .i64 n, .slice ao nn c]), blk b 48 (bC B ⟨lv, kv, vs⟩), rows lv vs B.loads, lst 3 1 kv B.ps.length B.kinds] := M4.step H12
  refine ⟨_, rfl, ?_⟩
  refine hK.out _ _ ?_
  clear hK K
  simp only [Act.put, z1, z2, z3]
  refine pl M12 (y_eql (b := true) rfl rfl rfl rfl (decide_eq_true h1)) ?_
  simp only [Act.put, z1, z2, z3]
  refine pl M12 (y_move (v := .bool true) rfl rfl rfl) ?_
  simp only [Act.put, z1, z2, z3]
  refine pl M12 (y_move (v := .int .i64 V.next) rfl rfl rfl) ?_
  simp only [Act.put, z1, z2, z3]
  refine pl M12 (y_gtr (b := false) rfl rfl rfl rfl (decide_eq_false h2)) ?_
  simp only [Act.put, z1, z2, z3]
  refine pl M12 (y_pickT (v := .bool false) rfl rfl rfl rfl) ?_
  simp only [Act.put, z1, z2, z3]
  refine wpList_nil ?_
  refine hK11 _ _ ?_
  clear hK11
  refine wp_cond_false rfl ?_
  refine wp_skip ?_
  refine hK10 _ _ ?_
  clear hK10
  refine wp_seq_k (fun K13 hK13 => ?_)
  refine wp_region_lit ?_
  refine pl M12 (y_move (v := .pointer (some ⟨f, 0, none⟩)) rfl rfl rfl) ?_
  simp only [Act.put, z1, z2, z3]
  refine pl M12 (y_move (v := .int .i64 0) rfl rfl rfl) ?_
  simp only [Act.put, z1, z2, z3]
  have hX14 : Mem w _ w12 ([disk D p pg mb qv, blk f 96 (fC V p)] ++ [blk ga 50 ([.int .i64 2, .int .i64 n, .slice ao nn c]), blk b 48 (bC B ⟨lv, kv, vs⟩), rows lv vs B.loads, lst 3 1 kv B.ps.length B.kinds]) := M12.arr [0, 1, 2, 3, 4, 5] (by decide)
  refine pe rfl (fun K hK => ?_)
  refine e_call 28 [.pointer (some ⟨f, 0, none⟩), .int .i64 0] rfl rfl Try.call28 (xpub_down (Mem.here hX14) hI (0) hq h0 hpp) ?_
  rintro e w14 ⟨E, qv', rfl, H14, hE, hpl⟩
  have M14 : Mem w _ w14 [disk E p pg mb qv', blk f 96 (fC V p), blk ga 50 ([.int .i64 2, .int .i64 n, .slice ao nn c]), blk b 48 (bC B ⟨lv, kv, vs⟩), rows lv vs B.loads, lst 3 1 kv B.ps.length B.kinds] := Mem.frame hX14 H14
  refine ⟨_, rfl, ?_⟩
  refine hK.out _ _ ?_
  clear hK K
  simp only [Act.put, z1, z2, z3]
  refine pl M14 (y_assign (v := .int .i64 2) rfl rfl rfl) ?_
  simp only [Act.put, z1, z2, z3]
  refine wpList_nil ?_
  refine hK13 _ _ ?_
  clear hK13
  refine wp_seq_k (fun K15 hK15 => ?_)
  refine wp_seq_k (fun K16 hK16 => ?_)
  refine wp_region_lit ?_
  refine pl M14 (y_move (v := .int .i64 2) rfl rfl rfl) ?_
  simp only [Act.put, z1, z2, z3]
  refine pl M14 (y_eql (b := false) rfl rfl rfl rfl (decide_eq_false (by decide))) ?_
  simp only [Act.put, z1, z2, z3]
  refine wpList_nil ?_
  refine hK16 _ _ ?_
  clear hK16
  refine wp_cond_false rfl ?_
  refine wp_skip ?_
  refine hK15 _ _ ?_
  clear hK15
  refine wp_seq_k (fun K17 hK17 => ?_)
  refine wp_region_lit ?_
  refine pl M14 (y_move (v := .pointer (some ⟨b, 0, none⟩)) rfl rfl rfl) ?_
  simp only [Act.put, z1, z2, z3]
  refine pl M14 (y_move (v := .pointer (some ⟨b, 0, none⟩)) rfl rfl rfl) ?_
  simp only [Act.put, z1, z2, z3]
  refine pl M14 (y_move (v := .int .i64 V.next) rfl rfl rfl) ?_
  simp only [Act.put, z1, z2, z3]
  refine pl M14 (y_move (v := .int .i64 0) rfl rfl rfl) ?_
  simp only [Act.put, z1, z2, z3]
  refine pl M14 (y_nil rfl rfl rfl) ?_
  simp only [Act.put, z1, z2, z3]
  refine pl M14 (y_fa (r := 5) rfl rfl rfl Try.underlying48 rfl Try.sizeOf3 rfl) ?_
  simp only [Act.put, z1, z2, z3]
  refine pe rfl (fun K hK => ?_)
  refine e_store M14 3 (v := .int .i64 V.next) rfl rfl rfl rfl rfl rfl Try.sizeOf3 rfl (show (5 : Nat) < 7 by decide) ?_
  intro w18 (M18 : Mem w _ w18 [disk E p pg mb qv', blk f 96 (fC V p), blk ga 50 ([.int .i64 2, .int .i64 n, .slice ao nn c]), blk b 48 ([lv, kv, .int .i64 B.mark, .int .i64 B.gen, .int .i64 B.head, .int .i64 V.next, .int .i64 B.inHead]), rows lv vs B.loads, lst 3 1 kv B.ps.length B.kinds])
  clear M14
  refine hK.out _ _ ?_
  clear hK K
  simp only [Act.put, z1, z2, z3]
  refine pl M18 (y_nil rfl rfl rfl) ?_
  simp only [Act.put, z1, z2, z3]
  refine pl M18 (y_fa (r := 6) rfl rfl rfl Try.underlying48 rfl Try.sizeOf3 rfl) ?_
  simp only [Act.put, z1, z2, z3]
  refine pe rfl (fun K hK => ?_)
  refine e_store M18 3 (v := .int .i64 0) rfl rfl rfl rfl rfl rfl Try.sizeOf3 rfl (show (6 : Nat) < 7 by decide) ?_
  intro w19 (M19 : Mem w _ w19 [disk E p pg mb qv', blk f 96 (fC V p), blk ga 50 ([.int .i64 2, .int .i64 n, .slice ao nn c]), blk b 48 ([lv, kv, .int .i64 B.mark, .int .i64 B.gen, .int .i64 B.head, .int .i64 V.next, .int .i64 0]), rows lv vs B.loads, lst 3 1 kv B.ps.length B.kinds])
  clear M18
  refine hK.out _ _ ?_
  clear hK K
  simp only [Act.put, z1, z2, z3]
  refine wpList_nil ?_
  refine hK17 _ _ ?_
  clear hK17
  refine wp_seq_k (fun K20 hK20 => ?_)
  refine wp_region_lit ?_
  refine pl M19 (y_move (v := .int .i64 2) rfl rfl rfl) ?_
  simp only [Act.put, z1, z2, z3]
  refine pl M19 (y_move (v := .int .i64 2) rfl rfl rfl) ?_
  simp only [Act.put, z1, z2, z3]
  refine pl M19 (y_eql (b := true) rfl rfl rfl rfl (decide_eq_true (by decide))) ?_
  simp only [Act.put, z1, z2, z3]
  refine pl M19 (y_assign (v := .int .i64 2) rfl rfl rfl) ?_
  simp only [Act.put, z1, z2, z3]
  refine pl M19 (y_assign (v := .bool true) rfl rfl rfl) ?_
  simp only [Act.put, z1, z2, z3]
  refine wpList_nil ?_
  refine hK20 _ _ ?_
  clear hK20
  refine wp_ret ?_
  try simp only [Exit.inBlock, Exit.then]
  refine bodyPost_ret (v := .tuple #[.int .i64 2, .bool true]) (res2 rfl rfl rfl) rfl ?_
  have N : Mem _ _ _ [book ({ B with inMark := V.next, inHead := 0 } : BV) b ⟨lv, kv, vs⟩, _, _] := book_close (M19.arr [3, 4, 5, 0, 1] (by decide))
  exact ⟨E, qv', ⟨lv, kv, vs⟩, rfl, N.arr [1, 2, 0] (by decide), hE⟩
set_option maxRecDepth 100000 in
set_option maxHeartbeats 4000000 in
theorem act_pub_go_z2 {D : DV} {V : FV} {B : BV} {p pg mb f b : Nat} {qv : Value} {bx : BX} {w : World} (hM : Mem w (foots [disk D p pg mb qv, blk f 96 (fC V p), book B b bx]) w [disk D p pg mb qv, blk f 96 (fC V p), book B b bx]) (n : Int) (ao : Option Addr) (nn c : Nat) {ps : Pgs} (hI : Inv D V ps) (hg : V.s.gen = B.gen) (hgm : V.s.gen < 1099511627776) (hq : D.q.length ≤ 400000000000) (h1 : ¬ n % 2 = 1) (h0 : (pubR D V (0)).2 = 0) (hpp : (pubR D V (0)).1.pages.length = D.pages.length) : Calls Try.prog 27 #[.pointer (some ⟨b, 0, none⟩), .pointer (some ⟨p, 0, none⟩), .pointer (some ⟨f, 0, none⟩), .agg ([.int .i64 2, .int .i64 n, .slice ao nn c]).toArray] w fun e w' => ∃ E qv' bx', e = .returned (.tuple #[.int .i64 0, .bool true]) ∧ Mem w (foots [disk D p pg mb qv, blk f 96 (fC V p), book B b bx]) w' [disk E p pg mb qv', blk f 96 (fC ({ V with s := pubS V (0) } : FV) p), book ({ B with mark := V.next, head := 0, gen := B.gen + 1 } : BV) b bx'] ∧ E = (pubR D V (0)).1 := by
  obtain ⟨lv, kv, vs⟩ := bx
  have M0 := book_open (hM.arr [2, 0, 1] (by decide))
  clear hM
  have M : Mem w _ w [disk D p pg mb qv, blk f 96 (fC V p), blk b 48 (bC B ⟨lv, kv, vs⟩), rows lv vs B.loads, lst 3 1 kv B.ps.length B.kinds] := M0.arr [3, 4, 0, 1, 2] (by decide)
  clear M0
  have hpg := hI.plat.pages
  have hg1 := hI.plat.gen0
  have hn2 := hI.next2
  have hnp := hI.nextp
  have hhi := hI.ok.hi
  go_enter Try.func27, Try.ntmps27
  refine wp_seq_k (fun K1 hK1 => ?_)
  refine wp_region_lit ?_
  refine pe rfl (fun K hK => ?_)
  refine e_box M ([.int .i64 2, .int .i64 n, .slice ao nn c]) rfl rfl ?_
  intro ga w2 (M2 : Mem w _ w2 [blk ga 50 ([.int .i64 2, .int .i64 n, .slice ao nn c]), disk D p pg mb qv, blk f 96 (fC V p), blk b 48 (bC B ⟨lv, kv, vs⟩), rows lv vs B.loads, lst 3 1 kv B.ps.length B.kinds])
  clear M
  refine hK.out _ _ ?_
  clear hK K
  simp only [Act.put, z1, z2, z3]
  refine pl M2 (y_assign (v := .int .i64 0) rfl rfl rfl) ?_
  simp only [Act.put, z1, z2, z3]
  refine pl M2 (y_assign (v := .bool false) rfl rfl rfl) ?_
  simp only [Act.put, z1, z2, z3]
  refine wpList_nil ?_
  refine hK1 _ _ ?_
  clear hK1
  refine wp_seq_k (fun K3 hK3 => ?_)
  refine wp_region_lit ?_
  refine pl M2 (y_move (v := .pointer (some ⟨f, 0, none⟩)) rfl rfl rfl) ?_
  simp only [Act.put, z1, z2, z3]
  have hX4 : Mem w _ w2 ([disk D p pg mb qv, blk f 96 (fC V p)] ++ [blk ga 50 ([.int .i64 2, .int .i64 n, .slice ao nn c]), blk b 48 (bC B ⟨lv, kv, vs⟩), rows lv vs B.loads, lst 3 1 kv B.ps.length B.kinds]) := M2.arr [1, 2, 0, 3, 4, 5] (by decide)
  refine pe rfl (fun K hK => ?_)
  refine e_call 20 [.pointer (some ⟨f, 0, none⟩)] rfl rfl Try.call20 (next_any (Mem.here hX4)) ?_
  rintro e w4 ⟨rfl, H4⟩
  have M4 : Mem w _ w4 [disk D p pg mb qv, blk f 96 (fC V p), blk ga 50 ([.int .i64 2, .int .i64 n, .slice ao nn c]), blk b 48 (bC B ⟨lv, kv, vs⟩), rows lv vs B.loads, lst 3 1 kv B.ps.length B.kinds] := Mem.frame hX4 H4
  refine ⟨_, rfl, ?_⟩
  refine hK.out _ _ ?_
  clear hK K
  simp only [Act.put, z1, z2, z3]
  refine pl M4 (y_assign (v := .int .i64 V.next) rfl rfl rfl) ?_
  simp only [Act.put, z1, z2, z3]
  refine wpList_nil ?_
  refine hK3 _ _ ?_
  clear hK3
  refine wp_seq_k (fun K5 hK5 => ?_)
  refine wp_seq_k (fun K6 hK6 => ?_)
  refine wp_region_lit ?_
  refine pl M4 (y_fa (r := 0) rfl rfl rfl Try.underlying50 rfl Try.sizeOf3 rfl) ?_
  simp only [Act.put, z1, z2, z3]
  refine pl M4 (y_load (v := .int .i64 2) rfl rfl rfl Try.isAgg3 (fun W hW => hW.get 2 rfl) (rfl)) ?_
  simp only [Act.put, z1, z2, z3]
  refine wpList_nil ?_
  refine hK6 _ _ ?_
  clear hK6
  refine wp_block ?_
  refine wp_seq_k (fun K7 hK7 => ?_)
  refine wp_region_lit ?_
  refine pl M4 (y_eql (b := false) rfl rfl rfl rfl (decide_eq_false (by decide))) ?_
  simp only [Act.put, z1, z2, z3]
  refine pl M4 (y_assign (v := .bool false) rfl rfl rfl) ?_
  simp only [Act.put, z1, z2, z3]
  refine wpList_nil ?_
  refine hK7 _ _ ?_
  clear hK7
  refine wp_cond_false rfl ?_
  refine wp_seq_k (fun K8 hK8 => ?_)
  refine wp_region_lit ?_
  refine pl M4 (y_eql (b := true) rfl rfl rfl rfl (decide_eq_true (by decide))) ?_
  simp only [Act.put, z1, z2, z3]
  refine pl M4 (y_assign (v := .bool true) rfl rfl rfl) ?_
  simp only [Act.put, z1, z2, z3]
  refine wpList_nil ?_
  refine hK8 _ _ ?_
  clear hK8
  refine wp_cond_true rfl ?_
  refine wp_seq_k (fun K9 hK9 => ?_)
  refine wp_region_lit ?_
  refine pl M4 (y_assign (v := .int .i64 0) rfl rfl rfl) ?_
  simp only [Act.put, z1, z2, z3]
  refine wpList_nil ?_
  refine hK9 _ _ ?_
  clear hK9
  refine wp_seq_k (fun K10 hK10 => ?_)
  refine wp_seq_k (fun K11 hK11 => ?_)
  refine wp_region_lit ?_
  refine pl M4 (y_fa (r := 1) rfl rfl rfl Try.underlying50 rfl Try.sizeOf3 rfl) ?_
  simp only [Act.put, z1, z2, z3]
  refine pl M4 (y_load (v := .int .i64 n) rfl rfl rfl Try.isAgg3 (fun W hW => hW.get 2 rfl) (rfl)) ?_
  simp only [Act.put, z1, z2, z3]
  refine pe rfl (fun K hK => ?_)
  refine e_call 13 [.int .i64 n, .int .i64 2] rfl rfl Try.call13 (place3_any n 2 (by decide) (by decide) _) ?_
  rintro e w12 ⟨rfl, H12⟩
  have M12 : Mem w _ w12 [disk D p pg mb qv, blk f 96 (fC V p), blk ga 50 ([.int .i64 2, .int .i64 n, .slice ao nn c]), blk b 48 (bC B ⟨lv, kv, vs⟩), rows lv vs B.loads, lst 3 1 kv B.ps.length B.kinds] := M4.step H12
  refine ⟨_, rfl, ?_⟩
  refine hK.out _ _ ?_
  clear hK K
  simp only [Act.put, z1, z2, z3]
  refine pl M12 (y_eql (b := false) rfl rfl rfl rfl (decide_eq_false h1)) ?_
  simp only [Act.put, z1, z2, z3]
  refine pl M12 (y_move (v := .bool false) rfl rfl rfl) ?_
  simp only [Act.put, z1, z2, z3]
  with_reducible refine pskip ?_ ?_
  · rfl
  simp only [Act.put, z1, z2, z3]
  with_reducible refine pskip ?_ ?_
  · rfl
  simp only [Act.put, z1, z2, z3]
  refine pl M12 (y_pickF (v := .bool false) rfl rfl rfl rfl) ?_
  simp only [Act.put, z1, z2, z3]
  refine wpList_nil ?_
  refine hK11 _ _ ?_
  clear hK11
  refine wp_cond_false rfl ?_
  refine wp_skip ?_
  refine hK10 _ _ ?_
  clear hK10
  refine wp_seq_k (fun K13 hK13 => ?_)
  refine wp_region_lit ?_
  refine pl M12 (y_move (v := .pointer (some ⟨f, 0, none⟩)) rfl rfl rfl) ?_
  simp only [Act.put, z1, z2, z3]
  refine pl M12 (y_move (v := .int .i64 0) rfl rfl rfl) ?_
  simp only [Act.put, z1, z2, z3]
  have hX14 : Mem w _ w12 ([disk D p pg mb qv, blk f 96 (fC V p)] ++ [blk ga 50 ([.int .i64 2, .int .i64 n, .slice ao nn c]), blk b 48 (bC B ⟨lv, kv, vs⟩), rows lv vs B.loads, lst 3 1 kv B.ps.length B.kinds]) := M12.arr [0, 1, 2, 3, 4, 5] (by decide)
  refine pe rfl (fun K hK => ?_)
  refine e_call 28 [.pointer (some ⟨f, 0, none⟩), .int .i64 0] rfl rfl Try.call28 (xpub_go (Mem.here hX14) hI (0) hq h0 hpp) ?_
  rintro e w14 ⟨E, qv', rfl, H14, hE, hpl⟩
  have M14 : Mem w _ w14 [disk E p pg mb qv', blk f 96 (fC ({ V with s := pubS V (0) } : FV) p), blk ga 50 ([.int .i64 2, .int .i64 n, .slice ao nn c]), blk b 48 (bC B ⟨lv, kv, vs⟩), rows lv vs B.loads, lst 3 1 kv B.ps.length B.kinds] := Mem.frame hX14 H14
  have hcs : [.int .i64 V.s.width, .int .i64 (B.gen + 1), .int .i64 V.next, .int .i64 (0), .int .i64 (E.pages.length : Int)] = supC (pubS V (0)) := by rw [hpl, ← hg, ← hpg]; rfl
  refine ⟨_, rfl, ?_⟩
  refine hK.out _ _ ?_
  clear hK K
  simp only [Act.put, z1, z2, z3]
  refine pl M14 (y_assign (v := .int .i64 0) rfl rfl rfl) ?_
  simp only [Act.put, z1, z2, z3]
  refine wpList_nil ?_
  refine hK13 _ _ ?_
  clear hK13
  refine wp_seq_k (fun K15 hK15 => ?_)
  refine wp_seq_k (fun K16 hK16 => ?_)
  refine wp_region_lit ?_
  refine pl M14 (y_move (v := .int .i64 0) rfl rfl rfl) ?_
  simp only [Act.put, z1, z2, z3]
  refine pl M14 (y_eql (b := true) rfl rfl rfl rfl (decide_eq_true (by decide))) ?_
  simp only [Act.put, z1, z2, z3]
  refine wpList_nil ?_
  refine hK16 _ _ ?_
  clear hK16
  refine wp_cond_true rfl ?_
  refine wp_seq_k (fun K17 hK17 => ?_)
  refine wp_region_lit ?_
  refine pl M14 (y_move (v := .pointer (some ⟨b, 0, none⟩)) rfl rfl rfl) ?_
  simp only [Act.put, z1, z2, z3]
  refine pl M14 (y_move (v := .pointer (some ⟨b, 0, none⟩)) rfl rfl rfl) ?_
  simp only [Act.put, z1, z2, z3]
  refine pl M14 (y_move (v := .int .i64 V.next) rfl rfl rfl) ?_
  simp only [Act.put, z1, z2, z3]
  refine pl M14 (y_move (v := .int .i64 0) rfl rfl rfl) ?_
  simp only [Act.put, z1, z2, z3]
  refine pl M14 (y_nil rfl rfl rfl) ?_
  simp only [Act.put, z1, z2, z3]
  refine pl M14 (y_fa (r := 2) rfl rfl rfl Try.underlying48 rfl Try.sizeOf3 rfl) ?_
  simp only [Act.put, z1, z2, z3]
  refine pe rfl (fun K hK => ?_)
  refine e_store M14 3 (v := .int .i64 V.next) rfl rfl rfl rfl rfl rfl Try.sizeOf3 rfl (show (2 : Nat) < 7 by decide) ?_
  intro w18 (M18 : Mem w _ w18 [disk E p pg mb qv', blk f 96 (fC ({ V with s := pubS V (0) } : FV) p), blk ga 50 ([.int .i64 2, .int .i64 n, .slice ao nn c]), blk b 48 ([lv, kv, .int .i64 V.next, .int .i64 B.gen, .int .i64 B.head, .int .i64 B.inMark, .int .i64 B.inHead]), rows lv vs B.loads, lst 3 1 kv B.ps.length B.kinds])
  clear M14
  refine hK.out _ _ ?_
  clear hK K
  simp only [Act.put, z1, z2, z3]
  refine pl M18 (y_nil rfl rfl rfl) ?_
  simp only [Act.put, z1, z2, z3]
  refine pl M18 (y_fa (r := 4) rfl rfl rfl Try.underlying48 rfl Try.sizeOf3 rfl) ?_
  simp only [Act.put, z1, z2, z3]
  refine pe rfl (fun K hK => ?_)
  refine e_store M18 3 (v := .int .i64 0) rfl rfl rfl rfl rfl rfl Try.sizeOf3 rfl (show (4 : Nat) < 7 by decide) ?_
  intro w19 (M19 : Mem w _ w19 [disk E p pg mb qv', blk f 96 (fC ({ V with s := pubS V (0) } : FV) p), blk ga 50 ([.int .i64 2, .int .i64 n, .slice ao nn c]), blk b 48 ([lv, kv, .int .i64 V.next, .int .i64 B.gen, .int .i64 0, .int .i64 B.inMark, .int .i64 B.inHead]), rows lv vs B.loads, lst 3 1 kv B.ps.length B.kinds])
  clear M18
  refine hK.out _ _ ?_
  clear hK K
  simp only [Act.put, z1, z2, z3]
  refine wpList_nil ?_
  refine hK17 _ _ ?_
  clear hK17
  refine wp_seq_k (fun K20 hK20 => ?_)
  refine wp_region_lit ?_
  refine pl M19 (y_move (v := .pointer (some ⟨b, 0, none⟩)) rfl rfl rfl) ?_
  simp only [Act.put, z1, z2, z3]
  refine pl M19 (y_nil rfl rfl rfl) ?_
  simp only [Act.put, z1, z2, z3]
  refine pl M19 (y_fa (r := 3) rfl rfl rfl Try.underlying48 rfl Try.sizeOf3 rfl) ?_
  simp only [Act.put, z1, z2, z3]
  refine pl M19 (y_load (v := .int .i64 B.gen) rfl rfl rfl Try.isAgg3 (fun W hW => hW.get 3 rfl) (rfl)) ?_
  simp only [Act.put, z1, z2, z3]
  refine pl M19 (y_add (r := B.gen + 1) rfl rfl rfl rfl (rfl) (by omega)) ?_
  simp only [Act.put, z1, z2, z3]
  refine pl M19 (y_nil rfl rfl rfl) ?_
  simp only [Act.put, z1, z2, z3]
  refine pl M19 (y_fa (r := 3) rfl rfl rfl Try.underlying48 rfl Try.sizeOf3 rfl) ?_
  simp only [Act.put, z1, z2, z3]
  refine pe rfl (fun K hK => ?_)
  refine e_store M19 3 (v := .int .i64 (B.gen + 1)) rfl rfl rfl rfl rfl rfl Try.sizeOf3 rfl (show (3 : Nat) < 7 by decide) ?_
  intro w21 (M21 : Mem w _ w21 [disk E p pg mb qv', blk f 96 (fC ({ V with s := pubS V (0) } : FV) p), blk ga 50 ([.int .i64 2, .int .i64 n, .slice ao nn c]), blk b 48 ([lv, kv, .int .i64 V.next, .int .i64 (B.gen + 1), .int .i64 0, .int .i64 B.inMark, .int .i64 B.inHead]), rows lv vs B.loads, lst 3 1 kv B.ps.length B.kinds])
  clear M19
  refine hK.out _ _ ?_
  clear hK K
  simp only [Act.put, z1, z2, z3]
  refine wpList_nil ?_
  refine hK20 _ _ ?_
  clear hK20
  refine wp_seq_k (fun K22 hK22 => ?_)
  have M23 := M21.drew
  refine held_begin (fun W => Mem w (foots [disk D p pg mb qv, blk f 96 (fC V p), book B b ⟨lv, kv, vs⟩]) W [blk b 48 ([lv, kv, .int .i64 V.next, .int .i64 (B.gen + 1), .int .i64 0, .int .i64 B.inMark, .int .i64 B.inHead])]) (by kernel_rfl) (M23.arr [3] (by decide)) (fun hS => ?_)
  refine held_take 0 _ rfl (by kernel_rfl) (by kernel_rfl) (by kernel_rfl) (y_move (v := .int .i64 0) rfl rfl rfl) hS ?_
  simp only [Act.put, z1, z2, z3]
  refine held_take 1 _ rfl (by kernel_rfl) (by kernel_rfl) (by kernel_rfl) (y_move (v := .pointer (some ⟨f, 0, none⟩)) rfl rfl rfl) hS ?_
  simp only [Act.put, z1, z2, z3]
  refine held_take 3 _ rfl (by kernel_rfl) (by kernel_rfl) (by kernel_rfl) (y_move (v := .pointer (some ⟨f, 0, none⟩)) rfl rfl rfl) hS ?_
  simp only [Act.put, z1, z2, z3]
  refine held_take 6 _ rfl (by kernel_rfl) (by kernel_rfl) (by kernel_rfl) (y_move (v := .pointer (some ⟨b, 0, none⟩)) rfl rfl rfl) hS ?_
  simp only [Act.put, z1, z2, z3]
  refine held_take 7 _ rfl (by kernel_rfl) (by kernel_rfl) (by kernel_rfl) (y_nil rfl rfl rfl) hS ?_
  simp only [Act.put, z1, z2, z3]
  refine held_take 8 _ rfl (by kernel_rfl) (by kernel_rfl) (by kernel_rfl) (y_fa (r := 3) rfl rfl rfl Try.underlying48 rfl Try.sizeOf3 rfl) hS ?_
  simp only [Act.put, z1, z2, z3]
  refine held_take 9 _ rfl (by kernel_rfl) (by kernel_rfl) (by kernel_rfl) (y_load (v := .int .i64 (B.gen + 1)) rfl rfl rfl Try.isAgg3 (fun W hW => hW.get 0 rfl) (rfl)) hS ?_
  simp only [Act.put, z1, z2, z3]
  refine held_take 10 _ rfl (by kernel_rfl) (by kernel_rfl) (by kernel_rfl) (y_move (v := .int .i64 V.next) rfl rfl rfl) hS ?_
  simp only [Act.put, z1, z2, z3]
  refine held_take 11 _ rfl (by kernel_rfl) (by kernel_rfl) (by kernel_rfl) (y_move (v := .int .i64 0) rfl rfl rfl) hS ?_
  simp only [Act.put, z1, z2, z3]
  refine held_take 12 _ rfl (by kernel_rfl) (by kernel_rfl) (by kernel_rfl) (y_move (v := .pointer (some ⟨p, 0, none⟩)) rfl rfl rfl) hS ?_
  simp only [Act.put, z1, z2, z3]
  have hX24 : Mem w _ w21.drew ([disk E p pg mb qv', blk f 96 (fC ({ V with s := pubS V (0) } : FV) p)] ++ [blk ga 50 ([.int .i64 2, .int .i64 n, .slice ao nn c]), blk b 48 ([lv, kv, .int .i64 V.next, .int .i64 (B.gen + 1), .int .i64 0, .int .i64 B.inMark, .int .i64 B.inHead]), rows lv vs B.loads, lst 3 1 kv B.ps.length B.kinds]) := M23.arr [0, 1, 2, 3, 4, 5] (by decide)
  refine held_step 2 (by kernel_rfl) rfl (by rfl) (fun K hK => ?_)
  refine e_call 19 [.pointer (some ⟨f, 0, none⟩)] rfl rfl Try.call19 (super_any (Mem.here hX24)) ?_
  rintro e w24 ⟨rfl, H24⟩
  have M24 : Mem w _ w24 [disk E p pg mb qv', blk f 96 (fC ({ V with s := pubS V (0) } : FV) p), blk ga 50 ([.int .i64 2, .int .i64 n, .slice ao nn c]), blk b 48 ([lv, kv, .int .i64 V.next, .int .i64 (B.gen + 1), .int .i64 0, .int .i64 B.inMark, .int .i64 B.inHead]), rows lv vs B.loads, lst 3 1 kv B.ps.length B.kinds] := Mem.frame hX24 H24
  refine ⟨_, rfl, ?_⟩
  refine hK.out _ _ (M24.arr [3] (by decide)) (fun hS => ?_)
  clear hK K
  simp only [Act.put, z1, z2, z3]
  have hX25 : Mem w _ w24 ([disk E p pg mb qv', blk f 96 (fC ({ V with s := pubS V (0) } : FV) p)] ++ [blk ga 50 ([.int .i64 2, .int .i64 n, .slice ao nn c]), blk b 48 ([lv, kv, .int .i64 V.next, .int .i64 (B.gen + 1), .int .i64 0, .int .i64 B.inMark, .int .i64 B.inHead]), rows lv vs B.loads, lst 3 1 kv B.ps.length B.kinds]) := M24.arr [0, 1, 2, 3, 4, 5] (by decide)
  refine held_step 4 (by kernel_rfl) rfl (by rfl) (fun K hK => ?_)
  refine e_call 19 [.pointer (some ⟨f, 0, none⟩)] rfl rfl Try.call19 (super_any (Mem.here hX25)) ?_
  rintro e w25 ⟨rfl, H25⟩
  have M25 : Mem w _ w25 [disk E p pg mb qv', blk f 96 (fC ({ V with s := pubS V (0) } : FV) p), blk ga 50 ([.int .i64 2, .int .i64 n, .slice ao nn c]), blk b 48 ([lv, kv, .int .i64 V.next, .int .i64 (B.gen + 1), .int .i64 0, .int .i64 B.inMark, .int .i64 B.inHead]), rows lv vs B.loads, lst 3 1 kv B.ps.length B.kinds] := Mem.frame hX25 H25
  refine ⟨_, rfl, ?_⟩
  refine hK.out _ _ (M25.arr [3] (by decide)) (fun hS => ?_)
  clear hK K
  simp only [Act.put, z1, z2, z3]
  refine held_take 5 _ rfl (by kernel_rfl) (by kernel_rfl) (by kernel_rfl) (y_field1 (v := .int .i64 V.s.width) rfl rfl rfl Try.underlying37 rfl Try.isAgg3 rfl) hS ?_
  simp only [Act.put, z1, z2, z3]
  have hX26 : Mem w _ w25 ([disk E p pg mb qv'] ++ [blk f 96 (fC ({ V with s := pubS V (0) } : FV) p), blk ga 50 ([.int .i64 2, .int .i64 n, .slice ao nn c]), blk b 48 ([lv, kv, .int .i64 V.next, .int .i64 (B.gen + 1), .int .i64 0, .int .i64 B.inMark, .int .i64 B.inHead]), rows lv vs B.loads, lst 3 1 kv B.ps.length B.kinds]) := M25.arr [0, 1, 2, 3, 4, 5] (by decide)
  refine held_step 13 (by kernel_rfl) rfl (by rfl) (fun K hK => ?_)
  refine e_call 24 [.pointer (some ⟨p, 0, none⟩)] rfl rfl Try.call24 (pages_any (Mem.here hX26)) ?_
  rintro e w26 ⟨rfl, H26⟩
  have M26 : Mem w _ w26 [disk E p pg mb qv', blk f 96 (fC ({ V with s := pubS V (0) } : FV) p), blk ga 50 ([.int .i64 2, .int .i64 n, .slice ao nn c]), blk b 48 ([lv, kv, .int .i64 V.next, .int .i64 (B.gen + 1), .int .i64 0, .int .i64 B.inMark, .int .i64 B.inHead]), rows lv vs B.loads, lst 3 1 kv B.ps.length B.kinds] := Mem.frame hX26 H26
  refine ⟨_, rfl, ?_⟩
  refine hK.out _ _ (M26.arr [3] (by decide)) (fun hS => ?_)
  clear hK K
  simp only [Act.put, z1, z2, z3]
  refine held_take 14 _ rfl (by kernel_rfl) (by kernel_rfl) (by kernel_rfl) (y_build (ps := [(0, .tmp 127), (1, .tmp 131), (2, .tmp 132), (3, .tmp 133), (4, .tmp 135)]) (pv := [(0, .int .i64 V.s.width), (1, .int .i64 (B.gen + 1)), (2, .int .i64 V.next), (3, .int .i64 0), (4, .int .i64 (E.pages.length : Int))]) (cs := [.int .i64 V.s.width, .int .i64 (B.gen + 1), .int .i64 V.next, .int .i64 (0), .int .i64 (E.pages.length : Int)]) rfl rfl rfl (by kernel_rfl)) hS ?_
  simp only [Act.put, z1, z2, z3]
  refine held_take 15 _ rfl (by kernel_rfl) (by kernel_rfl) (by kernel_rfl) (y_eqs (r := true) rfl rfl rfl rfl sup_guard (fun W => by rw [hcs]; exact sup_same _ W)) hS ?_
  simp only [Act.put, z1, z2, z3]
  refine held_take 16 _ rfl (by kernel_rfl) (by kernel_rfl) (by kernel_rfl) (y_assign (v := .int .i64 0) rfl rfl rfl) hS ?_
  simp only [Act.put, z1, z2, z3]
  refine held_take 17 _ rfl (by kernel_rfl) (by kernel_rfl) (by kernel_rfl) (y_assign (v := .bool true) rfl rfl rfl) hS ?_
  simp only [Act.put, z1, z2, z3]
  refine held_done (by kernel_rfl) ?_ _
  refine hK22 _ _ ?_
  clear hK22
  refine wp_ret ?_
  try simp only [Exit.inBlock, Exit.then]
  refine bodyPost_ret (v := .tuple #[.int .i64 0, .bool true]) (res2 rfl rfl rfl) rfl ?_
  have N : Mem _ _ _ [book ({ B with mark := V.next, head := 0, gen := B.gen + 1 } : BV) b ⟨lv, kv, vs⟩, _, _] := book_close (M26.arr [3, 4, 5, 0, 1] (by decide))
  exact ⟨E, qv', ⟨lv, kv, vs⟩, rfl, N.arr [1, 2, 0] (by decide), hE⟩
set_option maxRecDepth 100000 in
set_option maxHeartbeats 4000000 in
theorem act_pub_down_z2 {D : DV} {V : FV} {B : BV} {p pg mb f b : Nat} {qv : Value} {bx : BX} {w : World} (hM : Mem w (foots [disk D p pg mb qv, blk f 96 (fC V p), book B b bx]) w [disk D p pg mb qv, blk f 96 (fC V p), book B b bx]) (n : Int) (ao : Option Addr) (nn c : Nat) {ps : Pgs} (hI : Inv D V ps) (hg : V.s.gen = B.gen) (hgm : V.s.gen < 1099511627776) (hq : D.q.length ≤ 400000000000) (h1 : ¬ n % 2 = 1) (h0 : (pubR D V (0)).2 = 2) (hpp : (pubR D V (0)).1.pages.length = D.pages.length) : Calls Try.prog 27 #[.pointer (some ⟨b, 0, none⟩), .pointer (some ⟨p, 0, none⟩), .pointer (some ⟨f, 0, none⟩), .agg ([.int .i64 2, .int .i64 n, .slice ao nn c]).toArray] w fun e w' => ∃ E qv' bx', e = .returned (.tuple #[.int .i64 2, .bool true]) ∧ Mem w (foots [disk D p pg mb qv, blk f 96 (fC V p), book B b bx]) w' [disk E p pg mb qv', blk f 96 (fC V p), book ({ B with inMark := V.next, inHead := 0 } : BV) b bx'] ∧ E = (pubR D V (0)).1 := by
  obtain ⟨lv, kv, vs⟩ := bx
  have M0 := book_open (hM.arr [2, 0, 1] (by decide))
  clear hM
  have M : Mem w _ w [disk D p pg mb qv, blk f 96 (fC V p), blk b 48 (bC B ⟨lv, kv, vs⟩), rows lv vs B.loads, lst 3 1 kv B.ps.length B.kinds] := M0.arr [3, 4, 0, 1, 2] (by decide)
  clear M0
  have hn2 := hI.next2
  have hnp := hI.nextp
  have hhi := hI.ok.hi
  go_enter Try.func27, Try.ntmps27
  refine wp_seq_k (fun K1 hK1 => ?_)
  refine wp_region_lit ?_
  refine pe rfl (fun K hK => ?_)
  refine e_box M ([.int .i64 2, .int .i64 n, .slice ao nn c]) rfl rfl ?_
  intro ga w2 (M2 : Mem w _ w2 [blk ga 50 ([.int .i64 2, .int .i64 n, .slice ao nn c]), disk D p pg mb qv, blk f 96 (fC V p), blk b 48 (bC B ⟨lv, kv, vs⟩), rows lv vs B.loads, lst 3 1 kv B.ps.length B.kinds])
  clear M
  refine hK.out _ _ ?_
  clear hK K
  simp only [Act.put, z1, z2, z3]
  refine pl M2 (y_assign (v := .int .i64 0) rfl rfl rfl) ?_
  simp only [Act.put, z1, z2, z3]
  refine pl M2 (y_assign (v := .bool false) rfl rfl rfl) ?_
  simp only [Act.put, z1, z2, z3]
  refine wpList_nil ?_
  refine hK1 _ _ ?_
  clear hK1
  refine wp_seq_k (fun K3 hK3 => ?_)
  refine wp_region_lit ?_
  refine pl M2 (y_move (v := .pointer (some ⟨f, 0, none⟩)) rfl rfl rfl) ?_
  simp only [Act.put, z1, z2, z3]
  have hX4 : Mem w _ w2 ([disk D p pg mb qv, blk f 96 (fC V p)] ++ [blk ga 50 ([.int .i64 2, .int .i64 n, .slice ao nn c]), blk b 48 (bC B ⟨lv, kv, vs⟩), rows lv vs B.loads, lst 3 1 kv B.ps.length B.kinds]) := M2.arr [1, 2, 0, 3, 4, 5] (by decide)
  refine pe rfl (fun K hK => ?_)
  refine e_call 20 [.pointer (some ⟨f, 0, none⟩)] rfl rfl Try.call20 (next_any (Mem.here hX4)) ?_
  rintro e w4 ⟨rfl, H4⟩
  have M4 : Mem w _ w4 [disk D p pg mb qv, blk f 96 (fC V p), blk ga 50 ([.int .i64 2, .int .i64 n, .slice ao nn c]), blk b 48 (bC B ⟨lv, kv, vs⟩), rows lv vs B.loads, lst 3 1 kv B.ps.length B.kinds] := Mem.frame hX4 H4
  refine ⟨_, rfl, ?_⟩
  refine hK.out _ _ ?_
  clear hK K
  simp only [Act.put, z1, z2, z3]
  refine pl M4 (y_assign (v := .int .i64 V.next) rfl rfl rfl) ?_
  simp only [Act.put, z1, z2, z3]
  refine wpList_nil ?_
  refine hK3 _ _ ?_
  clear hK3
  refine wp_seq_k (fun K5 hK5 => ?_)
  refine wp_seq_k (fun K6 hK6 => ?_)
  refine wp_region_lit ?_
  refine pl M4 (y_fa (r := 0) rfl rfl rfl Try.underlying50 rfl Try.sizeOf3 rfl) ?_
  simp only [Act.put, z1, z2, z3]
  refine pl M4 (y_load (v := .int .i64 2) rfl rfl rfl Try.isAgg3 (fun W hW => hW.get 2 rfl) (rfl)) ?_
  simp only [Act.put, z1, z2, z3]
  refine wpList_nil ?_
  refine hK6 _ _ ?_
  clear hK6
  refine wp_block ?_
  refine wp_seq_k (fun K7 hK7 => ?_)
  refine wp_region_lit ?_
  refine pl M4 (y_eql (b := false) rfl rfl rfl rfl (decide_eq_false (by decide))) ?_
  simp only [Act.put, z1, z2, z3]
  refine pl M4 (y_assign (v := .bool false) rfl rfl rfl) ?_
  simp only [Act.put, z1, z2, z3]
  refine wpList_nil ?_
  refine hK7 _ _ ?_
  clear hK7
  refine wp_cond_false rfl ?_
  refine wp_seq_k (fun K8 hK8 => ?_)
  refine wp_region_lit ?_
  refine pl M4 (y_eql (b := true) rfl rfl rfl rfl (decide_eq_true (by decide))) ?_
  simp only [Act.put, z1, z2, z3]
  refine pl M4 (y_assign (v := .bool true) rfl rfl rfl) ?_
  simp only [Act.put, z1, z2, z3]
  refine wpList_nil ?_
  refine hK8 _ _ ?_
  clear hK8
  refine wp_cond_true rfl ?_
  refine wp_seq_k (fun K9 hK9 => ?_)
  refine wp_region_lit ?_
  refine pl M4 (y_assign (v := .int .i64 0) rfl rfl rfl) ?_
  simp only [Act.put, z1, z2, z3]
  refine wpList_nil ?_
  refine hK9 _ _ ?_
  clear hK9
  refine wp_seq_k (fun K10 hK10 => ?_)
  refine wp_seq_k (fun K11 hK11 => ?_)
  refine wp_region_lit ?_
  refine pl M4 (y_fa (r := 1) rfl rfl rfl Try.underlying50 rfl Try.sizeOf3 rfl) ?_
  simp only [Act.put, z1, z2, z3]
  refine pl M4 (y_load (v := .int .i64 n) rfl rfl rfl Try.isAgg3 (fun W hW => hW.get 2 rfl) (rfl)) ?_
  simp only [Act.put, z1, z2, z3]
  refine pe rfl (fun K hK => ?_)
  refine e_call 13 [.int .i64 n, .int .i64 2] rfl rfl Try.call13 (place3_any n 2 (by decide) (by decide) _) ?_
  rintro e w12 ⟨rfl, H12⟩
  have M12 : Mem w _ w12 [disk D p pg mb qv, blk f 96 (fC V p), blk ga 50 ([.int .i64 2, .int .i64 n, .slice ao nn c]), blk b 48 (bC B ⟨lv, kv, vs⟩), rows lv vs B.loads, lst 3 1 kv B.ps.length B.kinds] := M4.step H12
  refine ⟨_, rfl, ?_⟩
  refine hK.out _ _ ?_
  clear hK K
  simp only [Act.put, z1, z2, z3]
  refine pl M12 (y_eql (b := false) rfl rfl rfl rfl (decide_eq_false h1)) ?_
  simp only [Act.put, z1, z2, z3]
  refine pl M12 (y_move (v := .bool false) rfl rfl rfl) ?_
  simp only [Act.put, z1, z2, z3]
  with_reducible refine pskip ?_ ?_
  · rfl
  simp only [Act.put, z1, z2, z3]
  with_reducible refine pskip ?_ ?_
  · rfl
  simp only [Act.put, z1, z2, z3]
  refine pl M12 (y_pickF (v := .bool false) rfl rfl rfl rfl) ?_
  simp only [Act.put, z1, z2, z3]
  refine wpList_nil ?_
  refine hK11 _ _ ?_
  clear hK11
  refine wp_cond_false rfl ?_
  refine wp_skip ?_
  refine hK10 _ _ ?_
  clear hK10
  refine wp_seq_k (fun K13 hK13 => ?_)
  refine wp_region_lit ?_
  refine pl M12 (y_move (v := .pointer (some ⟨f, 0, none⟩)) rfl rfl rfl) ?_
  simp only [Act.put, z1, z2, z3]
  refine pl M12 (y_move (v := .int .i64 0) rfl rfl rfl) ?_
  simp only [Act.put, z1, z2, z3]
  have hX14 : Mem w _ w12 ([disk D p pg mb qv, blk f 96 (fC V p)] ++ [blk ga 50 ([.int .i64 2, .int .i64 n, .slice ao nn c]), blk b 48 (bC B ⟨lv, kv, vs⟩), rows lv vs B.loads, lst 3 1 kv B.ps.length B.kinds]) := M12.arr [0, 1, 2, 3, 4, 5] (by decide)
  refine pe rfl (fun K hK => ?_)
  refine e_call 28 [.pointer (some ⟨f, 0, none⟩), .int .i64 0] rfl rfl Try.call28 (xpub_down (Mem.here hX14) hI (0) hq h0 hpp) ?_
  rintro e w14 ⟨E, qv', rfl, H14, hE, hpl⟩
  have M14 : Mem w _ w14 [disk E p pg mb qv', blk f 96 (fC V p), blk ga 50 ([.int .i64 2, .int .i64 n, .slice ao nn c]), blk b 48 (bC B ⟨lv, kv, vs⟩), rows lv vs B.loads, lst 3 1 kv B.ps.length B.kinds] := Mem.frame hX14 H14
  refine ⟨_, rfl, ?_⟩
  refine hK.out _ _ ?_
  clear hK K
  simp only [Act.put, z1, z2, z3]
  refine pl M14 (y_assign (v := .int .i64 2) rfl rfl rfl) ?_
  simp only [Act.put, z1, z2, z3]
  refine wpList_nil ?_
  refine hK13 _ _ ?_
  clear hK13
  refine wp_seq_k (fun K15 hK15 => ?_)
  refine wp_seq_k (fun K16 hK16 => ?_)
  refine wp_region_lit ?_
  refine pl M14 (y_move (v := .int .i64 2) rfl rfl rfl) ?_
  simp only [Act.put, z1, z2, z3]
  refine pl M14 (y_eql (b := false) rfl rfl rfl rfl (decide_eq_false (by decide))) ?_
  simp only [Act.put, z1, z2, z3]
  refine wpList_nil ?_
  refine hK16 _ _ ?_
  clear hK16
  refine wp_cond_false rfl ?_
  refine wp_skip ?_
  refine hK15 _ _ ?_
  clear hK15
  refine wp_seq_k (fun K17 hK17 => ?_)
  refine wp_region_lit ?_
  refine pl M14 (y_move (v := .pointer (some ⟨b, 0, none⟩)) rfl rfl rfl) ?_
  simp only [Act.put, z1, z2, z3]
  refine pl M14 (y_move (v := .pointer (some ⟨b, 0, none⟩)) rfl rfl rfl) ?_
  simp only [Act.put, z1, z2, z3]
  refine pl M14 (y_move (v := .int .i64 V.next) rfl rfl rfl) ?_
  simp only [Act.put, z1, z2, z3]
  refine pl M14 (y_move (v := .int .i64 0) rfl rfl rfl) ?_
  simp only [Act.put, z1, z2, z3]
  refine pl M14 (y_nil rfl rfl rfl) ?_
  simp only [Act.put, z1, z2, z3]
  refine pl M14 (y_fa (r := 5) rfl rfl rfl Try.underlying48 rfl Try.sizeOf3 rfl) ?_
  simp only [Act.put, z1, z2, z3]
  refine pe rfl (fun K hK => ?_)
  refine e_store M14 3 (v := .int .i64 V.next) rfl rfl rfl rfl rfl rfl Try.sizeOf3 rfl (show (5 : Nat) < 7 by decide) ?_
  intro w18 (M18 : Mem w _ w18 [disk E p pg mb qv', blk f 96 (fC V p), blk ga 50 ([.int .i64 2, .int .i64 n, .slice ao nn c]), blk b 48 ([lv, kv, .int .i64 B.mark, .int .i64 B.gen, .int .i64 B.head, .int .i64 V.next, .int .i64 B.inHead]), rows lv vs B.loads, lst 3 1 kv B.ps.length B.kinds])
  clear M14
  refine hK.out _ _ ?_
  clear hK K
  simp only [Act.put, z1, z2, z3]
  refine pl M18 (y_nil rfl rfl rfl) ?_
  simp only [Act.put, z1, z2, z3]
  refine pl M18 (y_fa (r := 6) rfl rfl rfl Try.underlying48 rfl Try.sizeOf3 rfl) ?_
  simp only [Act.put, z1, z2, z3]
  refine pe rfl (fun K hK => ?_)
  refine e_store M18 3 (v := .int .i64 0) rfl rfl rfl rfl rfl rfl Try.sizeOf3 rfl (show (6 : Nat) < 7 by decide) ?_
  intro w19 (M19 : Mem w _ w19 [disk E p pg mb qv', blk f 96 (fC V p), blk ga 50 ([.int .i64 2, .int .i64 n, .slice ao nn c]), blk b 48 ([lv, kv, .int .i64 B.mark, .int .i64 B.gen, .int .i64 B.head, .int .i64 V.next, .int .i64 0]), rows lv vs B.loads, lst 3 1 kv B.ps.length B.kinds])
  clear M18
  refine hK.out _ _ ?_
  clear hK K
  simp only [Act.put, z1, z2, z3]
  refine wpList_nil ?_
  refine hK17 _ _ ?_
  clear hK17
  refine wp_seq_k (fun K20 hK20 => ?_)
  refine wp_region_lit ?_
  refine pl M19 (y_move (v := .int .i64 2) rfl rfl rfl) ?_
  simp only [Act.put, z1, z2, z3]
  refine pl M19 (y_move (v := .int .i64 2) rfl rfl rfl) ?_
  simp only [Act.put, z1, z2, z3]
  refine pl M19 (y_eql (b := true) rfl rfl rfl rfl (decide_eq_true (by decide))) ?_
  simp only [Act.put, z1, z2, z3]
  refine pl M19 (y_assign (v := .int .i64 2) rfl rfl rfl) ?_
  simp only [Act.put, z1, z2, z3]
  refine pl M19 (y_assign (v := .bool true) rfl rfl rfl) ?_
  simp only [Act.put, z1, z2, z3]
  refine wpList_nil ?_
  refine hK20 _ _ ?_
  clear hK20
  refine wp_ret ?_
  try simp only [Exit.inBlock, Exit.then]
  refine bodyPost_ret (v := .tuple #[.int .i64 2, .bool true]) (res2 rfl rfl rfl) rfl ?_
  have N : Mem _ _ _ [book ({ B with inMark := V.next, inHead := 0 } : BV) b ⟨lv, kv, vs⟩, _, _] := book_close (M19.arr [3, 4, 5, 0, 1] (by decide))
  exact ⟨E, qv', ⟨lv, kv, vs⟩, rfl, N.arr [1, 2, 0] (by decide), hE⟩
set_option maxRecDepth 100000 in
set_option maxHeartbeats 4000000 in
theorem act_forget {D : DV} {V : FV} {B : BV} {p pg mb f b : Nat} {qv : Value} {bx : BX} {w : World} (hM : Mem w (foots [disk D p pg mb qv, blk f 96 (fC V p), book B b bx]) w [disk D p pg mb qv, blk f 96 (fC V p), book B b bx]) (n : Int) (ao : Option Addr) (nn c : Nat) (hm : V.s.mark = B.mark) : Calls Try.prog 27 #[.pointer (some ⟨b, 0, none⟩), .pointer (some ⟨p, 0, none⟩), .pointer (some ⟨f, 0, none⟩), .agg ([.int .i64 3, .int .i64 n, .slice ao nn c]).toArray] w fun e w' => ∃ bx', e = .returned (.tuple #[.int .i64 0, .bool true]) ∧ Mem w (foots [disk D p pg mb qv, blk f 96 (fC V p), book B b bx]) w' [disk D p pg mb qv, blk f 96 (fC ({ V with next := V.s.mark } : FV) p), book B b bx'] := by
  obtain ⟨lv, kv, vs⟩ := bx
  have M0 := book_open (hM.arr [2, 0, 1] (by decide))
  clear hM
  have M : Mem w _ w [disk D p pg mb qv, blk f 96 (fC V p), blk b 48 (bC B ⟨lv, kv, vs⟩), rows lv vs B.loads, lst 3 1 kv B.ps.length B.kinds] := M0.arr [3, 4, 0, 1, 2] (by decide)
  clear M0
  go_enter Try.func27, Try.ntmps27
  refine wp_seq_k (fun K1 hK1 => ?_)
  refine wp_region_lit ?_
  refine pe rfl (fun K hK => ?_)
  refine e_box M ([.int .i64 3, .int .i64 n, .slice ao nn c]) rfl rfl ?_
  intro ga w2 (M2 : Mem w _ w2 [blk ga 50 ([.int .i64 3, .int .i64 n, .slice ao nn c]), disk D p pg mb qv, blk f 96 (fC V p), blk b 48 (bC B ⟨lv, kv, vs⟩), rows lv vs B.loads, lst 3 1 kv B.ps.length B.kinds])
  clear M
  refine hK.out _ _ ?_
  clear hK K
  simp only [Act.put, z1, z2, z3]
  refine pl M2 (y_assign (v := .int .i64 0) rfl rfl rfl) ?_
  simp only [Act.put, z1, z2, z3]
  refine pl M2 (y_assign (v := .bool false) rfl rfl rfl) ?_
  simp only [Act.put, z1, z2, z3]
  refine wpList_nil ?_
  refine hK1 _ _ ?_
  clear hK1
  refine wp_seq_k (fun K3 hK3 => ?_)
  refine wp_region_lit ?_
  refine pl M2 (y_move (v := .pointer (some ⟨f, 0, none⟩)) rfl rfl rfl) ?_
  simp only [Act.put, z1, z2, z3]
  have hX4 : Mem w _ w2 ([disk D p pg mb qv, blk f 96 (fC V p)] ++ [blk ga 50 ([.int .i64 3, .int .i64 n, .slice ao nn c]), blk b 48 (bC B ⟨lv, kv, vs⟩), rows lv vs B.loads, lst 3 1 kv B.ps.length B.kinds]) := M2.arr [1, 2, 0, 3, 4, 5] (by decide)
  refine pe rfl (fun K hK => ?_)
  refine e_call 20 [.pointer (some ⟨f, 0, none⟩)] rfl rfl Try.call20 (next_any (Mem.here hX4)) ?_
  rintro e w4 ⟨rfl, H4⟩
  have M4 : Mem w _ w4 [disk D p pg mb qv, blk f 96 (fC V p), blk ga 50 ([.int .i64 3, .int .i64 n, .slice ao nn c]), blk b 48 (bC B ⟨lv, kv, vs⟩), rows lv vs B.loads, lst 3 1 kv B.ps.length B.kinds] := Mem.frame hX4 H4
  refine ⟨_, rfl, ?_⟩
  refine hK.out _ _ ?_
  clear hK K
  simp only [Act.put, z1, z2, z3]
  refine pl M4 (y_assign (v := .int .i64 V.next) rfl rfl rfl) ?_
  simp only [Act.put, z1, z2, z3]
  refine wpList_nil ?_
  refine hK3 _ _ ?_
  clear hK3
  refine wp_seq_k (fun K5 hK5 => ?_)
  refine wp_seq_k (fun K6 hK6 => ?_)
  refine wp_region_lit ?_
  refine pl M4 (y_fa (r := 0) rfl rfl rfl Try.underlying50 rfl Try.sizeOf3 rfl) ?_
  simp only [Act.put, z1, z2, z3]
  refine pl M4 (y_load (v := .int .i64 3) rfl rfl rfl Try.isAgg3 (fun W hW => hW.get 2 rfl) (rfl)) ?_
  simp only [Act.put, z1, z2, z3]
  refine wpList_nil ?_
  refine hK6 _ _ ?_
  clear hK6
  refine wp_block ?_
  refine wp_seq_k (fun K7 hK7 => ?_)
  refine wp_region_lit ?_
  refine pl M4 (y_eql (b := false) rfl rfl rfl rfl (decide_eq_false (by decide))) ?_
  simp only [Act.put, z1, z2, z3]
  refine pl M4 (y_assign (v := .bool false) rfl rfl rfl) ?_
  simp only [Act.put, z1, z2, z3]
  refine wpList_nil ?_
  refine hK7 _ _ ?_
  clear hK7
  refine wp_cond_false rfl ?_
  refine wp_seq_k (fun K8 hK8 => ?_)
  refine wp_region_lit ?_
  refine pl M4 (y_eql (b := false) rfl rfl rfl rfl (decide_eq_false (by decide))) ?_
  simp only [Act.put, z1, z2, z3]
  refine pl M4 (y_assign (v := .bool false) rfl rfl rfl) ?_
  simp only [Act.put, z1, z2, z3]
  refine wpList_nil ?_
  refine hK8 _ _ ?_
  clear hK8
  refine wp_cond_false rfl ?_
  refine wp_seq_k (fun K9 hK9 => ?_)
  refine wp_region_lit ?_
  refine pl M4 (y_eql (b := true) rfl rfl rfl rfl (decide_eq_true (by decide))) ?_
  simp only [Act.put, z1, z2, z3]
  refine pl M4 (y_assign (v := .bool true) rfl rfl rfl) ?_
  simp only [Act.put, z1, z2, z3]
  refine wpList_nil ?_
  refine hK9 _ _ ?_
  clear hK9
  refine wp_cond_true rfl ?_
  refine wp_seq_k (fun K10 hK10 => ?_)
  refine wp_region_lit ?_
  refine pl M4 (y_move (v := .pointer (some ⟨f, 0, none⟩)) rfl rfl rfl) ?_
  simp only [Act.put, z1, z2, z3]
  have hX11 : Mem w _ w4 ([disk D p pg mb qv, blk f 96 (fC V p)] ++ [blk ga 50 ([.int .i64 3, .int .i64 n, .slice ao nn c]), blk b 48 (bC B ⟨lv, kv, vs⟩), rows lv vs B.loads, lst 3 1 kv B.ps.length B.kinds]) := M4.arr [0, 1, 2, 3, 4, 5] (by decide)
  refine pe rfl (fun K hK => ?_)
  refine e_call 39 [.pointer (some ⟨f, 0, none⟩)] rfl rfl Try.call39 (forget_any (Mem.here hX11)) ?_
  rintro e w11 ⟨rfl, H11⟩
  have M11 : Mem w _ w11 [disk D p pg mb qv, blk f 96 (fC ({ V with next := V.s.mark } : FV) p), blk ga 50 ([.int .i64 3, .int .i64 n, .slice ao nn c]), blk b 48 (bC B ⟨lv, kv, vs⟩), rows lv vs B.loads, lst 3 1 kv B.ps.length B.kinds] := Mem.frame hX11 H11
  refine ⟨_, rfl, ?_⟩
  refine hK.out _ _ ?_
  clear hK K
  simp only [Act.put, z1, z2, z3]
  refine wpList_nil ?_
  refine hK10 _ _ ?_
  clear hK10
  refine wp_seq_k (fun K12 hK12 => ?_)
  have M13 := M11.drew
  refine held_begin (fun W => Mem w (foots [disk D p pg mb qv, blk f 96 (fC V p), book B b ⟨lv, kv, vs⟩]) W [blk b 48 (bC B ⟨lv, kv, vs⟩)]) (by kernel_rfl) (M13.arr [3] (by decide)) (fun hS => ?_)
  refine held_take 0 _ rfl (by kernel_rfl) (by kernel_rfl) (by kernel_rfl) (y_move (v := .pointer (some ⟨f, 0, none⟩)) rfl rfl rfl) hS ?_
  simp only [Act.put, z1, z2, z3]
  refine held_take 2 _ rfl (by kernel_rfl) (by kernel_rfl) (by kernel_rfl) (y_move (v := .pointer (some ⟨b, 0, none⟩)) rfl rfl rfl) hS ?_
  simp only [Act.put, z1, z2, z3]
  refine held_take 3 _ rfl (by kernel_rfl) (by kernel_rfl) (by kernel_rfl) (y_nil rfl rfl rfl) hS ?_
  simp only [Act.put, z1, z2, z3]
  refine held_take 4 _ rfl (by kernel_rfl) (by kernel_rfl) (by kernel_rfl) (y_fa (r := 2) rfl rfl rfl Try.underlying48 rfl Try.sizeOf3 rfl) hS ?_
  simp only [Act.put, z1, z2, z3]
  refine held_take 5 _ rfl (by kernel_rfl) (by kernel_rfl) (by kernel_rfl) (y_load (v := .int .i64 B.mark) rfl rfl rfl Try.isAgg3 (fun W hW => hW.get 0 rfl) (rfl)) hS ?_
  simp only [Act.put, z1, z2, z3]
  have hX14 : Mem w _ w11.drew ([disk D p pg mb qv, blk f 96 (fC ({ V with next := V.s.mark } : FV) p)] ++ [blk ga 50 ([.int .i64 3, .int .i64 n, .slice ao nn c]), blk b 48 (bC B ⟨lv, kv, vs⟩), rows lv vs B.loads, lst 3 1 kv B.ps.length B.kinds]) := M13.arr [0, 1, 2, 3, 4, 5] (by decide)
  refine held_step 1 (by kernel_rfl) rfl (by rfl) (fun K hK => ?_)
  refine e_call 20 [.pointer (some ⟨f, 0, none⟩)] rfl rfl Try.call20 (next_any (Mem.here hX14)) ?_
  rintro e w14 ⟨rfl, H14⟩
  have M14 : Mem w _ w14 [disk D p pg mb qv, blk f 96 (fC ({ V with next := V.s.mark } : FV) p), blk ga 50 ([.int .i64 3, .int .i64 n, .slice ao nn c]), blk b 48 (bC B ⟨lv, kv, vs⟩), rows lv vs B.loads, lst 3 1 kv B.ps.length B.kinds] := Mem.frame hX14 H14
  refine ⟨_, rfl, ?_⟩
  refine hK.out _ _ (M14.arr [3] (by decide)) (fun hS => ?_)
  clear hK K
  simp only [Act.put, z1, z2, z3]
  refine held_take 6 _ rfl (by kernel_rfl) (by kernel_rfl) (by kernel_rfl) (y_eql (b := true) rfl rfl rfl rfl (decide_eq_true hm)) hS ?_
  simp only [Act.put, z1, z2, z3]
  refine held_take 7 _ rfl (by kernel_rfl) (by kernel_rfl) (by kernel_rfl) (y_assign (v := .int .i64 0) rfl rfl rfl) hS ?_
  simp only [Act.put, z1, z2, z3]
  refine held_take 8 _ rfl (by kernel_rfl) (by kernel_rfl) (by kernel_rfl) (y_assign (v := .bool true) rfl rfl rfl) hS ?_
  simp only [Act.put, z1, z2, z3]
  refine held_done (by kernel_rfl) ?_ _
  refine hK12 _ _ ?_
  clear hK12
  refine wp_ret ?_
  try simp only [Exit.inBlock, Exit.then]
  refine bodyPost_ret (v := .tuple #[.int .i64 0, .bool true]) (res2 rfl rfl rfl) rfl ?_
  have N : Mem _ _ _ [book _ b ⟨lv, kv, vs⟩, _, _] := book_close (M14.arr [3, 4, 5, 0, 1] (by decide))
  exact ⟨⟨lv, kv, vs⟩, rfl, N.arr [1, 2, 0] (by decide)⟩
set_option maxRecDepth 100000 in
set_option maxHeartbeats 4000000 in
theorem act_arm {D : DV} {V : FV} {B : BV} {p pg mb f b : Nat} {qv : Value} {bx : BX} {w : World} (hM : Mem w (foots [disk D p pg mb qv, blk f 96 (fC V p), book B b bx]) w [disk D p pg mb qv, blk f 96 (fC V p), book B b bx]) (n : Int) (ao : Option Addr) (nn c : Nat)  : Calls Try.prog 27 #[.pointer (some ⟨b, 0, none⟩), .pointer (some ⟨p, 0, none⟩), .pointer (some ⟨f, 0, none⟩), .agg ([.int .i64 4, .int .i64 n, .slice ao nn c]).toArray] w fun e w' => ∃ bx', e = .returned (.tuple #[.int .i64 0, .bool true]) ∧ Mem w (foots [disk D p pg mb qv, blk f 96 (fC V p), book B b bx]) w' [disk (armD D (1 + n % 12)) p pg mb qv, blk f 96 (fC V p), book B b bx'] := by
  obtain ⟨lv, kv, vs⟩ := bx
  have M0 := book_open (hM.arr [2, 0, 1] (by decide))
  clear hM
  have M : Mem w _ w [disk D p pg mb qv, blk f 96 (fC V p), blk b 48 (bC B ⟨lv, kv, vs⟩), rows lv vs B.loads, lst 3 1 kv B.ps.length B.kinds] := M0.arr [3, 4, 0, 1, 2] (by decide)
  clear M0
  go_enter Try.func27, Try.ntmps27
  refine wp_seq_k (fun K1 hK1 => ?_)
  refine wp_region_lit ?_
  refine pe rfl (fun K hK => ?_)
  refine e_box M ([.int .i64 4, .int .i64 n, .slice ao nn c]) rfl rfl ?_
  intro ga w2 (M2 : Mem w _ w2 [blk ga 50 ([.int .i64 4, .int .i64 n, .slice ao nn c]), disk D p pg mb qv, blk f 96 (fC V p), blk b 48 (bC B ⟨lv, kv, vs⟩), rows lv vs B.loads, lst 3 1 kv B.ps.length B.kinds])
  clear M
  refine hK.out _ _ ?_
  clear hK K
  simp only [Act.put, z1, z2, z3]
  refine pl M2 (y_assign (v := .int .i64 0) rfl rfl rfl) ?_
  simp only [Act.put, z1, z2, z3]
  refine pl M2 (y_assign (v := .bool false) rfl rfl rfl) ?_
  simp only [Act.put, z1, z2, z3]
  refine wpList_nil ?_
  refine hK1 _ _ ?_
  clear hK1
  refine wp_seq_k (fun K3 hK3 => ?_)
  refine wp_region_lit ?_
  refine pl M2 (y_move (v := .pointer (some ⟨f, 0, none⟩)) rfl rfl rfl) ?_
  simp only [Act.put, z1, z2, z3]
  have hX4 : Mem w _ w2 ([disk D p pg mb qv, blk f 96 (fC V p)] ++ [blk ga 50 ([.int .i64 4, .int .i64 n, .slice ao nn c]), blk b 48 (bC B ⟨lv, kv, vs⟩), rows lv vs B.loads, lst 3 1 kv B.ps.length B.kinds]) := M2.arr [1, 2, 0, 3, 4, 5] (by decide)
  refine pe rfl (fun K hK => ?_)
  refine e_call 20 [.pointer (some ⟨f, 0, none⟩)] rfl rfl Try.call20 (next_any (Mem.here hX4)) ?_
  rintro e w4 ⟨rfl, H4⟩
  have M4 : Mem w _ w4 [disk D p pg mb qv, blk f 96 (fC V p), blk ga 50 ([.int .i64 4, .int .i64 n, .slice ao nn c]), blk b 48 (bC B ⟨lv, kv, vs⟩), rows lv vs B.loads, lst 3 1 kv B.ps.length B.kinds] := Mem.frame hX4 H4
  refine ⟨_, rfl, ?_⟩
  refine hK.out _ _ ?_
  clear hK K
  simp only [Act.put, z1, z2, z3]
  refine pl M4 (y_assign (v := .int .i64 V.next) rfl rfl rfl) ?_
  simp only [Act.put, z1, z2, z3]
  refine wpList_nil ?_
  refine hK3 _ _ ?_
  clear hK3
  refine wp_seq_k (fun K5 hK5 => ?_)
  refine wp_seq_k (fun K6 hK6 => ?_)
  refine wp_region_lit ?_
  refine pl M4 (y_fa (r := 0) rfl rfl rfl Try.underlying50 rfl Try.sizeOf3 rfl) ?_
  simp only [Act.put, z1, z2, z3]
  refine pl M4 (y_load (v := .int .i64 4) rfl rfl rfl Try.isAgg3 (fun W hW => hW.get 2 rfl) (rfl)) ?_
  simp only [Act.put, z1, z2, z3]
  refine wpList_nil ?_
  refine hK6 _ _ ?_
  clear hK6
  refine wp_block ?_
  refine wp_seq_k (fun K7 hK7 => ?_)
  refine wp_region_lit ?_
  refine pl M4 (y_eql (b := false) rfl rfl rfl rfl (decide_eq_false (by decide))) ?_
  simp only [Act.put, z1, z2, z3]
  refine pl M4 (y_assign (v := .bool false) rfl rfl rfl) ?_
  simp only [Act.put, z1, z2, z3]
  refine wpList_nil ?_
  refine hK7 _ _ ?_
  clear hK7
  refine wp_cond_false rfl ?_
  refine wp_seq_k (fun K8 hK8 => ?_)
  refine wp_region_lit ?_
  refine pl M4 (y_eql (b := false) rfl rfl rfl rfl (decide_eq_false (by decide))) ?_
  simp only [Act.put, z1, z2, z3]
  refine pl M4 (y_assign (v := .bool false) rfl rfl rfl) ?_
  simp only [Act.put, z1, z2, z3]
  refine wpList_nil ?_
  refine hK8 _ _ ?_
  clear hK8
  refine wp_cond_false rfl ?_
  refine wp_seq_k (fun K9 hK9 => ?_)
  refine wp_region_lit ?_
  refine pl M4 (y_eql (b := false) rfl rfl rfl rfl (decide_eq_false (by decide))) ?_
  simp only [Act.put, z1, z2, z3]
  refine pl M4 (y_assign (v := .bool false) rfl rfl rfl) ?_
  simp only [Act.put, z1, z2, z3]
  refine wpList_nil ?_
  refine hK9 _ _ ?_
  clear hK9
  refine wp_cond_false rfl ?_
  refine wp_seq_k (fun K10 hK10 => ?_)
  refine wp_region_lit ?_
  refine pl M4 (y_eql (b := true) rfl rfl rfl rfl (decide_eq_true (by decide))) ?_
  simp only [Act.put, z1, z2, z3]
  refine pl M4 (y_assign (v := .bool true) rfl rfl rfl) ?_
  simp only [Act.put, z1, z2, z3]
  refine wpList_nil ?_
  refine hK10 _ _ ?_
  clear hK10
  refine wp_cond_true rfl ?_
  refine wp_region_lit ?_
  refine pl M4 (y_move (v := .pointer (some ⟨p, 0, none⟩)) rfl rfl rfl) ?_
  simp only [Act.put, z1, z2, z3]
  refine pl M4 (y_fa (r := 1) rfl rfl rfl Try.underlying50 rfl Try.sizeOf3 rfl) ?_
  simp only [Act.put, z1, z2, z3]
  refine pl M4 (y_load (v := .int .i64 n) rfl rfl rfl Try.isAgg3 (fun W hW => hW.get 2 rfl) (rfl)) ?_
  simp only [Act.put, z1, z2, z3]
  refine pe rfl (fun K hK => ?_)
  refine e_call 13 [.int .i64 n, .int .i64 12] rfl rfl Try.call13 (place3_any n 12 (by decide) (by decide) _) ?_
  rintro e w11 ⟨rfl, H11⟩
  have M11 : Mem w _ w11 [disk D p pg mb qv, blk f 96 (fC V p), blk ga 50 ([.int .i64 4, .int .i64 n, .slice ao nn c]), blk b 48 (bC B ⟨lv, kv, vs⟩), rows lv vs B.loads, lst 3 1 kv B.ps.length B.kinds] := M4.step H11
  refine ⟨_, rfl, ?_⟩
  refine hK.out _ _ ?_
  clear hK K
  simp only [Act.put, z1, z2, z3]
  refine pl M11 (y_add (r := 1 + n % 12) rfl rfl rfl rfl (rfl) (by omega)) ?_
  simp only [Act.put, z1, z2, z3]
  have hX12 : Mem w _ w11 ([disk D p pg mb qv] ++ [blk f 96 (fC V p), blk ga 50 ([.int .i64 4, .int .i64 n, .slice ao nn c]), blk b 48 (bC B ⟨lv, kv, vs⟩), rows lv vs B.loads, lst 3 1 kv B.ps.length B.kinds]) := M11.arr [0, 1, 2, 3, 4, 5] (by decide)
  refine pe rfl (fun K hK => ?_)
  refine e_call 14 [.pointer (some ⟨p, 0, none⟩), .int .i64 (1 + n % 12)] rfl rfl Try.call14 (arm_any (Mem.here hX12) (1 + n % 12) (by omega)) ?_
  rintro e w12 ⟨rfl, H12⟩
  have M12 : Mem w _ w12 [disk (armD D (1 + n % 12)) p pg mb qv, blk f 96 (fC V p), blk ga 50 ([.int .i64 4, .int .i64 n, .slice ao nn c]), blk b 48 (bC B ⟨lv, kv, vs⟩), rows lv vs B.loads, lst 3 1 kv B.ps.length B.kinds] := Mem.frame hX12 H12
  refine ⟨_, rfl, ?_⟩
  refine hK.out _ _ ?_
  clear hK K
  simp only [Act.put, z1, z2, z3]
  refine wpList_nil ?_
  refine hK5 _ _ ?_
  clear hK5
  refine wp_seq_k (fun K13 hK13 => ?_)
  refine wp_region_lit ?_
  refine pl M12 (y_assign (v := .int .i64 0) rfl rfl rfl) ?_
  simp only [Act.put, z1, z2, z3]
  refine pl M12 (y_assign (v := .bool true) rfl rfl rfl) ?_
  simp only [Act.put, z1, z2, z3]
  refine wpList_nil ?_
  refine hK13 _ _ ?_
  clear hK13
  refine wp_ret ?_
  try simp only [Exit.inBlock, Exit.then]
  refine bodyPost_ret (v := .tuple #[.int .i64 0, .bool true]) (res2 rfl rfl rfl) rfl ?_
  have N : Mem _ _ _ [book _ b ⟨lv, kv, vs⟩, _, _] := book_close (M12.arr [3, 4, 5, 0, 1] (by decide))
  exact ⟨⟨lv, kv, vs⟩, rfl, N.arr [1, 2, 0] (by decide)⟩
set_option maxRecDepth 100000 in
set_option maxHeartbeats 4000000 in
theorem act_other {D : DV} {V : FV} {B : BV} {p pg mb f b : Nat} {qv : Value} {bx : BX} {w : World} (hM : Mem w (foots [disk D p pg mb qv, blk f 96 (fC V p), book B b bx]) w [disk D p pg mb qv, blk f 96 (fC V p), book B b bx]) (kd n : Int) (ao : Option Addr) (nn c : Nat) (h1 : ¬ kd = 1) (h2 : ¬ kd = 2) (h3 : ¬ kd = 3) (h4 : ¬ kd = 4) : Calls Try.prog 27 #[.pointer (some ⟨b, 0, none⟩), .pointer (some ⟨p, 0, none⟩), .pointer (some ⟨f, 0, none⟩), .agg ([.int .i64 kd, .int .i64 n, .slice ao nn c]).toArray] w fun e w' => ∃ bx', e = .returned (.tuple #[.int .i64 0, .bool true]) ∧ Mem w (foots [disk D p pg mb qv, blk f 96 (fC V p), book B b bx]) w' [disk D p pg mb qv, blk f 96 (fC V p), book B b bx'] := by
  obtain ⟨lv, kv, vs⟩ := bx
  have M0 := book_open (hM.arr [2, 0, 1] (by decide))
  clear hM
  have M : Mem w _ w [disk D p pg mb qv, blk f 96 (fC V p), blk b 48 (bC B ⟨lv, kv, vs⟩), rows lv vs B.loads, lst 3 1 kv B.ps.length B.kinds] := M0.arr [3, 4, 0, 1, 2] (by decide)
  clear M0
  go_enter Try.func27, Try.ntmps27
  refine wp_seq_k (fun K1 hK1 => ?_)
  refine wp_region_lit ?_
  refine pe rfl (fun K hK => ?_)
  refine e_box M ([.int .i64 kd, .int .i64 n, .slice ao nn c]) rfl rfl ?_
  intro ga w2 (M2 : Mem w _ w2 [blk ga 50 ([.int .i64 kd, .int .i64 n, .slice ao nn c]), disk D p pg mb qv, blk f 96 (fC V p), blk b 48 (bC B ⟨lv, kv, vs⟩), rows lv vs B.loads, lst 3 1 kv B.ps.length B.kinds])
  clear M
  refine hK.out _ _ ?_
  clear hK K
  simp only [Act.put, z1, z2, z3]
  refine pl M2 (y_assign (v := .int .i64 0) rfl rfl rfl) ?_
  simp only [Act.put, z1, z2, z3]
  refine pl M2 (y_assign (v := .bool false) rfl rfl rfl) ?_
  simp only [Act.put, z1, z2, z3]
  refine wpList_nil ?_
  refine hK1 _ _ ?_
  clear hK1
  refine wp_seq_k (fun K3 hK3 => ?_)
  refine wp_region_lit ?_
  refine pl M2 (y_move (v := .pointer (some ⟨f, 0, none⟩)) rfl rfl rfl) ?_
  simp only [Act.put, z1, z2, z3]
  have hX4 : Mem w _ w2 ([disk D p pg mb qv, blk f 96 (fC V p)] ++ [blk ga 50 ([.int .i64 kd, .int .i64 n, .slice ao nn c]), blk b 48 (bC B ⟨lv, kv, vs⟩), rows lv vs B.loads, lst 3 1 kv B.ps.length B.kinds]) := M2.arr [1, 2, 0, 3, 4, 5] (by decide)
  refine pe rfl (fun K hK => ?_)
  refine e_call 20 [.pointer (some ⟨f, 0, none⟩)] rfl rfl Try.call20 (next_any (Mem.here hX4)) ?_
  rintro e w4 ⟨rfl, H4⟩
  have M4 : Mem w _ w4 [disk D p pg mb qv, blk f 96 (fC V p), blk ga 50 ([.int .i64 kd, .int .i64 n, .slice ao nn c]), blk b 48 (bC B ⟨lv, kv, vs⟩), rows lv vs B.loads, lst 3 1 kv B.ps.length B.kinds] := Mem.frame hX4 H4
  refine ⟨_, rfl, ?_⟩
  refine hK.out _ _ ?_
  clear hK K
  simp only [Act.put, z1, z2, z3]
  refine pl M4 (y_assign (v := .int .i64 V.next) rfl rfl rfl) ?_
  simp only [Act.put, z1, z2, z3]
  refine wpList_nil ?_
  refine hK3 _ _ ?_
  clear hK3
  refine wp_seq_k (fun K5 hK5 => ?_)
  refine wp_seq_k (fun K6 hK6 => ?_)
  refine wp_region_lit ?_
  refine pl M4 (y_fa (r := 0) rfl rfl rfl Try.underlying50 rfl Try.sizeOf3 rfl) ?_
  simp only [Act.put, z1, z2, z3]
  refine pl M4 (y_load (v := .int .i64 kd) rfl rfl rfl Try.isAgg3 (fun W hW => hW.get 2 rfl) (rfl)) ?_
  simp only [Act.put, z1, z2, z3]
  refine wpList_nil ?_
  refine hK6 _ _ ?_
  clear hK6
  refine wp_block ?_
  refine wp_seq_k (fun K7 hK7 => ?_)
  refine wp_region_lit ?_
  refine pl M4 (y_eql (b := false) rfl rfl rfl rfl (decide_eq_false h1)) ?_
  simp only [Act.put, z1, z2, z3]
  refine pl M4 (y_assign (v := .bool false) rfl rfl rfl) ?_
  simp only [Act.put, z1, z2, z3]
  refine wpList_nil ?_
  refine hK7 _ _ ?_
  clear hK7
  refine wp_cond_false rfl ?_
  refine wp_seq_k (fun K8 hK8 => ?_)
  refine wp_region_lit ?_
  refine pl M4 (y_eql (b := false) rfl rfl rfl rfl (decide_eq_false h2)) ?_
  simp only [Act.put, z1, z2, z3]
  refine pl M4 (y_assign (v := .bool false) rfl rfl rfl) ?_
  simp only [Act.put, z1, z2, z3]
  refine wpList_nil ?_
  refine hK8 _ _ ?_
  clear hK8
  refine wp_cond_false rfl ?_
  refine wp_seq_k (fun K9 hK9 => ?_)
  refine wp_region_lit ?_
  refine pl M4 (y_eql (b := false) rfl rfl rfl rfl (decide_eq_false h3)) ?_
  simp only [Act.put, z1, z2, z3]
  refine pl M4 (y_assign (v := .bool false) rfl rfl rfl) ?_
  simp only [Act.put, z1, z2, z3]
  refine wpList_nil ?_
  refine hK9 _ _ ?_
  clear hK9
  refine wp_cond_false rfl ?_
  refine wp_seq_k (fun K10 hK10 => ?_)
  refine wp_region_lit ?_
  refine pl M4 (y_eql (b := false) rfl rfl rfl rfl (decide_eq_false h4)) ?_
  simp only [Act.put, z1, z2, z3]
  refine pl M4 (y_assign (v := .bool false) rfl rfl rfl) ?_
  simp only [Act.put, z1, z2, z3]
  refine wpList_nil ?_
  refine hK10 _ _ ?_
  clear hK10
  refine wp_cond_false rfl ?_
  refine wp_skip ?_
  refine hK5 _ _ ?_
  clear hK5
  refine wp_seq_k (fun K11 hK11 => ?_)
  refine wp_region_lit ?_
  refine pl M4 (y_assign (v := .int .i64 0) rfl rfl rfl) ?_
  simp only [Act.put, z1, z2, z3]
  refine pl M4 (y_assign (v := .bool true) rfl rfl rfl) ?_
  simp only [Act.put, z1, z2, z3]
  refine wpList_nil ?_
  refine hK11 _ _ ?_
  clear hK11
  refine wp_ret ?_
  try simp only [Exit.inBlock, Exit.then]
  refine bodyPost_ret (v := .tuple #[.int .i64 0, .bool true]) (res2 rfl rfl rfl) rfl ?_
  have N : Mem _ _ _ [book _ b ⟨lv, kv, vs⟩, _, _] := book_close (M4.arr [3, 4, 5, 0, 1] (by decide))
  exact ⟨⟨lv, kv, vs⟩, rfl, N.arr [1, 2, 0] (by decide)⟩
end Go.Proofs.Ytehnnnohoaapdaa
