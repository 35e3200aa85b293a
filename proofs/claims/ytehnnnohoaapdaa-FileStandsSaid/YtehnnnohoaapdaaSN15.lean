/- Texts joined: Law7, LawB, OpenF, Law8. -/
import Derived.Test.YtehnnnohoaapdaaSN14
import Derived.Test.YtehnnnohoaapdaaRows
import Derived.Test.YtehnnnohoaapdaaSN00
import Derived.SizedLaws
/- Behind a loss of power. -/
namespace Go.Proofs.Ytehnnnohoaapdaa
open Go Go.RowKit
set_option linter.unusedVariables false
set_option linter.unusedSimpArgs false
theorem bholds_int {D : DV} {V : FV} {B : BV} {p pg mb f b : Nat} {qv : Value} {bx : BX} {w : World} (hM : Mem w (foots [disk D p pg mb qv, blk f 96 (fC V p), book B b bx]) w [disk D p pg mb qv, blk f 96 (fC V p), book B b bx]) (hI : Inv D V B.ps) (mk : Int) (h2 : 2 ≤ mk) (hmk : mk ≤ V.next) : Calls Try.prog 29 #[.pointer (some ⟨b, 0, none⟩), .pointer (some ⟨f, 0, none⟩), .int .i64 mk] w fun e w' => ∃ r, e = .returned (.bool true) ∧ Mem w (foots [disk D p pg mb qv, blk f 96 (fC V p), book B b bx]) w' [disk (D.rd r) p pg mb qv, blk f 96 (fC V p), book B b bx] := by
  obtain ⟨k, rfl⟩ := Int.eq_ofNat_of_zero_le (show 0 ≤ mk by omega)
  exact bholds_any hM hI k (by omega) hmk
set_option maxRecDepth 100000 in
set_option maxHeartbeats 4000000 in
theorem again_old {D : DV} {B : BV} {p pg mb b : Nat} {qv : Value} {bx : BX} {w : World} (hM : Mem w (foots [disk D p pg mb qv, book B b bx]) w [disk D p pg mb qv, book B b bx]) (ao : Option Addr) (nn c : Nat) (l : List UInt8) (hr : Row w ao nn l) (hF : ∀ b₁ o, ao = some ⟨b₁, o, none⟩ → 0 < nn → b₁ ∉ foots [disk D p pg mb qv, book B b bx]) (hnn : nn ≤ 140737488351232) (S : SupV) (hP : Plat (crashD D l) S B.ps) (hg : S.gen = B.gen) (hm : S.mark = B.mark) (hh : S.head = B.head) : Calls Try.prog 37 #[.pointer (some ⟨b, 0, none⟩), .pointer (some ⟨p, 0, none⟩), .slice ao nn c] w fun e w' => ∃ f E m qv' bx', e = .returned (.pointer (some ⟨f, 0, none⟩)) ∧ Mem w (foots [disk D p pg mb qv, book B b bx]) w' [disk E p pg mb qv', blk f 96 (fC ⟨S, S.mark, m⟩ p), book ({ B with mark := S.mark, head := S.head, gen := S.gen, inMark := 0 } : BV) b bx'] ∧ Inv E ⟨S, S.mark, m⟩ B.ps ∧ E.q = [] ∧ E.armed = 0 ∧ E.pages.length = D.pages.length := by
  obtain ⟨lv, kv, vs⟩ := bx
  have M0 := book_open (hM.arr [1, 0] (by decide))
  clear hM
  have M : Mem w _ w [disk D p pg mb qv, blk b 48 (bC B ⟨lv, kv, vs⟩), rows lv vs B.loads, lst 3 1 kv B.ps.length B.kinds] := M0.arr [3, 0, 1, 2] (by decide)
  clear M0
  have hsg := hP.val.2.2.2.1
  have hsg2 := hP.val.2.2.1
  go_enter Try.func37, Try.ntmps37
  refine wp_seq_k (fun K1 hK1 => ?_)
  refine wp_region_lit ?_
  refine pl M (y_assign (v := .pointer none) rfl rfl rfl) ?_
  simp only [Act.put, z1, z2, z3]
  refine wpList_nil ?_
  refine hK1 _ _ ?_
  clear hK1
  refine wp_seq_k (fun K2 hK2 => ?_)
  refine wp_region_lit ?_
  refine pl M (y_move (v := .pointer (some ⟨p, 0, none⟩)) rfl rfl rfl) ?_
  simp only [Act.put, z1, z2, z3]
  refine pl M (y_move (v := .slice ao nn c) rfl rfl rfl) ?_
  simp only [Act.put, z1, z2, z3]
  have hX3 : Mem w _ w ([disk D p pg mb qv] ++ [blk b 48 (bC B ⟨lv, kv, vs⟩), rows lv vs B.loads, lst 3 1 kv B.ps.length B.kinds]) := M.arr [0, 1, 2, 3] (by decide)
  refine pe rfl (fun K hK => ?_)
  refine e_call 16 [.pointer (some ⟨p, 0, none⟩), .slice ao nn c] rfl rfl Try.call16 (crash_any (Mem.here (L := [disk D p pg mb qv]) (R := [blk b 48 (bC B ⟨lv, kv, vs⟩), rows lv vs B.loads, lst 3 1 kv B.ps.length B.kinds]) hX3) ao nn c l hr (fun b₁ o e h0 hb => hF b₁ o e h0 (by simp only [foots, List.flatMap_cons, List.flatMap_nil, List.append_nil, List.mem_append] at hb ⊢; exact .inl hb)) (by omega)) ?_
  rintro e w3 ⟨qv', rfl, H3⟩
  have M3 : Mem w _ w3 [disk (crashD D l) p pg mb qv', blk b 48 (bC B ⟨lv, kv, vs⟩), rows lv vs B.loads, lst 3 1 kv B.ps.length B.kinds] := Mem.frame (Pre := [disk D p pg mb qv]) (Post := [disk (crashD D l) p pg mb qv']) (R := [blk b 48 (bC B ⟨lv, kv, vs⟩), rows lv vs B.loads, lst 3 1 kv B.ps.length B.kinds]) hX3 H3
  refine ⟨_, rfl, ?_⟩
  refine hK.out _ _ ?_
  clear hK K
  simp only [Act.put, z1, z2, z3]
  refine wpList_nil ?_
  refine hK2 _ _ ?_
  clear hK2
  refine wp_seq_k (fun K4 hK4 => ?_)
  refine wp_region_lit ?_
  refine pl M3 (y_move (v := .pointer (some ⟨p, 0, none⟩)) rfl rfl rfl) ?_
  simp only [Act.put, z1, z2, z3]
  have hX5 : Mem w _ w3 ([disk (crashD D l) p pg mb qv'] ++ [blk b 48 (bC B ⟨lv, kv, vs⟩), rows lv vs B.loads, lst 3 1 kv B.ps.length B.kinds]) := M3.arr [0, 1, 2, 3] (by decide)
  refine pe rfl (fun K hK => ?_)
  refine e_call 18 [.pointer (some ⟨p, 0, none⟩)] rfl rfl Try.call18 (open_fit (Mem.here (L := [disk (crashD D l) p pg mb qv']) (R := [blk b 48 (bC B ⟨lv, kv, vs⟩), rows lv vs B.loads, lst 3 1 kv B.ps.length B.kinds]) hX5) hP rfl) ?_
  rintro e w5 ⟨f, E, m, rfl, H5, hI, hq2, hp2, ha2, he2⟩
  have M5 : Mem w _ w5 [disk E p pg mb qv', blk f 96 (fC (⟨S, S.mark, m⟩ : FV) p), blk b 48 (bC B ⟨lv, kv, vs⟩), rows lv vs B.loads, lst 3 1 kv B.ps.length B.kinds] := Mem.frame (Pre := [disk (crashD D l) p pg mb qv']) (Post := [disk E p pg mb qv', blk f 96 (fC (⟨S, S.mark, m⟩ : FV) p)]) (R := [blk b 48 (bC B ⟨lv, kv, vs⟩), rows lv vs B.loads, lst 3 1 kv B.ps.length B.kinds]) hX5 H5
  refine ⟨_, rfl, ?_⟩
  refine hK.out _ _ ?_
  clear hK K
  simp only [Act.put, z1, z2, z3]
  refine pl M5 (y_move (v := .tuple #[.pointer (some ⟨f, 0, none⟩), .int .i64 0]) rfl rfl rfl) ?_
  simp only [Act.put, z1, z2, z3]
  refine pl M5 (y_ext (v := .pointer (some ⟨f, 0, none⟩)) rfl rfl rfl rfl) ?_
  simp only [Act.put, z1, z2, z3]
  refine pl M5 (y_ext (v := .int .i64 0) rfl rfl rfl rfl) ?_
  simp only [Act.put, z1, z2, z3]
  refine pl M5 (y_assign (v := .pointer (some ⟨f, 0, none⟩)) rfl rfl rfl) ?_
  simp only [Act.put, z1, z2, z3]
  refine pl M5 (y_assign (v := .int .i64 0) rfl rfl rfl) ?_
  simp only [Act.put, z1, z2, z3]
  refine wpList_nil ?_
  refine hK4 _ _ ?_
  clear hK4
  refine wp_seq_k (fun K6 hK6 => ?_)
  refine wp_seq_k (fun K7 hK7 => ?_)
  refine wp_region_lit ?_
  refine pl M5 (y_move (v := .int .i64 0) rfl rfl rfl) ?_
  simp only [Act.put, z1, z2, z3]
  refine pl M5 (y_neq (b := false) rfl rfl rfl rfl (by rw [decide_eq_true (by decide)]; rfl)) ?_
  simp only [Act.put, z1, z2, z3]
  refine pl M5 (y_move (v := .bool false) rfl rfl rfl) ?_
  simp only [Act.put, z1, z2, z3]
  refine pl M5 (y_move (v := .pointer (some ⟨f, 0, none⟩)) rfl rfl rfl) ?_
  simp only [Act.put, z1, z2, z3]
  refine pl M5 (y_eqnil (r := false) rfl rfl rfl rfl Try.underlying33 rfl) ?_
  simp only [Act.put, z1, z2, z3]
  refine pl M5 (y_pickF (v := .bool false) rfl rfl rfl rfl) ?_
  simp only [Act.put, z1, z2, z3]
  refine wpList_nil ?_
  refine hK7 _ _ ?_
  clear hK7
  refine wp_cond_false rfl ?_
  refine wp_skip ?_
  refine hK6 _ _ ?_
  clear hK6
  refine wp_seq_k (fun K8 hK8 => ?_)
  refine wp_region_lit ?_
  refine pl M5 (y_move (v := .pointer (some ⟨f, 0, none⟩)) rfl rfl rfl) ?_
  simp only [Act.put, z1, z2, z3]
  have hX9 : Mem w _ w5 ([disk E p pg mb qv', blk f 96 (fC (⟨S, S.mark, m⟩ : FV) p)] ++ [blk b 48 (bC B ⟨lv, kv, vs⟩), rows lv vs B.loads, lst 3 1 kv B.ps.length B.kinds]) := M5.arr [0, 1, 2, 3, 4] (by decide)
  refine pe rfl (fun K hK => ?_)
  refine e_call 19 [.pointer (some ⟨f, 0, none⟩)] rfl rfl Try.call19 (super_any (Mem.here (L := [disk E p pg mb qv', blk f 96 (fC (⟨S, S.mark, m⟩ : FV) p)]) (R := [blk b 48 (bC B ⟨lv, kv, vs⟩), rows lv vs B.loads, lst 3 1 kv B.ps.length B.kinds]) hX9)) ?_
  rintro e w9 ⟨rfl, H9⟩
  have M9 : Mem w _ w9 [disk E p pg mb qv', blk f 96 (fC (⟨S, S.mark, m⟩ : FV) p), blk b 48 (bC B ⟨lv, kv, vs⟩), rows lv vs B.loads, lst 3 1 kv B.ps.length B.kinds] := Mem.frame (Pre := [disk E p pg mb qv', blk f 96 (fC (⟨S, S.mark, m⟩ : FV) p)]) (Post := [disk E p pg mb qv', blk f 96 (fC (⟨S, S.mark, m⟩ : FV) p)]) (R := [blk b 48 (bC B ⟨lv, kv, vs⟩), rows lv vs B.loads, lst 3 1 kv B.ps.length B.kinds]) hX9 H9
  refine ⟨_, rfl, ?_⟩
  refine hK.out _ _ ?_
  clear hK K
  simp only [Act.put, z1, z2, z3]
  refine pe rfl (fun K hK => ?_)
  refine e_alloc M9 (supC noSup) rfl zero_sup ?_
  intro g9 w10 (M10 : Mem w _ w10 [blk g9 37 (supC noSup), disk E p pg mb qv', blk f 96 (fC (⟨S, S.mark, m⟩ : FV) p), blk b 48 (bC B ⟨lv, kv, vs⟩), rows lv vs B.loads, lst 3 1 kv B.ps.length B.kinds])
  clear M9
  refine hK.out _ _ ?_
  clear hK K
  simp only [Act.put, z1, z2, z3]
  refine pe rfl (fun K hK => ?_)
  refine e_storew M10 0 (cs := (supC (⟨S, S.mark, m⟩ : FV).s)) rfl rfl rfl rfl (size_sup _) (sup_all _) rfl (rfl) ?_
  intro w11 (M11 : Mem w _ w11 [blk g9 37 (supC (⟨S, S.mark, m⟩ : FV).s), disk E p pg mb qv', blk f 96 (fC (⟨S, S.mark, m⟩ : FV) p), blk b 48 (bC B ⟨lv, kv, vs⟩), rows lv vs B.loads, lst 3 1 kv B.ps.length B.kinds])
  clear M10
  refine hK.out _ _ ?_
  clear hK K
  simp only [Act.put, z1, z2, z3]
  refine wpList_nil ?_
  refine hK8 _ _ ?_
  clear hK8
  refine wp_seq_k (fun K12 hK12 => ?_)
  have M13 : Mem w _ w11.drew [blk g9 37 (supC (⟨S, S.mark, m⟩ : FV).s), disk E p pg mb qv', blk f 96 (fC (⟨S, S.mark, m⟩ : FV) p), blk b 48 (bC B ⟨lv, kv, vs⟩), rows lv vs B.loads, lst 3 1 kv B.ps.length B.kinds] := M11.drew
  clear M11
  refine wp_region_tail 25 (by kernel_rfl) (by kernel_rfl) ?_
  simp only [List.take_succ_cons, List.take_zero, List.drop_succ_cons, List.drop_zero]
  refine ps M13 (y_fa (r := 1) rfl rfl rfl Try.underlying37 rfl Try.sizeOf3 rfl) ?_
  simp only [Act.put, z1, z2, z3]
  refine ps M13 (y_load (v := .int .i64 S.gen) rfl rfl rfl Try.isAgg3 (fun W hW => hW.get 0 rfl) (rfl)) ?_
  simp only [Act.put, z1, z2, z3]
  refine ps M13 (y_move (v := .pointer (some ⟨b, 0, none⟩)) rfl rfl rfl) ?_
  simp only [Act.put, z1, z2, z3]
  refine ps M13 (y_nil rfl rfl rfl) ?_
  simp only [Act.put, z1, z2, z3]
  refine ps M13 (y_fa (r := 3) rfl rfl rfl Try.underlying48 rfl Try.sizeOf3 rfl) ?_
  simp only [Act.put, z1, z2, z3]
  refine ps M13 (y_load (v := .int .i64 B.gen) rfl rfl rfl Try.isAgg3 (fun W hW => hW.get 3 rfl) (rfl)) ?_
  simp only [Act.put, z1, z2, z3]
  refine ps M13 (y_eql (b := true) rfl rfl rfl rfl (decide_eq_true hg)) ?_
  simp only [Act.put, z1, z2, z3]
  refine ps M13 (y_move (v := .bool true) rfl rfl rfl) ?_
  simp only [Act.put, z1, z2, z3]
  refine ps M13 (y_fa (r := 2) rfl rfl rfl Try.underlying37 rfl Try.sizeOf3 rfl) ?_
  simp only [Act.put, z1, z2, z3]
  refine ps M13 (y_load (v := .int .i64 S.mark) rfl rfl rfl Try.isAgg3 (fun W hW => hW.get 0 rfl) (rfl)) ?_
  simp only [Act.put, z1, z2, z3]
  refine ps M13 (y_move (v := .pointer (some ⟨b, 0, none⟩)) rfl rfl rfl) ?_
  simp only [Act.put, z1, z2, z3]
  refine ps M13 (y_nil rfl rfl rfl) ?_
  simp only [Act.put, z1, z2, z3]
  refine ps M13 (y_fa (r := 2) rfl rfl rfl Try.underlying48 rfl Try.sizeOf3 rfl) ?_
  simp only [Act.put, z1, z2, z3]
  refine ps M13 (y_load (v := .int .i64 B.mark) rfl rfl rfl Try.isAgg3 (fun W hW => hW.get 3 rfl) (rfl)) ?_
  simp only [Act.put, z1, z2, z3]
  refine ps M13 (y_eql (b := true) rfl rfl rfl rfl (decide_eq_true hm)) ?_
  simp only [Act.put, z1, z2, z3]
  refine ps M13 (y_pickT (v := .bool true) rfl rfl rfl rfl) ?_
  simp only [Act.put, z1, z2, z3]
  refine ps M13 (y_move (v := .bool true) rfl rfl rfl) ?_
  simp only [Act.put, z1, z2, z3]
  refine ps M13 (y_fa (r := 3) rfl rfl rfl Try.underlying37 rfl Try.sizeOf3 rfl) ?_
  simp only [Act.put, z1, z2, z3]
  refine ps M13 (y_load (v := .int .i64 S.head) rfl rfl rfl Try.isAgg3 (fun W hW => hW.get 0 rfl) (rfl)) ?_
  simp only [Act.put, z1, z2, z3]
  refine ps M13 (y_move (v := .pointer (some ⟨b, 0, none⟩)) rfl rfl rfl) ?_
  simp only [Act.put, z1, z2, z3]
  refine ps M13 (y_nil rfl rfl rfl) ?_
  simp only [Act.put, z1, z2, z3]
  refine ps M13 (y_fa (r := 4) rfl rfl rfl Try.underlying48 rfl Try.sizeOf3 rfl) ?_
  simp only [Act.put, z1, z2, z3]
  refine ps M13 (y_load (v := .int .i64 B.head) rfl rfl rfl Try.isAgg3 (fun W hW => hW.get 3 rfl) (rfl)) ?_
  simp only [Act.put, z1, z2, z3]
  refine ps M13 (y_eql (b := true) rfl rfl rfl rfl (decide_eq_true hh)) ?_
  simp only [Act.put, z1, z2, z3]
  refine ps M13 (y_pickT (v := .bool true) rfl rfl rfl rfl) ?_
  simp only [Act.put, z1, z2, z3]
  refine wpStill_nil ?_
  refine pl M13 (y_assign (v := .bool true) rfl rfl rfl) ?_
  simp only [Act.put, z1, z2, z3]
  refine wpList_nil ?_
  refine hK12 _ _ ?_
  clear hK12
  refine wp_seq_k (fun K14 hK14 => ?_)
  have M15 : Mem w _ w11.drew.drew [blk g9 37 (supC (⟨S, S.mark, m⟩ : FV).s), disk E p pg mb qv', blk f 96 (fC (⟨S, S.mark, m⟩ : FV) p), blk b 48 (bC B ⟨lv, kv, vs⟩), rows lv vs B.loads, lst 3 1 kv B.ps.length B.kinds] := M13.drew
  clear M13
  refine wp_region_tail 33 (by kernel_rfl) (by kernel_rfl) ?_
  simp only [List.take_succ_cons, List.take_zero, List.drop_succ_cons, List.drop_zero]
  refine ps M15 (y_move (v := .pointer (some ⟨b, 0, none⟩)) rfl rfl rfl) ?_
  simp only [Act.put, z1, z2, z3]
  refine ps M15 (y_nil rfl rfl rfl) ?_
  simp only [Act.put, z1, z2, z3]
  refine ps M15 (y_fa (r := 5) rfl rfl rfl Try.underlying48 rfl Try.sizeOf3 rfl) ?_
  simp only [Act.put, z1, z2, z3]
  refine ps M15 (y_load (v := .int .i64 B.inMark) rfl rfl rfl Try.isAgg3 (fun W hW => hW.get 3 rfl) (rfl)) ?_
  simp only [Act.put, z1, z2, z3]
  rcases Decidable.em ((0 : Int) < B.inMark) with h16 | h16
  · refine ps M15 (y_gtr (b := true) rfl rfl rfl rfl (decide_eq_true h16)) ?_
    simp only [Act.put, z1, z2, z3]
    refine ps M15 (y_move (v := .bool true) rfl rfl rfl) ?_
    simp only [Act.put, z1, z2, z3]
    refine ps M15 (y_fa (r := 1) rfl rfl rfl Try.underlying37 rfl Try.sizeOf3 rfl) ?_
    simp only [Act.put, z1, z2, z3]
    refine ps M15 (y_load (v := .int .i64 S.gen) rfl rfl rfl Try.isAgg3 (fun W hW => hW.get 0 rfl) (rfl)) ?_
    simp only [Act.put, z1, z2, z3]
    refine ps M15 (y_move (v := .pointer (some ⟨b, 0, none⟩)) rfl rfl rfl) ?_
    simp only [Act.put, z1, z2, z3]
    refine ps M15 (y_nil rfl rfl rfl) ?_
    simp only [Act.put, z1, z2, z3]
    refine ps M15 (y_fa (r := 3) rfl rfl rfl Try.underlying48 rfl Try.sizeOf3 rfl) ?_
    simp only [Act.put, z1, z2, z3]
    refine ps M15 (y_load (v := .int .i64 B.gen) rfl rfl rfl Try.isAgg3 (fun W hW => hW.get 3 rfl) (rfl)) ?_
    simp only [Act.put, z1, z2, z3]
    refine ps M15 (y_add (r := B.gen + 1) rfl rfl rfl rfl (rfl) (by omega)) ?_
    simp only [Act.put, z1, z2, z3]
    refine ps M15 (y_eql (b := false) rfl rfl rfl rfl (decide_eq_false (by omega))) ?_
    simp only [Act.put, z1, z2, z3]
    refine ps M15 (y_pickT (v := .bool false) rfl rfl rfl rfl) ?_
    simp only [Act.put, z1, z2, z3]
    refine ps M15 (y_move (v := .bool false) rfl rfl rfl) ?_
    simp only [Act.put, z1, z2, z3]
    with_reducible refine ps_skip ?_ ?_
    · rfl
    simp only [Act.put, z1, z2, z3]
    with_reducible refine ps_skip ?_ ?_
    · rfl
    simp only [Act.put, z1, z2, z3]
    with_reducible refine ps_skip ?_ ?_
    · rfl
    simp only [Act.put, z1, z2, z3]
    with_reducible refine ps_skip ?_ ?_
    · rfl
    simp only [Act.put, z1, z2, z3]
    with_reducible refine ps_skip ?_ ?_
    · rfl
    simp only [Act.put, z1, z2, z3]
    with_reducible refine ps_skip ?_ ?_
    · rfl
    simp only [Act.put, z1, z2, z3]
    with_reducible refine ps_skip ?_ ?_
    · rfl
    simp only [Act.put, z1, z2, z3]
    refine ps M15 (y_pickF (v := .bool false) rfl rfl rfl rfl) ?_
    simp only [Act.put, z1, z2, z3]
    refine ps M15 (y_move (v := .bool false) rfl rfl rfl) ?_
    simp only [Act.put, z1, z2, z3]
    with_reducible refine ps_skip ?_ ?_
    · rfl
    simp only [Act.put, z1, z2, z3]
    with_reducible refine ps_skip ?_ ?_
    · rfl
    simp only [Act.put, z1, z2, z3]
    with_reducible refine ps_skip ?_ ?_
    · rfl
    simp only [Act.put, z1, z2, z3]
    with_reducible refine ps_skip ?_ ?_
    · rfl
    simp only [Act.put, z1, z2, z3]
    with_reducible refine ps_skip ?_ ?_
    · rfl
    simp only [Act.put, z1, z2, z3]
    with_reducible refine ps_skip ?_ ?_
    · rfl
    simp only [Act.put, z1, z2, z3]
    with_reducible refine ps_skip ?_ ?_
    · rfl
    simp only [Act.put, z1, z2, z3]
    refine ps M15 (y_pickF (v := .bool false) rfl rfl rfl rfl) ?_
    simp only [Act.put, z1, z2, z3]
    refine wpStill_nil ?_
    refine pl M15 (y_assign (v := .bool false) rfl rfl rfl) ?_
    simp only [Act.put, z1, z2, z3]
    refine wpList_nil ?_
    refine hK14 _ _ ?_
    clear hK14
    refine wp_seq_k (fun K17 hK17 => ?_)
    refine wp_seq_k (fun K18 hK18 => ?_)
    refine wp_region_lit ?_
    refine pl M15 (y_move (v := .bool true) rfl rfl rfl) ?_
    simp only [Act.put, z1, z2, z3]
    refine pl M15 (y_not rfl rfl rfl rfl) ?_
    simp only [Act.put, z1, z2, z3]
    refine pl M15 (y_move (v := .bool false) rfl rfl rfl) ?_
    simp only [Act.put, z1, z2, z3]
    with_reducible refine pskip ?_ ?_
    · rfl
    simp only [Act.put, z1, z2, z3]
    with_reducible refine pskip ?_ ?_
    · rfl
    simp only [Act.put, z1, z2, z3]
    refine pl M15 (y_pickF (v := .bool false) rfl rfl rfl rfl) ?_
    simp only [Act.put, z1, z2, z3]
    refine wpList_nil ?_
    refine hK18 _ _ ?_
    clear hK18
    refine wp_cond_false rfl ?_
    refine wp_skip ?_
    refine hK17 _ _ ?_
    clear hK17
    refine wp_seq_k (fun K19 hK19 => ?_)
    refine wp_seq_k (fun K20 hK20 => ?_)
    have M21 := M15.drew
    refine held_begin (fun W => Mem w (foots [disk D p pg mb qv, book B b ⟨lv, kv, vs⟩]) W [blk g9 37 (supC (⟨S, S.mark, m⟩ : FV).s)]) (by kernel_rfl) (M21.arr [0] (by decide)) (fun hS => ?_)
    refine held_take 0 _ rfl (by kernel_rfl) (by kernel_rfl) (by kernel_rfl) (y_move (v := .pointer (some ⟨b, 0, none⟩)) rfl rfl rfl) hS ?_
    simp only [Act.put, z1, z2, z3]
    refine held_take 1 _ rfl (by kernel_rfl) (by kernel_rfl) (by kernel_rfl) (y_move (v := .pointer (some ⟨f, 0, none⟩)) rfl rfl rfl) hS ?_
    simp only [Act.put, z1, z2, z3]
    refine held_take 2 _ rfl (by kernel_rfl) (by kernel_rfl) (by kernel_rfl) (y_fa (r := 2) rfl rfl rfl Try.underlying37 rfl Try.sizeOf3 rfl) hS ?_
    simp only [Act.put, z1, z2, z3]
    refine held_take 3 _ rfl (by kernel_rfl) (by kernel_rfl) (by kernel_rfl) (y_load (v := .int .i64 S.mark) rfl rfl rfl Try.isAgg3 (fun W hW => hW.get 0 rfl) (rfl)) hS ?_
    simp only [Act.put, z1, z2, z3]
    have M22 : Mem w _ w11.drew.drew.drew [book B b (⟨lv, kv, vs⟩), blk g9 37 (supC (⟨S, S.mark, m⟩ : FV).s), disk E p pg mb qv', blk f 96 (fC (⟨S, S.mark, m⟩ : FV) p)] := book_close (M21.arr [3, 4, 5, 0, 1, 2] (by decide))
    clear M21
    have hX23 : Mem w _ w11.drew.drew.drew ([disk E p pg mb qv', blk f 96 (fC (⟨S, S.mark, m⟩ : FV) p), book B b (⟨lv, kv, vs⟩)] ++ [blk g9 37 (supC (⟨S, S.mark, m⟩ : FV).s)]) := M22.arr [2, 3, 0, 1] (by decide)
    refine held_step 4 (by kernel_rfl) rfl (by rfl) (fun K hK => ?_)
    refine e_call 29 [.pointer (some ⟨b, 0, none⟩), .pointer (some ⟨f, 0, none⟩), .int .i64 S.mark] rfl rfl Try.call29 (bholds_int (Mem.here (L := [disk E p pg mb qv', blk f 96 (fC (⟨S, S.mark, m⟩ : FV) p), book B b (⟨lv, kv, vs⟩)]) (R := [blk g9 37 (supC (⟨S, S.mark, m⟩ : FV).s)]) hX23) (B := B) hI S.mark hP.mark2 (Int.le_refl _)) ?_
    rintro e w23 ⟨r, rfl, H23⟩
    have M23 : Mem w _ w23 [disk (E.rd r) p pg mb qv', blk f 96 (fC (⟨S, S.mark, m⟩ : FV) p), book B b (⟨lv, kv, vs⟩), blk g9 37 (supC (⟨S, S.mark, m⟩ : FV).s)] := Mem.frame (Pre := [disk E p pg mb qv', blk f 96 (fC (⟨S, S.mark, m⟩ : FV) p), book B b (⟨lv, kv, vs⟩)]) (Post := [disk (E.rd r) p pg mb qv', blk f 96 (fC (⟨S, S.mark, m⟩ : FV) p), book B b (⟨lv, kv, vs⟩)]) (R := [blk g9 37 (supC (⟨S, S.mark, m⟩ : FV).s)]) hX23 H23
    refine ⟨_, rfl, ?_⟩
    refine hK.out _ _ (M23.arr [3] (by decide)) (fun hS => ?_)
    clear hK K
    simp only [Act.put, z1, z2, z3]
    have M24 : Mem w _ w23 [blk b 48 (bC B ⟨lv, kv, vs⟩), rows lv vs B.loads, lst 3 1 kv B.ps.length B.kinds, disk (E.rd r) p pg mb qv', blk f 96 (fC (⟨S, S.mark, m⟩ : FV) p), blk g9 37 (supC (⟨S, S.mark, m⟩ : FV).s)] := book_open (M23.arr [2, 0, 1, 3] (by decide))
    clear M23
    refine held_take 5 _ rfl (by kernel_rfl) (by kernel_rfl) (by kernel_rfl) (y_not rfl rfl rfl rfl) hS ?_
    simp only [Act.put, z1, z2, z3]
    refine held_take 6 _ rfl (by kernel_rfl) (by kernel_rfl) (by kernel_rfl) (y_move (v := .bool false) rfl rfl rfl) hS ?_
    simp only [Act.put, z1, z2, z3]
    refine held_take 7 _ rfl (by kernel_rfl) (by kernel_rfl) (by kernel_rfl) (y_move (v := .pointer (some ⟨f, 0, none⟩)) rfl rfl rfl) hS ?_
    simp only [Act.put, z1, z2, z3]
    refine held_take 9 _ rfl (by kernel_rfl) (by kernel_rfl) (by kernel_rfl) (y_fa (r := 2) rfl rfl rfl Try.underlying37 rfl Try.sizeOf3 rfl) hS ?_
    simp only [Act.put, z1, z2, z3]
    refine held_take 10 _ rfl (by kernel_rfl) (by kernel_rfl) (by kernel_rfl) (y_load (v := .int .i64 S.mark) rfl rfl rfl Try.isAgg3 (fun W hW => hW.get 0 rfl) (rfl)) hS ?_
    simp only [Act.put, z1, z2, z3]
    have hX25 : Mem w _ w23 ([disk (E.rd r) p pg mb qv', blk f 96 (fC (⟨S, S.mark, m⟩ : FV) p)] ++ [blk b 48 (bC B ⟨lv, kv, vs⟩), rows lv vs B.loads, lst 3 1 kv B.ps.length B.kinds, blk g9 37 (supC (⟨S, S.mark, m⟩ : FV).s)]) := M24.arr [3, 4, 0, 1, 2, 5] (by decide)
    refine held_step 8 (by kernel_rfl) rfl (by rfl) (fun K hK => ?_)
    refine e_call 20 [.pointer (some ⟨f, 0, none⟩)] rfl rfl Try.call20 (next_any (Mem.here (L := [disk (E.rd r) p pg mb qv', blk f 96 (fC (⟨S, S.mark, m⟩ : FV) p)]) (R := [blk b 48 (bC B ⟨lv, kv, vs⟩), rows lv vs B.loads, lst 3 1 kv B.ps.length B.kinds, blk g9 37 (supC (⟨S, S.mark, m⟩ : FV).s)]) hX25)) ?_
    rintro e w25 ⟨rfl, H25⟩
    have M25 : Mem w _ w25 [disk (E.rd r) p pg mb qv', blk f 96 (fC (⟨S, S.mark, m⟩ : FV) p), blk b 48 (bC B ⟨lv, kv, vs⟩), rows lv vs B.loads, lst 3 1 kv B.ps.length B.kinds, blk g9 37 (supC (⟨S, S.mark, m⟩ : FV).s)] := Mem.frame (Pre := [disk (E.rd r) p pg mb qv', blk f 96 (fC (⟨S, S.mark, m⟩ : FV) p)]) (Post := [disk (E.rd r) p pg mb qv', blk f 96 (fC (⟨S, S.mark, m⟩ : FV) p)]) (R := [blk b 48 (bC B ⟨lv, kv, vs⟩), rows lv vs B.loads, lst 3 1 kv B.ps.length B.kinds, blk g9 37 (supC (⟨S, S.mark, m⟩ : FV).s)]) hX25 H25
    refine ⟨_, rfl, ?_⟩
    refine hK.out _ _ (M25.arr [5] (by decide)) (fun hS => ?_)
    clear hK K
    simp only [Act.put, z1, z2, z3]
    refine held_take 11 _ rfl (by kernel_rfl) (by kernel_rfl) (by kernel_rfl) (y_neq (b := false) rfl rfl rfl rfl (by rw [decide_eq_true rfl]; rfl)) hS ?_
    simp only [Act.put, z1, z2, z3]
    refine held_take 12 _ rfl (by kernel_rfl) (by kernel_rfl) (by kernel_rfl) (y_pickF (v := .bool false) rfl rfl rfl rfl) hS ?_
    simp only [Act.put, z1, z2, z3]
    refine held_done (by kernel_rfl) ?_ _
    refine hK20 _ _ ?_
    clear hK20
    refine wp_cond_false rfl ?_
    refine wp_skip ?_
    refine hK19 _ _ ?_
    clear hK19
    refine wp_seq_k (fun K26 hK26 => ?_)
    have M27 := M25.drew
    refine held_begin (fun W => Mem w (foots [disk D p pg mb qv, book B b ⟨lv, kv, vs⟩]) W [blk g9 37 (supC (⟨S, S.mark, m⟩ : FV).s)]) (by kernel_rfl) (M27.arr [5] (by decide)) (fun hS => ?_)
    refine held_take 0 _ rfl (by kernel_rfl) (by kernel_rfl) (by kernel_rfl) (y_move (v := .pointer (some ⟨b, 0, none⟩)) rfl rfl rfl) hS ?_
    simp only [Act.put, z1, z2, z3]
    refine held_take 1 _ rfl (by kernel_rfl) (by kernel_rfl) (by kernel_rfl) (y_move (v := .pointer (some ⟨b, 0, none⟩)) rfl rfl rfl) hS ?_
    simp only [Act.put, z1, z2, z3]
    refine held_take 2 _ rfl (by kernel_rfl) (by kernel_rfl) (by kernel_rfl) (y_move (v := .pointer (some ⟨b, 0, none⟩)) rfl rfl rfl) hS ?_
    simp only [Act.put, z1, z2, z3]
    refine held_take 3 _ rfl (by kernel_rfl) (by kernel_rfl) (by kernel_rfl) (y_fa (r := 2) rfl rfl rfl Try.underlying37 rfl Try.sizeOf3 rfl) hS ?_
    simp only [Act.put, z1, z2, z3]
    refine held_take 4 _ rfl (by kernel_rfl) (by kernel_rfl) (by kernel_rfl) (y_load (v := .int .i64 S.mark) rfl rfl rfl Try.isAgg3 (fun W hW => hW.get 0 rfl) (rfl)) hS ?_
    simp only [Act.put, z1, z2, z3]
    refine held_take 5 _ rfl (by kernel_rfl) (by kernel_rfl) (by kernel_rfl) (y_fa (r := 3) rfl rfl rfl Try.underlying37 rfl Try.sizeOf3 rfl) hS ?_
    simp only [Act.put, z1, z2, z3]
    refine held_take 6 _ rfl (by kernel_rfl) (by kernel_rfl) (by kernel_rfl) (y_load (v := .int .i64 S.head) rfl rfl rfl Try.isAgg3 (fun W hW => hW.get 0 rfl) (rfl)) hS ?_
    simp only [Act.put, z1, z2, z3]
    refine held_take 7 _ rfl (by kernel_rfl) (by kernel_rfl) (by kernel_rfl) (y_fa (r := 1) rfl rfl rfl Try.underlying37 rfl Try.sizeOf3 rfl) hS ?_
    simp only [Act.put, z1, z2, z3]
    refine held_take 8 _ rfl (by kernel_rfl) (by kernel_rfl) (by kernel_rfl) (y_load (v := .int .i64 S.gen) rfl rfl rfl Try.isAgg3 (fun W hW => hW.get 0 rfl) (rfl)) hS ?_
    simp only [Act.put, z1, z2, z3]
    refine held_take 9 _ rfl (by kernel_rfl) (by kernel_rfl) (by kernel_rfl) (y_nil rfl rfl rfl) hS ?_
    simp only [Act.put, z1, z2, z3]
    refine held_take 10 _ rfl (by kernel_rfl) (by kernel_rfl) (by kernel_rfl) (y_fa (r := 2) rfl rfl rfl Try.underlying48 rfl Try.sizeOf3 rfl) hS ?_
    simp only [Act.put, z1, z2, z3]
    refine held_step 11 (by kernel_rfl) rfl (by rfl) (fun K hK => ?_)
    refine e_store M27 2 (v := .int .i64 S.mark) rfl rfl rfl rfl rfl rfl Try.sizeOf3 rfl (show (2 : Nat) < 7 by decide) ?_
    intro w28 (M28 : Mem w _ w28 [disk (E.rd r) p pg mb qv', blk f 96 (fC (⟨S, S.mark, m⟩ : FV) p), blk b 48 ([lv, kv, .int .i64 S.mark, .int .i64 B.gen, .int .i64 B.head, .int .i64 B.inMark, .int .i64 B.inHead]), rows lv vs B.loads, lst 3 1 kv B.ps.length B.kinds, blk g9 37 (supC (⟨S, S.mark, m⟩ : FV).s)])
    clear M27
    refine hK.out _ _ (M28.arr [5] (by decide)) (fun hS => ?_)
    clear hK K
    simp only [Act.put, z1, z2, z3]
    refine held_take 12 _ rfl (by kernel_rfl) (by kernel_rfl) (by kernel_rfl) (y_nil rfl rfl rfl) hS ?_
    simp only [Act.put, z1, z2, z3]
    refine held_take 13 _ rfl (by kernel_rfl) (by kernel_rfl) (by kernel_rfl) (y_fa (r := 4) rfl rfl rfl Try.underlying48 rfl Try.sizeOf3 rfl) hS ?_
    simp only [Act.put, z1, z2, z3]
    refine held_step 14 (by kernel_rfl) rfl (by rfl) (fun K hK => ?_)
    refine e_store M28 2 (v := .int .i64 S.head) rfl rfl rfl rfl rfl rfl Try.sizeOf3 rfl (show (4 : Nat) < 7 by decide) ?_
    intro w29 (M29 : Mem w _ w29 [disk (E.rd r) p pg mb qv', blk f 96 (fC (⟨S, S.mark, m⟩ : FV) p), blk b 48 ([lv, kv, .int .i64 S.mark, .int .i64 B.gen, .int .i64 S.head, .int .i64 B.inMark, .int .i64 B.inHead]), rows lv vs B.loads, lst 3 1 kv B.ps.length B.kinds, blk g9 37 (supC (⟨S, S.mark, m⟩ : FV).s)])
    clear M28
    refine hK.out _ _ (M29.arr [5] (by decide)) (fun hS => ?_)
    clear hK K
    simp only [Act.put, z1, z2, z3]
    refine held_take 15 _ rfl (by kernel_rfl) (by kernel_rfl) (by kernel_rfl) (y_nil rfl rfl rfl) hS ?_
    simp only [Act.put, z1, z2, z3]
    refine held_take 16 _ rfl (by kernel_rfl) (by kernel_rfl) (by kernel_rfl) (y_fa (r := 3) rfl rfl rfl Try.underlying48 rfl Try.sizeOf3 rfl) hS ?_
    simp only [Act.put, z1, z2, z3]
    refine held_step 17 (by kernel_rfl) rfl (by rfl) (fun K hK => ?_)
    refine e_store M29 2 (v := .int .i64 S.gen) rfl rfl rfl rfl rfl rfl Try.sizeOf3 rfl (show (3 : Nat) < 7 by decide) ?_
    intro w30 (M30 : Mem w _ w30 [disk (E.rd r) p pg mb qv', blk f 96 (fC (⟨S, S.mark, m⟩ : FV) p), blk b 48 ([lv, kv, .int .i64 S.mark, .int .i64 S.gen, .int .i64 S.head, .int .i64 B.inMark, .int .i64 B.inHead]), rows lv vs B.loads, lst 3 1 kv B.ps.length B.kinds, blk g9 37 (supC (⟨S, S.mark, m⟩ : FV).s)])
    clear M29
    refine hK.out _ _ (M30.arr [5] (by decide)) (fun hS => ?_)
    clear hK K
    simp only [Act.put, z1, z2, z3]
    refine held_done (by kernel_rfl) ?_ _
    refine hK26 _ _ ?_
    clear hK26
    refine wp_seq_k (fun K31 hK31 => ?_)
    refine wp_region_lit ?_
    refine pl M30 (y_move (v := .pointer (some ⟨b, 0, none⟩)) rfl rfl rfl) ?_
    simp only [Act.put, z1, z2, z3]
    refine pl M30 (y_nil rfl rfl rfl) ?_
    simp only [Act.put, z1, z2, z3]
    refine pl M30 (y_fa (r := 5) rfl rfl rfl Try.underlying48 rfl Try.sizeOf3 rfl) ?_
    simp only [Act.put, z1, z2, z3]
    refine pe rfl (fun K hK => ?_)
    refine e_store M30 2 (v := .int .i64 0) rfl rfl rfl rfl rfl rfl Try.sizeOf3 rfl (show (5 : Nat) < 7 by decide) ?_
    intro w32 (M32 : Mem w _ w32 [disk (E.rd r) p pg mb qv', blk f 96 (fC (⟨S, S.mark, m⟩ : FV) p), blk b 48 ([lv, kv, .int .i64 S.mark, .int .i64 S.gen, .int .i64 S.head, .int .i64 0, .int .i64 B.inHead]), rows lv vs B.loads, lst 3 1 kv B.ps.length B.kinds, blk g9 37 (supC (⟨S, S.mark, m⟩ : FV).s)])
    clear M30
    refine hK.out _ _ ?_
    clear hK K
    simp only [Act.put, z1, z2, z3]
    refine wpList_nil ?_
    refine hK31 _ _ ?_
    clear hK31
    refine wp_seq_k (fun K33 hK33 => ?_)
    refine wp_region_lit ?_
    refine pl M32 (y_move (v := .pointer (some ⟨f, 0, none⟩)) rfl rfl rfl) ?_
    simp only [Act.put, z1, z2, z3]
    refine pl M32 (y_assign (v := .pointer (some ⟨f, 0, none⟩)) rfl rfl rfl) ?_
    simp only [Act.put, z1, z2, z3]
    refine wpList_nil ?_
    refine hK33 _ _ ?_
    clear hK33
    refine wp_ret ?_
    try simp only [Exit.inBlock, Exit.then]
    refine bodyPost_ret (v := .pointer (some ⟨f, 0, none⟩)) (res1 rfl rfl) rfl ?_
    have N : Mem _ _ _ [book ({ B with mark := S.mark, head := S.head, gen := S.gen, inMark := 0 } : BV) b ⟨lv, kv, vs⟩, _, _] := book_close (M32.arr [2, 3, 4, 0, 1] (by decide))
    exact ⟨f, E.rd r, m, qv', ⟨lv, kv, vs⟩, rfl, N.arr [1, 2, 0] (by decide), hI.rd r, hq2, ha2, by show E.pages.length = _; rw [hp2, crash_len]⟩
  · refine ps M15 (y_gtr (b := false) rfl rfl rfl rfl (decide_eq_false h16)) ?_
    simp only [Act.put, z1, z2, z3]
    refine ps M15 (y_move (v := .bool false) rfl rfl rfl) ?_
    simp only [Act.put, z1, z2, z3]
    with_reducible refine ps_skip ?_ ?_
    · rfl
    simp only [Act.put, z1, z2, z3]
    with_reducible refine ps_skip ?_ ?_
    · rfl
    simp only [Act.put, z1, z2, z3]
    with_reducible refine ps_skip ?_ ?_
    · rfl
    simp only [Act.put, z1, z2, z3]
    with_reducible refine ps_skip ?_ ?_
    · rfl
    simp only [Act.put, z1, z2, z3]
    with_reducible refine ps_skip ?_ ?_
    · rfl
    simp only [Act.put, z1, z2, z3]
    with_reducible refine ps_skip ?_ ?_
    · rfl
    simp only [Act.put, z1, z2, z3]
    with_reducible refine ps_skip ?_ ?_
    · rfl
    simp only [Act.put, z1, z2, z3]
    with_reducible refine ps_skip ?_ ?_
    · rfl
    simp only [Act.put, z1, z2, z3]
    refine ps M15 (y_pickF (v := .bool false) rfl rfl rfl rfl) ?_
    simp only [Act.put, z1, z2, z3]
    refine ps M15 (y_move (v := .bool false) rfl rfl rfl) ?_
    simp only [Act.put, z1, z2, z3]
    with_reducible refine ps_skip ?_ ?_
    · rfl
    simp only [Act.put, z1, z2, z3]
    with_reducible refine ps_skip ?_ ?_
    · rfl
    simp only [Act.put, z1, z2, z3]
    with_reducible refine ps_skip ?_ ?_
    · rfl
    simp only [Act.put, z1, z2, z3]
    with_reducible refine ps_skip ?_ ?_
    · rfl
    simp only [Act.put, z1, z2, z3]
    with_reducible refine ps_skip ?_ ?_
    · rfl
    simp only [Act.put, z1, z2, z3]
    with_reducible refine ps_skip ?_ ?_
    · rfl
    simp only [Act.put, z1, z2, z3]
    with_reducible refine ps_skip ?_ ?_
    · rfl
    simp only [Act.put, z1, z2, z3]
    refine ps M15 (y_pickF (v := .bool false) rfl rfl rfl rfl) ?_
    simp only [Act.put, z1, z2, z3]
    refine ps M15 (y_move (v := .bool false) rfl rfl rfl) ?_
    simp only [Act.put, z1, z2, z3]
    with_reducible refine ps_skip ?_ ?_
    · rfl
    simp only [Act.put, z1, z2, z3]
    with_reducible refine ps_skip ?_ ?_
    · rfl
    simp only [Act.put, z1, z2, z3]
    with_reducible refine ps_skip ?_ ?_
    · rfl
    simp only [Act.put, z1, z2, z3]
    with_reducible refine ps_skip ?_ ?_
    · rfl
    simp only [Act.put, z1, z2, z3]
    with_reducible refine ps_skip ?_ ?_
    · rfl
    simp only [Act.put, z1, z2, z3]
    with_reducible refine ps_skip ?_ ?_
    · rfl
    simp only [Act.put, z1, z2, z3]
    with_reducible refine ps_skip ?_ ?_
    · rfl
    simp only [Act.put, z1, z2, z3]
    refine ps M15 (y_pickF (v := .bool false) rfl rfl rfl rfl) ?_
    simp only [Act.put, z1, z2, z3]
    refine wpStill_nil ?_
    refine pl M15 (y_assign (v := .bool false) rfl rfl rfl) ?_
    simp only [Act.put, z1, z2, z3]
    refine wpList_nil ?_
    refine hK14 _ _ ?_
    clear hK14
    refine wp_seq_k (fun K34 hK34 => ?_)
    refine wp_seq_k (fun K35 hK35 => ?_)
    refine wp_region_lit ?_
    refine pl M15 (y_move (v := .bool true) rfl rfl rfl) ?_
    simp only [Act.put, z1, z2, z3]
    refine pl M15 (y_not rfl rfl rfl rfl) ?_
    simp only [Act.put, z1, z2, z3]
    refine pl M15 (y_move (v := .bool false) rfl rfl rfl) ?_
    simp only [Act.put, z1, z2, z3]
    with_reducible refine pskip ?_ ?_
    · rfl
    simp only [Act.put, z1, z2, z3]
    with_reducible refine pskip ?_ ?_
    · rfl
    simp only [Act.put, z1, z2, z3]
    refine pl M15 (y_pickF (v := .bool false) rfl rfl rfl rfl) ?_
    simp only [Act.put, z1, z2, z3]
    refine wpList_nil ?_
    refine hK35 _ _ ?_
    clear hK35
    refine wp_cond_false rfl ?_
    refine wp_skip ?_
    refine hK34 _ _ ?_
    clear hK34
    refine wp_seq_k (fun K36 hK36 => ?_)
    refine wp_seq_k (fun K37 hK37 => ?_)
    have M38 := M15.drew
    refine held_begin (fun W => Mem w (foots [disk D p pg mb qv, book B b ⟨lv, kv, vs⟩]) W [blk g9 37 (supC (⟨S, S.mark, m⟩ : FV).s)]) (by kernel_rfl) (M38.arr [0] (by decide)) (fun hS => ?_)
    refine held_take 0 _ rfl (by kernel_rfl) (by kernel_rfl) (by kernel_rfl) (y_move (v := .pointer (some ⟨b, 0, none⟩)) rfl rfl rfl) hS ?_
    simp only [Act.put, z1, z2, z3]
    refine held_take 1 _ rfl (by kernel_rfl) (by kernel_rfl) (by kernel_rfl) (y_move (v := .pointer (some ⟨f, 0, none⟩)) rfl rfl rfl) hS ?_
    simp only [Act.put, z1, z2, z3]
    refine held_take 2 _ rfl (by kernel_rfl) (by kernel_rfl) (by kernel_rfl) (y_fa (r := 2) rfl rfl rfl Try.underlying37 rfl Try.sizeOf3 rfl) hS ?_
    simp only [Act.put, z1, z2, z3]
    refine held_take 3 _ rfl (by kernel_rfl) (by kernel_rfl) (by kernel_rfl) (y_load (v := .int .i64 S.mark) rfl rfl rfl Try.isAgg3 (fun W hW => hW.get 0 rfl) (rfl)) hS ?_
    simp only [Act.put, z1, z2, z3]
    have M39 : Mem w _ w11.drew.drew.drew [book B b (⟨lv, kv, vs⟩), blk g9 37 (supC (⟨S, S.mark, m⟩ : FV).s), disk E p pg mb qv', blk f 96 (fC (⟨S, S.mark, m⟩ : FV) p)] := book_close (M38.arr [3, 4, 5, 0, 1, 2] (by decide))
    clear M38
    have hX40 : Mem w _ w11.drew.drew.drew ([disk E p pg mb qv', blk f 96 (fC (⟨S, S.mark, m⟩ : FV) p), book B b (⟨lv, kv, vs⟩)] ++ [blk g9 37 (supC (⟨S, S.mark, m⟩ : FV).s)]) := M39.arr [2, 3, 0, 1] (by decide)
    refine held_step 4 (by kernel_rfl) rfl (by rfl) (fun K hK => ?_)
    refine e_call 29 [.pointer (some ⟨b, 0, none⟩), .pointer (some ⟨f, 0, none⟩), .int .i64 S.mark] rfl rfl Try.call29 (bholds_int (Mem.here (L := [disk E p pg mb qv', blk f 96 (fC (⟨S, S.mark, m⟩ : FV) p), book B b (⟨lv, kv, vs⟩)]) (R := [blk g9 37 (supC (⟨S, S.mark, m⟩ : FV).s)]) hX40) (B := B) hI S.mark hP.mark2 (Int.le_refl _)) ?_
    rintro e w40 ⟨r, rfl, H40⟩
    have M40 : Mem w _ w40 [disk (E.rd r) p pg mb qv', blk f 96 (fC (⟨S, S.mark, m⟩ : FV) p), book B b (⟨lv, kv, vs⟩), blk g9 37 (supC (⟨S, S.mark, m⟩ : FV).s)] := Mem.frame (Pre := [disk E p pg mb qv', blk f 96 (fC (⟨S, S.mark, m⟩ : FV) p), book B b (⟨lv, kv, vs⟩)]) (Post := [disk (E.rd r) p pg mb qv', blk f 96 (fC (⟨S, S.mark, m⟩ : FV) p), book B b (⟨lv, kv, vs⟩)]) (R := [blk g9 37 (supC (⟨S, S.mark, m⟩ : FV).s)]) hX40 H40
    refine ⟨_, rfl, ?_⟩
    refine hK.out _ _ (M40.arr [3] (by decide)) (fun hS => ?_)
    clear hK K
    simp only [Act.put, z1, z2, z3]
    have M41 : Mem w _ w40 [blk b 48 (bC B ⟨lv, kv, vs⟩), rows lv vs B.loads, lst 3 1 kv B.ps.length B.kinds, disk (E.rd r) p pg mb qv', blk f 96 (fC (⟨S, S.mark, m⟩ : FV) p), blk g9 37 (supC (⟨S, S.mark, m⟩ : FV).s)] := book_open (M40.arr [2, 0, 1, 3] (by decide))
    clear M40
    refine held_take 5 _ rfl (by kernel_rfl) (by kernel_rfl) (by kernel_rfl) (y_not rfl rfl rfl rfl) hS ?_
    simp only [Act.put, z1, z2, z3]
    refine held_take 6 _ rfl (by kernel_rfl) (by kernel_rfl) (by kernel_rfl) (y_move (v := .bool false) rfl rfl rfl) hS ?_
    simp only [Act.put, z1, z2, z3]
    refine held_take 7 _ rfl (by kernel_rfl) (by kernel_rfl) (by kernel_rfl) (y_move (v := .pointer (some ⟨f, 0, none⟩)) rfl rfl rfl) hS ?_
    simp only [Act.put, z1, z2, z3]
    refine held_take 9 _ rfl (by kernel_rfl) (by kernel_rfl) (by kernel_rfl) (y_fa (r := 2) rfl rfl rfl Try.underlying37 rfl Try.sizeOf3 rfl) hS ?_
    simp only [Act.put, z1, z2, z3]
    refine held_take 10 _ rfl (by kernel_rfl) (by kernel_rfl) (by kernel_rfl) (y_load (v := .int .i64 S.mark) rfl rfl rfl Try.isAgg3 (fun W hW => hW.get 0 rfl) (rfl)) hS ?_
    simp only [Act.put, z1, z2, z3]
    have hX42 : Mem w _ w40 ([disk (E.rd r) p pg mb qv', blk f 96 (fC (⟨S, S.mark, m⟩ : FV) p)] ++ [blk b 48 (bC B ⟨lv, kv, vs⟩), rows lv vs B.loads, lst 3 1 kv B.ps.length B.kinds, blk g9 37 (supC (⟨S, S.mark, m⟩ : FV).s)]) := M41.arr [3, 4, 0, 1, 2, 5] (by decide)
    refine held_step 8 (by kernel_rfl) rfl (by rfl) (fun K hK => ?_)
    refine e_call 20 [.pointer (some ⟨f, 0, none⟩)] rfl rfl Try.call20 (next_any (Mem.here (L := [disk (E.rd r) p pg mb qv', blk f 96 (fC (⟨S, S.mark, m⟩ : FV) p)]) (R := [blk b 48 (bC B ⟨lv, kv, vs⟩), rows lv vs B.loads, lst 3 1 kv B.ps.length B.kinds, blk g9 37 (supC (⟨S, S.mark, m⟩ : FV).s)]) hX42)) ?_
    rintro e w42 ⟨rfl, H42⟩
    have M42 : Mem w _ w42 [disk (E.rd r) p pg mb qv', blk f 96 (fC (⟨S, S.mark, m⟩ : FV) p), blk b 48 (bC B ⟨lv, kv, vs⟩), rows lv vs B.loads, lst 3 1 kv B.ps.length B.kinds, blk g9 37 (supC (⟨S, S.mark, m⟩ : FV).s)] := Mem.frame (Pre := [disk (E.rd r) p pg mb qv', blk f 96 (fC (⟨S, S.mark, m⟩ : FV) p)]) (Post := [disk (E.rd r) p pg mb qv', blk f 96 (fC (⟨S, S.mark, m⟩ : FV) p)]) (R := [blk b 48 (bC B ⟨lv, kv, vs⟩), rows lv vs B.loads, lst 3 1 kv B.ps.length B.kinds, blk g9 37 (supC (⟨S, S.mark, m⟩ : FV).s)]) hX42 H42
    refine ⟨_, rfl, ?_⟩
    refine hK.out _ _ (M42.arr [5] (by decide)) (fun hS => ?_)
    clear hK K
    simp only [Act.put, z1, z2, z3]
    refine held_take 11 _ rfl (by kernel_rfl) (by kernel_rfl) (by kernel_rfl) (y_neq (b := false) rfl rfl rfl rfl (by rw [decide_eq_true rfl]; rfl)) hS ?_
    simp only [Act.put, z1, z2, z3]
    refine held_take 12 _ rfl (by kernel_rfl) (by kernel_rfl) (by kernel_rfl) (y_pickF (v := .bool false) rfl rfl rfl rfl) hS ?_
    simp only [Act.put, z1, z2, z3]
    refine held_done (by kernel_rfl) ?_ _
    refine hK37 _ _ ?_
    clear hK37
    refine wp_cond_false rfl ?_
    refine wp_skip ?_
    refine hK36 _ _ ?_
    clear hK36
    refine wp_seq_k (fun K43 hK43 => ?_)
    have M44 := M42.drew
    refine held_begin (fun W => Mem w (foots [disk D p pg mb qv, book B b ⟨lv, kv, vs⟩]) W [blk g9 37 (supC (⟨S, S.mark, m⟩ : FV).s)]) (by kernel_rfl) (M44.arr [5] (by decide)) (fun hS => ?_)
    refine held_take 0 _ rfl (by kernel_rfl) (by kernel_rfl) (by kernel_rfl) (y_move (v := .pointer (some ⟨b, 0, none⟩)) rfl rfl rfl) hS ?_
    simp only [Act.put, z1, z2, z3]
    refine held_take 1 _ rfl (by kernel_rfl) (by kernel_rfl) (by kernel_rfl) (y_move (v := .pointer (some ⟨b, 0, none⟩)) rfl rfl rfl) hS ?_
    simp only [Act.put, z1, z2, z3]
    refine held_take 2 _ rfl (by kernel_rfl) (by kernel_rfl) (by kernel_rfl) (y_move (v := .pointer (some ⟨b, 0, none⟩)) rfl rfl rfl) hS ?_
    simp only [Act.put, z1, z2, z3]
    refine held_take 3 _ rfl (by kernel_rfl) (by kernel_rfl) (by kernel_rfl) (y_fa (r := 2) rfl rfl rfl Try.underlying37 rfl Try.sizeOf3 rfl) hS ?_
    simp only [Act.put, z1, z2, z3]
    refine held_take 4 _ rfl (by kernel_rfl) (by kernel_rfl) (by kernel_rfl) (y_load (v := .int .i64 S.mark) rfl rfl rfl Try.isAgg3 (fun W hW => hW.get 0 rfl) (rfl)) hS ?_
    simp only [Act.put, z1, z2, z3]
    refine held_take 5 _ rfl (by kernel_rfl) (by kernel_rfl) (by kernel_rfl) (y_fa (r := 3) rfl rfl rfl Try.underlying37 rfl Try.sizeOf3 rfl) hS ?_
    simp only [Act.put, z1, z2, z3]
    refine held_take 6 _ rfl (by kernel_rfl) (by kernel_rfl) (by kernel_rfl) (y_load (v := .int .i64 S.head) rfl rfl rfl Try.isAgg3 (fun W hW => hW.get 0 rfl) (rfl)) hS ?_
    simp only [Act.put, z1, z2, z3]
    refine held_take 7 _ rfl (by kernel_rfl) (by kernel_rfl) (by kernel_rfl) (y_fa (r := 1) rfl rfl rfl Try.underlying37 rfl Try.sizeOf3 rfl) hS ?_
    simp only [Act.put, z1, z2, z3]
    refine held_take 8 _ rfl (by kernel_rfl) (by kernel_rfl) (by kernel_rfl) (y_load (v := .int .i64 S.gen) rfl rfl rfl Try.isAgg3 (fun W hW => hW.get 0 rfl) (rfl)) hS ?_
    simp only [Act.put, z1, z2, z3]
    refine held_take 9 _ rfl (by kernel_rfl) (by kernel_rfl) (by kernel_rfl) (y_nil rfl rfl rfl) hS ?_
    simp only [Act.put, z1, z2, z3]
    refine held_take 10 _ rfl (by kernel_rfl) (by kernel_rfl) (by kernel_rfl) (y_fa (r := 2) rfl rfl rfl Try.underlying48 rfl Try.sizeOf3 rfl) hS ?_
    simp only [Act.put, z1, z2, z3]
    refine held_step 11 (by kernel_rfl) rfl (by rfl) (fun K hK => ?_)
    refine e_store M44 2 (v := .int .i64 S.mark) rfl rfl rfl rfl rfl rfl Try.sizeOf3 rfl (show (2 : Nat) < 7 by decide) ?_
    intro w45 (M45 : Mem w _ w45 [disk (E.rd r) p pg mb qv', blk f 96 (fC (⟨S, S.mark, m⟩ : FV) p), blk b 48 ([lv, kv, .int .i64 S.mark, .int .i64 B.gen, .int .i64 B.head, .int .i64 B.inMark, .int .i64 B.inHead]), rows lv vs B.loads, lst 3 1 kv B.ps.length B.kinds, blk g9 37 (supC (⟨S, S.mark, m⟩ : FV).s)])
    clear M44
    refine hK.out _ _ (M45.arr [5] (by decide)) (fun hS => ?_)
    clear hK K
    simp only [Act.put, z1, z2, z3]
    refine held_take 12 _ rfl (by kernel_rfl) (by kernel_rfl) (by kernel_rfl) (y_nil rfl rfl rfl) hS ?_
    simp only [Act.put, z1, z2, z3]
    refine held_take 13 _ rfl (by kernel_rfl) (by kernel_rfl) (by kernel_rfl) (y_fa (r := 4) rfl rfl rfl Try.underlying48 rfl Try.sizeOf3 rfl) hS ?_
    simp only [Act.put, z1, z2, z3]
    refine held_step 14 (by kernel_rfl) rfl (by rfl) (fun K hK => ?_)
    refine e_store M45 2 (v := .int .i64 S.head) rfl rfl rfl rfl rfl rfl Try.sizeOf3 rfl (show (4 : Nat) < 7 by decide) ?_
    intro w46 (M46 : Mem w _ w46 [disk (E.rd r) p pg mb qv', blk f 96 (fC (⟨S, S.mark, m⟩ : FV) p), blk b 48 ([lv, kv, .int .i64 S.mark, .int .i64 B.gen, .int .i64 S.head, .int .i64 B.inMark, .int .i64 B.inHead]), rows lv vs B.loads, lst 3 1 kv B.ps.length B.kinds, blk g9 37 (supC (⟨S, S.mark, m⟩ : FV).s)])
    clear M45
    refine hK.out _ _ (M46.arr [5] (by decide)) (fun hS => ?_)
    clear hK K
    simp only [Act.put, z1, z2, z3]
    refine held_take 15 _ rfl (by kernel_rfl) (by kernel_rfl) (by kernel_rfl) (y_nil rfl rfl rfl) hS ?_
    simp only [Act.put, z1, z2, z3]
    refine held_take 16 _ rfl (by kernel_rfl) (by kernel_rfl) (by kernel_rfl) (y_fa (r := 3) rfl rfl rfl Try.underlying48 rfl Try.sizeOf3 rfl) hS ?_
    simp only [Act.put, z1, z2, z3]
    refine held_step 17 (by kernel_rfl) rfl (by rfl) (fun K hK => ?_)
    refine e_store M46 2 (v := .int .i64 S.gen) rfl rfl rfl rfl rfl rfl Try.sizeOf3 rfl (show (3 : Nat) < 7 by decide) ?_
    intro w47 (M47 : Mem w _ w47 [disk (E.rd r) p pg mb qv', blk f 96 (fC (⟨S, S.mark, m⟩ : FV) p), blk b 48 ([lv, kv, .int .i64 S.mark, .int .i64 S.gen, .int .i64 S.head, .int .i64 B.inMark, .int .i64 B.inHead]), rows lv vs B.loads, lst 3 1 kv B.ps.length B.kinds, blk g9 37 (supC (⟨S, S.mark, m⟩ : FV).s)])
    clear M46
    refine hK.out _ _ (M47.arr [5] (by decide)) (fun hS => ?_)
    clear hK K
    simp only [Act.put, z1, z2, z3]
    refine held_done (by kernel_rfl) ?_ _
    refine hK43 _ _ ?_
    clear hK43
    refine wp_seq_k (fun K48 hK48 => ?_)
    refine wp_region_lit ?_
    refine pl M47 (y_move (v := .pointer (some ⟨b, 0, none⟩)) rfl rfl rfl) ?_
    simp only [Act.put, z1, z2, z3]
    refine pl M47 (y_nil rfl rfl rfl) ?_
    simp only [Act.put, z1, z2, z3]
    refine pl M47 (y_fa (r := 5) rfl rfl rfl Try.underlying48 rfl Try.sizeOf3 rfl) ?_
    simp only [Act.put, z1, z2, z3]
    refine pe rfl (fun K hK => ?_)
    refine e_store M47 2 (v := .int .i64 0) rfl rfl rfl rfl rfl rfl Try.sizeOf3 rfl (show (5 : Nat) < 7 by decide) ?_
    intro w49 (M49 : Mem w _ w49 [disk (E.rd r) p pg mb qv', blk f 96 (fC (⟨S, S.mark, m⟩ : FV) p), blk b 48 ([lv, kv, .int .i64 S.mark, .int .i64 S.gen, .int .i64 S.head, .int .i64 0, .int .i64 B.inHead]), rows lv vs B.loads, lst 3 1 kv B.ps.length B.kinds, blk g9 37 (supC (⟨S, S.mark, m⟩ : FV).s)])
    clear M47
    refine hK.out _ _ ?_
    clear hK K
    simp only [Act.put, z1, z2, z3]
    refine wpList_nil ?_
    refine hK48 _ _ ?_
    clear hK48
    refine wp_seq_k (fun K50 hK50 => ?_)
    refine wp_region_lit ?_
    refine pl M49 (y_move (v := .pointer (some ⟨f, 0, none⟩)) rfl rfl rfl) ?_
    simp only [Act.put, z1, z2, z3]
    refine pl M49 (y_assign (v := .pointer (some ⟨f, 0, none⟩)) rfl rfl rfl) ?_
    simp only [Act.put, z1, z2, z3]
    refine wpList_nil ?_
    refine hK50 _ _ ?_
    clear hK50
    refine wp_ret ?_
    try simp only [Exit.inBlock, Exit.then]
    refine bodyPost_ret (v := .pointer (some ⟨f, 0, none⟩)) (res1 rfl rfl) rfl ?_
    have N : Mem _ _ _ [book ({ B with mark := S.mark, head := S.head, gen := S.gen, inMark := 0 } : BV) b ⟨lv, kv, vs⟩, _, _] := book_close (M49.arr [2, 3, 4, 0, 1] (by decide))
    exact ⟨f, E.rd r, m, qv', ⟨lv, kv, vs⟩, rfl, N.arr [1, 2, 0] (by decide), hI.rd r, hq2, ha2, by show E.pages.length = _; rw [hp2, crash_len]⟩
set_option maxRecDepth 100000 in
set_option maxHeartbeats 4000000 in
theorem again_late {D : DV} {B : BV} {p pg mb b : Nat} {qv : Value} {bx : BX} {w : World} (hM : Mem w (foots [disk D p pg mb qv, book B b bx]) w [disk D p pg mb qv, book B b bx]) (ao : Option Addr) (nn c : Nat) (l : List UInt8) (hr : Row w ao nn l) (hF : ∀ b₁ o, ao = some ⟨b₁, o, none⟩ → 0 < nn → b₁ ∉ foots [disk D p pg mb qv, book B b bx]) (hnn : nn ≤ 140737488351232) (S : SupV) (hP : Plat (crashD D l) S B.ps) (h0 : 0 < B.inMark) (hg : S.gen = B.gen + 1) (hm : S.mark = B.inMark) (hh : S.head = B.inHead) : Calls Try.prog 37 #[.pointer (some ⟨b, 0, none⟩), .pointer (some ⟨p, 0, none⟩), .slice ao nn c] w fun e w' => ∃ f E m qv' bx', e = .returned (.pointer (some ⟨f, 0, none⟩)) ∧ Mem w (foots [disk D p pg mb qv, book B b bx]) w' [disk E p pg mb qv', blk f 96 (fC ⟨S, S.mark, m⟩ p), book ({ B with mark := S.mark, head := S.head, gen := S.gen, inMark := 0 } : BV) b bx'] ∧ Inv E ⟨S, S.mark, m⟩ B.ps ∧ E.q = [] ∧ E.armed = 0 ∧ E.pages.length = D.pages.length := by
  obtain ⟨lv, kv, vs⟩ := bx
  have M0 := book_open (hM.arr [1, 0] (by decide))
  clear hM
  have M : Mem w _ w [disk D p pg mb qv, blk b 48 (bC B ⟨lv, kv, vs⟩), rows lv vs B.loads, lst 3 1 kv B.ps.length B.kinds] := M0.arr [3, 0, 1, 2] (by decide)
  clear M0
  have hsg := hP.val.2.2.2.1
  have hsg2 := hP.val.2.2.1
  go_enter Try.func37, Try.ntmps37
  refine wp_seq_k (fun K1 hK1 => ?_)
  refine wp_region_lit ?_
  refine pl M (y_assign (v := .pointer none) rfl rfl rfl) ?_
  simp only [Act.put, z1, z2, z3]
  refine wpList_nil ?_
  refine hK1 _ _ ?_
  clear hK1
  refine wp_seq_k (fun K2 hK2 => ?_)
  refine wp_region_lit ?_
  refine pl M (y_move (v := .pointer (some ⟨p, 0, none⟩)) rfl rfl rfl) ?_
  simp only [Act.put, z1, z2, z3]
  refine pl M (y_move (v := .slice ao nn c) rfl rfl rfl) ?_
  simp only [Act.put, z1, z2, z3]
  have hX3 : Mem w _ w ([disk D p pg mb qv] ++ [blk b 48 (bC B ⟨lv, kv, vs⟩), rows lv vs B.loads, lst 3 1 kv B.ps.length B.kinds]) := M.arr [0, 1, 2, 3] (by decide)
  refine pe rfl (fun K hK => ?_)
  refine e_call 16 [.pointer (some ⟨p, 0, none⟩), .slice ao nn c] rfl rfl Try.call16 (crash_any (Mem.here (L := [disk D p pg mb qv]) (R := [blk b 48 (bC B ⟨lv, kv, vs⟩), rows lv vs B.loads, lst 3 1 kv B.ps.length B.kinds]) hX3) ao nn c l hr (fun b₁ o e h0 hb => hF b₁ o e h0 (by simp only [foots, List.flatMap_cons, List.flatMap_nil, List.append_nil, List.mem_append] at hb ⊢; exact .inl hb)) (by omega)) ?_
  rintro e w3 ⟨qv', rfl, H3⟩
  have M3 : Mem w _ w3 [disk (crashD D l) p pg mb qv', blk b 48 (bC B ⟨lv, kv, vs⟩), rows lv vs B.loads, lst 3 1 kv B.ps.length B.kinds] := Mem.frame (Pre := [disk D p pg mb qv]) (Post := [disk (crashD D l) p pg mb qv']) (R := [blk b 48 (bC B ⟨lv, kv, vs⟩), rows lv vs B.loads, lst 3 1 kv B.ps.length B.kinds]) hX3 H3
  refine ⟨_, rfl, ?_⟩
  refine hK.out _ _ ?_
  clear hK K
  simp only [Act.put, z1, z2, z3]
  refine wpList_nil ?_
  refine hK2 _ _ ?_
  clear hK2
  refine wp_seq_k (fun K4 hK4 => ?_)
  refine wp_region_lit ?_
  refine pl M3 (y_move (v := .pointer (some ⟨p, 0, none⟩)) rfl rfl rfl) ?_
  simp only [Act.put, z1, z2, z3]
  have hX5 : Mem w _ w3 ([disk (crashD D l) p pg mb qv'] ++ [blk b 48 (bC B ⟨lv, kv, vs⟩), rows lv vs B.loads, lst 3 1 kv B.ps.length B.kinds]) := M3.arr [0, 1, 2, 3] (by decide)
  refine pe rfl (fun K hK => ?_)
  refine e_call 18 [.pointer (some ⟨p, 0, none⟩)] rfl rfl Try.call18 (open_fit (Mem.here (L := [disk (crashD D l) p pg mb qv']) (R := [blk b 48 (bC B ⟨lv, kv, vs⟩), rows lv vs B.loads, lst 3 1 kv B.ps.length B.kinds]) hX5) hP rfl) ?_
  rintro e w5 ⟨f, E, m, rfl, H5, hI, hq2, hp2, ha2, he2⟩
  have M5 : Mem w _ w5 [disk E p pg mb qv', blk f 96 (fC (⟨S, S.mark, m⟩ : FV) p), blk b 48 (bC B ⟨lv, kv, vs⟩), rows lv vs B.loads, lst 3 1 kv B.ps.length B.kinds] := Mem.frame (Pre := [disk (crashD D l) p pg mb qv']) (Post := [disk E p pg mb qv', blk f 96 (fC (⟨S, S.mark, m⟩ : FV) p)]) (R := [blk b 48 (bC B ⟨lv, kv, vs⟩), rows lv vs B.loads, lst 3 1 kv B.ps.length B.kinds]) hX5 H5
  refine ⟨_, rfl, ?_⟩
  refine hK.out _ _ ?_
  clear hK K
  simp only [Act.put, z1, z2, z3]
  refine pl M5 (y_move (v := .tuple #[.pointer (some ⟨f, 0, none⟩), .int .i64 0]) rfl rfl rfl) ?_
  simp only [Act.put, z1, z2, z3]
  refine pl M5 (y_ext (v := .pointer (some ⟨f, 0, none⟩)) rfl rfl rfl rfl) ?_
  simp only [Act.put, z1, z2, z3]
  refine pl M5 (y_ext (v := .int .i64 0) rfl rfl rfl rfl) ?_
  simp only [Act.put, z1, z2, z3]
  refine pl M5 (y_assign (v := .pointer (some ⟨f, 0, none⟩)) rfl rfl rfl) ?_
  simp only [Act.put, z1, z2, z3]
  refine pl M5 (y_assign (v := .int .i64 0) rfl rfl rfl) ?_
  simp only [Act.put, z1, z2, z3]
  refine wpList_nil ?_
  refine hK4 _ _ ?_
  clear hK4
  refine wp_seq_k (fun K6 hK6 => ?_)
  refine wp_seq_k (fun K7 hK7 => ?_)
  refine wp_region_lit ?_
  refine pl M5 (y_move (v := .int .i64 0) rfl rfl rfl) ?_
  simp only [Act.put, z1, z2, z3]
  refine pl M5 (y_neq (b := false) rfl rfl rfl rfl (by rw [decide_eq_true (by decide)]; rfl)) ?_
  simp only [Act.put, z1, z2, z3]
  refine pl M5 (y_move (v := .bool false) rfl rfl rfl) ?_
  simp only [Act.put, z1, z2, z3]
  refine pl M5 (y_move (v := .pointer (some ⟨f, 0, none⟩)) rfl rfl rfl) ?_
  simp only [Act.put, z1, z2, z3]
  refine pl M5 (y_eqnil (r := false) rfl rfl rfl rfl Try.underlying33 rfl) ?_
  simp only [Act.put, z1, z2, z3]
  refine pl M5 (y_pickF (v := .bool false) rfl rfl rfl rfl) ?_
  simp only [Act.put, z1, z2, z3]
  refine wpList_nil ?_
  refine hK7 _ _ ?_
  clear hK7
  refine wp_cond_false rfl ?_
  refine wp_skip ?_
  refine hK6 _ _ ?_
  clear hK6
  refine wp_seq_k (fun K8 hK8 => ?_)
  refine wp_region_lit ?_
  refine pl M5 (y_move (v := .pointer (some ⟨f, 0, none⟩)) rfl rfl rfl) ?_
  simp only [Act.put, z1, z2, z3]
  have hX9 : Mem w _ w5 ([disk E p pg mb qv', blk f 96 (fC (⟨S, S.mark, m⟩ : FV) p)] ++ [blk b 48 (bC B ⟨lv, kv, vs⟩), rows lv vs B.loads, lst 3 1 kv B.ps.length B.kinds]) := M5.arr [0, 1, 2, 3, 4] (by decide)
  refine pe rfl (fun K hK => ?_)
  refine e_call 19 [.pointer (some ⟨f, 0, none⟩)] rfl rfl Try.call19 (super_any (Mem.here (L := [disk E p pg mb qv', blk f 96 (fC (⟨S, S.mark, m⟩ : FV) p)]) (R := [blk b 48 (bC B ⟨lv, kv, vs⟩), rows lv vs B.loads, lst 3 1 kv B.ps.length B.kinds]) hX9)) ?_
  rintro e w9 ⟨rfl, H9⟩
  have M9 : Mem w _ w9 [disk E p pg mb qv', blk f 96 (fC (⟨S, S.mark, m⟩ : FV) p), blk b 48 (bC B ⟨lv, kv, vs⟩), rows lv vs B.loads, lst 3 1 kv B.ps.length B.kinds] := Mem.frame (Pre := [disk E p pg mb qv', blk f 96 (fC (⟨S, S.mark, m⟩ : FV) p)]) (Post := [disk E p pg mb qv', blk f 96 (fC (⟨S, S.mark, m⟩ : FV) p)]) (R := [blk b 48 (bC B ⟨lv, kv, vs⟩), rows lv vs B.loads, lst 3 1 kv B.ps.length B.kinds]) hX9 H9
  refine ⟨_, rfl, ?_⟩
  refine hK.out _ _ ?_
  clear hK K
  simp only [Act.put, z1, z2, z3]
  refine pe rfl (fun K hK => ?_)
  refine e_alloc M9 (supC noSup) rfl zero_sup ?_
  intro g9 w10 (M10 : Mem w _ w10 [blk g9 37 (supC noSup), disk E p pg mb qv', blk f 96 (fC (⟨S, S.mark, m⟩ : FV) p), blk b 48 (bC B ⟨lv, kv, vs⟩), rows lv vs B.loads, lst 3 1 kv B.ps.length B.kinds])
  clear M9
  refine hK.out _ _ ?_
  clear hK K
  simp only [Act.put, z1, z2, z3]
  refine pe rfl (fun K hK => ?_)
  refine e_storew M10 0 (cs := (supC (⟨S, S.mark, m⟩ : FV).s)) rfl rfl rfl rfl (size_sup _) (sup_all _) rfl (rfl) ?_
  intro w11 (M11 : Mem w _ w11 [blk g9 37 (supC (⟨S, S.mark, m⟩ : FV).s), disk E p pg mb qv', blk f 96 (fC (⟨S, S.mark, m⟩ : FV) p), blk b 48 (bC B ⟨lv, kv, vs⟩), rows lv vs B.loads, lst 3 1 kv B.ps.length B.kinds])
  clear M10
  refine hK.out _ _ ?_
  clear hK K
  simp only [Act.put, z1, z2, z3]
  refine wpList_nil ?_
  refine hK8 _ _ ?_
  clear hK8
  refine wp_seq_k (fun K12 hK12 => ?_)
  have M13 : Mem w _ w11.drew [blk g9 37 (supC (⟨S, S.mark, m⟩ : FV).s), disk E p pg mb qv', blk f 96 (fC (⟨S, S.mark, m⟩ : FV) p), blk b 48 (bC B ⟨lv, kv, vs⟩), rows lv vs B.loads, lst 3 1 kv B.ps.length B.kinds] := M11.drew
  clear M11
  refine wp_region_tail 25 (by kernel_rfl) (by kernel_rfl) ?_
  simp only [List.take_succ_cons, List.take_zero, List.drop_succ_cons, List.drop_zero]
  refine ps M13 (y_fa (r := 1) rfl rfl rfl Try.underlying37 rfl Try.sizeOf3 rfl) ?_
  simp only [Act.put, z1, z2, z3]
  refine ps M13 (y_load (v := .int .i64 S.gen) rfl rfl rfl Try.isAgg3 (fun W hW => hW.get 0 rfl) (rfl)) ?_
  simp only [Act.put, z1, z2, z3]
  refine ps M13 (y_move (v := .pointer (some ⟨b, 0, none⟩)) rfl rfl rfl) ?_
  simp only [Act.put, z1, z2, z3]
  refine ps M13 (y_nil rfl rfl rfl) ?_
  simp only [Act.put, z1, z2, z3]
  refine ps M13 (y_fa (r := 3) rfl rfl rfl Try.underlying48 rfl Try.sizeOf3 rfl) ?_
  simp only [Act.put, z1, z2, z3]
  refine ps M13 (y_load (v := .int .i64 B.gen) rfl rfl rfl Try.isAgg3 (fun W hW => hW.get 3 rfl) (rfl)) ?_
  simp only [Act.put, z1, z2, z3]
  refine ps M13 (y_eql (b := false) rfl rfl rfl rfl (decide_eq_false (by omega))) ?_
  simp only [Act.put, z1, z2, z3]
  refine ps M13 (y_move (v := .bool false) rfl rfl rfl) ?_
  simp only [Act.put, z1, z2, z3]
  with_reducible refine ps_skip ?_ ?_
  · rfl
  simp only [Act.put, z1, z2, z3]
  with_reducible refine ps_skip ?_ ?_
  · rfl
  simp only [Act.put, z1, z2, z3]
  with_reducible refine ps_skip ?_ ?_
  · rfl
  simp only [Act.put, z1, z2, z3]
  with_reducible refine ps_skip ?_ ?_
  · rfl
  simp only [Act.put, z1, z2, z3]
  with_reducible refine ps_skip ?_ ?_
  · rfl
  simp only [Act.put, z1, z2, z3]
  with_reducible refine ps_skip ?_ ?_
  · rfl
  simp only [Act.put, z1, z2, z3]
  with_reducible refine ps_skip ?_ ?_
  · rfl
  simp only [Act.put, z1, z2, z3]
  refine ps M13 (y_pickF (v := .bool false) rfl rfl rfl rfl) ?_
  simp only [Act.put, z1, z2, z3]
  refine ps M13 (y_move (v := .bool false) rfl rfl rfl) ?_
  simp only [Act.put, z1, z2, z3]
  with_reducible refine ps_skip ?_ ?_
  · rfl
  simp only [Act.put, z1, z2, z3]
  with_reducible refine ps_skip ?_ ?_
  · rfl
  simp only [Act.put, z1, z2, z3]
  with_reducible refine ps_skip ?_ ?_
  · rfl
  simp only [Act.put, z1, z2, z3]
  with_reducible refine ps_skip ?_ ?_
  · rfl
  simp only [Act.put, z1, z2, z3]
  with_reducible refine ps_skip ?_ ?_
  · rfl
  simp only [Act.put, z1, z2, z3]
  with_reducible refine ps_skip ?_ ?_
  · rfl
  simp only [Act.put, z1, z2, z3]
  with_reducible refine ps_skip ?_ ?_
  · rfl
  simp only [Act.put, z1, z2, z3]
  refine ps M13 (y_pickF (v := .bool false) rfl rfl rfl rfl) ?_
  simp only [Act.put, z1, z2, z3]
  refine wpStill_nil ?_
  refine pl M13 (y_assign (v := .bool false) rfl rfl rfl) ?_
  simp only [Act.put, z1, z2, z3]
  refine wpList_nil ?_
  refine hK12 _ _ ?_
  clear hK12
  refine wp_seq_k (fun K14 hK14 => ?_)
  have M15 : Mem w _ w11.drew.drew [blk g9 37 (supC (⟨S, S.mark, m⟩ : FV).s), disk E p pg mb qv', blk f 96 (fC (⟨S, S.mark, m⟩ : FV) p), blk b 48 (bC B ⟨lv, kv, vs⟩), rows lv vs B.loads, lst 3 1 kv B.ps.length B.kinds] := M13.drew
  clear M13
  refine wp_region_tail 33 (by kernel_rfl) (by kernel_rfl) ?_
  simp only [List.take_succ_cons, List.take_zero, List.drop_succ_cons, List.drop_zero]
  refine ps M15 (y_move (v := .pointer (some ⟨b, 0, none⟩)) rfl rfl rfl) ?_
  simp only [Act.put, z1, z2, z3]
  refine ps M15 (y_nil rfl rfl rfl) ?_
  simp only [Act.put, z1, z2, z3]
  refine ps M15 (y_fa (r := 5) rfl rfl rfl Try.underlying48 rfl Try.sizeOf3 rfl) ?_
  simp only [Act.put, z1, z2, z3]
  refine ps M15 (y_load (v := .int .i64 B.inMark) rfl rfl rfl Try.isAgg3 (fun W hW => hW.get 3 rfl) (rfl)) ?_
  simp only [Act.put, z1, z2, z3]
  refine ps M15 (y_gtr (b := true) rfl rfl rfl rfl (decide_eq_true h0)) ?_
  simp only [Act.put, z1, z2, z3]
  refine ps M15 (y_move (v := .bool true) rfl rfl rfl) ?_
  simp only [Act.put, z1, z2, z3]
  refine ps M15 (y_fa (r := 1) rfl rfl rfl Try.underlying37 rfl Try.sizeOf3 rfl) ?_
  simp only [Act.put, z1, z2, z3]
  refine ps M15 (y_load (v := .int .i64 S.gen) rfl rfl rfl Try.isAgg3 (fun W hW => hW.get 0 rfl) (rfl)) ?_
  simp only [Act.put, z1, z2, z3]
  refine ps M15 (y_move (v := .pointer (some ⟨b, 0, none⟩)) rfl rfl rfl) ?_
  simp only [Act.put, z1, z2, z3]
  refine ps M15 (y_nil rfl rfl rfl) ?_
  simp only [Act.put, z1, z2, z3]
  refine ps M15 (y_fa (r := 3) rfl rfl rfl Try.underlying48 rfl Try.sizeOf3 rfl) ?_
  simp only [Act.put, z1, z2, z3]
  refine ps M15 (y_load (v := .int .i64 B.gen) rfl rfl rfl Try.isAgg3 (fun W hW => hW.get 3 rfl) (rfl)) ?_
  simp only [Act.put, z1, z2, z3]
  refine ps M15 (y_add (r := B.gen + 1) rfl rfl rfl rfl (rfl) (by omega)) ?_
  simp only [Act.put, z1, z2, z3]
  refine ps M15 (y_eql (b := true) rfl rfl rfl rfl (decide_eq_true hg)) ?_
  simp only [Act.put, z1, z2, z3]
  refine ps M15 (y_pickT (v := .bool true) rfl rfl rfl rfl) ?_
  simp only [Act.put, z1, z2, z3]
  refine ps M15 (y_move (v := .bool true) rfl rfl rfl) ?_
  simp only [Act.put, z1, z2, z3]
  refine ps M15 (y_fa (r := 2) rfl rfl rfl Try.underlying37 rfl Try.sizeOf3 rfl) ?_
  simp only [Act.put, z1, z2, z3]
  refine ps M15 (y_load (v := .int .i64 S.mark) rfl rfl rfl Try.isAgg3 (fun W hW => hW.get 0 rfl) (rfl)) ?_
  simp only [Act.put, z1, z2, z3]
  refine ps M15 (y_move (v := .pointer (some ⟨b, 0, none⟩)) rfl rfl rfl) ?_
  simp only [Act.put, z1, z2, z3]
  refine ps M15 (y_nil rfl rfl rfl) ?_
  simp only [Act.put, z1, z2, z3]
  refine ps M15 (y_fa (r := 5) rfl rfl rfl Try.underlying48 rfl Try.sizeOf3 rfl) ?_
  simp only [Act.put, z1, z2, z3]
  refine ps M15 (y_load (v := .int .i64 B.inMark) rfl rfl rfl Try.isAgg3 (fun W hW => hW.get 3 rfl) (rfl)) ?_
  simp only [Act.put, z1, z2, z3]
  refine ps M15 (y_eql (b := true) rfl rfl rfl rfl (decide_eq_true hm)) ?_
  simp only [Act.put, z1, z2, z3]
  refine ps M15 (y_pickT (v := .bool true) rfl rfl rfl rfl) ?_
  simp only [Act.put, z1, z2, z3]
  refine ps M15 (y_move (v := .bool true) rfl rfl rfl) ?_
  simp only [Act.put, z1, z2, z3]
  refine ps M15 (y_fa (r := 3) rfl rfl rfl Try.underlying37 rfl Try.sizeOf3 rfl) ?_
  simp only [Act.put, z1, z2, z3]
  refine ps M15 (y_load (v := .int .i64 S.head) rfl rfl rfl Try.isAgg3 (fun W hW => hW.get 0 rfl) (rfl)) ?_
  simp only [Act.put, z1, z2, z3]
  refine ps M15 (y_move (v := .pointer (some ⟨b, 0, none⟩)) rfl rfl rfl) ?_
  simp only [Act.put, z1, z2, z3]
  refine ps M15 (y_nil rfl rfl rfl) ?_
  simp only [Act.put, z1, z2, z3]
  refine ps M15 (y_fa (r := 6) rfl rfl rfl Try.underlying48 rfl Try.sizeOf3 rfl) ?_
  simp only [Act.put, z1, z2, z3]
  refine ps M15 (y_load (v := .int .i64 B.inHead) rfl rfl rfl Try.isAgg3 (fun W hW => hW.get 3 rfl) (rfl)) ?_
  simp only [Act.put, z1, z2, z3]
  refine ps M15 (y_eql (b := true) rfl rfl rfl rfl (decide_eq_true hh)) ?_
  simp only [Act.put, z1, z2, z3]
  refine ps M15 (y_pickT (v := .bool true) rfl rfl rfl rfl) ?_
  simp only [Act.put, z1, z2, z3]
  refine wpStill_nil ?_
  refine pl M15 (y_assign (v := .bool true) rfl rfl rfl) ?_
  simp only [Act.put, z1, z2, z3]
  refine wpList_nil ?_
  refine hK14 _ _ ?_
  clear hK14
  refine wp_seq_k (fun K16 hK16 => ?_)
  refine wp_seq_k (fun K17 hK17 => ?_)
  refine wp_region_lit ?_
  refine pl M15 (y_move (v := .bool false) rfl rfl rfl) ?_
  simp only [Act.put, z1, z2, z3]
  refine pl M15 (y_not rfl rfl rfl rfl) ?_
  simp only [Act.put, z1, z2, z3]
  refine pl M15 (y_move (v := .bool true) rfl rfl rfl) ?_
  simp only [Act.put, z1, z2, z3]
  refine pl M15 (y_move (v := .bool true) rfl rfl rfl) ?_
  simp only [Act.put, z1, z2, z3]
  refine pl M15 (y_not rfl rfl rfl rfl) ?_
  simp only [Act.put, z1, z2, z3]
  refine pl M15 (y_pickT (v := .bool false) rfl rfl rfl rfl) ?_
  simp only [Act.put, z1, z2, z3]
  refine wpList_nil ?_
  refine hK17 _ _ ?_
  clear hK17
  refine wp_cond_false rfl ?_
  refine wp_skip ?_
  refine hK16 _ _ ?_
  clear hK16
  refine wp_seq_k (fun K18 hK18 => ?_)
  refine wp_seq_k (fun K19 hK19 => ?_)
  have M20 := M15.drew
  refine held_begin (fun W => Mem w (foots [disk D p pg mb qv, book B b ⟨lv, kv, vs⟩]) W [blk g9 37 (supC (⟨S, S.mark, m⟩ : FV).s)]) (by kernel_rfl) (M20.arr [0] (by decide)) (fun hS => ?_)
  refine held_take 0 _ rfl (by kernel_rfl) (by kernel_rfl) (by kernel_rfl) (y_move (v := .pointer (some ⟨b, 0, none⟩)) rfl rfl rfl) hS ?_
  simp only [Act.put, z1, z2, z3]
  refine held_take 1 _ rfl (by kernel_rfl) (by kernel_rfl) (by kernel_rfl) (y_move (v := .pointer (some ⟨f, 0, none⟩)) rfl rfl rfl) hS ?_
  simp only [Act.put, z1, z2, z3]
  refine held_take 2 _ rfl (by kernel_rfl) (by kernel_rfl) (by kernel_rfl) (y_fa (r := 2) rfl rfl rfl Try.underlying37 rfl Try.sizeOf3 rfl) hS ?_
  simp only [Act.put, z1, z2, z3]
  refine held_take 3 _ rfl (by kernel_rfl) (by kernel_rfl) (by kernel_rfl) (y_load (v := .int .i64 S.mark) rfl rfl rfl Try.isAgg3 (fun W hW => hW.get 0 rfl) (rfl)) hS ?_
  simp only [Act.put, z1, z2, z3]
  have M21 : Mem w _ w11.drew.drew.drew [book B b (⟨lv, kv, vs⟩), blk g9 37 (supC (⟨S, S.mark, m⟩ : FV).s), disk E p pg mb qv', blk f 96 (fC (⟨S, S.mark, m⟩ : FV) p)] := book_close (M20.arr [3, 4, 5, 0, 1, 2] (by decide))
  clear M20
  have hX22 : Mem w _ w11.drew.drew.drew ([disk E p pg mb qv', blk f 96 (fC (⟨S, S.mark, m⟩ : FV) p), book B b (⟨lv, kv, vs⟩)] ++ [blk g9 37 (supC (⟨S, S.mark, m⟩ : FV).s)]) := M21.arr [2, 3, 0, 1] (by decide)
  refine held_step 4 (by kernel_rfl) rfl (by rfl) (fun K hK => ?_)
  refine e_call 29 [.pointer (some ⟨b, 0, none⟩), .pointer (some ⟨f, 0, none⟩), .int .i64 S.mark] rfl rfl Try.call29 (bholds_int (Mem.here (L := [disk E p pg mb qv', blk f 96 (fC (⟨S, S.mark, m⟩ : FV) p), book B b (⟨lv, kv, vs⟩)]) (R := [blk g9 37 (supC (⟨S, S.mark, m⟩ : FV).s)]) hX22) (B := B) hI S.mark hP.mark2 (Int.le_refl _)) ?_
  rintro e w22 ⟨r, rfl, H22⟩
  have M22 : Mem w _ w22 [disk (E.rd r) p pg mb qv', blk f 96 (fC (⟨S, S.mark, m⟩ : FV) p), book B b (⟨lv, kv, vs⟩), blk g9 37 (supC (⟨S, S.mark, m⟩ : FV).s)] := Mem.frame (Pre := [disk E p pg mb qv', blk f 96 (fC (⟨S, S.mark, m⟩ : FV) p), book B b (⟨lv, kv, vs⟩)]) (Post := [disk (E.rd r) p pg mb qv', blk f 96 (fC (⟨S, S.mark, m⟩ : FV) p), book B b (⟨lv, kv, vs⟩)]) (R := [blk g9 37 (supC (⟨S, S.mark, m⟩ : FV).s)]) hX22 H22
  refine ⟨_, rfl, ?_⟩
  refine hK.out _ _ (M22.arr [3] (by decide)) (fun hS => ?_)
  clear hK K
  simp only [Act.put, z1, z2, z3]
  have M23 : Mem w _ w22 [blk b 48 (bC B ⟨lv, kv, vs⟩), rows lv vs B.loads, lst 3 1 kv B.ps.length B.kinds, disk (E.rd r) p pg mb qv', blk f 96 (fC (⟨S, S.mark, m⟩ : FV) p), blk g9 37 (supC (⟨S, S.mark, m⟩ : FV).s)] := book_open (M22.arr [2, 0, 1, 3] (by decide))
  clear M22
  refine held_take 5 _ rfl (by kernel_rfl) (by kernel_rfl) (by kernel_rfl) (y_not rfl rfl rfl rfl) hS ?_
  simp only [Act.put, z1, z2, z3]
  refine held_take 6 _ rfl (by kernel_rfl) (by kernel_rfl) (by kernel_rfl) (y_move (v := .bool false) rfl rfl rfl) hS ?_
  simp only [Act.put, z1, z2, z3]
  refine held_take 7 _ rfl (by kernel_rfl) (by kernel_rfl) (by kernel_rfl) (y_move (v := .pointer (some ⟨f, 0, none⟩)) rfl rfl rfl) hS ?_
  simp only [Act.put, z1, z2, z3]
  refine held_take 9 _ rfl (by kernel_rfl) (by kernel_rfl) (by kernel_rfl) (y_fa (r := 2) rfl rfl rfl Try.underlying37 rfl Try.sizeOf3 rfl) hS ?_
  simp only [Act.put, z1, z2, z3]
  refine held_take 10 _ rfl (by kernel_rfl) (by kernel_rfl) (by kernel_rfl) (y_load (v := .int .i64 S.mark) rfl rfl rfl Try.isAgg3 (fun W hW => hW.get 0 rfl) (rfl)) hS ?_
  simp only [Act.put, z1, z2, z3]
  have hX24 : Mem w _ w22 ([disk (E.rd r) p pg mb qv', blk f 96 (fC (⟨S, S.mark, m⟩ : FV) p)] ++ [blk b 48 (bC B ⟨lv, kv, vs⟩), rows lv vs B.loads, lst 3 1 kv B.ps.length B.kinds, blk g9 37 (supC (⟨S, S.mark, m⟩ : FV).s)]) := M23.arr [3, 4, 0, 1, 2, 5] (by decide)
  refine held_step 8 (by kernel_rfl) rfl (by rfl) (fun K hK => ?_)
  refine e_call 20 [.pointer (some ⟨f, 0, none⟩)] rfl rfl Try.call20 (next_any (Mem.here (L := [disk (E.rd r) p pg mb qv', blk f 96 (fC (⟨S, S.mark, m⟩ : FV) p)]) (R := [blk b 48 (bC B ⟨lv, kv, vs⟩), rows lv vs B.loads, lst 3 1 kv B.ps.length B.kinds, blk g9 37 (supC (⟨S, S.mark, m⟩ : FV).s)]) hX24)) ?_
  rintro e w24 ⟨rfl, H24⟩
  have M24 : Mem w _ w24 [disk (E.rd r) p pg mb qv', blk f 96 (fC (⟨S, S.mark, m⟩ : FV) p), blk b 48 (bC B ⟨lv, kv, vs⟩), rows lv vs B.loads, lst 3 1 kv B.ps.length B.kinds, blk g9 37 (supC (⟨S, S.mark, m⟩ : FV).s)] := Mem.frame (Pre := [disk (E.rd r) p pg mb qv', blk f 96 (fC (⟨S, S.mark, m⟩ : FV) p)]) (Post := [disk (E.rd r) p pg mb qv', blk f 96 (fC (⟨S, S.mark, m⟩ : FV) p)]) (R := [blk b 48 (bC B ⟨lv, kv, vs⟩), rows lv vs B.loads, lst 3 1 kv B.ps.length B.kinds, blk g9 37 (supC (⟨S, S.mark, m⟩ : FV).s)]) hX24 H24
  refine ⟨_, rfl, ?_⟩
  refine hK.out _ _ (M24.arr [5] (by decide)) (fun hS => ?_)
  clear hK K
  simp only [Act.put, z1, z2, z3]
  refine held_take 11 _ rfl (by kernel_rfl) (by kernel_rfl) (by kernel_rfl) (y_neq (b := false) rfl rfl rfl rfl (by rw [decide_eq_true rfl]; rfl)) hS ?_
  simp only [Act.put, z1, z2, z3]
  refine held_take 12 _ rfl (by kernel_rfl) (by kernel_rfl) (by kernel_rfl) (y_pickF (v := .bool false) rfl rfl rfl rfl) hS ?_
  simp only [Act.put, z1, z2, z3]
  refine held_done (by kernel_rfl) ?_ _
  refine hK19 _ _ ?_
  clear hK19
  refine wp_cond_false rfl ?_
  refine wp_skip ?_
  refine hK18 _ _ ?_
  clear hK18
  refine wp_seq_k (fun K25 hK25 => ?_)
  have M26 := M24.drew
  refine held_begin (fun W => Mem w (foots [disk D p pg mb qv, book B b ⟨lv, kv, vs⟩]) W [blk g9 37 (supC (⟨S, S.mark, m⟩ : FV).s)]) (by kernel_rfl) (M26.arr [5] (by decide)) (fun hS => ?_)
  refine held_take 0 _ rfl (by kernel_rfl) (by kernel_rfl) (by kernel_rfl) (y_move (v := .pointer (some ⟨b, 0, none⟩)) rfl rfl rfl) hS ?_
  simp only [Act.put, z1, z2, z3]
  refine held_take 1 _ rfl (by kernel_rfl) (by kernel_rfl) (by kernel_rfl) (y_move (v := .pointer (some ⟨b, 0, none⟩)) rfl rfl rfl) hS ?_
  simp only [Act.put, z1, z2, z3]
  refine held_take 2 _ rfl (by kernel_rfl) (by kernel_rfl) (by kernel_rfl) (y_move (v := .pointer (some ⟨b, 0, none⟩)) rfl rfl rfl) hS ?_
  simp only [Act.put, z1, z2, z3]
  refine held_take 3 _ rfl (by kernel_rfl) (by kernel_rfl) (by kernel_rfl) (y_fa (r := 2) rfl rfl rfl Try.underlying37 rfl Try.sizeOf3 rfl) hS ?_
  simp only [Act.put, z1, z2, z3]
  refine held_take 4 _ rfl (by kernel_rfl) (by kernel_rfl) (by kernel_rfl) (y_load (v := .int .i64 S.mark) rfl rfl rfl Try.isAgg3 (fun W hW => hW.get 0 rfl) (rfl)) hS ?_
  simp only [Act.put, z1, z2, z3]
  refine held_take 5 _ rfl (by kernel_rfl) (by kernel_rfl) (by kernel_rfl) (y_fa (r := 3) rfl rfl rfl Try.underlying37 rfl Try.sizeOf3 rfl) hS ?_
  simp only [Act.put, z1, z2, z3]
  refine held_take 6 _ rfl (by kernel_rfl) (by kernel_rfl) (by kernel_rfl) (y_load (v := .int .i64 S.head) rfl rfl rfl Try.isAgg3 (fun W hW => hW.get 0 rfl) (rfl)) hS ?_
  simp only [Act.put, z1, z2, z3]
  refine held_take 7 _ rfl (by kernel_rfl) (by kernel_rfl) (by kernel_rfl) (y_fa (r := 1) rfl rfl rfl Try.underlying37 rfl Try.sizeOf3 rfl) hS ?_
  simp only [Act.put, z1, z2, z3]
  refine held_take 8 _ rfl (by kernel_rfl) (by kernel_rfl) (by kernel_rfl) (y_load (v := .int .i64 S.gen) rfl rfl rfl Try.isAgg3 (fun W hW => hW.get 0 rfl) (rfl)) hS ?_
  simp only [Act.put, z1, z2, z3]
  refine held_take 9 _ rfl (by kernel_rfl) (by kernel_rfl) (by kernel_rfl) (y_nil rfl rfl rfl) hS ?_
  simp only [Act.put, z1, z2, z3]
  refine held_take 10 _ rfl (by kernel_rfl) (by kernel_rfl) (by kernel_rfl) (y_fa (r := 2) rfl rfl rfl Try.underlying48 rfl Try.sizeOf3 rfl) hS ?_
  simp only [Act.put, z1, z2, z3]
  refine held_step 11 (by kernel_rfl) rfl (by rfl) (fun K hK => ?_)
  refine e_store M26 2 (v := .int .i64 S.mark) rfl rfl rfl rfl rfl rfl Try.sizeOf3 rfl (show (2 : Nat) < 7 by decide) ?_
  intro w27 (M27 : Mem w _ w27 [disk (E.rd r) p pg mb qv', blk f 96 (fC (⟨S, S.mark, m⟩ : FV) p), blk b 48 ([lv, kv, .int .i64 S.mark, .int .i64 B.gen, .int .i64 B.head, .int .i64 B.inMark, .int .i64 B.inHead]), rows lv vs B.loads, lst 3 1 kv B.ps.length B.kinds, blk g9 37 (supC (⟨S, S.mark, m⟩ : FV).s)])
  clear M26
  refine hK.out _ _ (M27.arr [5] (by decide)) (fun hS => ?_)
  clear hK K
  simp only [Act.put, z1, z2, z3]
  refine held_take 12 _ rfl (by kernel_rfl) (by kernel_rfl) (by kernel_rfl) (y_nil rfl rfl rfl) hS ?_
  simp only [Act.put, z1, z2, z3]
  refine held_take 13 _ rfl (by kernel_rfl) (by kernel_rfl) (by kernel_rfl) (y_fa (r := 4) rfl rfl rfl Try.underlying48 rfl Try.sizeOf3 rfl) hS ?_
  simp only [Act.put, z1, z2, z3]
  refine held_step 14 (by kernel_rfl) rfl (by rfl) (fun K hK => ?_)
  refine e_store M27 2 (v := .int .i64 S.head) rfl rfl rfl rfl rfl rfl Try.sizeOf3 rfl (show (4 : Nat) < 7 by decide) ?_
  intro w28 (M28 : Mem w _ w28 [disk (E.rd r) p pg mb qv', blk f 96 (fC (⟨S, S.mark, m⟩ : FV) p), blk b 48 ([lv, kv, .int .i64 S.mark, .int .i64 B.gen, .int .i64 S.head, .int .i64 B.inMark, .int .i64 B.inHead]), rows lv vs B.loads, lst 3 1 kv B.ps.length B.kinds, blk g9 37 (supC (⟨S, S.mark, m⟩ : FV).s)])
  clear M27
  refine hK.out _ _ (M28.arr [5] (by decide)) (fun hS => ?_)
  clear hK K
  simp only [Act.put, z1, z2, z3]
  refine held_take 15 _ rfl (by kernel_rfl) (by kernel_rfl) (by kernel_rfl) (y_nil rfl rfl rfl) hS ?_
  simp only [Act.put, z1, z2, z3]
  refine held_take 16 _ rfl (by kernel_rfl) (by kernel_rfl) (by kernel_rfl) (y_fa (r := 3) rfl rfl rfl Try.underlying48 rfl Try.sizeOf3 rfl) hS ?_
  simp only [Act.put, z1, z2, z3]
  refine held_step 17 (by kernel_rfl) rfl (by rfl) (fun K hK => ?_)
  refine e_store M28 2 (v := .int .i64 S.gen) rfl rfl rfl rfl rfl rfl Try.sizeOf3 rfl (show (3 : Nat) < 7 by decide) ?_
  intro w29 (M29 : Mem w _ w29 [disk (E.rd r) p pg mb qv', blk f 96 (fC (⟨S, S.mark, m⟩ : FV) p), blk b 48 ([lv, kv, .int .i64 S.mark, .int .i64 S.gen, .int .i64 S.head, .int .i64 B.inMark, .int .i64 B.inHead]), rows lv vs B.loads, lst 3 1 kv B.ps.length B.kinds, blk g9 37 (supC (⟨S, S.mark, m⟩ : FV).s)])
  clear M28
  refine hK.out _ _ (M29.arr [5] (by decide)) (fun hS => ?_)
  clear hK K
  simp only [Act.put, z1, z2, z3]
  refine held_done (by kernel_rfl) ?_ _
  refine hK25 _ _ ?_
  clear hK25
  refine wp_seq_k (fun K30 hK30 => ?_)
  refine wp_region_lit ?_
  refine pl M29 (y_move (v := .pointer (some ⟨b, 0, none⟩)) rfl rfl rfl) ?_
  simp only [Act.put, z1, z2, z3]
  refine pl M29 (y_nil rfl rfl rfl) ?_
  simp only [Act.put, z1, z2, z3]
  refine pl M29 (y_fa (r := 5) rfl rfl rfl Try.underlying48 rfl Try.sizeOf3 rfl) ?_
  simp only [Act.put, z1, z2, z3]
  refine pe rfl (fun K hK => ?_)
  refine e_store M29 2 (v := .int .i64 0) rfl rfl rfl rfl rfl rfl Try.sizeOf3 rfl (show (5 : Nat) < 7 by decide) ?_
  intro w31 (M31 : Mem w _ w31 [disk (E.rd r) p pg mb qv', blk f 96 (fC (⟨S, S.mark, m⟩ : FV) p), blk b 48 ([lv, kv, .int .i64 S.mark, .int .i64 S.gen, .int .i64 S.head, .int .i64 0, .int .i64 B.inHead]), rows lv vs B.loads, lst 3 1 kv B.ps.length B.kinds, blk g9 37 (supC (⟨S, S.mark, m⟩ : FV).s)])
  clear M29
  refine hK.out _ _ ?_
  clear hK K
  simp only [Act.put, z1, z2, z3]
  refine wpList_nil ?_
  refine hK30 _ _ ?_
  clear hK30
  refine wp_seq_k (fun K32 hK32 => ?_)
  refine wp_region_lit ?_
  refine pl M31 (y_move (v := .pointer (some ⟨f, 0, none⟩)) rfl rfl rfl) ?_
  simp only [Act.put, z1, z2, z3]
  refine pl M31 (y_assign (v := .pointer (some ⟨f, 0, none⟩)) rfl rfl rfl) ?_
  simp only [Act.put, z1, z2, z3]
  refine wpList_nil ?_
  refine hK32 _ _ ?_
  clear hK32
  refine wp_ret ?_
  try simp only [Exit.inBlock, Exit.then]
  refine bodyPost_ret (v := .pointer (some ⟨f, 0, none⟩)) (res1 rfl rfl) rfl ?_
  have N : Mem _ _ _ [book ({ B with mark := S.mark, head := S.head, gen := S.gen, inMark := 0 } : BV) b ⟨lv, kv, vs⟩, _, _] := book_close (M31.arr [2, 3, 4, 0, 1] (by decide))
  exact ⟨f, E.rd r, m, qv', ⟨lv, kv, vs⟩, rfl, N.arr [1, 2, 0] (by decide), hI.rd r, hq2, ha2, by show E.pages.length = _; rw [hp2, crash_len]⟩
end Go.Proofs.Ytehnnnohoaapdaa

/- One act on the book, whatever it is; and what stands behind a loss of power. -/
namespace Go.Proofs.Ytehnnnohoaapdaa
open Go Go.RowKit
set_option linter.unusedVariables false
structure BInv (D : DV) (V : FV) (B : BV) : Prop where
  inv : Inv D V B.ps
  mark : V.s.mark = B.mark
  gen : V.s.gen = B.gen
  head : V.s.head = B.head
  inm : B.inMark = 0
  len : B.ps.length ≤ D.pages.length
structure Kept (D E : DV) (V V' : FV) (B B' : BV) : Prop where
  pages : E.pages.length = D.pages.length
  que : E.q.length ≤ D.q.length + 1
  width : V'.s.width = V.s.width
  gen : V'.s.gen ≤ V.s.gen + 1
  mark : B.mark ≤ B'.mark
  old : ∀ n : Nat, 2 ≤ n → (n : Int) < B.mark → pgAt B'.ps n = pgAt B.ps n
def DownB (D : DV) (S : SupV) (B : BV) : Prop :=
  ∃ late, Dead D S late B.ps ∧ S.mark = B.mark ∧ S.gen = B.gen ∧ S.head = B.head ∧ B.ps.length ≤ D.pages.length ∧
    ∀ S2, late = some S2 → 0 < B.inMark ∧ S2.mark = B.inMark ∧ S2.gen = B.gen + 1 ∧ S2.head = B.inHead ∧ S2.width = S.width ∧ S.mark ≤ S2.mark
def Out (D : DV) (V : FV) (B : BV) (kd er : Int) (E : DV) (V' : FV) (B' : BV) : Prop :=
  Kept D E V V' B B' ∧ ((er = 0 ∧ BInv E V' B' ∧ (kd ≠ 4 → D.armed = 0 → E.armed = 0)) ∨ (er = 2 ∧ D.armed ≠ 0 ∧ V' = V ∧ E.dead = true ∧ E.epoch = V.mine ∧ DownB E V.s B'))
theorem Kept.refl (D : DV) (V : FV) (B : BV) : Kept D D V V B B := ⟨rfl, Nat.le_succ _, rfl, by omega, Int.le_refl _, fun _ _ _ => rfl⟩
abbrev PT3 (D : DV) (V : FV) (B : BV) (p pg mb f b : Nat) (qv : Value) (bx : BX) : List Asn := [disk D p pg mb qv, blk f 96 (fC V p), book B b bx]
section
variable {D : DV} {V : FV} {B : BV} {p pg mb f b : Nat} {qv : Value} {bx : BX} {w : World}
theorem bact_any (hM : Mem w (foots (PT3 D V B p pg mb f b qv bx)) w (PT3 D V B p pg mb f b qv bx)) (kd n : Int) (ao : Option Addr) (nn c : Nat) (l : List UInt8) (hr : Row w ao nn l) (hF : ∀ b₁ o, ao = some ⟨b₁, o, none⟩ → 0 < nn → b₁ ∉ foots (PT3 D V B p pg mb f b qv bx))
    (hnn : nn ≤ 140737488351232) (hB : BInv D V B) (hgm : V.s.gen < 1099511627776) (hq : D.q.length ≤ 400000000000) :
    Calls Try.prog 27 #[.pointer (some ⟨b, 0, none⟩), .pointer (some ⟨p, 0, none⟩), .pointer (some ⟨f, 0, none⟩), .agg ([.int .i64 kd, .int .i64 n, .slice ao nn c] : List Value).toArray] w fun e w' =>
      ∃ er E V' B' qv' bx', e = .returned (.tuple #[.int .i64 er, .bool true]) ∧ Mem w (foots (PT3 D V B p pg mb f b qv bx)) w' (PT3 E V' B' p pg mb f b qv' bx') ∧ Out D V B kd er E V' B' := by
  have hI := hB.inv
  have hn2 := hI.next2
  have hnp := hI.nextp
  by_cases k1 : kd = 1
  · subst k1
    rcases Int.lt_or_eq_of_le hnp with hf | hf
    · rcases actE_two D with h0 | h0
      · obtain ⟨m, hm⟩ : ∃ m : Nat, V.next = ((m + 2 : Nat) : Int) := ⟨(V.next - 2).toNat, by omega⟩
        refine (act_go hM n ao nn c l hr hF hnn hq hI hB.len hf m hm h0).mono ?_
        rintro e w' ⟨E, r, x, qv', bx', rfl, h1, hx, hE, hI2⟩
        obtain ⟨a1, a2, a3, a4⟩ := hI.app (k := x.1) (l := x.2) hx hf
        have hpl : (E.rd r).pages.length = D.pages.length := by
          show E.pages.length = _
          rw [hE, a2, actD_pages]; rfl
        have hlo := hI.lo
        have hlen := hI.lenN
        have hmk := hB.mark
        refine ⟨0, _, _, _, qv', bx', rfl, h1, ⟨hpl, ?_, rfl, by show V.s.gen ≤ V.s.gen + 1; omega, Int.le_refl _, fun n h2 h3 => ?_⟩, .inl ⟨rfl, ⟨hI2.rd r, hB.mark, hB.gen, hB.head, hB.inm, ?_⟩, fun _ ha => ?_⟩⟩
        · show E.q.length ≤ _
          rw [hE, a2, actD_q]; simp [openW]
        · show pgAt (putP B.ps (m + 2) x) n = _
          exact putP_low _ _ _ _ (by omega) (by omega) h2
        · show (putP B.ps (m + 2) x).length ≤ (E.rd r).pages.length
          rw [putP_len _ _ _ (by omega), hpl]; omega
        · show E.armed = 0
          rw [hE, a2, actD_armed]
          show (if D.armed = 0 then 0 else D.armed - 1) = 0
          rw [if_pos ha]
      · refine (act_down hM n ao nn c l hr hF hnn hq hI hf h0).mono ?_
        rintro e w' ⟨E, x, qv', bx', rfl, h1, hx, hE⟩
        obtain ⟨a1, a2, a3, a4⟩ := hI.app (k := x.1) (l := x.2) hx hf
        obtain ⟨b1, b2, b3⟩ := a4 h0
        have hpl : E.pages.length = D.pages.length := by rw [hE, a2, actD_pages]; rfl
        rw [← hE] at b1 b2 b3
        refine ⟨2, _, _, _, qv', bx', rfl, h1, ⟨hpl, ?_, rfl, by omega, Int.le_refl _, fun _ _ _ => rfl⟩, .inr ⟨rfl, fun ha => ?_, rfl, b1, b2, none, b3.dead none, hB.mark, hB.gen, hB.head, by rw [hpl]; exact hB.len, fun _ e => by cases e⟩⟩
        · rw [hE, a2, actD_q]; simp [openW]
        · rw [(act_arm0 ha).1] at h0; cases h0
    · refine (act_full hM n ao nn c l hr hF hnn hq hI hf).mono ?_
      rintro e w' ⟨qv', bx', rfl, h1⟩
      exact ⟨0, _, _, _, qv', bx', rfl, h1, Kept.refl D V B, .inl ⟨rfl, hB, fun _ h => h⟩⟩
  · by_cases k2 : kd = 2
    · subst k2
      have main : ∀ head : Int, (head = 0 ∨ (2 ≤ head ∧ head < V.next)) →
          (∀ (h0 : (pubR D V head).2 = 0) (hpp : (pubR D V head).1.pages.length = D.pages.length), Calls Try.prog 27 #[.pointer (some ⟨b, 0, none⟩), .pointer (some ⟨p, 0, none⟩), .pointer (some ⟨f, 0, none⟩), .agg ([.int .i64 2, .int .i64 n, .slice ao nn c] : List Value).toArray] w fun e w' => ∃ E qv' bx', e = .returned (.tuple #[.int .i64 0, .bool true]) ∧ Mem w (foots (PT3 D V B p pg mb f b qv bx)) w' (PT3 E { V with s := pubS V head } { B with mark := V.next, head := head, gen := B.gen + 1 } p pg mb f b qv' bx') ∧ E = (pubR D V head).1) →
          (∀ (h0 : (pubR D V head).2 = 2) (hpp : (pubR D V head).1.pages.length = D.pages.length), Calls Try.prog 27 #[.pointer (some ⟨b, 0, none⟩), .pointer (some ⟨p, 0, none⟩), .pointer (some ⟨f, 0, none⟩), .agg ([.int .i64 2, .int .i64 n, .slice ao nn c] : List Value).toArray] w fun e w' => ∃ E qv' bx', e = .returned (.tuple #[.int .i64 2, .bool true]) ∧ Mem w (foots (PT3 D V B p pg mb f b qv bx)) w' (PT3 E V { B with inMark := V.next, inHead := head } p pg mb f b qv' bx') ∧ E = (pubR D V head).1) →
          Calls Try.prog 27 #[.pointer (some ⟨b, 0, none⟩), .pointer (some ⟨p, 0, none⟩), .pointer (some ⟨f, 0, none⟩), .agg ([.int .i64 2, .int .i64 n, .slice ao nn c] : List Value).toArray] w fun e w' =>
            ∃ er E V' B' qv' bx', e = .returned (.tuple #[.int .i64 er, .bool true]) ∧ Mem w (foots (PT3 D V B p pg mb f b qv bx)) w' (PT3 E V' B' p pg mb f b qv' bx') ∧ Out D V B 2 er E V' B' := by
        intro head hh hgo hdown
        have hlo := hI.lo
        have hmk := hB.mark
        rcases hI.pub hh hgm with ⟨c1, c2, c3, c4⟩ | ⟨c1, c2, c3, c4, c5, c6, c7, c8⟩
        · have hpl : (pubR D V head).1.pages.length = D.pages.length := by
            have h1 := c3.plat.pages
            have h2 := hI.plat.pages
            have h3 : (pubS V head).pages = V.s.pages := rfl
            have h1 : (pubS V head).pages = _ := h1
            omega
          refine (hgo c1 hpl).mono ?_
          rintro e w' ⟨E, qv', bx', rfl, h1, rfl⟩
          refine ⟨0, _, _, _, qv', bx', rfl, h1, ⟨hpl, by rw [c4]; exact Nat.zero_le _, rfl, Int.le_refl _, by show B.mark ≤ V.next; omega, fun _ _ _ => rfl⟩, .inl ⟨rfl, ⟨c3, rfl, by show V.s.gen + 1 = B.gen + 1; rw [hB.gen], rfl, hB.inm, by rw [hpl]; exact hB.len⟩, fun _ ha => ?_⟩⟩
          rw [c2]
          have q1 : (pubD1 D).armed = 0 := by show (actD D).armed = 0; rw [(act_arm0 ha).2]; exact ha
          have q2 : (pubD2 D (pubS V head)).armed = 0 := by
            show (actD _).armed = 0
            rw [(act_arm0 (D := openW (pubD1 D) ((pubS V head).gen % 2) (superB (pubS V head))) q1).2]; exact q1
          show (actD _).armed = 0
          rw [(act_arm0 q2).2]; exact q2
        · refine (hdown c1 c6).mono ?_
          rintro e w' ⟨E, qv', bx', rfl, h1, rfl⟩
          refine ⟨2, _, _, _, qv', bx', rfl, h1, ⟨c6, c5, rfl, by omega, Int.le_refl _, fun _ _ _ => rfl⟩, .inr ⟨rfl, c2, rfl, c3, c4, some (pubS V head), c8, hB.mark, hB.gen, hB.head, by rw [c6]; exact hB.len, fun S2 e => ?_⟩⟩
          cases e
          exact ⟨by show 0 < V.next; omega, rfl, by show V.s.gen + 1 = B.gen + 1; rw [hB.gen], rfl, rfl, by show V.s.mark ≤ V.next; omega⟩
      by_cases h1 : n % 2 = 1
      · by_cases h2 : 2 < V.next
        · exact main (V.next - 1) (.inr ⟨by omega, by omega⟩) (fun h0 hpp => act_pub_go_h hM n ao nn c hI hB.gen hgm hq h1 h2 h0 hpp) (fun h0 hpp => act_pub_down_h hM n ao nn c hI hB.gen hgm hq h1 h2 h0 hpp)
        · exact main 0 (.inl rfl) (fun h0 hpp => act_pub_go_z1 hM n ao nn c hI hB.gen hgm hq h1 h2 h0 hpp) (fun h0 hpp => act_pub_down_z1 hM n ao nn c hI hB.gen hgm hq h1 h2 h0 hpp)
      · exact main 0 (.inl rfl) (fun h0 hpp => act_pub_go_z2 hM n ao nn c hI hB.gen hgm hq h1 h0 hpp) (fun h0 hpp => act_pub_down_z2 hM n ao nn c hI hB.gen hgm hq h1 h0 hpp)
    · by_cases k3 : kd = 3
      · subst k3
        refine (act_forget hM n ao nn c hB.mark).mono ?_
        rintro e w' ⟨bx', rfl, h1⟩
        exact ⟨0, _, _, _, qv, bx', rfl, h1, ⟨rfl, Nat.le_succ _, rfl, by show V.s.gen ≤ V.s.gen + 1; omega, Int.le_refl _, fun _ _ _ => rfl⟩, .inl ⟨rfl, ⟨hI.forget, hB.mark, hB.gen, hB.head, hB.inm, hB.len⟩, fun _ h => h⟩⟩
      · by_cases k4 : kd = 4
        · subst k4
          have e4 : armD D (1 + n % 12) = { D with armed := max (1 + n % 12) 0 } := if_neg (by rw [hI.pow]; decide)
          refine (act_arm hM n ao nn c).mono ?_
          rintro e w' ⟨bx', rfl, h1⟩
          have hI3 := hI.arm (n := 1 + n % 12) (by omega)
          rw [e4] at h1 hI3
          exact ⟨0, _, _, _, qv, bx', rfl, h1, ⟨rfl, Nat.le_succ _, rfl, by omega, Int.le_refl _, fun _ _ _ => rfl⟩, .inl ⟨rfl, ⟨hI3, hB.mark, hB.gen, hB.head, hB.inm, hB.len⟩, fun h => absurd rfl h⟩⟩
        · refine (act_other hM kd n ao nn c k1 k2 k3 k4).mono ?_
          rintro e w' ⟨bx', rfl, h1⟩
          exact ⟨0, _, _, _, qv, bx', rfl, h1, Kept.refl D V B, .inl ⟨rfl, hB, fun _ h => h⟩⟩
theorem bagain_any (hM : Mem w (foots [disk D p pg mb qv, book B b bx]) w [disk D p pg mb qv, book B b bx]) (ao : Option Addr) (nn c : Nat) (l : List UInt8) (hr : Row w ao nn l) (hF : ∀ b₁ o, ao = some ⟨b₁, o, none⟩ → 0 < nn → b₁ ∉ foots [disk D p pg mb qv, book B b bx])
    (hnn : nn ≤ 140737488351232) (S : SupV) (hD : DownB D S B) :
    Calls Try.prog 37 #[.pointer (some ⟨b, 0, none⟩), .pointer (some ⟨p, 0, none⟩), .slice ao nn c] w fun e w' =>
      ∃ f E V' B' qv' bx', e = .returned (.pointer (some ⟨f, 0, none⟩)) ∧ Mem w (foots [disk D p pg mb qv, book B b bx]) w' (PT3 E V' B' p pg mb f b qv' bx') ∧ BInv E V' B' ∧ E.q = [] ∧ E.armed = 0 ∧ E.pages.length = D.pages.length ∧ V'.s.width = S.width ∧ V'.s.gen ≤ S.gen + 1 ∧ B.mark ≤ B'.mark ∧ B'.ps = B.ps := by
  obtain ⟨late, d1, d2, d3, d4, d5, d6⟩ := hD
  obtain ⟨S2, e1, hP⟩ := d1 l
  rcases e1 with rfl | e1
  · refine (again_old hM ao nn c l hr hF hnn S2 hP d3 d2 d4).mono ?_
    rintro e w' ⟨f, E, m, qv', bx', rfl, h1, h2, h3, h4, h5⟩
    exact ⟨f, E, _, _, qv', bx', rfl, h1, ⟨h2, rfl, rfl, rfl, rfl, by rw [h5]; exact d5⟩, h3, h4, h5, rfl, by show S2.gen ≤ S2.gen + 1; omega, by show B.mark ≤ S2.mark; omega, rfl⟩
  · obtain ⟨g1, g2, g3, g4, g5, g6⟩ := d6 S2 e1
    refine (again_late hM ao nn c l hr hF hnn S2 hP g1 g3 g2 g4).mono ?_
    rintro e w' ⟨f, E, m, qv', bx', rfl, h1, h2, h3, h4, h5⟩
    exact ⟨f, E, _, _, qv', bx', rfl, h1, ⟨h2, rfl, rfl, rfl, rfl, by rw [h5]; exact d5⟩, h3, h4, h5, g5, by show S2.gen ≤ S.gen + 1; omega, by show B.mark ≤ S2.mark; omega, rfl⟩
end
end Go.Proofs.Ytehnnnohoaapdaa

/- Reading acts and lists of lists that came in. -/
namespace Go.Proofs.Ytehnnnohoaapdaa
open Go Go.RowKit Go.ChangeShapes Go.WideShapes Go.ChangeAt Go.Deep
set_option linter.unusedVariables false
def Sized {H : Type} (P : Program) (t : TypeId) (d : DataW H) : Prop := ∀ n ∈ d.weights P t, n ≤ reachBytes
section
variable {H : Type} {enc : TypeId × Value → H} {P : Program} {w : World} {base : Nat} {sp : Nat → Bool} {held : Bool} {t e : TypeId}
theorem sized_arg {ts : List TypeId} {ds : List (DataW H)} (h : (DataW.weightsEach P ts ds).all (· ≤ reachBytes) = true) {j : Nat} {d : DataW H} (ht : ts[j]? = some t) (hd : ds[j]? = some d) : Sized P t d := fun n hn => by
  have := List.all_eq_true.1 h _ (DataW.weights_mem_each ht hd n hn)
  simpa using this
theorem sized_part {fs : Array Field} {parts : List (DataW H)} (hu : P.underlying t = some (.struct fs)) (h : Sized P t (.agg parts)) {i : Nat} {f : Field} {d : DataW H} (hf : fs[i]? = some f) (hd : parts[i]? = some d) : Sized P f.type d := fun n hn => by
  refine h n ?_
  have : (DataW.agg parts).weights P t = DataW.weightsEach P (fs.toList.map (·.type)) parts := by simp [DataW.weights, hu]
  rw [this]
  exact DataW.weights_mem_each (j := i) (by simp [hf]) hd n hn
theorem weights_mem_all : ∀ {ds : List (DataW H)} {j : Nat} {d : DataW H}, ds[j]? = some d → ∀ n ∈ d.weights P e, n ∈ DataW.weightsAll P e ds
  | d0 :: ds, 0, d, hd, n, hn => by
    simp only [List.getElem?_cons_zero, Option.some.injEq] at hd
    subst hd
    simp only [DataW.weightsAll, List.mem_append]
    exact Or.inl hn
  | d0 :: ds, j + 1, d, hd, n, hn => by
    simp only [List.getElem?_cons_succ] at hd
    simp only [DataW.weightsAll, List.mem_append]
    exact Or.inr (weights_mem_all hd n hn)
  | [], _, _, hd, _, _ => by simp at hd
theorem sized_elem {es ss : List (DataW H)} (hu : P.underlying t = some (.slice e)) (h : Sized P t (.slice es ss)) {i : Nat} {d : DataW H} (hd : es[i]? = some d) : Sized P e d := fun n hn => by
  refine h n ?_
  simp only [DataW.weights, hu, List.mem_cons, List.mem_append]
  exact .inr (.inl (weights_mem_all hd n hn))
theorem sized_len {es ss : List (DataW H)} (hu : P.underlying t = some (.slice e)) (h : Sized P t (.slice es ss)) : (es.length + ss.length) * P.bytesOf e ≤ reachBytes :=
  h _ (by simp [DataW.weights, hu])
theorem chain_step {cs x : List Value} (o k : Nat) (h : (cs.drop o).take k = x) : cs.drop o = x ++ cs.drop (o + k) := by
  rw [← h, ← List.drop_drop, List.take_append_drop]
theorem trod_row {fuel : Nat} {cs : List Value} {x : DataW H × List MemPlace} (hsp : ∀ b, sp b = true) (ht : P.underlying t = some (.slice e)) (he : P.underlying e = some (.int .u8)) (hc : P.cellsOf e = 1) (hby : P.bytesOf e = 1)
    (h : DataW.trod enc P w base sp held fuel t cs = some x) :
    ∃ (ao : Option Addr) (n c : Nat) (l : List UInt8), cs = [.slice ao n c] ∧ InRow w ao n c l ∧ c ≤ maxLen ∧ (Sized P t x.1 → c ≤ 140737488351232) := by
  rcases open_ints ht he hc h with ⟨hcs, hx⟩ | ⟨a, len, cap, zs, hcs, _, hl, hm, hz, hx, hcell, hw⟩
  · exact ⟨none, 0, 0, [], hcs, ⟨Row.nil, fun _ => ⟨rfl, rfl⟩, Nat.le_refl _⟩, Nat.zero_le _, fun _ => by omega⟩
  · rw [hsp, if_pos rfl] at hz
    obtain ⟨l, hr⟩ := row_of_ints (len := len) (by omega) hcell hw
    refine ⟨some a, len, cap, l, hcs, ⟨hr, (fun h => by cases h), hl⟩, hm, fun hs => ?_⟩
    rw [hx] at hs
    have := sized_len ht hs
    rw [hby] at this
    simp only [lits, List.length_map, List.length_take, List.length_drop, reachBytes] at this
    omega
end
section
variable {H : Type} {enc : TypeId × Value → H} {P : Program} {w : World} {base : Nat} {sp : Nat → Bool} {held : Bool} {t e : TypeId}
def ListIn {α : Type} (cC : α → List Value) (k : Nat) (w : World) (ao : Option Addr) (n : Nat) (os : List α) : Prop :=
  os.length = n ∧ ∀ (i : Nat) (o : α), os[i]? = some o → ∃ b off, ao = some ⟨b, off, none⟩ ∧ w.rangeAt b (off + i * k) (cC o)
theorem open_list {α : Type} [Inhabited α] (cC : α → List Value) (k : Nat) (hk : ∀ o, (cC o).length = k) (hk0 : 0 < k) (ok : α → Prop) (ht : P.underlying t = some (.slice e)) (hct : P.cellsOf e = k) (hbt : 1 ≤ P.bytesOf e)
    (one : ∀ fuel cs x, DataW.trod enc P w base sp held fuel e cs = some x → Sized P e x.1 → ∃ o, cs = cC o ∧ ok o)
    {r : Reach} {b0 : Nat} {v : Value} {d : DataW H} {p : List MemPlace} (hv : Value.okWide P w r b0 t v) (h : DataW.Trod enc P w base sp held t v d p) (hs : Sized P t d) :
    ∃ (ao : Option Addr) (n c : Nat) (os : List α), v = .slice ao n c ∧ ListIn cC k w ao n os ∧ n ≤ 4611686018427387904 ∧ ∀ o ∈ os, ok o := by
  obtain ⟨a0, n, c, rfl⟩ := okWide_slice ht hv
  obtain ⟨fuel, hf⟩ := h
  rcases open_slice ht hf with ⟨hcs, hx⟩ | ⟨a, len, cap, m, f, D, Pl, hcs, _, hl, hm, hmm, hx, hel⟩
  · simp [Value.cells] at hcs
    obtain ⟨rfl, rfl, rfl⟩ := hcs
    exact ⟨none, 0, 0, [], rfl, ⟨rfl, fun i o h => by simp at h⟩, by omega, fun o ho => by cases ho⟩
  · simp [Value.cells] at hcs
    obtain ⟨rfl, rfl, rfl⟩ := hcs
    have hd : d = .slice ((List.range n).map D) ((List.range (m - n)).map fun j => D (n + j)) := (Prod.mk.inj hx).1
    rw [hd] at hs
    have hlen := sized_len ht hs
    have hn : n ≤ 4611686018427387904 := by
      simp only [List.length_map, List.length_range, reachBytes] at hlen
      have h1 : n * 1 ≤ (n + (m - n)) * P.bytesOf e := Nat.mul_le_mul (by omega) hbt
      omega
    have hnm : n ≤ m := by rw [hmm]; split <;> omega
    rw [hct] at hel
    have each : ∀ i, i < n → ∃ o : α, (∃ b off, a = ⟨b, off, none⟩ ∧ w.rangeAt b (off + i * k) (cC o)) ∧ ok o := by
      have one' : ∀ i, i < n → ∃ cs' : List Value, ∃ o : α, w.cells? base (a.add (i * k)) k = some cs' ∧ cs' = cC o ∧ ok o := fun i hi => by
        obtain ⟨cs', h1, h2⟩ := hel i (by omega)
        obtain ⟨o, h3, h4⟩ := one _ _ _ h2 (sized_elem (i := i) ht hs (by simp [hi]))
        exact ⟨cs', o, h1, h3, h4⟩
      intro i hi
      obtain ⟨cs', o, h1, rfl, h4⟩ := one' i hi
      obtain ⟨h3, hl', h5⟩ := World.cells?_some h1
      have hlo := hk o
      obtain ⟨b, off, s⟩ := a
      have hcell : ∀ j v, (cC o)[j]? = some v → w.cell? (((⟨b, off, s⟩ : Addr).add (i * k)).add j) = some v := by
        intro j v hv
        have := h5 j (by have := (List.getElem?_eq_some_iff.1 hv).1; omega)
        rw [this]; exact hv
      have hs0 : s = none := by
        obtain ⟨c0, o0, g1, rfl, _⟩ := one' 0 (by omega)
        have hl0 := hk o0
        obtain ⟨_, _, g5⟩ := World.cells?_some g1
        have := g5 0 (by omega)
        rw [List.getElem?_eq_getElem (by omega)] at this
        simpa [Addr.add] using World.cell?_spot this
      subst hs0
      refine ⟨o, ⟨b, off, rfl, fun j v hv => ?_⟩, h4⟩
      have := hcell j v hv
      rw [Addr.add_mid, Addr.add_mid] at this
      exact this
    obtain ⟨V, hV⟩ := choose_lt (α := α) (p := fun i o => (∃ b off, a = ⟨b, off, none⟩ ∧ w.rangeAt b (off + i * k) (cC o)) ∧ ok o) each
    refine ⟨some a, n, c, (List.range n).map V, rfl, ⟨by simp, fun i o hi => ?_⟩, hn, fun o ho => ?_⟩
    · obtain ⟨hi', rfl⟩ : i < n ∧ V i = o := by
        rw [List.getElem?_map] at hi
        rcases Nat.lt_or_ge i n with h | h
        · rw [List.getElem?_range h] at hi
          exact ⟨h, by simpa using hi⟩
        · rw [List.getElem?_eq_none (by simpa using h)] at hi; simp at hi
      obtain ⟨⟨b, o, rfl, hr⟩, _⟩ := hV i hi'
      exact ⟨b, o, rfl, hr⟩
    · obtain ⟨i, hi, rfl⟩ := List.mem_map.1 ho
      exact (hV i (by simpa using hi)).2
end
structure AV where
  k : Int
  n : Int
  ao : Option Addr
  m : Nat
  c : Nat
  l : List UInt8
deriving Inhabited
def actC (a : AV) : List Value := [.int .i64 a.k, .int .i64 a.n, .slice a.ao a.m a.c]
def ActIn (w : World) (a : AV) : Prop := Row w a.ao a.m a.l ∧ (a.ao = none → a.m = 0 ∧ a.c = 0) ∧ a.m ≤ a.c ∧ a.c ≤ 140737488351232
structure RV where
  ao : Option Addr
  m : Nat
  c : Nat
  l : List UInt8
deriving Inhabited
section
variable {H : Type} {enc : TypeId × Value → H} {w : World} {base : Nat} {sp : Nat → Bool} {held : Bool}
theorem field_of {fs : Array Field} {i t o : Nat} (h : (fs[i]?).map (fun f => (f.type, f.offset)) = some (t, o)) : ∃ f, fs[i]? = some f ∧ f.type = t ∧ f.offset = o := by
  cases hf : fs[i]? with
  | none => rw [hf] at h; cases h
  | some f => rw [hf] at h; simp only [Option.map_some, Option.some.injEq, Prod.mk.injEq] at h; exact ⟨f, rfl, h.1, h.2⟩
theorem trod_act {fuel : Nat} {cs : List Value} {x : DataW H × List MemPlace} (hsp : ∀ b, sp b = true) (h : DataW.trod enc Try.prog w base sp held fuel 50 cs = some x) (hs : Sized Try.prog 50 x.1) :
    ∃ (o : AV), cs = actC o ∧ ActIn w o := by
  have hu : Try.prog.underlying 50 = some (.struct (Try.prog.fieldsOf 50)) := by kernel_rfl
  obtain ⟨xs, n, _, hx, hlen, hxl, hf⟩ := DataW.trod_struct hu h
  have hfs : (Try.prog.fieldsOf 50).size = 3 := by kernel_rfl
  have hct : Try.prog.cellsOf 50 = 3 := by kernel_rfl
  rw [hfs] at hxl
  rw [hct] at hlen
  have ci : Try.prog.cellsOf 3 = 1 := by kernel_rfl
  have cb : Try.prog.cellsOf 22 = 1 := by kernel_rfl
  have c8 : Try.prog.cellsOf 5 = 1 := by kernel_rfl
  have by8 : Try.prog.bytesOf 5 = 1 := by kernel_rfl
  have get : ∀ (i t o : Nat), i < 3 → ((Try.prog.fieldsOf 50)[i]?).map (fun f => (f.type, f.offset)) = some (t, o) → ∃ y, DataW.trod enc Try.prog w base sp held n t ((cs.drop o).take (Try.prog.cellsOf t)) = some y ∧ Sized Try.prog t y.1 := fun i t o hi h => by
    obtain ⟨f, h1, rfl, rfl⟩ := field_of h
    have hy : xs[i]? = some (xs[i]'(by omega)) := List.getElem?_eq_getElem (by omega)
    refine ⟨_, (hf i f h1).trans hy, ?_⟩
    rw [hx] at hs
    exact sized_part hu hs h1 (by simp [hy])
  obtain ⟨y0, t0, _⟩ := get 0 3 0 (by omega) (by kernel_rfl)
  obtain ⟨y1, t1, _⟩ := get 1 3 1 (by omega) (by kernel_rfl)
  obtain ⟨y2, t2, s2⟩ := get 2 22 2 (by omega) (by kernel_rfl)
  rw [ci] at t0 t1
  rw [cb] at t2
  obtain ⟨a0, e0, _, w0⟩ := DataW.trod_int Try.underlying3 t0
  obtain ⟨a1, e1, _, w1⟩ := DataW.trod_int Try.underlying3 t1
  obtain ⟨ao, m, c, l, e7, hr, hm, hsv⟩ := trod_row hsp Try.underlying22 Try.underlying5 c8 by8 t2
  refine ⟨⟨a0, a1, ao, m, c, l⟩, ?_, ⟨hr.1, hr.2.1, hr.2.2, hsv s2⟩⟩
  have q0 := chain_step 0 1 e0
  rw [List.drop_zero] at q0
  rw [q0, chain_step (0 + 1) 1 e1, chain_step (0 + 1 + 1) 1 e7, List.drop_of_length_le (by omega)]
  simp [actC]
set_option maxRecDepth 100000 in
theorem open_acts {r : Reach} {b0 : Nat} {v : Value} {d : DataW H} {p : List MemPlace} (hsp : ∀ b, sp b = true) (hv : Value.okWide Try.prog w r b0 41 v) (h : DataW.Trod enc Try.prog w base sp held 41 v d p)
    (hs : Sized Try.prog 41 d) :
    ∃ (ao : Option Addr) (n c : Nat) (os : List AV), v = .slice ao n c ∧ ListIn actC 3 w ao n os ∧ n ≤ 4611686018427387904 ∧ ∀ o ∈ os, ActIn w o := by
  have hct : Try.prog.cellsOf 50 = 3 := by kernel_rfl
  have hbt : 1 ≤ Try.prog.bytesOf 50 := of_decide_eq_true (by kernel_rfl)
  exact open_list (H := H) (enc := enc) (P := Try.prog) (w := w) (base := base) (sp := sp) (held := held) (r := r) (b0 := b0) (v := v) (d := d) (p := p) (t := 41) (e := 50) actC 3 (fun _ => rfl) (by decide) (ActIn w) Try.underlying41 hct hbt (fun _ _ _ h1 h2 => trod_act hsp h1 h2) hv h hs
end
theorem Mem.range {w0 w : World} {F : List Nat} {L : List Asn} (h : Mem w0 F w L) {b o : Nat} {ys : List Value} (hr : w0.rangeAt b o ys) (hF : b ∉ F) : w.rangeAt b o ys := fun j v hj => by
  have h1 := hr j v hj
  exact (World.cell?_of_block (w := w0) (w' := w) (a := ⟨b, o + j, none⟩) (h.old (block_lt_of_cell h1) hF)).trans h1
theorem Mem.off_row {w0 w : World} {L : List Asn} (h : Mem w0 [] w L) {ao : Option Addr} {n : Nat} {l : List UInt8} (hr : Row w0 ao n l) : ∀ b o, ao = some ⟨b, o, none⟩ → 0 < n → b ∉ foots L := by
  intro b o e hn
  obtain ⟨b', o', e', hc⟩ := hr.2 0 (by rw [hr.1]; exact hn)
  rw [e'] at e
  cases e
  exact h.old_off (block_lt_of_cell hc) (by simp)
theorem Mem.below {w w' : World} {L : List Asn} (h : Mem w [] w' L) : Below w.heap.size w w' := ⟨h.grew.os, h.grew.tape, h.grew.output, h.grew.size, fun k hk => h.grew.block k hk (by simp)⟩
end Go.Proofs.Ytehnnnohoaapdaa

/- The law FileBegins. -/
namespace Go.Proofs.Ytehnnnohoaapdaa
open Go Go.RowKit
set_option linter.unusedVariables false
set_option linter.unusedSimpArgs false
theorem fits_yes {k : Nat} {width : Int} (hn : 3 ≤ k ∧ k ≤ 64) (hw : 1 ≤ width ∧ width ≤ 32) : decide (Fits (k : Int) width) = true := decide_eq_true ⟨by omega, by omega, hw.1, hw.2⟩
end Go.Proofs.Ytehnnnohoaapdaa
