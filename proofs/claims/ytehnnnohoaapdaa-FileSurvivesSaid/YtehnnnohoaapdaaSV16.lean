/- Texts joined: Law9. -/
import Derived.Test.YtehnnnohoaapdaaSV15
/- The law FileSurvives. -/
namespace Go.Proofs.Ytehnnnohoaapdaa
open Go Go.RowKit
set_option linter.unusedVariables false
set_option linter.unusedSimpArgs false
theorem size_act (a : AV) : Box ((Try.prog.info? 50).map (·.size) = some (actC a).length) := size_of_len (n := 3) _ rfl (by kernel_rfl)
theorem tmod_nat (a b : Nat) : (a : Int).tmod (b : Int) = ((a % b : Nat) : Int) := rfl
theorem book_new {w0 w : World} {F : List Nat} {R : List Asn} {b : Nat} (h : Mem w0 F w (blk b 48 (bC (⟨[], 2, 1, 0, 0, 0⟩ : BV) (⟨.slice none 0 0, .slice none 0 0, []⟩ : BX)) :: R)) : Mem w0 F w (book (⟨[], 2, 1, 0, 0, 0⟩ : BV) b (⟨.slice none 0 0, .slice none 0 0, []⟩ : BX) :: R) := by
  refine book_close ?_
  have h1 := (h.nilst 3 1)
  have h2 : Mem w0 F w (innerA [] [] :: lst 3 1 (.slice none 0 0) 0 [] :: blk b 48 (bC (⟨[], 2, 1, 0, 0, 0⟩ : BV) (⟨.slice none 0 0, .slice none 0 0, []⟩ : BX)) :: R) := Mem.close (X := inner [] []) trivial h1
  have h3 := h2.nilst 22 1
  have h4 : Mem w0 F w (rows (.slice none 0 0) [] [] :: lst 3 1 (.slice none 0 0) 0 [] :: blk b 48 (bC (⟨[], 2, 1, 0, 0, 0⟩ : BV) (⟨.slice none 0 0, .slice none 0 0, []⟩ : BX)) :: R) := Mem.close (X := rowsL (.slice none 0 0) [] []) rfl h3
  refine h4.perm ?_
  exact ((List.Perm.cons _ (List.Perm.swap _ _ _)).trans (List.Perm.swap _ _ _))
theorem Out.good {D E : DV} {V V' : FV} {B B' : BV} {kd er : Int} (h : Out D V B kd er E V' B') (hn : kd ≠ 4 ∧ D.armed = 0) : er = 0 ∧ Kept D E V V' B B' ∧ BInv E V' B' ∧ E.armed = 0 := by
  obtain ⟨h1, ⟨h2, h3, h4⟩ | ⟨_, h5, _⟩⟩ := h
  · exact ⟨h2, h1, h3, h4 hn.1 hn.2⟩
  · exact absurd hn.2 h5
set_option maxRecDepth 100000 in
set_option maxHeartbeats 800000 in
theorem survives_nofit (pages width : Int) (aa : Option Addr) (an ac : Nat) (fa : Option Addr) (fn fc : Nat) (hf : ¬ Fits pages width) (w : World) : Calls Try.prog 7 #[.int .i64 pages, .int .i64 width, .slice aa an ac, .slice fa fn fc] w fun e w' => e = .returned (.bool true) ∧ Mem w [] w' [] := by
  have M := Mem.nil w
  go_enter Try.func7, Try.ntmps7
  refine wp_seq_k (fun K1 hK1 => ?_)
  refine wp_region_lit ?_
  refine pl M (y_assign (v := .bool false) rfl rfl rfl) ?_
  simp only [Act.put, z1, z2, z3]
  refine wpList_nil ?_
  refine hK1 _ _ ?_
  clear hK1
  refine wp_seq_k (fun K2 hK2 => ?_)
  refine wp_seq_k (fun K3 hK3 => ?_)
  refine wp_region_lit ?_
  refine pl M (y_move (v := .int .i64 pages) rfl rfl rfl) ?_
  simp only [Act.put, z1, z2, z3]
  refine pl M (y_move (v := .int .i64 width) rfl rfl rfl) ?_
  simp only [Act.put, z1, z2, z3]
  refine pe rfl (fun K hK => ?_)
  refine e_call 11 [.int .i64 pages, .int .i64 width] rfl rfl Try.call11 (fits_any pages width _) ?_
  rintro e w4 ⟨rfl, H4⟩
  have M4 : Mem w [] w4 [] := M.step H4
  rw [(decide_eq_false hf)]
  refine ⟨_, rfl, ?_⟩
  refine hK.out _ _ ?_
  clear hK K
  simp only [Act.put, z1, z2, z3]
  refine pl M4 (y_not rfl rfl rfl rfl) ?_
  simp only [Act.put, z1, z2, z3]
  refine wpList_nil ?_
  refine hK3 _ _ ?_
  clear hK3
  refine wp_cond_true rfl ?_
  refine wp_seq_k (fun K5 hK5 => ?_)
  refine wp_region_lit ?_
  refine pl M4 (y_assign (v := .bool true) rfl rfl rfl) ?_
  simp only [Act.put, z1, z2, z3]
  refine wpList_nil ?_
  refine hK5 _ _ ?_
  clear hK5
  refine wp_ret ?_
  try simp only [Exit.inBlock, Exit.then]
  refine bodyPost_ret (v := .bool true) (res1 rfl rfl) rfl ?_
  exact ⟨rfl, M4.arr [] (by decide)⟩
set_option maxRecDepth 100000 in
set_option maxHeartbeats 800000 in
theorem survives_fit {w : World} (k : Nat) (width : Int) (hn : 3 ≤ k ∧ k ≤ 64) (hw : 1 ≤ width ∧ width ≤ 32) (aa : Option Addr) (an ac : Nat) (avs : List AV) (hacts : ListIn actC 3 w aa an avs) (hok : ∀ a ∈ avs, ActIn w a) (han : an ≤ 4611686018427387904) (fa : Option Addr) (fn fc : Nat) (fs : List RV) (hfat : ListIn rowC 1 w fa fn fs) (hfok : ∀ a ∈ fs, RowIn w a) (hfn : fn ≤ 4611686018427387904) : Calls Try.prog 7 #[.int .i64 (k : Int), .int .i64 width, .slice aa an ac, .slice fa fn fc] w fun e w' => e = .returned (.bool true) ∧ Mem w [] w' [] := by
  have M := Mem.nil w
  have hal := hacts.1
  go_enter Try.func7, Try.ntmps7
  refine wp_seq_k (fun K1 hK1 => ?_)
  refine wp_region_lit ?_
  refine pl M (y_assign (v := .bool false) rfl rfl rfl) ?_
  simp only [Act.put, z1, z2, z3]
  refine wpList_nil ?_
  refine hK1 _ _ ?_
  clear hK1
  refine wp_seq_k (fun K2 hK2 => ?_)
  refine wp_seq_k (fun K3 hK3 => ?_)
  refine wp_region_lit ?_
  refine pl M (y_move (v := .int .i64 (k : Int)) rfl rfl rfl) ?_
  simp only [Act.put, z1, z2, z3]
  refine pl M (y_move (v := .int .i64 width) rfl rfl rfl) ?_
  simp only [Act.put, z1, z2, z3]
  refine pe rfl (fun K hK => ?_)
  refine e_call 11 [.int .i64 (k : Int), .int .i64 width] rfl rfl Try.call11 (fits_any (k : Int) width _) ?_
  rintro e w4 ⟨rfl, H4⟩
  have M4 : Mem w [] w4 [] := M.step H4
  rw [(fits_yes hn hw)]
  refine ⟨_, rfl, ?_⟩
  refine hK.out _ _ ?_
  clear hK K
  simp only [Act.put, z1, z2, z3]
  refine pl M4 (y_not rfl rfl rfl rfl) ?_
  simp only [Act.put, z1, z2, z3]
  refine wpList_nil ?_
  refine hK3 _ _ ?_
  clear hK3
  refine wp_cond_false rfl ?_
  refine wp_skip ?_
  refine hK2 _ _ ?_
  clear hK2
  refine wp_seq_k (fun K5 hK5 => ?_)
  refine wp_region_lit ?_
  refine pl M4 (y_move (v := .int .i64 (k : Int)) rfl rfl rfl) ?_
  simp only [Act.put, z1, z2, z3]
  refine pl M4 (y_move (v := .int .i64 width) rfl rfl rfl) ?_
  simp only [Act.put, z1, z2, z3]
  refine pe rfl (fun K hK => ?_)
  refine e_call 22 [.int .i64 (k : Int), .int .i64 width] rfl rfl Try.call22 (fresh_any k width hn hw _) ?_
  rintro e w6 ⟨p, pg, mb, qv0, f0, D0, m, rfl, H6, hI0, hq0, ha0, hp0⟩
  have M6 : Mem w [] w6 [disk D0 p pg mb qv0, blk f0 96 (fC (⟨secondS width k, 2, m⟩ : FV) p)] := M4.step H6
  refine ⟨_, rfl, ?_⟩
  refine hK.out _ _ ?_
  clear hK K
  simp only [Act.put, z1, z2, z3]
  refine pl M6 (y_move (v := .tuple #[.pointer (some ⟨p, 0, none⟩), .pointer (some ⟨f0, 0, none⟩)]) rfl rfl rfl) ?_
  simp only [Act.put, z1, z2, z3]
  refine pl M6 (y_ext (v := .pointer (some ⟨p, 0, none⟩)) rfl rfl rfl rfl) ?_
  simp only [Act.put, z1, z2, z3]
  refine pl M6 (y_ext (v := .pointer (some ⟨f0, 0, none⟩)) rfl rfl rfl rfl) ?_
  simp only [Act.put, z1, z2, z3]
  refine pl M6 (y_assign (v := .pointer (some ⟨p, 0, none⟩)) rfl rfl rfl) ?_
  simp only [Act.put, z1, z2, z3]
  refine pl M6 (y_assign (v := .pointer (some ⟨f0, 0, none⟩)) rfl rfl rfl) ?_
  simp only [Act.put, z1, z2, z3]
  refine wpList_nil ?_
  refine hK5 _ _ ?_
  clear hK5
  refine wp_seq_k (fun K7 hK7 => ?_)
  refine wp_seq_k (fun K8 hK8 => ?_)
  refine wp_region_lit ?_
  refine pl M6 (y_move (v := .pointer (some ⟨f0, 0, none⟩)) rfl rfl rfl) ?_
  simp only [Act.put, z1, z2, z3]
  refine pl M6 (y_eqnil (r := false) rfl rfl rfl rfl Try.underlying33 rfl) ?_
  simp only [Act.put, z1, z2, z3]
  refine wpList_nil ?_
  refine hK8 _ _ ?_
  clear hK8
  refine wp_cond_false rfl ?_
  refine wp_skip ?_
  refine hK7 _ _ ?_
  clear hK7
  refine wp_seq_k (fun K9 hK9 => ?_)
  refine wp_region_lit ?_
  refine pl M6 (y_build (ps := [(2, .const (.int .i64 2)), (3, .const (.int .i64 1))]) (pv := [(2, .int .i64 2), (3, .int .i64 1)]) (cs := (bC (⟨[], 2, 1, 0, 0, 0⟩ : BV) (⟨.slice none 0 0, .slice none 0 0, []⟩ : BX))) rfl rfl rfl (by kernel_rfl)) ?_
  simp only [Act.put, z1, z2, z3]
  refine pe rfl (fun K hK => ?_)
  refine e_box M6 (bC (⟨[], 2, 1, 0, 0, 0⟩ : BV) (⟨.slice none 0 0, .slice none 0 0, []⟩ : BX)) rfl rfl ?_
  intro b w10 (M10 : Mem w [] w10 [blk b 48 (bC (⟨[], 2, 1, 0, 0, 0⟩ : BV) (⟨.slice none 0 0, .slice none 0 0, []⟩ : BX)), disk D0 p pg mb qv0, blk f0 96 (fC (⟨secondS width k, 2, m⟩ : FV) p)])
  clear M6
  refine hK.out _ _ ?_
  clear hK K
  simp only [Act.put, z1, z2, z3]
  have M11 : Mem w [] w10 [blk b 48 (bC (⟨[], 2, 1, 0, 0, 0⟩ : BV) (⟨.slice none 0 0, .slice none 0 0, []⟩ : BX)), disk D0 p pg mb qv0, blk f0 96 (fC (⟨secondS width k, 2, m⟩ : FV) p)] := M10.arr [0, 1, 2] (by decide)
  clear M10
  have M12 : Mem w [] w10 [book (⟨[], 2, 1, 0, 0, 0⟩ : BV) b (⟨.slice none 0 0, .slice none 0 0, []⟩ : BX), disk D0 p pg mb qv0, blk f0 96 (fC (⟨secondS width k, 2, m⟩ : FV) p)] := book_new M11
  clear M11
  refine pl M12 (y_assign (v := .pointer (some ⟨b, 0, none⟩)) rfl rfl rfl) ?_
  simp only [Act.put, z1, z2, z3]
  refine wpList_nil ?_
  refine hK9 _ _ ?_
  clear hK9
  refine wp_seq_k (fun K13 hK13 => ?_)
  refine wp_region_lit ?_
  refine pl M12 (y_assign (v := .int .i64 0) rfl rfl rfl) ?_
  simp only [Act.put, z1, z2, z3]
  refine wpList_nil ?_
  refine hK13 _ _ ?_
  clear hK13
  refine wp_seq_k (fun K14 hK14 => ?_)
  refine wp_seq_k (fun K15 hK15 => ?_)
  refine wp_region_lit ?_
  refine pl M12 (y_assign (v := .int .i64 0) rfl rfl rfl) ?_
  simp only [Act.put, z1, z2, z3]
  refine wpList_nil ?_
  refine hK15 _ _ ?_
  clear hK15
  refine wp_block ?_
  have hBI : BInv D0 (⟨secondS width k, 2, m⟩ : FV) (⟨[], 2, 1, 0, 0, 0⟩ : BV) := ⟨hI0, rfl, rfl, rfl, rfl, Nat.zero_le _⟩
  refine wp_loop (fun a' w' => ∃ (i : Nat) (cr : Nat) (f : Nat) (D : DV) (V : FV) (B : BV) (qv : Value) (bx : BX) (us16 : List Value), a' = (⟨#[.int .i64 (k : Int), .int .i64 width, .slice aa an ac, .slice fa fn fc, undef, undef, undef, undef, (us16.getD 0 undef), .pointer (some ⟨p, 0, none⟩), .pointer (some ⟨f, 0, none⟩), .pointer (some ⟨b, 0, none⟩), .int .i64 (cr : Int), .int .i64 (i : Int), (us16.getD 1 undef), (us16.getD 2 undef), (us16.getD 3 undef), .int .i64 (k : Int), .int .i64 width, .bool true, .bool false, .tuple #[.pointer (some ⟨p, 0, none⟩), .pointer (some ⟨f0, 0, none⟩)], .int .i64 (k : Int), .int .i64 width, .tuple #[.pointer (some ⟨p, 0, none⟩), .pointer (some ⟨f0, 0, none⟩)], .pointer (some ⟨p, 0, none⟩), .pointer (some ⟨f0, 0, none⟩), .pointer (some ⟨f0, 0, none⟩), .bool false, .agg ((bC (⟨[], 2, 1, 0, 0, 0⟩ : BV) (⟨.slice none 0 0, .slice none 0 0, []⟩ : BX))).toArray, .pointer (some ⟨b, 0, none⟩), (us16.getD 4 undef), (us16.getD 5 undef), (us16.getD 6 undef), (us16.getD 7 undef), (us16.getD 8 undef), (us16.getD 9 undef), (us16.getD 10 undef), (us16.getD 11 undef), (us16.getD 12 undef), (us16.getD 13 undef), (us16.getD 14 undef), (us16.getD 15 undef), (us16.getD 16 undef), (us16.getD 17 undef), (us16.getD 18 undef), (us16.getD 19 undef), (us16.getD 20 undef), (us16.getD 21 undef), (us16.getD 22 undef), (us16.getD 23 undef), (us16.getD 24 undef), (us16.getD 25 undef), (us16.getD 26 undef), (us16.getD 27 undef), (us16.getD 28 undef), (us16.getD 29 undef), (us16.getD 30 undef), (us16.getD 31 undef), (us16.getD 32 undef), (us16.getD 33 undef), (us16.getD 34 undef), (us16.getD 35 undef), (us16.getD 36 undef), (us16.getD 37 undef), (us16.getD 38 undef), (us16.getD 39 undef), (us16.getD 40 undef), (us16.getD 41 undef), (us16.getD 42 undef), (us16.getD 43 undef), (us16.getD 44 undef), (us16.getD 45 undef), (us16.getD 46 undef), (us16.getD 47 undef), (us16.getD 48 undef), (us16.getD 49 undef), undef, undef, undef, undef], []⟩ : Act) ∧ (BInv D V B) ∧ (D.q.length ≤ i ∧ i ≤ 200) ∧ (V.s.gen ≤ 1 + i ∧ cr ≤ i) ∧ Mem w [] w' [disk D p pg mb qv, blk f 96 (fC V p), book B b bx]) (fun a' _ => an - (intOf (a'.tmps.getD 13 undef)).toNat) ⟨0, 0, f0, D0, (⟨secondS width k, 2, m⟩ : FV), (⟨[], 2, 1, 0, 0, 0⟩ : BV), qv0, (⟨.slice none 0 0, .slice none 0 0, []⟩ : BX), [.bool false, undef, undef, undef, undef, undef, undef, undef, undef, undef, undef, undef, undef, undef, undef, undef, undef, undef, undef, undef, undef, undef, undef, undef, undef, undef, undef, undef, undef, undef, undef, undef, undef, undef, undef, undef, undef, undef, undef, undef, undef, undef, undef, undef, undef, undef, undef, undef, undef, undef], rfl, hBI, ⟨by rw [hq0]; exact Nat.zero_le _, by omega⟩, ⟨by show (1 : Int) ≤ 1 + ((0 : Nat) : Int); decide, by omega⟩, (M12.arr [1, 2, 0] (by decide))⟩ ?_
  clear M12
  rintro a' w17 ⟨i, cr, f, D, V, B, qv, bx, us16, rfl, hB, hqi, hgi, M17⟩
  refine wp_seq_k (fun K18 hK18 => ?_)
  refine wp_seq_k (fun K19 hK19 => ?_)
  refine wp_region_lit ?_
  refine pl M17 (y_move (v := .int .i64 (i : Int)) rfl rfl rfl) ?_
  simp only [Act.put, z1, z2, z3]
  refine pl M17 (y_move (v := .slice aa an ac) rfl rfl rfl) ?_
  simp only [Act.put, z1, z2, z3]
  refine pl M17 (y_len rfl rfl rfl Try.underlying41) ?_
  simp only [Act.put, z1, z2, z3]
  rcases Decidable.em ((i : Int) < (an : Int)) with h20 | h20
  · obtain ⟨a, hget⟩ : ∃ a, avs[i]? = some a := ⟨_, List.getElem?_eq_getElem (by have := hacts.1; omega)⟩
    obtain ⟨ga, oa, hao, hra⟩ := hacts.2 i a hget
    obtain ⟨hrow, hnil, hmc, hcc⟩ := hok a (List.mem_of_getElem? hget)
    refine pl M17 (y_lss (b := true) rfl rfl rfl rfl (decide_eq_true h20)) ?_
    simp only [Act.put, z1, z2, z3]
    refine pl M17 (y_move (v := .bool true) rfl rfl rfl) ?_
    simp only [Act.put, z1, z2, z3]
    refine pl M17 (y_move (v := .int .i64 (i : Int)) rfl rfl rfl) ?_
    simp only [Act.put, z1, z2, z3]
    rcases Decidable.em ((i : Int) < 200) with h21 | h21
    · refine pl M17 (y_lss (b := true) rfl rfl rfl rfl (decide_eq_true h21)) ?_
      simp only [Act.put, z1, z2, z3]
      refine pl M17 (y_pickT (v := .bool true) rfl rfl rfl rfl) ?_
      simp only [Act.put, z1, z2, z3]
      refine wpList_nil ?_
      refine hK19 _ _ ?_
      clear hK19
      refine wp_cond_true rfl ?_
      refine wp_skip ?_
      refine hK18 _ _ ?_
      clear hK18
      refine wp_seq_k (fun K22 hK22 => ?_)
      refine wp_block ?_
      refine wp_seq_k (fun K23 hK23 => ?_)
      refine wp_region_lit ?_
      refine pl M17 (y_move (v := .pointer (some ⟨b, 0, none⟩)) rfl rfl rfl) ?_
      simp only [Act.put, z1, z2, z3]
      refine pl M17 (y_move (v := .pointer (some ⟨p, 0, none⟩)) rfl rfl rfl) ?_
      simp only [Act.put, z1, z2, z3]
      refine pl M17 (y_move (v := .pointer (some ⟨f, 0, none⟩)) rfl rfl rfl) ?_
      simp only [Act.put, z1, z2, z3]
      refine pl M17 (y_move (v := .slice aa an ac) rfl rfl rfl) ?_
      simp only [Act.put, z1, z2, z3]
      refine pl M17 (y_move (v := .int .i64 (i : Int)) rfl rfl rfl) ?_
      simp only [Act.put, z1, z2, z3]
      refine pl M17 (y_ias (r := oa + i * 3) rfl rfl (congrArg (fun z => Value.slice z an ac) hao) rfl Try.underlying41 Try.sizeOf50 (by omega) (by omega)) ?_
      simp only [Act.put, z1, z2, z3]
      refine pl M17 (y_loadr (cs := (actC a)) rfl rfl rfl Try.underlying50 rfl (size_act a) (fun W hW => hW.range hra (by simp))) ?_
      simp only [Act.put, z1, z2, z3]
      have hX24 : Mem w [] w17 ([disk D p pg mb qv, blk f 96 (fC V p), book B b bx] ++ []) := M17.arr [0, 1, 2] (by decide)
      refine pe rfl (fun K hK => ?_)
      refine e_call 27 [.pointer (some ⟨b, 0, none⟩), .pointer (some ⟨p, 0, none⟩), .pointer (some ⟨f, 0, none⟩), .agg ((actC a)).toArray] rfl rfl Try.call27 (bact_any (Mem.here (L := [disk D p pg mb qv, blk f 96 (fC V p), book B b bx]) (R := []) hX24) a.k a.n a.ao a.m a.c a.l (M17.row hrow (by simp)) (hX24.left.off_row hrow) (by omega) hB (by omega) (by omega)) ?_
      rintro e w24 ⟨er, E, V2, B2, qv2, bx2, rfl, H24, hout⟩
      have M24 : Mem w [] w24 [disk E p pg mb qv2, blk f 96 (fC V2 p), book B2 b bx2] := Mem.frame (Pre := [disk D p pg mb qv, blk f 96 (fC V p), book B b bx]) (Post := [disk E p pg mb qv2, blk f 96 (fC V2 p), book B2 b bx2]) (R := []) hX24 H24
      refine ⟨_, rfl, ?_⟩
      refine hK.out _ _ ?_
      clear hK K
      simp only [Act.put, z1, z2, z3]
      refine pl M24 (y_move (v := .tuple #[.int .i64 er, .bool true]) rfl rfl rfl) ?_
      simp only [Act.put, z1, z2, z3]
      refine pl M24 (y_ext (v := .int .i64 er) rfl rfl rfl rfl) ?_
      simp only [Act.put, z1, z2, z3]
      refine pl M24 (y_ext (v := .bool true) rfl rfl rfl rfl) ?_
      simp only [Act.put, z1, z2, z3]
      refine pl M24 (y_assign (v := .int .i64 er) rfl rfl rfl) ?_
      simp only [Act.put, z1, z2, z3]
      refine pl M24 (y_assign (v := .bool true) rfl rfl rfl) ?_
      simp only [Act.put, z1, z2, z3]
      refine wpList_nil ?_
      refine hK23 _ _ ?_
      clear hK23
      refine wp_seq_k (fun K25 hK25 => ?_)
      refine wp_seq_k (fun K26 hK26 => ?_)
      refine wp_region_lit ?_
      refine pl M24 (y_move (v := .bool true) rfl rfl rfl) ?_
      simp only [Act.put, z1, z2, z3]
      refine pl M24 (y_not rfl rfl rfl rfl) ?_
      simp only [Act.put, z1, z2, z3]
      refine wpList_nil ?_
      refine hK26 _ _ ?_
      clear hK26
      refine wp_cond_false rfl ?_
      refine wp_skip ?_
      refine hK25 _ _ ?_
      clear hK25
      refine wp_seq_k (fun K27 hK27 => ?_)
      refine wp_seq_k (fun K28 hK28 => ?_)
      refine wp_region_lit ?_
      refine pl M24 (y_move (v := .int .i64 er) rfl rfl rfl) ?_
      simp only [Act.put, z1, z2, z3]
      rcases Decidable.em (er = 2) with h29 | h29
      · obtain ⟨hkept, ⟨he0, _⟩ | ⟨_, harm, hVV, hdead, hep, hdown⟩⟩ := hout
        · omega
        refine pl M24 (y_neq (b := false) rfl rfl rfl rfl (by rw [decide_eq_true h29]; rfl)) ?_
        simp only [Act.put, z1, z2, z3]
        refine wpList_nil ?_
        refine hK28 _ _ ?_
        clear hK28
        refine wp_cond_false rfl ?_
        refine wp_skip ?_
        refine hK27 _ _ ?_
        clear hK27
        refine wp_seq_k (fun K30 hK30 => ?_)
        refine wp_seq_k (fun K31 hK31 => ?_)
        refine wp_region_lit ?_
        refine pl M24 (y_move (v := .pointer (some ⟨f, 0, none⟩)) rfl rfl rfl) ?_
        simp only [Act.put, z1, z2, z3]
        have hX32 : Mem w [] w24 ([disk E p pg mb qv2, blk f 96 (fC V2 p)] ++ [book B2 b bx2]) := M24.arr [0, 1, 2] (by decide)
        refine pe rfl (fun K hK => ?_)
        refine e_call 21 [.pointer (some ⟨f, 0, none⟩)] rfl rfl Try.call21 (live_two (Mem.here (L := [disk E p pg mb qv2, blk f 96 (fC V2 p)]) (R := [book B2 b bx2]) hX32) (by rw [hVV]; exact hep) hdead) ?_
        rintro e w32 ⟨rfl, H32⟩
        have M32 : Mem w [] w32 [disk E p pg mb qv2, blk f 96 (fC V2 p), book B2 b bx2] := Mem.frame (Pre := [disk E p pg mb qv2, blk f 96 (fC V2 p)]) (Post := [disk E p pg mb qv2, blk f 96 (fC V2 p)]) (R := [book B2 b bx2]) hX32 H32
        refine ⟨_, rfl, ?_⟩
        refine hK.out _ _ ?_
        clear hK K
        simp only [Act.put, z1, z2, z3]
        refine pl M32 (y_neq (b := false) rfl rfl rfl rfl (by rw [decide_eq_true (by decide)]; rfl)) ?_
        simp only [Act.put, z1, z2, z3]
        refine wpList_nil ?_
        refine hK31 _ _ ?_
        clear hK31
        refine wp_cond_false rfl ?_
        refine wp_skip ?_
        refine hK30 _ _ ?_
        clear hK30
        refine wp_seq_k (fun K33 hK33 => ?_)
        refine wp_region_lit ?_
        refine pl M32 (y_assign (v := .slice none 0 0) rfl rfl rfl) ?_
        simp only [Act.put, z1, z2, z3]
        refine wpList_nil ?_
        refine hK33 _ _ ?_
        clear hK33
        refine wp_seq_k (fun K34 hK34 => ?_)
        refine wp_seq_k (fun K35 hK35 => ?_)
        refine wp_region_lit ?_
        refine pl M32 (y_move (v := .slice fa fn fc) rfl rfl rfl) ?_
        simp only [Act.put, z1, z2, z3]
        refine pl M32 (y_len rfl rfl rfl Try.underlying45) ?_
        simp only [Act.put, z1, z2, z3]
        rcases Decidable.em ((0 : Int) < (fn : Int)) with h36 | h36
        · obtain ⟨q, hqget⟩ : ∃ q, fs[cr % fn]? = some q := ⟨_, List.getElem?_eq_getElem (by rw [hfat.1]; exact Nat.mod_lt _ (by omega))⟩
          obtain ⟨gf, of, hfo, hrf⟩ := hfat.2 (cr % fn) q hqget
          obtain ⟨hqrow, hqnil, hqmc, hqcc⟩ := hfok q (List.mem_of_getElem? hqget)
          have hmodlt : cr % fn < fn := Nat.mod_lt _ (by omega)
          refine pl M32 (y_gtr (b := true) rfl rfl rfl rfl (decide_eq_true h36)) ?_
          simp only [Act.put, z1, z2, z3]
          refine wpList_nil ?_
          refine hK35 _ _ ?_
          clear hK35
          refine wp_cond_true rfl ?_
          refine wp_region_lit ?_
          refine pl M32 (y_move (v := .slice fa fn fc) rfl rfl rfl) ?_
          simp only [Act.put, z1, z2, z3]
          refine pl M32 (y_move (v := .int .i64 (cr : Int)) rfl rfl rfl) ?_
          simp only [Act.put, z1, z2, z3]
          refine pl M32 (y_move (v := .slice fa fn fc) rfl rfl rfl) ?_
          simp only [Act.put, z1, z2, z3]
          refine pl M32 (y_len rfl rfl rfl Try.underlying45) ?_
          simp only [Act.put, z1, z2, z3]
          refine pl M32 (y_rem (r := ((cr % fn : Nat) : Int)) rfl rfl rfl rfl (by omega) (tmod_nat cr fn)) ?_
          simp only [Act.put, z1, z2, z3]
          refine pl M32 (y_ias (r := of + (cr % fn) * 1) rfl rfl (congrArg (fun z => Value.slice z fn fc) hfo) rfl Try.underlying45 Try.sizeOf22 (by omega) (by omega)) ?_
          simp only [Act.put, z1, z2, z3]
          refine pl M32 (y_loadc (v := .slice q.ao q.m q.c) rfl rfl rfl Try.isAgg22 (fun W hW => (hW.range hrf (by simp)) 0 _ rfl)) ?_
          simp only [Act.put, z1, z2, z3]
          refine pl M32 (y_assign (v := .slice q.ao q.m q.c) rfl rfl rfl) ?_
          simp only [Act.put, z1, z2, z3]
          refine wpList_nil ?_
          refine hK34 _ _ ?_
          clear hK34
          refine wp_seq_k (fun K37 hK37 => ?_)
          refine wp_region_lit ?_
          refine pl M32 (y_move (v := .int .i64 (cr : Int)) rfl rfl rfl) ?_
          simp only [Act.put, z1, z2, z3]
          refine pl M32 (y_add (r := (cr : Int) + 1) rfl rfl rfl rfl (rfl) (by omega)) ?_
          simp only [Act.put, z1, z2, z3]
          refine pl M32 (y_assign (v := .int .i64 ((cr : Int) + 1)) rfl rfl rfl) ?_
          simp only [Act.put, z1, z2, z3]
          refine wpList_nil ?_
          refine hK37 _ _ ?_
          clear hK37
          refine wp_seq_k (fun K38 hK38 => ?_)
          refine wp_region_lit ?_
          refine pl M32 (y_move (v := .pointer (some ⟨b, 0, none⟩)) rfl rfl rfl) ?_
          simp only [Act.put, z1, z2, z3]
          refine pl M32 (y_move (v := .pointer (some ⟨p, 0, none⟩)) rfl rfl rfl) ?_
          simp only [Act.put, z1, z2, z3]
          refine pl M32 (y_move (v := .slice q.ao q.m q.c) rfl rfl rfl) ?_
          simp only [Act.put, z1, z2, z3]
          have hX39 : Mem w [] w32 ([disk E p pg mb qv2, book B2 b bx2] ++ []) := M32.arr [0, 2] (by decide)
          refine pe rfl (fun K hK => ?_)
          refine e_call 37 [.pointer (some ⟨b, 0, none⟩), .pointer (some ⟨p, 0, none⟩), .slice q.ao q.m q.c] rfl rfl Try.call37 (bagain_any (Mem.here (L := [disk E p pg mb qv2, book B2 b bx2]) (R := []) hX39) q.ao q.m q.c q.l (M32.row hqrow (by simp)) (hX39.left.off_row hqrow) (by omega) V.s hdown) ?_
          rintro e w39 ⟨f2, E2, V3, B3, qv3, bx3, rfl, H39, hB3, hq3, ha3, hp3, hw3, hg3, hm3, hps3⟩
          have M39 : Mem w [] w39 [disk E2 p pg mb qv3, blk f2 96 (fC V3 p), book B3 b bx3] := Mem.frame (Pre := [disk E p pg mb qv2, book B2 b bx2]) (Post := [disk E2 p pg mb qv3, blk f2 96 (fC V3 p), book B3 b bx3]) (R := []) hX39 H39
          refine ⟨_, rfl, ?_⟩
          refine hK.out _ _ ?_
          clear hK K
          simp only [Act.put, z1, z2, z3]
          refine pl M39 (y_assign (v := .pointer (some ⟨f2, 0, none⟩)) rfl rfl rfl) ?_
          simp only [Act.put, z1, z2, z3]
          refine wpList_nil ?_
          refine hK38 _ _ ?_
          clear hK38
          refine wp_seq_k (fun K40 hK40 => ?_)
          refine wp_region_lit ?_
          refine pl M39 (y_move (v := .pointer (some ⟨f2, 0, none⟩)) rfl rfl rfl) ?_
          simp only [Act.put, z1, z2, z3]
          refine pl M39 (y_eqnil (r := false) rfl rfl rfl rfl Try.underlying33 rfl) ?_
          simp only [Act.put, z1, z2, z3]
          refine wpList_nil ?_
          refine hK40 _ _ ?_
          clear hK40
          refine wp_cond_false rfl ?_
          refine wp_skip ?_
          refine hK22 _ _ ?_
          clear hK22
          refine wp_region_lit ?_
          refine pl M39 (y_move (v := .int .i64 (i : Int)) rfl rfl rfl) ?_
          simp only [Act.put, z1, z2, z3]
          refine pl M39 (y_add (r := (i : Int) + 1) rfl rfl rfl rfl (rfl) (by omega)) ?_
          simp only [Act.put, z1, z2, z3]
          refine pl M39 (y_assign (v := .int .i64 ((i : Int) + 1)) rfl rfl rfl) ?_
          simp only [Act.put, z1, z2, z3]
          refine wpList_nil ?_
          refine ⟨⟨i + 1, cr + 1, f2, E2, V3, B3, qv3, bx3, [(us16.getD 0 undef), .int .i64 er, .bool true, .slice q.ao q.m q.c, .int .i64 (i : Int), .slice aa an ac, .int .i64 (an : Int), .bool true, .bool true, .int .i64 (i : Int), .bool true, .bool true, .int .i64 (i : Int), .int .i64 ((i : Int) + 1), .tuple #[.int .i64 er, .bool true], .pointer (some ⟨b, 0, none⟩), .pointer (some ⟨p, 0, none⟩), .pointer (some ⟨f, 0, none⟩), .slice aa an ac, .int .i64 (i : Int), .pointer (some ⟨ga, oa + i * 3, none⟩), .agg ((actC a)).toArray, .tuple #[.int .i64 er, .bool true], .int .i64 er, .bool true, .bool true, .bool false, .int .i64 er, .bool false, .pointer (some ⟨f, 0, none⟩), .int .i64 2, .bool false, .slice fa fn fc, .int .i64 (fn : Int), .bool true, .slice fa fn fc, .int .i64 (cr : Int), .slice fa fn fc, .int .i64 (fn : Int), .int .i64 ((cr % fn : Nat) : Int), .pointer (some ⟨gf, of + (cr % fn) * 1, none⟩), .slice q.ao q.m q.c, .int .i64 (cr : Int), .int .i64 ((cr : Int) + 1), .pointer (some ⟨b, 0, none⟩), .pointer (some ⟨p, 0, none⟩), .slice q.ao q.m q.c, .pointer (some ⟨f2, 0, none⟩), .pointer (some ⟨f2, 0, none⟩), .bool false], rfl, (by first | exact hB3 | exact hB2), ⟨by have := hkept.que; first | (rw [hq3]; exact Nat.zero_le _) | omega, by omega⟩, ⟨by have := hkept.gen; omega, by omega⟩, (M39.arr [0, 1, 2] (by decide))⟩, ?_⟩
          simp [intOf]; omega
        · refine pl M32 (y_gtr (b := false) rfl rfl rfl rfl (decide_eq_false h36)) ?_
          simp only [Act.put, z1, z2, z3]
          refine wpList_nil ?_
          refine hK35 _ _ ?_
          clear hK35
          refine wp_cond_false rfl ?_
          refine wp_skip ?_
          refine hK34 _ _ ?_
          clear hK34
          refine wp_seq_k (fun K41 hK41 => ?_)
          refine wp_region_lit ?_
          refine pl M32 (y_move (v := .int .i64 (cr : Int)) rfl rfl rfl) ?_
          simp only [Act.put, z1, z2, z3]
          refine pl M32 (y_add (r := (cr : Int) + 1) rfl rfl rfl rfl (rfl) (by omega)) ?_
          simp only [Act.put, z1, z2, z3]
          refine pl M32 (y_assign (v := .int .i64 ((cr : Int) + 1)) rfl rfl rfl) ?_
          simp only [Act.put, z1, z2, z3]
          refine wpList_nil ?_
          refine hK41 _ _ ?_
          clear hK41
          refine wp_seq_k (fun K42 hK42 => ?_)
          refine wp_region_lit ?_
          refine pl M32 (y_move (v := .pointer (some ⟨b, 0, none⟩)) rfl rfl rfl) ?_
          simp only [Act.put, z1, z2, z3]
          refine pl M32 (y_move (v := .pointer (some ⟨p, 0, none⟩)) rfl rfl rfl) ?_
          simp only [Act.put, z1, z2, z3]
          refine pl M32 (y_move (v := .slice none 0 0) rfl rfl rfl) ?_
          simp only [Act.put, z1, z2, z3]
          have hX43 : Mem w [] w32 ([disk E p pg mb qv2, book B2 b bx2] ++ []) := M32.arr [0, 2] (by decide)
          refine pe rfl (fun K hK => ?_)
          refine e_call 37 [.pointer (some ⟨b, 0, none⟩), .pointer (some ⟨p, 0, none⟩), .slice none 0 0] rfl rfl Try.call37 (bagain_any (Mem.here (L := [disk E p pg mb qv2, book B2 b bx2]) (R := []) hX43) none 0 0 [] Row.nil (fun _ _ e => by cases e) (by omega) V.s hdown) ?_
          rintro e w43 ⟨f2, E2, V3, B3, qv3, bx3, rfl, H43, hB3, hq3, ha3, hp3, hw3, hg3, hm3, hps3⟩
          have M43 : Mem w [] w43 [disk E2 p pg mb qv3, blk f2 96 (fC V3 p), book B3 b bx3] := Mem.frame (Pre := [disk E p pg mb qv2, book B2 b bx2]) (Post := [disk E2 p pg mb qv3, blk f2 96 (fC V3 p), book B3 b bx3]) (R := []) hX43 H43
          refine ⟨_, rfl, ?_⟩
          refine hK.out _ _ ?_
          clear hK K
          simp only [Act.put, z1, z2, z3]
          refine pl M43 (y_assign (v := .pointer (some ⟨f2, 0, none⟩)) rfl rfl rfl) ?_
          simp only [Act.put, z1, z2, z3]
          refine wpList_nil ?_
          refine hK42 _ _ ?_
          clear hK42
          refine wp_seq_k (fun K44 hK44 => ?_)
          refine wp_region_lit ?_
          refine pl M43 (y_move (v := .pointer (some ⟨f2, 0, none⟩)) rfl rfl rfl) ?_
          simp only [Act.put, z1, z2, z3]
          refine pl M43 (y_eqnil (r := false) rfl rfl rfl rfl Try.underlying33 rfl) ?_
          simp only [Act.put, z1, z2, z3]
          refine wpList_nil ?_
          refine hK44 _ _ ?_
          clear hK44
          refine wp_cond_false rfl ?_
          refine wp_skip ?_
          refine hK22 _ _ ?_
          clear hK22
          refine wp_region_lit ?_
          refine pl M43 (y_move (v := .int .i64 (i : Int)) rfl rfl rfl) ?_
          simp only [Act.put, z1, z2, z3]
          refine pl M43 (y_add (r := (i : Int) + 1) rfl rfl rfl rfl (rfl) (by omega)) ?_
          simp only [Act.put, z1, z2, z3]
          refine pl M43 (y_assign (v := .int .i64 ((i : Int) + 1)) rfl rfl rfl) ?_
          simp only [Act.put, z1, z2, z3]
          refine wpList_nil ?_
          refine ⟨⟨i + 1, cr + 1, f2, E2, V3, B3, qv3, bx3, [(us16.getD 0 undef), .int .i64 er, .bool true, .slice none 0 0, .int .i64 (i : Int), .slice aa an ac, .int .i64 (an : Int), .bool true, .bool true, .int .i64 (i : Int), .bool true, .bool true, .int .i64 (i : Int), .int .i64 ((i : Int) + 1), .tuple #[.int .i64 er, .bool true], .pointer (some ⟨b, 0, none⟩), .pointer (some ⟨p, 0, none⟩), .pointer (some ⟨f, 0, none⟩), .slice aa an ac, .int .i64 (i : Int), .pointer (some ⟨ga, oa + i * 3, none⟩), .agg ((actC a)).toArray, .tuple #[.int .i64 er, .bool true], .int .i64 er, .bool true, .bool true, .bool false, .int .i64 er, .bool false, .pointer (some ⟨f, 0, none⟩), .int .i64 2, .bool false, .slice fa fn fc, .int .i64 (fn : Int), .bool false, (us16.getD 35 undef), (us16.getD 36 undef), (us16.getD 37 undef), (us16.getD 38 undef), (us16.getD 39 undef), (us16.getD 40 undef), (us16.getD 41 undef), .int .i64 (cr : Int), .int .i64 ((cr : Int) + 1), .pointer (some ⟨b, 0, none⟩), .pointer (some ⟨p, 0, none⟩), .slice none 0 0, .pointer (some ⟨f2, 0, none⟩), .pointer (some ⟨f2, 0, none⟩), .bool false], rfl, (by first | exact hB3 | exact hB2), ⟨by have := hkept.que; first | (rw [hq3]; exact Nat.zero_le _) | omega, by omega⟩, ⟨by have := hkept.gen; omega, by omega⟩, (M43.arr [0, 1, 2] (by decide))⟩, ?_⟩
          simp [intOf]; omega
      · obtain ⟨hkept, ⟨_, hB2, harm⟩ | ⟨he2, _⟩⟩ := hout
        rotate_left
        · omega
        refine pl M24 (y_neq (b := true) rfl rfl rfl rfl (by rw [decide_eq_false h29]; rfl)) ?_
        simp only [Act.put, z1, z2, z3]
        refine wpList_nil ?_
        refine hK28 _ _ ?_
        clear hK28
        refine wp_cond_true rfl ?_
        refine wp_exit ?_
        refine hK22 _ _ ?_
        clear hK22
        refine wp_region_lit ?_
        refine pl M24 (y_move (v := .int .i64 (i : Int)) rfl rfl rfl) ?_
        simp only [Act.put, z1, z2, z3]
        refine pl M24 (y_add (r := (i : Int) + 1) rfl rfl rfl rfl (rfl) (by omega)) ?_
        simp only [Act.put, z1, z2, z3]
        refine pl M24 (y_assign (v := .int .i64 ((i : Int) + 1)) rfl rfl rfl) ?_
        simp only [Act.put, z1, z2, z3]
        refine wpList_nil ?_
        refine ⟨⟨i + 1, cr, f, E, V2, B2, qv2, bx2, [(us16.getD 0 undef), .int .i64 er, .bool true, (us16.getD 3 undef), .int .i64 (i : Int), .slice aa an ac, .int .i64 (an : Int), .bool true, .bool true, .int .i64 (i : Int), .bool true, .bool true, .int .i64 (i : Int), .int .i64 ((i : Int) + 1), .tuple #[.int .i64 er, .bool true], .pointer (some ⟨b, 0, none⟩), .pointer (some ⟨p, 0, none⟩), .pointer (some ⟨f, 0, none⟩), .slice aa an ac, .int .i64 (i : Int), .pointer (some ⟨ga, oa + i * 3, none⟩), .agg ((actC a)).toArray, .tuple #[.int .i64 er, .bool true], .int .i64 er, .bool true, .bool true, .bool false, .int .i64 er, .bool true, (us16.getD 29 undef), (us16.getD 30 undef), (us16.getD 31 undef), (us16.getD 32 undef), (us16.getD 33 undef), (us16.getD 34 undef), (us16.getD 35 undef), (us16.getD 36 undef), (us16.getD 37 undef), (us16.getD 38 undef), (us16.getD 39 undef), (us16.getD 40 undef), (us16.getD 41 undef), (us16.getD 42 undef), (us16.getD 43 undef), (us16.getD 44 undef), (us16.getD 45 undef), (us16.getD 46 undef), (us16.getD 47 undef), (us16.getD 48 undef), (us16.getD 49 undef)], rfl, (by first | exact hB3 | exact hB2), ⟨by have := hkept.que; first | (rw [hq3]; exact Nat.zero_le _) | omega, by omega⟩, ⟨by have := hkept.gen; omega, by omega⟩, (M24.arr [0, 1, 2] (by decide))⟩, ?_⟩
        simp [intOf]; omega
    · refine pl M17 (y_lss (b := false) rfl rfl rfl rfl (decide_eq_false h21)) ?_
      simp only [Act.put, z1, z2, z3]
      refine pl M17 (y_pickT (v := .bool false) rfl rfl rfl rfl) ?_
      simp only [Act.put, z1, z2, z3]
      refine wpList_nil ?_
      refine hK19 _ _ ?_
      clear hK19
      refine wp_cond_false rfl ?_
      refine wp_exit ?_
      refine hK14 _ _ ?_
      clear hK14
      refine wp_seq_k (fun K45 hK45 => ?_)
      refine wp_region_lit ?_
      refine pl M17 (y_move (v := .pointer (some ⟨b, 0, none⟩)) rfl rfl rfl) ?_
      simp only [Act.put, z1, z2, z3]
      refine pl M17 (y_move (v := .pointer (some ⟨p, 0, none⟩)) rfl rfl rfl) ?_
      simp only [Act.put, z1, z2, z3]
      have hX46 : Mem w [] w17 ([disk D p pg mb qv, book B b bx] ++ []) := M17.arr [0, 2] (by decide)
      refine pe rfl (fun K hK => ?_)
      refine e_call 37 [.pointer (some ⟨b, 0, none⟩), .pointer (some ⟨p, 0, none⟩), .slice none 0 0] rfl rfl Try.call37 (bagain_any (Mem.here (L := [disk D p pg mb qv, book B b bx]) (R := []) hX46) none 0 0 [] Row.nil (fun _ _ e => by cases e) (by omega) V.s hB.down) ?_
      rintro e w46 ⟨f2, E2, V3, B3, qv3, bx3, rfl, H46, hB3, hq3, ha3, hp3, hw3, hg3, hm3, hps3⟩
      have M46 : Mem w [] w46 [disk E2 p pg mb qv3, blk f2 96 (fC V3 p), book B3 b bx3] := Mem.frame (Pre := [disk D p pg mb qv, book B b bx]) (Post := [disk E2 p pg mb qv3, blk f2 96 (fC V3 p), book B3 b bx3]) (R := []) hX46 H46
      refine ⟨_, rfl, ?_⟩
      refine hK.out _ _ ?_
      clear hK K
      simp only [Act.put, z1, z2, z3]
      refine pl M46 (y_nenil (r := true) rfl rfl rfl rfl Try.underlying33 rfl) ?_
      simp only [Act.put, z1, z2, z3]
      refine pl M46 (y_assign (v := .bool true) rfl rfl rfl) ?_
      simp only [Act.put, z1, z2, z3]
      refine wpList_nil ?_
      refine hK45 _ _ ?_
      clear hK45
      refine wp_ret ?_
      try simp only [Exit.inBlock, Exit.then]
      refine bodyPost_ret (v := .bool true) (res1 rfl rfl) rfl ?_
      exact ⟨rfl, M46.arr [] (by decide)⟩
  · refine pl M17 (y_lss (b := false) rfl rfl rfl rfl (decide_eq_false h20)) ?_
    simp only [Act.put, z1, z2, z3]
    refine pl M17 (y_move (v := .bool false) rfl rfl rfl) ?_
    simp only [Act.put, z1, z2, z3]
    with_reducible refine pskip ?_ ?_
    · rfl
    simp only [Act.put, z1, z2, z3]
    with_reducible refine pskip ?_ ?_
    · rfl
    simp only [Act.put, z1, z2, z3]
    refine pl M17 (y_pickF (v := .bool false) rfl rfl rfl rfl) ?_
    simp only [Act.put, z1, z2, z3]
    refine wpList_nil ?_
    refine hK19 _ _ ?_
    clear hK19
    refine wp_cond_false rfl ?_
    refine wp_exit ?_
    refine hK14 _ _ ?_
    clear hK14
    refine wp_seq_k (fun K47 hK47 => ?_)
    refine wp_region_lit ?_
    refine pl M17 (y_move (v := .pointer (some ⟨b, 0, none⟩)) rfl rfl rfl) ?_
    simp only [Act.put, z1, z2, z3]
    refine pl M17 (y_move (v := .pointer (some ⟨p, 0, none⟩)) rfl rfl rfl) ?_
    simp only [Act.put, z1, z2, z3]
    have hX48 : Mem w [] w17 ([disk D p pg mb qv, book B b bx] ++ []) := M17.arr [0, 2] (by decide)
    refine pe rfl (fun K hK => ?_)
    refine e_call 37 [.pointer (some ⟨b, 0, none⟩), .pointer (some ⟨p, 0, none⟩), .slice none 0 0] rfl rfl Try.call37 (bagain_any (Mem.here (L := [disk D p pg mb qv, book B b bx]) (R := []) hX48) none 0 0 [] Row.nil (fun _ _ e => by cases e) (by omega) V.s hB.down) ?_
    rintro e w48 ⟨f2, E2, V3, B3, qv3, bx3, rfl, H48, hB3, hq3, ha3, hp3, hw3, hg3, hm3, hps3⟩
    have M48 : Mem w [] w48 [disk E2 p pg mb qv3, blk f2 96 (fC V3 p), book B3 b bx3] := Mem.frame (Pre := [disk D p pg mb qv, book B b bx]) (Post := [disk E2 p pg mb qv3, blk f2 96 (fC V3 p), book B3 b bx3]) (R := []) hX48 H48
    refine ⟨_, rfl, ?_⟩
    refine hK.out _ _ ?_
    clear hK K
    simp only [Act.put, z1, z2, z3]
    refine pl M48 (y_nenil (r := true) rfl rfl rfl rfl Try.underlying33 rfl) ?_
    simp only [Act.put, z1, z2, z3]
    refine pl M48 (y_assign (v := .bool true) rfl rfl rfl) ?_
    simp only [Act.put, z1, z2, z3]
    refine wpList_nil ?_
    refine hK47 _ _ ?_
    clear hK47
    refine wp_ret ?_
    try simp only [Exit.inBlock, Exit.then]
    refine bodyPost_ret (v := .bool true) (res1 rfl rfl) rfl ?_
    exact ⟨rfl, M48.arr [] (by decide)⟩
theorem survives_walk {w : World} (pages width : Int) (aa : Option Addr) (an ac : Nat) (avs : List AV) (hacts : ListIn actC 3 w aa an avs) (hok : ∀ a ∈ avs, ActIn w a) (han : an ≤ 4611686018427387904) (fa : Option Addr) (fn fc : Nat) (fs : List RV) (hfat : ListIn rowC 1 w fa fn fs) (hfok : ∀ a ∈ fs, RowIn w a) (hfn : fn ≤ 4611686018427387904) : Calls Try.prog 7 #[.int .i64 pages, .int .i64 width, .slice aa an ac, .slice fa fn fc] w fun e w' => e = .returned (.bool true) ∧ Below w.heap.size w w' := by
  have fin : Calls Try.prog 7 #[.int .i64 pages, .int .i64 width, .slice aa an ac, .slice fa fn fc] w (fun e w' => e = .returned (.bool true) ∧ Mem w [] w' []) := by
    by_cases hf : Fits pages width
    · obtain ⟨h1, h2, h3, h4⟩ := hf
      obtain ⟨k, rfl⟩ := Int.eq_ofNat_of_zero_le (show 0 ≤ pages by omega)
      exact survives_fit k width ⟨by omega, by omega⟩ ⟨h3, h4⟩ aa an ac avs hacts hok han fa fn fc fs hfat hfok hfn
    · exact survives_nofit pages width aa an ac fa fn fc hf w
  refine fin.mono ?_
  rintro e w' ⟨rfl, h⟩
  exact ⟨rfl, h.below⟩
end Go.Proofs.Ytehnnnohoaapdaa
