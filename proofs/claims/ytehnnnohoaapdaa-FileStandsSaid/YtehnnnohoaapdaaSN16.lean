/- Texts joined: Law9, LawC, Law10. -/
import Derived.Test.YtehnnnohoaapdaaSN15
/- The law FileSurvives. -/
namespace Go.Proofs.Ytehnnnohoaapdaa
open Go Go.RowKit
set_option linter.unusedVariables false
set_option linter.unusedSimpArgs false
theorem size_act (a : AV) : Box ((Try.prog.info? 50).map (·.size) = some (actC a).length) := size_of_len (n := 3) _ rfl (by kernel_rfl)
theorem book_new {w0 w : World} {F : List Nat} {R : List Asn} {b : Nat} (h : Mem w0 F w (blk b 48 (bC (⟨[], 2, 1, 0, 0, 0⟩ : BV) (⟨.slice none 0 0, .slice none 0 0, []⟩ : BX)) :: R)) : Mem w0 F w (book (⟨[], 2, 1, 0, 0, 0⟩ : BV) b (⟨.slice none 0 0, .slice none 0 0, []⟩ : BX) :: R) := by
  refine book_close ?_
  have h1 := (h.nilst 3 1)
  have h2 : Mem w0 F w (innerA [] [] :: lst 3 1 (.slice none 0 0) 0 [] :: blk b 48 (bC (⟨[], 2, 1, 0, 0, 0⟩ : BV) (⟨.slice none 0 0, .slice none 0 0, []⟩ : BX)) :: R) := Mem.close (X := inner [] []) trivial h1
  have h3 := h2.nilst 22 1
  have h4 : Mem w0 F w (rows (.slice none 0 0) [] [] :: lst 3 1 (.slice none 0 0) 0 [] :: blk b 48 (bC (⟨[], 2, 1, 0, 0, 0⟩ : BV) (⟨.slice none 0 0, .slice none 0 0, []⟩ : BX)) :: R) := Mem.close (X := rowsL (.slice none 0 0) [] []) rfl h3
  refine h4.perm ?_
  exact ((List.Perm.cons _ (List.Perm.swap _ _ _)).trans (List.Perm.swap _ _ _))
theorem Out.good {D E : DV} {V V' : FV} {B B' : BV} {kd er : Int} (h : Out D V B kd er E V' B') (hn : kd ≠ 4 ∧ D.armed = 0) : er = 0 ∧ Kept D E V V' B B' ∧ BInv E V' B' ∧ E.armed = 0 := by
  obtain ⟨h1, ⟨h2, h3, h4⟩ | ⟨_, h5, _⟩⟩ := h
  · exact ⟨h2, h1, h3, h4 hn.1 hn.2⟩
  · exact absurd hn.2 h5
end Go.Proofs.Ytehnnnohoaapdaa

/- What an image shows of the pages below a mark. No program in sight. -/
namespace Go.Proofs.Ytehnnnohoaapdaa
open Go Go.RowKit
set_option linter.unusedVariables false
def durB (ps : Pgs) (m : Nat) : List UInt8 := (List.range (m - 2)).flatMap fun j => pgB ps (j + 2)
theorem pgB_len {ps : Pgs} {n : Nat} (hg : ∀ y ∈ ps, PageOk y) (h : n - 2 < ps.length) : (pgB ps n).length = 256 := length_pageB _ _ (pgAt_ok hg h).2
theorem durB_len {ps : Pgs} (hg : ∀ y ∈ ps, PageOk y) (m : Nat) (h : m - 2 ≤ ps.length) : (durB ps m).length = 256 * (m - 2) := by
  unfold durB
  rw [List.length_flatMap, List.map_congr_left (g := fun _ => 256) (fun j hj => pgB_len hg (by have := List.mem_range.1 hj; omega)), List.map_const', List.sum_replicate_nat, List.length_range, Nat.mul_comm]
theorem durB_eq {ps ps' : Pgs} (m : Nat) (h : ∀ n : Nat, 2 ≤ n → n < m → pgAt ps' n = pgAt ps n) : durB ps' m = durB ps m := by
  unfold durB
  rw [List.flatMap_def, List.flatMap_def, List.map_congr_left fun j hj => ?_]
  unfold pgB
  rw [h (j + 2) (by omega) (by have := List.mem_range.1 hj; omega)]
theorem flat_drop : ∀ (ps : List (List UInt8)) (n : Nat), (∀ p ∈ ps, p.length = 256) → ps.flatten.drop (256 * n) = (ps.drop n).flatten
  | [], n, _ => by simp
  | p :: ps, 0, _ => by simp
  | p :: ps, n + 1, h => by
    have h1 := h p (List.mem_cons_self ..)
    rw [List.flatten_cons, List.drop_succ_cons, show 256 * (n + 1) = p.length + 256 * n by omega, List.drop_length_add_append]
    exact flat_drop ps n fun q hq => h q (List.mem_cons_of_mem _ hq)
theorem flat_take : ∀ (ps : List (List UInt8)) (n : Nat), (∀ p ∈ ps, p.length = 256) → ps.flatten.take (256 * n) = (ps.take n).flatten
  | [], n, _ => by simp
  | p :: ps, 0, _ => by simp
  | p :: ps, n + 1, h => by
    have h1 := h p (List.mem_cons_self ..)
    rw [List.flatten_cons, List.take_succ_cons, List.flatten_cons, show 256 * (n + 1) = p.length + 256 * n by omega, List.take_length_add_append]
    rw [flat_take ps n fun q hq => h q (List.mem_cons_of_mem _ hq)]
theorem flat_length : ∀ (ps : List (List UInt8)), (∀ p ∈ ps, p.length = 256) → ps.flatten.length = 256 * ps.length
  | [], _ => rfl
  | p :: ps, h => by
    have h1 := h p (List.mem_cons_self ..)
    rw [List.flatten_cons, List.length_append, h1, flat_length ps fun q hq => h q (List.mem_cons_of_mem _ hq), List.length_cons]; omega
theorem image_part {ps : List (List UInt8)} (h : ∀ p ∈ ps, p.length = 256) (a n : Nat) (f : Nat → List UInt8) (hf : ∀ j, j < n → ps.getD (a + j) [] = f j) (hn : a + n ≤ ps.length) : (ps.flatten.drop (256 * a)).take (256 * n) = (List.range n).flatMap f := by
  rw [flat_drop ps a h, flat_take (ps.drop a) n fun p hp => h p (List.mem_of_mem_drop hp)]
  have e : (ps.drop a).take n = (List.range n).map f := by
    refine List.ext_getElem? fun i => ?_
    rw [List.getElem?_map]
    rcases Nat.lt_or_ge i n with hi | hi
    · rw [List.getElem?_take_of_lt hi, List.getElem?_drop, List.getElem?_range hi]
      have := hf i hi
      rw [List.getD_eq_getElem?_getD, List.getElem?_eq_getElem (by omega)] at this
      rw [List.getElem?_eq_getElem (by omega)]
      exact congrArg some this
    · rw [List.getElem?_eq_none (by rw [List.length_take]; omega), List.getElem?_eq_none (by simpa using hi)]; rfl
  rw [e, List.flatMap_def]
theorem Plat.image {D : DV} {S : SupV} {ps : Pgs} (h : Plat D S ps) (m : Nat) (h2 : 2 ≤ m) (hm : (m : Int) ≤ S.mark) : (D.pages.flatten.drop 512).take (256 * (m - 2)) = durB ps m := by
  have hp := h.markp
  refine image_part h.ok.len 2 (m - 2) _ (fun j hj => ?_) (by omega)
  have := h.dur (2 + j) (by omega) (by omega)
  rw [Nat.add_comm 2 j] at this ⊢
  exact this
theorem Plat.good_len {D : DV} {S : SupV} {ps : Pgs} (h : Plat D S ps) (m : Nat) (hm : (m : Int) ≤ S.mark) : (durB ps m).length = 256 * (m - 2) := durB_len h.good m (by have := h.len; omega)
theorem image_fit {D : DV} {p pg mb : Nat} {qv : Value} {w : World} (hM : Mem w (foots [disk D p pg mb qv]) w [disk D p pg mb qv]) {k : Nat} (hk : D.pages.length = k) (h3 : 3 ≤ k) :
    Calls Try.prog 30 #[.pointer (some ⟨p, 0, none⟩)] w fun e w' => ∃ gi ci, e = .returned (.slice (some ⟨gi, 0, none⟩) (256 * k) ci) ∧ Mem w (foots [disk D p pg mb qv]) w' [disk D p pg mb qv, lst 5 1 (.slice (some ⟨gi, 0, none⟩) (256 * k) ci) (256 * k) (bvs D.pages.flatten)] ∧ 256 * k ≤ ci ∧ ci ≤ 9223372036854775807 := by
  refine (image_any hM).mono ?_
  rintro e w' ⟨v, rfl, h⟩
  rw [hk] at h
  obtain ⟨gi, ci, rfl, h1, h2⟩ := lst_slice (h.get 1 rfl) (by omega)
  exact ⟨gi, ci, rfl, h, h1, h2⟩
end Go.Proofs.Ytehnnnohoaapdaa

/- The law FileStands. -/
namespace Go.Proofs.Ytehnnnohoaapdaa
open Go Go.RowKit
set_option linter.unusedVariables false
set_option linter.unusedSimpArgs false
set_option maxRecDepth 100000 in
set_option maxHeartbeats 800000 in
theorem stands_nofit (pages width : Int) (aa : Option Addr) (an ac : Nat) (fa : Option Addr) (fn fc : Nat) (hf : ¬ Fits pages width) (w : World) : Calls Try.prog 8 #[.int .i64 pages, .int .i64 width, .slice aa an ac, .slice fa fn fc] w fun e w' => e = .returned (.bool true) ∧ Mem w [] w' [] := by
  have M := Mem.nil w
  go_enter Try.func8, Try.ntmps8
  refine wp_seq_k (fun K1 hK1 => ?_)
  refine wp_region_lit ?_
  refine pl M (y_assign (v := .bool false) rfl rfl rfl) ?_
  simp only [Act.put, z1, z2, z3]
  refine wpList_nil ?_
  refine hK1 _ _ ?_
  clear hK1
  refine wp_seq_k (fun K2 hK2 => ?_)
  refine wp_seq_k (fun K3 hK3 => ?_)
  refine wp_region_lit ?_
  refine pl M (y_move (v := .int .i64 pages) rfl rfl rfl) ?_
  simp only [Act.put, z1, z2, z3]
  refine pl M (y_move (v := .int .i64 width) rfl rfl rfl) ?_
  simp only [Act.put, z1, z2, z3]
  refine pe rfl (fun K hK => ?_)
  refine e_call 11 [.int .i64 pages, .int .i64 width] rfl rfl Try.call11 (fits_any pages width _) ?_
  rintro e w4 ⟨rfl, H4⟩
  have M4 : Mem w [] w4 [] := M.step H4
  rw [(decide_eq_false hf)]
  refine ⟨_, rfl, ?_⟩
  refine hK.out _ _ ?_
  clear hK K
  simp only [Act.put, z1, z2, z3]
  refine pl M4 (y_not rfl rfl rfl rfl) ?_
  simp only [Act.put, z1, z2, z3]
  refine wpList_nil ?_
  refine hK3 _ _ ?_
  clear hK3
  refine wp_cond_true rfl ?_
  refine wp_seq_k (fun K5 hK5 => ?_)
  refine wp_region_lit ?_
  refine pl M4 (y_assign (v := .bool true) rfl rfl rfl) ?_
  simp only [Act.put, z1, z2, z3]
  refine wpList_nil ?_
  refine hK5 _ _ ?_
  clear hK5
  refine wp_ret ?_
  try simp only [Exit.inBlock, Exit.then]
  refine bodyPost_ret (v := .bool true) (res1 rfl rfl) rfl ?_
  exact ⟨rfl, M4.arr [] (by decide)⟩
set_option maxRecDepth 100000 in
set_option maxHeartbeats 800000 in
theorem stands_fit {w : World} (k : Nat) (width : Int) (hn : 3 ≤ k ∧ k ≤ 64) (hw : 1 ≤ width ∧ width ≤ 32) (aa : Option Addr) (an ac : Nat) (avs : List AV) (hacts : ListIn actC 3 w aa an avs) (hok : ∀ a ∈ avs, ActIn w a) (han : an ≤ 4611686018427387904) (fa : Option Addr) (fn fc : Nat) (fl : List UInt8) (hfr : Row w fa fn fl) (hfn : fn ≤ 140737488351232) : Calls Try.prog 8 #[.int .i64 (k : Int), .int .i64 width, .slice aa an ac, .slice fa fn fc] w fun e w' => e = .returned (.bool true) ∧ Mem w [] w' [] := by
  have M := Mem.nil w
  have hal := hacts.1
  go_enter Try.func8, Try.ntmps8
  refine wp_seq_k (fun K1 hK1 => ?_)
  refine wp_region_lit ?_
  refine pl M (y_assign (v := .bool false) rfl rfl rfl) ?_
  simp only [Act.put, z1, z2, z3]
  refine wpList_nil ?_
  refine hK1 _ _ ?_
  clear hK1
  refine wp_seq_k (fun K2 hK2 => ?_)
  refine wp_seq_k (fun K3 hK3 => ?_)
  refine wp_region_lit ?_
  refine pl M (y_move (v := .int .i64 (k : Int)) rfl rfl rfl) ?_
  simp only [Act.put, z1, z2, z3]
  refine pl M (y_move (v := .int .i64 width) rfl rfl rfl) ?_
  simp only [Act.put, z1, z2, z3]
  refine pe rfl (fun K hK => ?_)
  refine e_call 11 [.int .i64 (k : Int), .int .i64 width] rfl rfl Try.call11 (fits_any (k : Int) width _) ?_
  rintro e w4 ⟨rfl, H4⟩
  have M4 : Mem w [] w4 [] := M.step H4
  rw [(fits_yes hn hw)]
  refine ⟨_, rfl, ?_⟩
  refine hK.out _ _ ?_
  clear hK K
  simp only [Act.put, z1, z2, z3]
  refine pl M4 (y_not rfl rfl rfl rfl) ?_
  simp only [Act.put, z1, z2, z3]
  refine wpList_nil ?_
  refine hK3 _ _ ?_
  clear hK3
  refine wp_cond_false rfl ?_
  refine wp_skip ?_
  refine hK2 _ _ ?_
  clear hK2
  refine wp_seq_k (fun K5 hK5 => ?_)
  refine wp_region_lit ?_
  refine pl M4 (y_move (v := .int .i64 (k : Int)) rfl rfl rfl) ?_
  simp only [Act.put, z1, z2, z3]
  refine pl M4 (y_move (v := .int .i64 width) rfl rfl rfl) ?_
  simp only [Act.put, z1, z2, z3]
  refine pe rfl (fun K hK => ?_)
  refine e_call 22 [.int .i64 (k : Int), .int .i64 width] rfl rfl Try.call22 (fresh_any k width hn hw _) ?_
  rintro e w6 ⟨p, pg, mb, qv0, f0, D0, m, rfl, H6, hI0, hq0, ha0, hp0⟩
  have M6 : Mem w [] w6 [disk D0 p pg mb qv0, blk f0 96 (fC (⟨secondS width k, 2, m⟩ : FV) p)] := M4.step H6
  refine ⟨_, rfl, ?_⟩
  refine hK.out _ _ ?_
  clear hK K
  simp only [Act.put, z1, z2, z3]
  refine pl M6 (y_move (v := .tuple #[.pointer (some ⟨p, 0, none⟩), .pointer (some ⟨f0, 0, none⟩)]) rfl rfl rfl) ?_
  simp only [Act.put, z1, z2, z3]
  refine pl M6 (y_ext (v := .pointer (some ⟨p, 0, none⟩)) rfl rfl rfl rfl) ?_
  simp only [Act.put, z1, z2, z3]
  refine pl M6 (y_ext (v := .pointer (some ⟨f0, 0, none⟩)) rfl rfl rfl rfl) ?_
  simp only [Act.put, z1, z2, z3]
  refine pl M6 (y_assign (v := .pointer (some ⟨p, 0, none⟩)) rfl rfl rfl) ?_
  simp only [Act.put, z1, z2, z3]
  refine pl M6 (y_assign (v := .pointer (some ⟨f0, 0, none⟩)) rfl rfl rfl) ?_
  simp only [Act.put, z1, z2, z3]
  refine wpList_nil ?_
  refine hK5 _ _ ?_
  clear hK5
  refine wp_seq_k (fun K7 hK7 => ?_)
  refine wp_seq_k (fun K8 hK8 => ?_)
  refine wp_region_lit ?_
  refine pl M6 (y_move (v := .pointer (some ⟨f0, 0, none⟩)) rfl rfl rfl) ?_
  simp only [Act.put, z1, z2, z3]
  refine pl M6 (y_eqnil (r := false) rfl rfl rfl rfl Try.underlying33 rfl) ?_
  simp only [Act.put, z1, z2, z3]
  refine wpList_nil ?_
  refine hK8 _ _ ?_
  clear hK8
  refine wp_cond_false rfl ?_
  refine wp_skip ?_
  refine hK7 _ _ ?_
  clear hK7
  refine wp_seq_k (fun K9 hK9 => ?_)
  refine wp_region_lit ?_
  refine pl M6 (y_build (ps := [(2, .const (.int .i64 2)), (3, .const (.int .i64 1))]) (pv := [(2, .int .i64 2), (3, .int .i64 1)]) (cs := (bC (⟨[], 2, 1, 0, 0, 0⟩ : BV) (⟨.slice none 0 0, .slice none 0 0, []⟩ : BX))) rfl rfl rfl (by kernel_rfl)) ?_
  simp only [Act.put, z1, z2, z3]
  refine pe rfl (fun K hK => ?_)
  refine e_box M6 (bC (⟨[], 2, 1, 0, 0, 0⟩ : BV) (⟨.slice none 0 0, .slice none 0 0, []⟩ : BX)) rfl rfl ?_
  intro b w10 (M10 : Mem w [] w10 [blk b 48 (bC (⟨[], 2, 1, 0, 0, 0⟩ : BV) (⟨.slice none 0 0, .slice none 0 0, []⟩ : BX)), disk D0 p pg mb qv0, blk f0 96 (fC (⟨secondS width k, 2, m⟩ : FV) p)])
  clear M6
  refine hK.out _ _ ?_
  clear hK K
  simp only [Act.put, z1, z2, z3]
  have M11 : Mem w [] w10 [blk b 48 (bC (⟨[], 2, 1, 0, 0, 0⟩ : BV) (⟨.slice none 0 0, .slice none 0 0, []⟩ : BX)), disk D0 p pg mb qv0, blk f0 96 (fC (⟨secondS width k, 2, m⟩ : FV) p)] := M10.arr [0, 1, 2] (by decide)
  clear M10
  have M12 : Mem w [] w10 [book (⟨[], 2, 1, 0, 0, 0⟩ : BV) b (⟨.slice none 0 0, .slice none 0 0, []⟩ : BX), disk D0 p pg mb qv0, blk f0 96 (fC (⟨secondS width k, 2, m⟩ : FV) p)] := book_new M11
  clear M11
  refine pl M12 (y_assign (v := .pointer (some ⟨b, 0, none⟩)) rfl rfl rfl) ?_
  simp only [Act.put, z1, z2, z3]
  refine wpList_nil ?_
  refine hK9 _ _ ?_
  clear hK9
  refine wp_seq_k (fun K13 hK13 => ?_)
  refine wp_region_lit ?_
  refine pl M12 (y_assign (v := .slice none 0 0) rfl rfl rfl) ?_
  simp only [Act.put, z1, z2, z3]
  refine wpList_nil ?_
  refine hK13 _ _ ?_
  clear hK13
  refine wp_seq_k (fun K14 hK14 => ?_)
  refine wp_seq_k (fun K15 hK15 => ?_)
  refine wp_region_lit ?_
  refine pl M12 (y_assign (v := .int .i64 0) rfl rfl rfl) ?_
  simp only [Act.put, z1, z2, z3]
  refine wpList_nil ?_
  refine hK15 _ _ ?_
  clear hK15
  refine wp_block ?_
  have hBI : BInv D0 (⟨secondS width k, 2, m⟩ : FV) (⟨[], 2, 1, 0, 0, 0⟩ : BV) := ⟨hI0, rfl, rfl, rfl, rfl, Nat.zero_le _⟩
  refine wp_loop (fun a' w' => ∃ (i : Nat) (f : Nat) (D : DV) (V : FV) (B : BV) (qv : Value) (bx : BX) (pm : Nat) (pa : Option Addr) (pc : Nat) (us16 : List Value), a' = (⟨#[.int .i64 (k : Int), .int .i64 width, .slice aa an ac, .slice fa fn fc, undef, undef, undef, undef, (us16.getD 0 undef), .pointer (some ⟨p, 0, none⟩), .pointer (some ⟨f, 0, none⟩), .pointer (some ⟨b, 0, none⟩), .slice pa (256 * (pm - 2)) pc, .int .i64 (i : Int), (us16.getD 1 undef), (us16.getD 2 undef), (us16.getD 3 undef), (us16.getD 4 undef), .int .i64 (k : Int), .int .i64 width, .bool true, .bool false, .tuple #[.pointer (some ⟨p, 0, none⟩), .pointer (some ⟨f0, 0, none⟩)], .int .i64 (k : Int), .int .i64 width, .tuple #[.pointer (some ⟨p, 0, none⟩), .pointer (some ⟨f0, 0, none⟩)], .pointer (some ⟨p, 0, none⟩), .pointer (some ⟨f0, 0, none⟩), .pointer (some ⟨f0, 0, none⟩), .bool false, .agg ((bC (⟨[], 2, 1, 0, 0, 0⟩ : BV) (⟨.slice none 0 0, .slice none 0 0, []⟩ : BX))).toArray, .pointer (some ⟨b, 0, none⟩), (us16.getD 5 undef), (us16.getD 6 undef), (us16.getD 7 undef), (us16.getD 8 undef), (us16.getD 9 undef), (us16.getD 10 undef), (us16.getD 11 undef), (us16.getD 12 undef), (us16.getD 13 undef), (us16.getD 14 undef), (us16.getD 15 undef), (us16.getD 16 undef), (us16.getD 17 undef), (us16.getD 18 undef), (us16.getD 19 undef), (us16.getD 20 undef), (us16.getD 21 undef), (us16.getD 22 undef), (us16.getD 23 undef), (us16.getD 24 undef), (us16.getD 25 undef), (us16.getD 26 undef), (us16.getD 27 undef), (us16.getD 28 undef), (us16.getD 29 undef), (us16.getD 30 undef), (us16.getD 31 undef), (us16.getD 32 undef), (us16.getD 33 undef), (us16.getD 34 undef), (us16.getD 35 undef), (us16.getD 36 undef), (us16.getD 37 undef), (us16.getD 38 undef), (us16.getD 39 undef), (us16.getD 40 undef), (us16.getD 41 undef), (us16.getD 42 undef), (us16.getD 43 undef), (us16.getD 44 undef), (us16.getD 45 undef), (us16.getD 46 undef), (us16.getD 47 undef), (us16.getD 48 undef), (us16.getD 49 undef), (us16.getD 50 undef), (us16.getD 51 undef), (us16.getD 52 undef), (us16.getD 53 undef), (us16.getD 54 undef), (us16.getD 55 undef), (us16.getD 56 undef), (us16.getD 57 undef), (us16.getD 58 undef), (us16.getD 59 undef), (us16.getD 60 undef), (us16.getD 61 undef), (us16.getD 62 undef), (us16.getD 63 undef), (us16.getD 64 undef), (us16.getD 65 undef), (us16.getD 66 undef), (us16.getD 67 undef), (us16.getD 68 undef), (us16.getD 69 undef)], []⟩ : Act) ∧ (BInv D V B) ∧ (D.q.length ≤ i ∧ i ≤ 200 ∧ D.pages.length = k) ∧ (V.s.gen ≤ 1 + i) ∧ (2 ≤ pm ∧ (pm : Int) ≤ B.mark) ∧ Mem w [] w' [disk D p pg mb qv, blk f 96 (fC V p), book B b bx, bytesL (.slice pa (256 * (pm - 2)) pc) (durB B.ps pm)]) (fun a' _ => an - (intOf (a'.tmps.getD 13 undef)).toNat) ⟨0, f0, D0, (⟨secondS width k, 2, m⟩ : FV), (⟨[], 2, 1, 0, 0, 0⟩ : BV), qv0, (⟨.slice none 0 0, .slice none 0 0, []⟩ : BX), 2, none, 0, [.bool false, undef, undef, undef, undef, undef, undef, undef, undef, undef, undef, undef, undef, undef, undef, undef, undef, undef, undef, undef, undef, undef, undef, undef, undef, undef, undef, undef, undef, undef, undef, undef, undef, undef, undef, undef, undef, undef, undef, undef, undef, undef, undef, undef, undef, undef, undef, undef, undef, undef, undef, undef, undef, undef, undef, undef, undef, undef, undef, undef, undef, undef, undef, undef, undef, undef, undef, undef, undef, undef], rfl, hBI, ⟨by rw [hq0]; exact Nat.zero_le _, by omega, hp0⟩, (by show (1 : Int) ≤ 1 + ((0 : Nat) : Int); decide), ⟨Nat.le_refl _, Int.le_refl _⟩, ((Mem.nilst (M12.arr [1, 2, 0] (by decide)) 5 1).arr [1, 2, 3, 0] (by decide))⟩ ?_
  clear M12
  rintro a' w17 ⟨i, f, D, V, B, qv, bx, pm, pa, pc, us16, rfl, hB, hqi, hgi, hpm, M17⟩
  refine wp_seq_k (fun K18 hK18 => ?_)
  refine wp_seq_k (fun K19 hK19 => ?_)
  refine wp_region_lit ?_
  refine pl M17 (y_move (v := .int .i64 (i : Int)) rfl rfl rfl) ?_
  simp only [Act.put, z1, z2, z3]
  refine pl M17 (y_move (v := .slice aa an ac) rfl rfl rfl) ?_
  simp only [Act.put, z1, z2, z3]
  refine pl M17 (y_len rfl rfl rfl Try.underlying41) ?_
  simp only [Act.put, z1, z2, z3]
  rcases Decidable.em ((i : Int) < (an : Int)) with h20 | h20
  · obtain ⟨a, hget⟩ : ∃ a, avs[i]? = some a := ⟨_, List.getElem?_eq_getElem (by have := hacts.1; omega)⟩
    obtain ⟨ga, oa, hao, hra⟩ := hacts.2 i a hget
    obtain ⟨hrow, hnil, hmc, hcc⟩ := hok a (List.mem_of_getElem? hget)
    refine pl M17 (y_lss (b := true) rfl rfl rfl rfl (decide_eq_true h20)) ?_
    simp only [Act.put, z1, z2, z3]
    refine pl M17 (y_move (v := .bool true) rfl rfl rfl) ?_
    simp only [Act.put, z1, z2, z3]
    refine pl M17 (y_move (v := .int .i64 (i : Int)) rfl rfl rfl) ?_
    simp only [Act.put, z1, z2, z3]
    rcases Decidable.em ((i : Int) < 200) with h21 | h21
    · refine pl M17 (y_lss (b := true) rfl rfl rfl rfl (decide_eq_true h21)) ?_
      simp only [Act.put, z1, z2, z3]
      refine pl M17 (y_pickT (v := .bool true) rfl rfl rfl rfl) ?_
      simp only [Act.put, z1, z2, z3]
      refine wpList_nil ?_
      refine hK19 _ _ ?_
      clear hK19
      refine wp_cond_true rfl ?_
      refine wp_skip ?_
      refine hK18 _ _ ?_
      clear hK18
      refine wp_seq_k (fun K22 hK22 => ?_)
      refine wp_block ?_
      refine wp_seq_k (fun K23 hK23 => ?_)
      refine wp_region_lit ?_
      refine pl M17 (y_move (v := .pointer (some ⟨b, 0, none⟩)) rfl rfl rfl) ?_
      simp only [Act.put, z1, z2, z3]
      refine pl M17 (y_move (v := .pointer (some ⟨p, 0, none⟩)) rfl rfl rfl) ?_
      simp only [Act.put, z1, z2, z3]
      refine pl M17 (y_move (v := .pointer (some ⟨f, 0, none⟩)) rfl rfl rfl) ?_
      simp only [Act.put, z1, z2, z3]
      refine pl M17 (y_move (v := .slice aa an ac) rfl rfl rfl) ?_
      simp only [Act.put, z1, z2, z3]
      refine pl M17 (y_move (v := .int .i64 (i : Int)) rfl rfl rfl) ?_
      simp only [Act.put, z1, z2, z3]
      refine pl M17 (y_ias (r := oa + i * 3) rfl rfl (congrArg (fun z => Value.slice z an ac) hao) rfl Try.underlying41 Try.sizeOf50 (by omega) (by omega)) ?_
      simp only [Act.put, z1, z2, z3]
      refine pl M17 (y_loadr (cs := (actC a)) rfl rfl rfl Try.underlying50 rfl (size_act a) (fun W hW => hW.range hra (by simp))) ?_
      simp only [Act.put, z1, z2, z3]
      have hX24 : Mem w [] w17 ([disk D p pg mb qv, blk f 96 (fC V p), book B b bx] ++ [bytesL (.slice pa (256 * (pm - 2)) pc) (durB B.ps pm)]) := M17.arr [0, 1, 2, 3] (by decide)
      refine pe rfl (fun K hK => ?_)
      refine e_call 27 [.pointer (some ⟨b, 0, none⟩), .pointer (some ⟨p, 0, none⟩), .pointer (some ⟨f, 0, none⟩), .agg ((actC a)).toArray] rfl rfl Try.call27 (bact_any (Mem.here (L := [disk D p pg mb qv, blk f 96 (fC V p), book B b bx]) (R := [bytesL (.slice pa (256 * (pm - 2)) pc) (durB B.ps pm)]) hX24) a.k a.n a.ao a.m a.c a.l (M17.row hrow (by simp)) (hX24.left.off_row hrow) (by omega) hB (by omega) (by omega)) ?_
      rintro e w24 ⟨er, E, V2, B2, qv2, bx2, rfl, H24, hout⟩
      have M24 : Mem w [] w24 [disk E p pg mb qv2, blk f 96 (fC V2 p), book B2 b bx2, bytesL (.slice pa (256 * (pm - 2)) pc) (durB B.ps pm)] := Mem.frame (Pre := [disk D p pg mb qv, blk f 96 (fC V p), book B b bx]) (Post := [disk E p pg mb qv2, blk f 96 (fC V2 p), book B2 b bx2]) (R := [bytesL (.slice pa (256 * (pm - 2)) pc) (durB B.ps pm)]) hX24 H24
      refine ⟨_, rfl, ?_⟩
      refine hK.out _ _ ?_
      clear hK K
      simp only [Act.put, z1, z2, z3]
      refine pl M24 (y_move (v := .tuple #[.int .i64 er, .bool true]) rfl rfl rfl) ?_
      simp only [Act.put, z1, z2, z3]
      refine pl M24 (y_ext (v := .int .i64 er) rfl rfl rfl rfl) ?_
      simp only [Act.put, z1, z2, z3]
      refine pl M24 (y_ext (v := .bool true) rfl rfl rfl rfl) ?_
      simp only [Act.put, z1, z2, z3]
      refine pl M24 (y_assign (v := .int .i64 er) rfl rfl rfl) ?_
      simp only [Act.put, z1, z2, z3]
      refine pl M24 (y_assign (v := .bool true) rfl rfl rfl) ?_
      simp only [Act.put, z1, z2, z3]
      refine wpList_nil ?_
      refine hK23 _ _ ?_
      clear hK23
      refine wp_seq_k (fun K25 hK25 => ?_)
      refine wp_seq_k (fun K26 hK26 => ?_)
      refine wp_region_lit ?_
      refine pl M24 (y_move (v := .bool true) rfl rfl rfl) ?_
      simp only [Act.put, z1, z2, z3]
      refine pl M24 (y_not rfl rfl rfl rfl) ?_
      simp only [Act.put, z1, z2, z3]
      refine wpList_nil ?_
      refine hK26 _ _ ?_
      clear hK26
      refine wp_cond_false rfl ?_
      refine wp_skip ?_
      refine hK25 _ _ ?_
      clear hK25
      refine wp_seq_k (fun K27 hK27 => ?_)
      refine wp_seq_k (fun K28 hK28 => ?_)
      refine wp_region_lit ?_
      refine pl M24 (y_move (v := .int .i64 er) rfl rfl rfl) ?_
      simp only [Act.put, z1, z2, z3]
      rcases Decidable.em (er = 2) with h29 | h29
      · obtain ⟨hkept, ⟨he0, _⟩ | ⟨_, harm, hVV, hdead, hep, hdown⟩⟩ := hout
        · omega
        refine pl M24 (y_eql (b := true) rfl rfl rfl rfl (decide_eq_true h29)) ?_
        simp only [Act.put, z1, z2, z3]
        refine wpList_nil ?_
        refine hK28 _ _ ?_
        clear hK28
        refine wp_cond_true rfl ?_
        refine wp_seq_k (fun K30 hK30 => ?_)
        refine wp_region_lit ?_
        refine pl M24 (y_move (v := .pointer (some ⟨b, 0, none⟩)) rfl rfl rfl) ?_
        simp only [Act.put, z1, z2, z3]
        refine pl M24 (y_move (v := .pointer (some ⟨p, 0, none⟩)) rfl rfl rfl) ?_
        simp only [Act.put, z1, z2, z3]
        refine pl M24 (y_move (v := .slice fa fn fc) rfl rfl rfl) ?_
        simp only [Act.put, z1, z2, z3]
        have hX31 : Mem w [] w24 ([disk E p pg mb qv2, book B2 b bx2] ++ [bytesL (.slice pa (256 * (pm - 2)) pc) (durB B.ps pm)]) := M24.arr [0, 2, 3] (by decide)
        refine pe rfl (fun K hK => ?_)
        refine e_call 37 [.pointer (some ⟨b, 0, none⟩), .pointer (some ⟨p, 0, none⟩), .slice fa fn fc] rfl rfl Try.call37 (bagain_any (Mem.here (L := [disk E p pg mb qv2, book B2 b bx2]) (R := [bytesL (.slice pa (256 * (pm - 2)) pc) (durB B.ps pm)]) hX31) fa fn fc fl (M24.row hfr (by simp)) (hX31.left.off_row hfr) (by omega) V.s hdown) ?_
        rintro e w31 ⟨f2, E2, V3, B3, qv3, bx3, rfl, H31, hB3, hq3, ha3, hp3, hw3, hg3, hm3, hps3⟩
        have M31 : Mem w [] w31 [disk E2 p pg mb qv3, blk f2 96 (fC V3 p), book B3 b bx3, bytesL (.slice pa (256 * (pm - 2)) pc) (durB B.ps pm)] := Mem.frame (Pre := [disk E p pg mb qv2, book B2 b bx2]) (Post := [disk E2 p pg mb qv3, blk f2 96 (fC V3 p), book B3 b bx3]) (R := [bytesL (.slice pa (256 * (pm - 2)) pc) (durB B.ps pm)]) hX31 H31
        refine ⟨_, rfl, ?_⟩
        refine hK.out _ _ ?_
        clear hK K
        simp only [Act.put, z1, z2, z3]
        refine pl M31 (y_assign (v := .pointer (some ⟨f2, 0, none⟩)) rfl rfl rfl) ?_
        simp only [Act.put, z1, z2, z3]
        refine wpList_nil ?_
        refine hK30 _ _ ?_
        clear hK30
        refine wp_seq_k (fun K32 hK32 => ?_)
        refine wp_region_lit ?_
        refine pl M31 (y_move (v := .pointer (some ⟨f2, 0, none⟩)) rfl rfl rfl) ?_
        simp only [Act.put, z1, z2, z3]
        refine pl M31 (y_eqnil (r := false) rfl rfl rfl rfl Try.underlying33 rfl) ?_
        simp only [Act.put, z1, z2, z3]
        refine wpList_nil ?_
        refine hK32 _ _ ?_
        clear hK32
        refine wp_cond_false rfl ?_
        refine wp_skip ?_
        refine hK27 _ _ ?_
        clear hK27
        refine wp_seq_k (fun K33 hK33 => ?_)
        refine wp_region_lit ?_
        refine pl M31 (y_move (v := .pointer (some ⟨p, 0, none⟩)) rfl rfl rfl) ?_
        simp only [Act.put, z1, z2, z3]
        have hpk : E2.pages.length = k := by rw [hp3]; have := hkept.pages; omega
        have hmk : B.mark ≤ B3.mark := by have := hkept.mark; omega
        have hold : durB B3.ps pm = durB B.ps pm := durB_eq pm fun n h1 h2 => by rw [hps3]; have := hkept.old n h1 (by omega); exact this
        obtain ⟨mk', hmk'⟩ : ∃ x : Nat, V3.s.mark = (x : Int) := Int.eq_ofNat_of_zero_le (by have := hB3.inv.plat.mark2; omega)
        have hm2 := hB3.inv.plat.mark2
        have hmp := hB3.inv.plat.markp
        have hmb := hB3.mark
        have himg := hB3.inv.plat.image pm hpm.1 (by omega)
        have hlen1 := hB3.inv.plat.good_len pm (by omega)
        have himg2 := hB3.inv.plat.image mk' (by omega) (by omega)
        have hlen2 := hB3.inv.plat.good_len mk' (by omega)
        have hfl := flat_length _ hB3.inv.ok.len
        rw [hold] at himg hlen1
        have hfl2 : E2.pages.flatten.length = 256 * k := by rw [hfl, hpk]
        have hX34 : Mem w [] w31 ([disk E2 p pg mb qv3] ++ [blk f2 96 (fC V3 p), book B3 b bx3, bytesL (.slice pa (256 * (pm - 2)) pc) (durB B.ps pm)]) := M31.arr [0, 1, 2, 3] (by decide)
        refine pe rfl (fun K hK => ?_)
        refine e_call 30 [.pointer (some ⟨p, 0, none⟩)] rfl rfl Try.call30 (image_fit (Mem.here (L := [disk E2 p pg mb qv3]) (R := [blk f2 96 (fC V3 p), book B3 b bx3, bytesL (.slice pa (256 * (pm - 2)) pc) (durB B.ps pm)]) hX34) hpk (by omega)) ?_
        rintro e w34 ⟨gi, ci, rfl, H34, hci, hcm⟩
        have M34 : Mem w [] w34 [disk E2 p pg mb qv3, lst 5 1 (.slice (some ⟨gi, 0, none⟩) (256 * k) ci) (256 * k) (bvs E2.pages.flatten), blk f2 96 (fC V3 p), book B3 b bx3, bytesL (.slice pa (256 * (pm - 2)) pc) (durB B.ps pm)] := Mem.frame (Pre := [disk E2 p pg mb qv3]) (Post := [disk E2 p pg mb qv3, lst 5 1 (.slice (some ⟨gi, 0, none⟩) (256 * k) ci) (256 * k) (bvs E2.pages.flatten)]) (R := [blk f2 96 (fC V3 p), book B3 b bx3, bytesL (.slice pa (256 * (pm - 2)) pc) (durB B.ps pm)]) hX34 H34
        refine ⟨_, rfl, ?_⟩
        refine hK.out _ _ ?_
        clear hK K
        simp only [Act.put, z1, z2, z3]
        refine pl M34 (y_assign (v := .slice (some ⟨gi, 0, none⟩) (256 * k) ci) rfl rfl rfl) ?_
        simp only [Act.put, z1, z2, z3]
        refine wpList_nil ?_
        refine hK33 _ _ ?_
        clear hK33
        refine wp_seq_k (fun K35 hK35 => ?_)
        refine wp_region_lit ?_
        refine pl M34 (y_move (v := .pointer (some ⟨f2, 0, none⟩)) rfl rfl rfl) ?_
        simp only [Act.put, z1, z2, z3]
        have hX36 : Mem w [] w34 ([disk E2 p pg mb qv3, blk f2 96 (fC V3 p)] ++ [lst 5 1 (.slice (some ⟨gi, 0, none⟩) (256 * k) ci) (256 * k) (bvs E2.pages.flatten), book B3 b bx3, bytesL (.slice pa (256 * (pm - 2)) pc) (durB B.ps pm)]) := M34.arr [0, 2, 1, 3, 4] (by decide)
        refine pe rfl (fun K hK => ?_)
        refine e_call 19 [.pointer (some ⟨f2, 0, none⟩)] rfl rfl Try.call19 (super_any (Mem.here (L := [disk E2 p pg mb qv3, blk f2 96 (fC V3 p)]) (R := [lst 5 1 (.slice (some ⟨gi, 0, none⟩) (256 * k) ci) (256 * k) (bvs E2.pages.flatten), book B3 b bx3, bytesL (.slice pa (256 * (pm - 2)) pc) (durB B.ps pm)]) hX36)) ?_
        rintro e w36 ⟨rfl, H36⟩
        have M36 : Mem w [] w36 [disk E2 p pg mb qv3, blk f2 96 (fC V3 p), lst 5 1 (.slice (some ⟨gi, 0, none⟩) (256 * k) ci) (256 * k) (bvs E2.pages.flatten), book B3 b bx3, bytesL (.slice pa (256 * (pm - 2)) pc) (durB B.ps pm)] := Mem.frame (Pre := [disk E2 p pg mb qv3, blk f2 96 (fC V3 p)]) (Post := [disk E2 p pg mb qv3, blk f2 96 (fC V3 p)]) (R := [lst 5 1 (.slice (some ⟨gi, 0, none⟩) (256 * k) ci) (256 * k) (bvs E2.pages.flatten), book B3 b bx3, bytesL (.slice pa (256 * (pm - 2)) pc) (durB B.ps pm)]) hX36 H36
        refine ⟨_, rfl, ?_⟩
        refine hK.out _ _ ?_
        clear hK K
        simp only [Act.put, z1, z2, z3]
        refine pl M36 (y_field1 (v := .int .i64 V3.s.mark) rfl rfl rfl Try.underlying37 rfl Try.isAgg3 rfl) ?_
        simp only [Act.put, z1, z2, z3]
        refine pl M36 (y_assign (v := .int .i64 V3.s.mark) rfl rfl rfl) ?_
        simp only [Act.put, z1, z2, z3]
        refine wpList_nil ?_
        refine hK35 _ _ ?_
        clear hK35
        refine wp_seq_k (fun K37 hK37 => ?_)
        refine wp_seq_k (fun K38 hK38 => ?_)
        refine wp_region_lit ?_
        refine pl M36 (y_move (v := .slice (some ⟨gi, 0, none⟩) (256 * k) ci) rfl rfl rfl) ?_
        simp only [Act.put, z1, z2, z3]
        refine pl M36 (y_len rfl rfl rfl Try.underlying22) ?_
        simp only [Act.put, z1, z2, z3]
        refine pl M36 (y_move (v := .int .i64 (k : Int)) rfl rfl rfl) ?_
        simp only [Act.put, z1, z2, z3]
        refine pl M36 (y_mul (r := 256 * (k : Int)) rfl rfl rfl rfl (rfl) (by omega)) ?_
        simp only [Act.put, z1, z2, z3]
        refine pl M36 (y_neq (b := false) rfl rfl rfl rfl (by rw [decide_eq_true (by omega)]; rfl)) ?_
        simp only [Act.put, z1, z2, z3]
        refine pl M36 (y_move (v := .bool false) rfl rfl rfl) ?_
        simp only [Act.put, z1, z2, z3]
        refine pl M36 (y_move (v := .int .i64 V3.s.mark) rfl rfl rfl) ?_
        simp only [Act.put, z1, z2, z3]
        refine pl M36 (y_lss (b := false) rfl rfl rfl rfl (decide_eq_false (by omega))) ?_
        simp only [Act.put, z1, z2, z3]
        refine pl M36 (y_pickF (v := .bool false) rfl rfl rfl rfl) ?_
        simp only [Act.put, z1, z2, z3]
        refine pl M36 (y_move (v := .bool false) rfl rfl rfl) ?_
        simp only [Act.put, z1, z2, z3]
        refine pl M36 (y_move (v := .int .i64 V3.s.mark) rfl rfl rfl) ?_
        simp only [Act.put, z1, z2, z3]
        refine pl M36 (y_move (v := .int .i64 (k : Int)) rfl rfl rfl) ?_
        simp only [Act.put, z1, z2, z3]
        refine pl M36 (y_gtr (b := false) rfl rfl rfl rfl (decide_eq_false (by omega))) ?_
        simp only [Act.put, z1, z2, z3]
        refine pl M36 (y_pickF (v := .bool false) rfl rfl rfl rfl) ?_
        simp only [Act.put, z1, z2, z3]
        refine pl M36 (y_move (v := .bool false) rfl rfl rfl) ?_
        simp only [Act.put, z1, z2, z3]
        refine pl M36 (y_move (v := .slice (some ⟨gi, 0, none⟩) (256 * k) ci) rfl rfl rfl) ?_
        simp only [Act.put, z1, z2, z3]
        refine pl M36 (y_move (v := .slice pa (256 * (pm - 2)) pc) rfl rfl rfl) ?_
        simp only [Act.put, z1, z2, z3]
        refine pl M36 (y_len rfl rfl rfl Try.underlying22) ?_
        simp only [Act.put, z1, z2, z3]
        refine pl M36 (y_add (r := ((512 + 256 * (pm - 2) : Nat) : Int)) rfl rfl rfl rfl (by omega) (by omega)) ?_
        simp only [Act.put, z1, z2, z3]
        refine pl M36 (y_sls (l := 512) (h := 512 + 256 * (pm - 2)) (r := 512) (n' := 256 * (pm - 2)) (c' := ci - 512) rfl rfl rfl rfl rfl Try.underlying22 Try.sizeOf5 (by exact ⟨⟨_, _, rfl, by omega, by omega⟩, ⟨_, _, rfl, by omega, by omega⟩⟩) (by rw [if_neg (by omega)]) (by omega) (by omega)) ?_
        simp only [Act.put, z1, z2, z3]
        refine pl M36 (y_move (v := .slice pa (256 * (pm - 2)) pc) rfl rfl rfl) ?_
        simp only [Act.put, z1, z2, z3]
        refine pe rfl (fun K hK => ?_)
        refine e_call 35 [.slice (some ⟨gi, 512, none⟩) (256 * (pm - 2)) (ci - 512), .slice pa (256 * (pm - 2)) pc] rfl rfl Try.call35 (same_any _ _ _ _ _ _ (durB B.ps pm) (durB B.ps pm) _ (by have N := ((lst_row (M36.get 2 rfl)).drop 512 (by omega)).take (256 * (pm - 2)) (by omega); rw [himg] at N; rw [Nat.zero_add] at N; exact N) (by have N := bytesL_row (l := durB B.ps pm) (n := 256 * (pm - 2)) (M36.get 4 rfl); rw [hlen1] at N; exact N) (by unfold maxLen; omega) (by unfold maxLen; omega)) ?_
        rintro e w39 ⟨rfl, H39⟩
        have M39 : Mem w [] w39 [disk E2 p pg mb qv3, blk f2 96 (fC V3 p), lst 5 1 (.slice (some ⟨gi, 0, none⟩) (256 * k) ci) (256 * k) (bvs E2.pages.flatten), book B3 b bx3, bytesL (.slice pa (256 * (pm - 2)) pc) (durB B.ps pm)] := M36.step H39
        rw [(eqB_true rfl)]
        refine ⟨_, rfl, ?_⟩
        refine hK.out _ _ ?_
        clear hK K
        simp only [Act.put, z1, z2, z3]
        refine pl M39 (y_not rfl rfl rfl rfl) ?_
        simp only [Act.put, z1, z2, z3]
        refine pl M39 (y_pickF (v := .bool false) rfl rfl rfl rfl) ?_
        simp only [Act.put, z1, z2, z3]
        refine wpList_nil ?_
        refine hK38 _ _ ?_
        clear hK38
        refine wp_cond_false rfl ?_
        refine wp_skip ?_
        refine hK37 _ _ ?_
        clear hK37
        refine wp_region_lit ?_
        refine pl M39 (y_move (v := .slice (some ⟨gi, 0, none⟩) (256 * k) ci) rfl rfl rfl) ?_
        simp only [Act.put, z1, z2, z3]
        refine pl M39 (y_move (v := .int .i64 V3.s.mark) rfl rfl rfl) ?_
        simp only [Act.put, z1, z2, z3]
        refine pl M39 (y_mul (r := ((256 * mk' : Nat) : Int)) rfl rfl rfl rfl (by omega) (by omega)) ?_
        simp only [Act.put, z1, z2, z3]
        refine pl M39 (y_sls (l := 512) (h := 256 * mk') (r := 512) (n' := 256 * mk' - 512) (c' := ci - 512) rfl rfl rfl rfl rfl Try.underlying22 Try.sizeOf5 (by exact ⟨⟨_, _, rfl, by omega, by omega⟩, ⟨_, _, rfl, by omega, by omega⟩⟩) (by rw [if_neg (by omega)]) (by omega) (by omega)) ?_
        simp only [Act.put, z1, z2, z3]
        refine pe rfl (fun K hK => ?_)
        refine e_call 32 [.slice (some ⟨gi, 512, none⟩) (256 * mk' - 512) (ci - 512)] rfl rfl Try.call32 ((by have N := copy_any (some ⟨gi, 512, none⟩) (256 * mk' - 512) (ci - 512) (durB B3.ps mk') _ (by have N := ((lst_row (M39.get 2 rfl)).drop 512 (by omega)).take (256 * (mk' - 2)) (by omega); rw [himg2] at N; rw [Nat.zero_add] at N; rw [show 256 * mk' - 512 = 256 * (mk' - 2) by omega]; exact N) (by omega); rw [hlen2] at N; exact N)) ?_
        rintro e w40 ⟨a1, c1, rfl, H40⟩
        have M40 : Mem w [] w40 [bytesL (.slice a1 (256 * (mk' - 2)) c1) (durB B3.ps mk'), disk E2 p pg mb qv3, blk f2 96 (fC V3 p), lst 5 1 (.slice (some ⟨gi, 0, none⟩) (256 * k) ci) (256 * k) (bvs E2.pages.flatten), book B3 b bx3, bytesL (.slice pa (256 * (pm - 2)) pc) (durB B.ps pm)] := M39.step H40
        refine ⟨_, rfl, ?_⟩
        refine hK.out _ _ ?_
        clear hK K
        simp only [Act.put, z1, z2, z3]
        refine pl M40 (y_assign (v := .slice a1 (256 * (mk' - 2)) c1) rfl rfl rfl) ?_
        simp only [Act.put, z1, z2, z3]
        refine wpList_nil ?_
        refine hK22 _ _ ?_
        clear hK22
        refine wp_region_lit ?_
        refine pl M40 (y_move (v := .int .i64 (i : Int)) rfl rfl rfl) ?_
        simp only [Act.put, z1, z2, z3]
        refine pl M40 (y_add (r := (i : Int) + 1) rfl rfl rfl rfl (rfl) (by omega)) ?_
        simp only [Act.put, z1, z2, z3]
        refine pl M40 (y_assign (v := .int .i64 ((i : Int) + 1)) rfl rfl rfl) ?_
        simp only [Act.put, z1, z2, z3]
        refine wpList_nil ?_
        refine ⟨⟨i + 1, f2, E2, V3, B3, qv3, bx3, mk', a1, c1, [(us16.getD 0 undef), .int .i64 er, .bool true, .slice (some ⟨gi, 0, none⟩) (256 * k) ci, .int .i64 V3.s.mark, .int .i64 (i : Int), .slice aa an ac, .int .i64 (an : Int), .bool true, .bool true, .int .i64 (i : Int), .bool true, .bool true, .int .i64 (i : Int), .int .i64 ((i : Int) + 1), .tuple #[.int .i64 er, .bool true], .pointer (some ⟨b, 0, none⟩), .pointer (some ⟨p, 0, none⟩), .pointer (some ⟨f, 0, none⟩), .slice aa an ac, .int .i64 (i : Int), .pointer (some ⟨ga, oa + i * 3, none⟩), .agg ((actC a)).toArray, .tuple #[.int .i64 er, .bool true], .int .i64 er, .bool true, .bool true, .bool false, .int .i64 er, .bool true, .pointer (some ⟨b, 0, none⟩), .pointer (some ⟨p, 0, none⟩), .slice fa fn fc, .pointer (some ⟨f2, 0, none⟩), .pointer (some ⟨f2, 0, none⟩), .bool false, .pointer (some ⟨p, 0, none⟩), .slice (some ⟨gi, 0, none⟩) (256 * k) ci, .pointer (some ⟨f2, 0, none⟩), .agg ((supC V3.s)).toArray, .int .i64 V3.s.mark, .slice (some ⟨gi, 0, none⟩) (256 * k) ci, .int .i64 ((256 * k : Nat) : Int), .int .i64 (k : Int), .int .i64 (256 * (k : Int)), .bool false, .bool false, .int .i64 V3.s.mark, .bool false, .bool false, .bool false, .int .i64 V3.s.mark, .int .i64 (k : Int), .bool false, .bool false, .bool false, .slice (some ⟨gi, 0, none⟩) (256 * k) ci, .slice pa (256 * (pm - 2)) pc, .int .i64 (((256 * (pm - 2)) : Nat) : Int), .int .i64 ((512 + 256 * (pm - 2) : Nat) : Int), .slice (some ⟨gi, 512, none⟩) (256 * (pm - 2)) (ci - 512), .slice pa (256 * (pm - 2)) pc, .bool true, .bool false, .bool false, .slice (some ⟨gi, 0, none⟩) (256 * k) ci, .int .i64 V3.s.mark, .int .i64 ((256 * mk' : Nat) : Int), .slice (some ⟨gi, 512, none⟩) (256 * mk' - 512) (ci - 512), .slice a1 (256 * (mk' - 2)) c1], rfl, (by first | exact hB3 | exact hB2), ⟨by have := hkept.que; first | (rw [hq3]; exact Nat.zero_le _) | omega, by omega, hpk⟩, (by have := hkept.gen; omega), ⟨by omega, by omega⟩, (M40.arr [1, 2, 4, 0] (by decide))⟩, ?_⟩
        simp [intOf]; omega
      · obtain ⟨hkept, ⟨_, hB2, harm⟩ | ⟨he2, _⟩⟩ := hout
        rotate_left
        · omega
        refine pl M24 (y_eql (b := false) rfl rfl rfl rfl (decide_eq_false h29)) ?_
        simp only [Act.put, z1, z2, z3]
        refine wpList_nil ?_
        refine hK28 _ _ ?_
        clear hK28
        refine wp_cond_false rfl ?_
        refine wp_skip ?_
        refine hK27 _ _ ?_
        clear hK27
        refine wp_seq_k (fun K41 hK41 => ?_)
        refine wp_region_lit ?_
        refine pl M24 (y_move (v := .pointer (some ⟨p, 0, none⟩)) rfl rfl rfl) ?_
        simp only [Act.put, z1, z2, z3]
        have hpk : E.pages.length = k := by have := hkept.pages; omega
        have hmk : B.mark ≤ B2.mark := by have := hkept.mark; omega
        have hold : durB B2.ps pm = durB B.ps pm := durB_eq pm fun n h1 h2 => by have := hkept.old n h1 (by omega); exact this
        obtain ⟨mk', hmk'⟩ : ∃ x : Nat, V2.s.mark = (x : Int) := Int.eq_ofNat_of_zero_le (by have := hB2.inv.plat.mark2; omega)
        have hm2 := hB2.inv.plat.mark2
        have hmp := hB2.inv.plat.markp
        have hmb := hB2.mark
        have himg := hB2.inv.plat.image pm hpm.1 (by omega)
        have hlen1 := hB2.inv.plat.good_len pm (by omega)
        have himg2 := hB2.inv.plat.image mk' (by omega) (by omega)
        have hlen2 := hB2.inv.plat.good_len mk' (by omega)
        have hfl := flat_length _ hB2.inv.ok.len
        rw [hold] at himg hlen1
        have hfl2 : E.pages.flatten.length = 256 * k := by rw [hfl, hpk]
        have hX42 : Mem w [] w24 ([disk E p pg mb qv2] ++ [blk f 96 (fC V2 p), book B2 b bx2, bytesL (.slice pa (256 * (pm - 2)) pc) (durB B.ps pm)]) := M24.arr [0, 1, 2, 3] (by decide)
        refine pe rfl (fun K hK => ?_)
        refine e_call 30 [.pointer (some ⟨p, 0, none⟩)] rfl rfl Try.call30 (image_fit (Mem.here (L := [disk E p pg mb qv2]) (R := [blk f 96 (fC V2 p), book B2 b bx2, bytesL (.slice pa (256 * (pm - 2)) pc) (durB B.ps pm)]) hX42) hpk (by omega)) ?_
        rintro e w42 ⟨gi, ci, rfl, H42, hci, hcm⟩
        have M42 : Mem w [] w42 [disk E p pg mb qv2, lst 5 1 (.slice (some ⟨gi, 0, none⟩) (256 * k) ci) (256 * k) (bvs E.pages.flatten), blk f 96 (fC V2 p), book B2 b bx2, bytesL (.slice pa (256 * (pm - 2)) pc) (durB B.ps pm)] := Mem.frame (Pre := [disk E p pg mb qv2]) (Post := [disk E p pg mb qv2, lst 5 1 (.slice (some ⟨gi, 0, none⟩) (256 * k) ci) (256 * k) (bvs E.pages.flatten)]) (R := [blk f 96 (fC V2 p), book B2 b bx2, bytesL (.slice pa (256 * (pm - 2)) pc) (durB B.ps pm)]) hX42 H42
        refine ⟨_, rfl, ?_⟩
        refine hK.out _ _ ?_
        clear hK K
        simp only [Act.put, z1, z2, z3]
        refine pl M42 (y_assign (v := .slice (some ⟨gi, 0, none⟩) (256 * k) ci) rfl rfl rfl) ?_
        simp only [Act.put, z1, z2, z3]
        refine wpList_nil ?_
        refine hK41 _ _ ?_
        clear hK41
        refine wp_seq_k (fun K43 hK43 => ?_)
        refine wp_region_lit ?_
        refine pl M42 (y_move (v := .pointer (some ⟨f, 0, none⟩)) rfl rfl rfl) ?_
        simp only [Act.put, z1, z2, z3]
        have hX44 : Mem w [] w42 ([disk E p pg mb qv2, blk f 96 (fC V2 p)] ++ [lst 5 1 (.slice (some ⟨gi, 0, none⟩) (256 * k) ci) (256 * k) (bvs E.pages.flatten), book B2 b bx2, bytesL (.slice pa (256 * (pm - 2)) pc) (durB B.ps pm)]) := M42.arr [0, 2, 1, 3, 4] (by decide)
        refine pe rfl (fun K hK => ?_)
        refine e_call 19 [.pointer (some ⟨f, 0, none⟩)] rfl rfl Try.call19 (super_any (Mem.here (L := [disk E p pg mb qv2, blk f 96 (fC V2 p)]) (R := [lst 5 1 (.slice (some ⟨gi, 0, none⟩) (256 * k) ci) (256 * k) (bvs E.pages.flatten), book B2 b bx2, bytesL (.slice pa (256 * (pm - 2)) pc) (durB B.ps pm)]) hX44)) ?_
        rintro e w44 ⟨rfl, H44⟩
        have M44 : Mem w [] w44 [disk E p pg mb qv2, blk f 96 (fC V2 p), lst 5 1 (.slice (some ⟨gi, 0, none⟩) (256 * k) ci) (256 * k) (bvs E.pages.flatten), book B2 b bx2, bytesL (.slice pa (256 * (pm - 2)) pc) (durB B.ps pm)] := Mem.frame (Pre := [disk E p pg mb qv2, blk f 96 (fC V2 p)]) (Post := [disk E p pg mb qv2, blk f 96 (fC V2 p)]) (R := [lst 5 1 (.slice (some ⟨gi, 0, none⟩) (256 * k) ci) (256 * k) (bvs E.pages.flatten), book B2 b bx2, bytesL (.slice pa (256 * (pm - 2)) pc) (durB B.ps pm)]) hX44 H44
        refine ⟨_, rfl, ?_⟩
        refine hK.out _ _ ?_
        clear hK K
        simp only [Act.put, z1, z2, z3]
        refine pl M44 (y_field1 (v := .int .i64 V2.s.mark) rfl rfl rfl Try.underlying37 rfl Try.isAgg3 rfl) ?_
        simp only [Act.put, z1, z2, z3]
        refine pl M44 (y_assign (v := .int .i64 V2.s.mark) rfl rfl rfl) ?_
        simp only [Act.put, z1, z2, z3]
        refine wpList_nil ?_
        refine hK43 _ _ ?_
        clear hK43
        refine wp_seq_k (fun K45 hK45 => ?_)
        refine wp_seq_k (fun K46 hK46 => ?_)
        refine wp_region_lit ?_
        refine pl M44 (y_move (v := .slice (some ⟨gi, 0, none⟩) (256 * k) ci) rfl rfl rfl) ?_
        simp only [Act.put, z1, z2, z3]
        refine pl M44 (y_len rfl rfl rfl Try.underlying22) ?_
        simp only [Act.put, z1, z2, z3]
        refine pl M44 (y_move (v := .int .i64 (k : Int)) rfl rfl rfl) ?_
        simp only [Act.put, z1, z2, z3]
        refine pl M44 (y_mul (r := 256 * (k : Int)) rfl rfl rfl rfl (rfl) (by omega)) ?_
        simp only [Act.put, z1, z2, z3]
        refine pl M44 (y_neq (b := false) rfl rfl rfl rfl (by rw [decide_eq_true (by omega)]; rfl)) ?_
        simp only [Act.put, z1, z2, z3]
        refine pl M44 (y_move (v := .bool false) rfl rfl rfl) ?_
        simp only [Act.put, z1, z2, z3]
        refine pl M44 (y_move (v := .int .i64 V2.s.mark) rfl rfl rfl) ?_
        simp only [Act.put, z1, z2, z3]
        refine pl M44 (y_lss (b := false) rfl rfl rfl rfl (decide_eq_false (by omega))) ?_
        simp only [Act.put, z1, z2, z3]
        refine pl M44 (y_pickF (v := .bool false) rfl rfl rfl rfl) ?_
        simp only [Act.put, z1, z2, z3]
        refine pl M44 (y_move (v := .bool false) rfl rfl rfl) ?_
        simp only [Act.put, z1, z2, z3]
        refine pl M44 (y_move (v := .int .i64 V2.s.mark) rfl rfl rfl) ?_
        simp only [Act.put, z1, z2, z3]
        refine pl M44 (y_move (v := .int .i64 (k : Int)) rfl rfl rfl) ?_
        simp only [Act.put, z1, z2, z3]
        refine pl M44 (y_gtr (b := false) rfl rfl rfl rfl (decide_eq_false (by omega))) ?_
        simp only [Act.put, z1, z2, z3]
        refine pl M44 (y_pickF (v := .bool false) rfl rfl rfl rfl) ?_
        simp only [Act.put, z1, z2, z3]
        refine pl M44 (y_move (v := .bool false) rfl rfl rfl) ?_
        simp only [Act.put, z1, z2, z3]
        refine pl M44 (y_move (v := .slice (some ⟨gi, 0, none⟩) (256 * k) ci) rfl rfl rfl) ?_
        simp only [Act.put, z1, z2, z3]
        refine pl M44 (y_move (v := .slice pa (256 * (pm - 2)) pc) rfl rfl rfl) ?_
        simp only [Act.put, z1, z2, z3]
        refine pl M44 (y_len rfl rfl rfl Try.underlying22) ?_
        simp only [Act.put, z1, z2, z3]
        refine pl M44 (y_add (r := ((512 + 256 * (pm - 2) : Nat) : Int)) rfl rfl rfl rfl (by omega) (by omega)) ?_
        simp only [Act.put, z1, z2, z3]
        refine pl M44 (y_sls (l := 512) (h := 512 + 256 * (pm - 2)) (r := 512) (n' := 256 * (pm - 2)) (c' := ci - 512) rfl rfl rfl rfl rfl Try.underlying22 Try.sizeOf5 (by exact ⟨⟨_, _, rfl, by omega, by omega⟩, ⟨_, _, rfl, by omega, by omega⟩⟩) (by rw [if_neg (by omega)]) (by omega) (by omega)) ?_
        simp only [Act.put, z1, z2, z3]
        refine pl M44 (y_move (v := .slice pa (256 * (pm - 2)) pc) rfl rfl rfl) ?_
        simp only [Act.put, z1, z2, z3]
        refine pe rfl (fun K hK => ?_)
        refine e_call 35 [.slice (some ⟨gi, 512, none⟩) (256 * (pm - 2)) (ci - 512), .slice pa (256 * (pm - 2)) pc] rfl rfl Try.call35 (same_any _ _ _ _ _ _ (durB B.ps pm) (durB B.ps pm) _ (by have N := ((lst_row (M44.get 2 rfl)).drop 512 (by omega)).take (256 * (pm - 2)) (by omega); rw [himg] at N; rw [Nat.zero_add] at N; exact N) (by have N := bytesL_row (l := durB B.ps pm) (n := 256 * (pm - 2)) (M44.get 4 rfl); rw [hlen1] at N; exact N) (by unfold maxLen; omega) (by unfold maxLen; omega)) ?_
        rintro e w47 ⟨rfl, H47⟩
        have M47 : Mem w [] w47 [disk E p pg mb qv2, blk f 96 (fC V2 p), lst 5 1 (.slice (some ⟨gi, 0, none⟩) (256 * k) ci) (256 * k) (bvs E.pages.flatten), book B2 b bx2, bytesL (.slice pa (256 * (pm - 2)) pc) (durB B.ps pm)] := M44.step H47
        rw [(eqB_true rfl)]
        refine ⟨_, rfl, ?_⟩
        refine hK.out _ _ ?_
        clear hK K
        simp only [Act.put, z1, z2, z3]
        refine pl M47 (y_not rfl rfl rfl rfl) ?_
        simp only [Act.put, z1, z2, z3]
        refine pl M47 (y_pickF (v := .bool false) rfl rfl rfl rfl) ?_
        simp only [Act.put, z1, z2, z3]
        refine wpList_nil ?_
        refine hK46 _ _ ?_
        clear hK46
        refine wp_cond_false rfl ?_
        refine wp_skip ?_
        refine hK45 _ _ ?_
        clear hK45
        refine wp_region_lit ?_
        refine pl M47 (y_move (v := .slice (some ⟨gi, 0, none⟩) (256 * k) ci) rfl rfl rfl) ?_
        simp only [Act.put, z1, z2, z3]
        refine pl M47 (y_move (v := .int .i64 V2.s.mark) rfl rfl rfl) ?_
        simp only [Act.put, z1, z2, z3]
        refine pl M47 (y_mul (r := ((256 * mk' : Nat) : Int)) rfl rfl rfl rfl (by omega) (by omega)) ?_
        simp only [Act.put, z1, z2, z3]
        refine pl M47 (y_sls (l := 512) (h := 256 * mk') (r := 512) (n' := 256 * mk' - 512) (c' := ci - 512) rfl rfl rfl rfl rfl Try.underlying22 Try.sizeOf5 (by exact ⟨⟨_, _, rfl, by omega, by omega⟩, ⟨_, _, rfl, by omega, by omega⟩⟩) (by rw [if_neg (by omega)]) (by omega) (by omega)) ?_
        simp only [Act.put, z1, z2, z3]
        refine pe rfl (fun K hK => ?_)
        refine e_call 32 [.slice (some ⟨gi, 512, none⟩) (256 * mk' - 512) (ci - 512)] rfl rfl Try.call32 ((by have N := copy_any (some ⟨gi, 512, none⟩) (256 * mk' - 512) (ci - 512) (durB B2.ps mk') _ (by have N := ((lst_row (M47.get 2 rfl)).drop 512 (by omega)).take (256 * (mk' - 2)) (by omega); rw [himg2] at N; rw [Nat.zero_add] at N; rw [show 256 * mk' - 512 = 256 * (mk' - 2) by omega]; exact N) (by omega); rw [hlen2] at N; exact N)) ?_
        rintro e w48 ⟨a1, c1, rfl, H48⟩
        have M48 : Mem w [] w48 [bytesL (.slice a1 (256 * (mk' - 2)) c1) (durB B2.ps mk'), disk E p pg mb qv2, blk f 96 (fC V2 p), lst 5 1 (.slice (some ⟨gi, 0, none⟩) (256 * k) ci) (256 * k) (bvs E.pages.flatten), book B2 b bx2, bytesL (.slice pa (256 * (pm - 2)) pc) (durB B.ps pm)] := M47.step H48
        refine ⟨_, rfl, ?_⟩
        refine hK.out _ _ ?_
        clear hK K
        simp only [Act.put, z1, z2, z3]
        refine pl M48 (y_assign (v := .slice a1 (256 * (mk' - 2)) c1) rfl rfl rfl) ?_
        simp only [Act.put, z1, z2, z3]
        refine wpList_nil ?_
        refine hK22 _ _ ?_
        clear hK22
        refine wp_region_lit ?_
        refine pl M48 (y_move (v := .int .i64 (i : Int)) rfl rfl rfl) ?_
        simp only [Act.put, z1, z2, z3]
        refine pl M48 (y_add (r := (i : Int) + 1) rfl rfl rfl rfl (rfl) (by omega)) ?_
        simp only [Act.put, z1, z2, z3]
        refine pl M48 (y_assign (v := .int .i64 ((i : Int) + 1)) rfl rfl rfl) ?_
        simp only [Act.put, z1, z2, z3]
        refine wpList_nil ?_
        refine ⟨⟨i + 1, f, E, V2, B2, qv2, bx2, mk', a1, c1, [(us16.getD 0 undef), .int .i64 er, .bool true, .slice (some ⟨gi, 0, none⟩) (256 * k) ci, .int .i64 V2.s.mark, .int .i64 (i : Int), .slice aa an ac, .int .i64 (an : Int), .bool true, .bool true, .int .i64 (i : Int), .bool true, .bool true, .int .i64 (i : Int), .int .i64 ((i : Int) + 1), .tuple #[.int .i64 er, .bool true], .pointer (some ⟨b, 0, none⟩), .pointer (some ⟨p, 0, none⟩), .pointer (some ⟨f, 0, none⟩), .slice aa an ac, .int .i64 (i : Int), .pointer (some ⟨ga, oa + i * 3, none⟩), .agg ((actC a)).toArray, .tuple #[.int .i64 er, .bool true], .int .i64 er, .bool true, .bool true, .bool false, .int .i64 er, .bool false, (us16.getD 30 undef), (us16.getD 31 undef), (us16.getD 32 undef), (us16.getD 33 undef), (us16.getD 34 undef), (us16.getD 35 undef), .pointer (some ⟨p, 0, none⟩), .slice (some ⟨gi, 0, none⟩) (256 * k) ci, .pointer (some ⟨f, 0, none⟩), .agg ((supC V2.s)).toArray, .int .i64 V2.s.mark, .slice (some ⟨gi, 0, none⟩) (256 * k) ci, .int .i64 ((256 * k : Nat) : Int), .int .i64 (k : Int), .int .i64 (256 * (k : Int)), .bool false, .bool false, .int .i64 V2.s.mark, .bool false, .bool false, .bool false, .int .i64 V2.s.mark, .int .i64 (k : Int), .bool false, .bool false, .bool false, .slice (some ⟨gi, 0, none⟩) (256 * k) ci, .slice pa (256 * (pm - 2)) pc, .int .i64 (((256 * (pm - 2)) : Nat) : Int), .int .i64 ((512 + 256 * (pm - 2) : Nat) : Int), .slice (some ⟨gi, 512, none⟩) (256 * (pm - 2)) (ci - 512), .slice pa (256 * (pm - 2)) pc, .bool true, .bool false, .bool false, .slice (some ⟨gi, 0, none⟩) (256 * k) ci, .int .i64 V2.s.mark, .int .i64 ((256 * mk' : Nat) : Int), .slice (some ⟨gi, 512, none⟩) (256 * mk' - 512) (ci - 512), .slice a1 (256 * (mk' - 2)) c1], rfl, (by first | exact hB3 | exact hB2), ⟨by have := hkept.que; first | (rw [hq3]; exact Nat.zero_le _) | omega, by omega, hpk⟩, (by have := hkept.gen; omega), ⟨by omega, by omega⟩, (M48.arr [1, 2, 4, 0] (by decide))⟩, ?_⟩
        simp [intOf]; omega
    · refine pl M17 (y_lss (b := false) rfl rfl rfl rfl (decide_eq_false h21)) ?_
      simp only [Act.put, z1, z2, z3]
      refine pl M17 (y_pickT (v := .bool false) rfl rfl rfl rfl) ?_
      simp only [Act.put, z1, z2, z3]
      refine wpList_nil ?_
      refine hK19 _ _ ?_
      clear hK19
      refine wp_cond_false rfl ?_
      refine wp_exit ?_
      refine hK14 _ _ ?_
      clear hK14
      refine wp_seq_k (fun K49 hK49 => ?_)
      refine wp_region_lit ?_
      refine pl M17 (y_assign (v := .bool true) rfl rfl rfl) ?_
      simp only [Act.put, z1, z2, z3]
      refine wpList_nil ?_
      refine hK49 _ _ ?_
      clear hK49
      refine wp_ret ?_
      try simp only [Exit.inBlock, Exit.then]
      refine bodyPost_ret (v := .bool true) (res1 rfl rfl) rfl ?_
      exact ⟨rfl, M17.arr [] (by decide)⟩
  · refine pl M17 (y_lss (b := false) rfl rfl rfl rfl (decide_eq_false h20)) ?_
    simp only [Act.put, z1, z2, z3]
    refine pl M17 (y_move (v := .bool false) rfl rfl rfl) ?_
    simp only [Act.put, z1, z2, z3]
    with_reducible refine pskip ?_ ?_
    · rfl
    simp only [Act.put, z1, z2, z3]
    with_reducible refine pskip ?_ ?_
    · rfl
    simp only [Act.put, z1, z2, z3]
    refine pl M17 (y_pickF (v := .bool false) rfl rfl rfl rfl) ?_
    simp only [Act.put, z1, z2, z3]
    refine wpList_nil ?_
    refine hK19 _ _ ?_
    clear hK19
    refine wp_cond_false rfl ?_
    refine wp_exit ?_
    refine hK14 _ _ ?_
    clear hK14
    refine wp_seq_k (fun K50 hK50 => ?_)
    refine wp_region_lit ?_
    refine pl M17 (y_assign (v := .bool true) rfl rfl rfl) ?_
    simp only [Act.put, z1, z2, z3]
    refine wpList_nil ?_
    refine hK50 _ _ ?_
    clear hK50
    refine wp_ret ?_
    try simp only [Exit.inBlock, Exit.then]
    refine bodyPost_ret (v := .bool true) (res1 rfl rfl) rfl ?_
    exact ⟨rfl, M17.arr [] (by decide)⟩
theorem stands_walk {w : World} (pages width : Int) (aa : Option Addr) (an ac : Nat) (avs : List AV) (hacts : ListIn actC 3 w aa an avs) (hok : ∀ a ∈ avs, ActIn w a) (han : an ≤ 4611686018427387904) (fa : Option Addr) (fn fc : Nat) (fl : List UInt8) (hfr : Row w fa fn fl) (hfn : fn ≤ 140737488351232) : Calls Try.prog 8 #[.int .i64 pages, .int .i64 width, .slice aa an ac, .slice fa fn fc] w fun e w' => e = .returned (.bool true) ∧ Below w.heap.size w w' := by
  have fin : Calls Try.prog 8 #[.int .i64 pages, .int .i64 width, .slice aa an ac, .slice fa fn fc] w (fun e w' => e = .returned (.bool true) ∧ Mem w [] w' []) := by
    by_cases hf : Fits pages width
    · obtain ⟨h1, h2, h3, h4⟩ := hf
      obtain ⟨k, rfl⟩ := Int.eq_ofNat_of_zero_le (show 0 ≤ pages by omega)
      exact stands_fit k width ⟨by omega, by omega⟩ ⟨h3, h4⟩ aa an ac avs hacts hok han fa fn fc fl hfr hfn
    · exact stands_nofit pages width aa an ac fa fn fc hf w
  refine fin.mono ?_
  rintro e w' ⟨rfl, h⟩
  exact ⟨rfl, h.below⟩
end Go.Proofs.Ytehnnnohoaapdaa
