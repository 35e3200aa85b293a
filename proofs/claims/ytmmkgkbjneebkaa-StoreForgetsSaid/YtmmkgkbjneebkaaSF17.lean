/- Texts joined: Store2, Store3, Store4, Store5. -/
import Derived.Test.YtmmkgkbjneebkaaSF16
import Derived.Test.YtmmkgkbjneebkaaSF05
/- The store: New. -/
namespace Go.Proofs.Ytmmkgkbjneebkaa
set_option linter.unusedSectionVars false
open Go Go.RowKit
set_option linter.unusedVariables false
set_option linter.unusedSimpArgs false
def newC (room : Int) : CS := ⟨room, [], [], 0, 0, 0⟩
def newCells (room : Int) (mb : Nat) : List Value := [.int .i64 room, .map (some mb), .int .i64 0, .int .i64 0, .slice none 0 0, .bool false, .pointer none, .pointer none, .int .i64 0, .int .i64 0, .int .i64 0, .slice none 0 0, .bool false, .pointer none, .pointer none, .int .i64 0, .int .i64 0, .int .i64 0, .int .i64 0]
def HM.cst (C : List Value) : HM := fun _ => C
def newM (c : Nat) (C : List Value) : HM := (((((HM.cst C).wr c (2 + 5) (pt (c, 2))).wr c (2 + 4) (pt (c, 2))).wr c (9 + 5) (pt (c, 9))).wr c (9 + 4) (pt (c, 9)))
theorem newM_at (c : Nat) (C : List Value) : newM c C c = (((C.set 7 (pt (c, 2))).set 6 (pt (c, 2))).set 14 (pt (c, 9))).set 13 (pt (c, 9)) := by
  simp only [newM, HM.cst, HM.wr, ↓reduceIte]
theorem new_inv (room : Int) (c mb : Nat) (h : 0 ≤ room ∧ room ≤ 4096) : CInv (newC room) [] c mb ⟨[(c, TC)], newM c (newCells room mb), 0, fun _ => none⟩ := by
  have rd : ∀ o, (newM c (newCells room mb)).rd c o = ((((((newCells room mb).set 7 (pt (c, 2))).set 6 (pt (c, 2))).set 14 (pt (c, 9))).set 13 (pt (c, 9))) : List Value)[o]? := fun o => by
    unfold HM.rd; rw [newM_at]
  have r0 : KIn 0 := by constructor <;> decide
  refine ⟨⟨List.nodup_nil, fun e he => (by cases he), ?_, ⟨⟨?_, ?_⟩, trivial⟩, ⟨⟨?_, ?_⟩, trivial⟩, ?_, ?_, fun e he => (by cases he)⟩, List.mem_cons_self .., fun e he => (by cases he), List.nodup_nil, fun e he => (by cases he), fun e he => (by cases he), fun k _ => rfl, ?_, ?_, ?_, ?_, ?_, h, r0, r0, r0⟩
  · show (newM c _ c).length = 19
    rw [newM_at]; rfl
  all_goals (first | exact (rd _).trans rfl)
theorem vault_nil {w0 w : World} {F : List Nat} {R : List Asn} (h : Mem w0 F w R) : Mem w0 F w (vault [] :: R) := Mem.close (X := []) trivial h
set_option maxRecDepth 100000 in
set_option maxHeartbeats 4000000 in
theorem cnew_any (room : Int) (hr : 0 ≤ room ∧ room ≤ 4096) (w : World) : Calls Try.prog 52 #[.int .i64 room] w fun e' w' => ∃ c mb x, e' = .returned (.pointer (some ⟨c, 0, none⟩)) ∧ x.n = 0 ∧ Mem w [] w' [cache (newC room) c mb x] := by
  have M := Mem.nil w
  go_enter Try.func52, Try.ntmps52
  refine wp_seq_k (fun K1 hK1 => ?_)
  refine wp_region_lit ?_
  refine pl M (y_assign (v := .pointer none) rfl rfl rfl) ?_
  simp only [Act.put, zq1, zq2, zq3]
  refine wpList_nil ?_
  refine hK1 _ _ ?_
  clear hK1
  refine wp_seq_k (fun K2 hK2 => ?_)
  refine wp_region_lit ?_
  refine pl M (y_move (v := .int .i64 room) rfl rfl rfl) ?_
  simp only [Act.put, zq1, zq2, zq3]
  refine pl M (y_max (r := room) rfl rfl rfl rfl (by split <;> omega)) ?_
  simp only [Act.put, zq1, zq2, zq3]
  refine pl M (y_min (r := room) rfl rfl rfl rfl (by split <;> omega)) ?_
  simp only [Act.put, zq1, zq2, zq3]
  refine pe rfl (fun K hK => ?_)
  refine e_mmake (kt := 3) M rfl ?_
  intro g3 w4 (M4 : Mem w [] w4 [mapr Try.prog 3 g3 0 (fun _ => none)])
  clear M
  refine hK.out _ _ ?_
  clear hK K
  simp only [Act.put, zq1, zq2, zq3]
  refine pl M4 (y_build (ps := [(0, .tmp 6), (1, .tmp 7)]) (pv := [(0, .int .i64 room), (1, .map (some g3))]) (cs := newCells room g3) rfl rfl rfl (by kernel_rfl)) ?_
  simp only [Act.put, zq1, zq2, zq3]
  refine pe rfl (fun K hK => ?_)
  refine e_box M4 (newCells room g3) rfl rfl ?_
  intro c w5 (M5 : Mem w [] w5 [blk c 160 (newCells room g3), mapr Try.prog 3 g3 0 (fun _ => none)])
  clear M4
  refine hK.out _ _ ?_
  clear hK K
  simp only [Act.put, zq1, zq2, zq3]
  have M6 : Mem w [] w5 [hmap ([(c, 160)]) (HM.cst (newCells room g3)), mapr Try.prog 3 g3 0 (fun _ => none)] := Mem.hone (M5.arr [0, 1] (by decide))
  clear M5
  refine pl M6 (y_assign (v := .pointer (some ⟨c, 0, none⟩)) rfl rfl rfl) ?_
  simp only [Act.put, zq1, zq2, zq3]
  refine wpList_nil ?_
  refine hK2 _ _ ?_
  clear hK2
  refine wp_seq_k (fun K7 hK7 => ?_)
  refine wp_region_lit ?_
  refine pl M6 (y_move (v := .pointer (some ⟨c, 0, none⟩)) rfl rfl rfl) ?_
  simp only [Act.put, zq1, zq2, zq3]
  refine pl M6 (y_nil rfl rfl rfl) ?_
  simp only [Act.put, zq1, zq2, zq3]
  refine pl M6 (y_fa (r := 2) rfl rfl rfl Try.underlying160 rfl Try.sizeOf158 rfl) ?_
  simp only [Act.put, zq1, zq2, zq3]
  have hX8 : Mem w [] w5 ([hmap ([(c, 160)]) (HM.cst (newCells room g3))] ++ [mapr Try.prog 3 g3 0 (fun _ => none)]) := M6.arr [0, 1] (by decide)
  refine pe rfl (fun K hK => ?_)
  refine e_call 81 [.pointer (some ⟨c, 2, none⟩)] rfl rfl Try.call81 (start_any (ro := 2) (List.mem_cons_self ..) (HM.rd_lt (by (try simp only [HM.len_wr]); show _ < 19; decide)) (HM.rd_lt (by (try simp only [HM.len_wr]); show _ < 19; decide)) (Mem.here hX8)) ?_
  rintro e w8 ⟨rfl, H8⟩
  have M8 : Mem w [] w8 [hmap ([(c, 160)]) (((HM.cst (newCells room g3)).wr c (2 + 5) (pt (c, 2))).wr c (2 + 4) (pt (c, 2))), mapr Try.prog 3 g3 0 (fun _ => none)] := Mem.frame hX8 H8
  refine ⟨_, rfl, ?_⟩
  refine hK.out _ _ ?_
  clear hK K
  simp only [Act.put, zq1, zq2, zq3]
  refine wpList_nil ?_
  refine hK7 _ _ ?_
  clear hK7
  refine wp_seq_k (fun K9 hK9 => ?_)
  refine wp_region_lit ?_
  refine pl M8 (y_move (v := .pointer (some ⟨c, 0, none⟩)) rfl rfl rfl) ?_
  simp only [Act.put, zq1, zq2, zq3]
  refine pl M8 (y_nil rfl rfl rfl) ?_
  simp only [Act.put, zq1, zq2, zq3]
  refine pl M8 (y_fa (r := 9) rfl rfl rfl Try.underlying160 rfl Try.sizeOf158 rfl) ?_
  simp only [Act.put, zq1, zq2, zq3]
  have hX10 : Mem w [] w8 ([hmap ([(c, 160)]) (((HM.cst (newCells room g3)).wr c (2 + 5) (pt (c, 2))).wr c (2 + 4) (pt (c, 2)))] ++ [mapr Try.prog 3 g3 0 (fun _ => none)]) := M8.arr [0, 1] (by decide)
  refine pe rfl (fun K hK => ?_)
  refine e_call 81 [.pointer (some ⟨c, 9, none⟩)] rfl rfl Try.call81 (start_any (ro := 9) (List.mem_cons_self ..) (HM.rd_lt (by (try simp only [HM.len_wr]); show _ < 19; decide)) (HM.rd_lt (by (try simp only [HM.len_wr]); show _ < 19; decide)) (Mem.here hX10)) ?_
  rintro e w10 ⟨rfl, H10⟩
  have M10 : Mem w [] w10 [hmap ([(c, 160)]) (((((HM.cst (newCells room g3)).wr c (2 + 5) (pt (c, 2))).wr c (2 + 4) (pt (c, 2))).wr c (9 + 5) (pt (c, 9))).wr c (9 + 4) (pt (c, 9))), mapr Try.prog 3 g3 0 (fun _ => none)] := Mem.frame hX10 H10
  refine ⟨_, rfl, ?_⟩
  refine hK.out _ _ ?_
  clear hK K
  simp only [Act.put, zq1, zq2, zq3]
  refine wpList_nil ?_
  refine hK9 _ _ ?_
  clear hK9
  refine wp_seq_k (fun K11 hK11 => ?_)
  refine wp_region_lit ?_
  refine pl M10 (y_move (v := .pointer (some ⟨c, 0, none⟩)) rfl rfl rfl) ?_
  simp only [Act.put, zq1, zq2, zq3]
  refine pl M10 (y_assign (v := .pointer (some ⟨c, 0, none⟩)) rfl rfl rfl) ?_
  simp only [Act.put, zq1, zq2, zq3]
  refine wpList_nil ?_
  refine hK11 _ _ ?_
  clear hK11
  refine wp_ret ?_
  try simp only [Exit.inBlock, Exit.then]
  refine bodyPost_ret (v := .pointer (some ⟨c, 0, none⟩)) (res1 rfl rfl) rfl ?_
  exact ⟨c, g3, ⟨[(c, TC)], newM c (newCells room g3), 0, fun _ => none⟩, rfl, rfl, cache_close ⟨new_inv room c g3 hr, fun e he => (by cases he), fun e he => (by cases he)⟩ (M10.arr [0, 1] (by decide))⟩
set_option maxRecDepth 100000 in
set_option maxHeartbeats 4000000 in
theorem snew_ok {D : DV} {V : FV} {f p pg mb : Nat} {qv : Value} {w : World} (hM : Mem w (foots [disk D p pg mb qv, blk f 117 (fC V p)]) w [disk D p pg mb qv, blk f 117 (fC V p)]) (room : Int) (hL : liveE D V = 0) (hr : ¬ room < 0) (hr2 : ¬ 4096 < room) (hmk : 2 ≤ V.s.mark ∧ V.s.mark ≤ 4096) : Calls Try.prog 13 #[.pointer (some ⟨f, 0, none⟩), .int .i64 room] w fun e' w' => ∃ s X, e' = .returned (.tuple #[.pointer (some ⟨s, 0, none⟩), .int .i64 0]) ∧ X.x.n = 0 ∧ Mem w (foots [disk D p pg mb qv, blk f 117 (fC V p)]) w' [disk D p pg mb qv, blk f 117 (fC { V with next := V.s.mark } p), sto (newC room) V.s.mark s f X] := by
  have M := hM
  clear hM
  go_enter Try.func13, Try.ntmps13
  refine wp_seq_k (fun K1 hK1 => ?_)
  refine wp_region_lit ?_
  refine pl M (y_assign (v := .pointer none) rfl rfl rfl) ?_
  simp only [Act.put, zq1, zq2, zq3]
  refine pl M (y_assign (v := .int .i64 0) rfl rfl rfl) ?_
  simp only [Act.put, zq1, zq2, zq3]
  refine wpList_nil ?_
  refine hK1 _ _ ?_
  clear hK1
  refine wp_seq_k (fun K2 hK2 => ?_)
  refine wp_seq_k (fun K3 hK3 => ?_)
  refine wp_region_lit ?_
  refine pl M (y_move (v := .pointer (some ⟨f, 0, none⟩)) rfl rfl rfl) ?_
  simp only [Act.put, zq1, zq2, zq3]
  refine pl M (y_eqnil (r := false) rfl rfl rfl rfl Try.underlying28 rfl) ?_
  simp only [Act.put, zq1, zq2, zq3]
  refine wpList_nil ?_
  refine hK3 _ _ ?_
  clear hK3
  refine wp_cond_false rfl ?_
  refine wp_skip ?_
  refine hK2 _ _ ?_
  clear hK2
  refine wp_seq_k (fun K4 hK4 => ?_)
  refine wp_seq_k (fun K5 hK5 => ?_)
  refine wp_region_lit ?_
  refine pl M (y_move (v := .pointer (some ⟨f, 0, none⟩)) rfl rfl rfl) ?_
  simp only [Act.put, zq1, zq2, zq3]
  have hX6 : Mem w _ w ([disk D p pg mb qv, blk f 117 (fC V p)] ++ []) := M.arr [0, 1] (by decide)
  refine pe rfl (fun K hK => ?_)
  refine e_call 49 [.pointer (some ⟨f, 0, none⟩)] rfl rfl Try.call49 (live_any (Mem.here hX6)) ?_
  rintro e w6 ⟨rfl, H6⟩
  have M6 : Mem w _ w6 [disk D p pg mb qv, blk f 117 (fC V p)] := Mem.frame hX6 H6
  refine ⟨_, rfl, ?_⟩
  refine hK.out _ _ ?_
  clear hK K
  simp only [Act.put, zq1, zq2, zq3]
  refine pl M6 (y_assign (v := .int .i64 (liveE D V)) rfl rfl rfl) ?_
  simp only [Act.put, zq1, zq2, zq3]
  refine wpList_nil ?_
  refine hK5 _ _ ?_
  clear hK5
  refine wp_seq_k (fun K7 hK7 => ?_)
  refine wp_region_lit ?_
  refine pl M6 (y_move (v := .int .i64 (liveE D V)) rfl rfl rfl) ?_
  simp only [Act.put, zq1, zq2, zq3]
  refine pl M6 (y_neq (b := false) rfl rfl rfl rfl (by rw [decide_eq_true hL]; rfl)) ?_
  simp only [Act.put, zq1, zq2, zq3]
  refine wpList_nil ?_
  refine hK7 _ _ ?_
  clear hK7
  refine wp_cond_false rfl ?_
  refine wp_skip ?_
  refine hK4 _ _ ?_
  clear hK4
  refine wp_seq_k (fun K8 hK8 => ?_)
  refine wp_seq_k (fun K9 hK9 => ?_)
  refine wp_region_lit ?_
  refine pl M6 (y_move (v := .int .i64 room) rfl rfl rfl) ?_
  simp only [Act.put, zq1, zq2, zq3]
  refine pl M6 (y_lss (b := false) rfl rfl rfl rfl (decide_eq_false hr)) ?_
  simp only [Act.put, zq1, zq2, zq3]
  refine pl M6 (y_move (v := .bool false) rfl rfl rfl) ?_
  simp only [Act.put, zq1, zq2, zq3]
  refine pl M6 (y_move (v := .int .i64 room) rfl rfl rfl) ?_
  simp only [Act.put, zq1, zq2, zq3]
  refine pl M6 (y_gtr (b := false) rfl rfl rfl rfl (decide_eq_false hr2)) ?_
  simp only [Act.put, zq1, zq2, zq3]
  refine pl M6 (y_pickF (v := .bool false) rfl rfl rfl rfl) ?_
  simp only [Act.put, zq1, zq2, zq3]
  refine wpList_nil ?_
  refine hK9 _ _ ?_
  clear hK9
  refine wp_cond_false rfl ?_
  refine wp_skip ?_
  refine hK8 _ _ ?_
  clear hK8
  refine wp_seq_k (fun K10 hK10 => ?_)
  refine wp_region_lit ?_
  refine pl M6 (y_move (v := .pointer (some ⟨f, 0, none⟩)) rfl rfl rfl) ?_
  simp only [Act.put, zq1, zq2, zq3]
  have hX11 : Mem w _ w6 ([disk D p pg mb qv, blk f 117 (fC V p)] ++ []) := M6.arr [0, 1] (by decide)
  refine pe rfl (fun K hK => ?_)
  refine e_call 50 [.pointer (some ⟨f, 0, none⟩)] rfl rfl Try.call50 (forget_any (Mem.here hX11)) ?_
  rintro e w11 ⟨rfl, H11⟩
  have M11 : Mem w _ w11 [disk D p pg mb qv, blk f 117 (fC ({ V with next := V.s.mark } : FV) p)] := Mem.frame hX11 H11
  refine ⟨_, rfl, ?_⟩
  refine hK.out _ _ ?_
  clear hK K
  simp only [Act.put, zq1, zq2, zq3]
  refine wpList_nil ?_
  refine hK10 _ _ ?_
  clear hK10
  refine wp_seq_k (fun K12 hK12 => ?_)
  refine wp_region_lit ?_
  refine pl M11 (y_move (v := .pointer (some ⟨f, 0, none⟩)) rfl rfl rfl) ?_
  simp only [Act.put, zq1, zq2, zq3]
  refine pl M11 (y_move (v := .pointer (some ⟨f, 0, none⟩)) rfl rfl rfl) ?_
  simp only [Act.put, zq1, zq2, zq3]
  refine pl M11 (y_func (fv := [.pointer (some ⟨f, 0, none⟩)]) (cv := []) rfl rfl rfl rfl) ?_
  simp only [Act.put, zq1, zq2, zq3]
  refine pl M11 (y_move (v := .int .i64 room) rfl rfl rfl) ?_
  simp only [Act.put, zq1, zq2, zq3]
  refine pe rfl (fun K hK => ?_)
  refine e_call 52 [.int .i64 room] rfl rfl Try.call52 (cnew_any room ⟨by omega, by omega⟩ _) ?_
  rintro e w13 ⟨c, cm, cx, rfl, hcx, H13⟩
  have M13 : Mem w _ w13 [cache (newC room) c cm cx, disk D p pg mb qv, blk f 117 (fC ({ V with next := V.s.mark } : FV) p)] := M11.step H13
  refine ⟨_, rfl, ?_⟩
  refine hK.out _ _ ?_
  clear hK K
  simp only [Act.put, zq1, zq2, zq3]
  refine pl M13 (y_build (ps := [(0, .tmp 22), (1, .tmp 24), (2, .tmp 26)]) (pv := [(0, .pointer (some ⟨f, 0, none⟩)), (1, .func (.func 51) #[.pointer (some ⟨f, 0, none⟩)] #[]), (2, .pointer (some ⟨c, 0, none⟩))]) (cs := [.pointer (some ⟨f, 0, none⟩), .func (.func 51) #[.pointer (some ⟨f, 0, none⟩)] #[], .pointer (some ⟨c, 0, none⟩), .slice none 0 0]) rfl rfl rfl (by kernel_rfl)) ?_
  simp only [Act.put, zq1, zq2, zq3]
  refine pe rfl (fun K hK => ?_)
  refine e_box M13 ([.pointer (some ⟨f, 0, none⟩), .func (.func 51) #[.pointer (some ⟨f, 0, none⟩)] #[], .pointer (some ⟨c, 0, none⟩), .slice none 0 0]) rfl rfl ?_
  intro s w14 (M14 : Mem w _ w14 [blk s 124 ([.pointer (some ⟨f, 0, none⟩), .func (.func 51) #[.pointer (some ⟨f, 0, none⟩)] #[], .pointer (some ⟨c, 0, none⟩), .slice none 0 0]), cache (newC room) c cm cx, disk D p pg mb qv, blk f 117 (fC ({ V with next := V.s.mark } : FV) p)])
  clear M13
  refine hK.out _ _ ?_
  clear hK K
  simp only [Act.put, zq1, zq2, zq3]
  refine pl M14 (y_assign (v := .pointer (some ⟨s, 0, none⟩)) rfl rfl rfl) ?_
  simp only [Act.put, zq1, zq2, zq3]
  refine pl M14 (y_assign (v := .int .i64 0) rfl rfl rfl) ?_
  simp only [Act.put, zq1, zq2, zq3]
  refine wpList_nil ?_
  refine hK12 _ _ ?_
  clear hK12
  refine wp_ret ?_
  try simp only [Exit.inBlock, Exit.then]
  refine bodyPost_ret (v := .tuple #[.pointer (some ⟨s, 0, none⟩), .int .i64 0]) (res2 rfl rfl rfl) rfl ?_
  have N1 := M14.arr [0, 1, 2, 3] (by decide)
  have N2 := vault_nil (Mem.nilst N1 121 2)
  exact ⟨s, (⟨c, cm, cx, none, 0, []⟩ : SX), rfl, hcx, (sto_close (C := newC room) (X := (⟨c, cm, cx, none, 0, []⟩ : SX)) ⟨fun e he => (by cases he), fun e he => (by cases he), fun i e he => (by cases he), Nat.zero_le _, ⟨by show 0 ≤ room; omega, by show room ≤ 4096; omega⟩, Nat.zero_le _, hmk⟩ (N2.arr [2, 3, 1, 0, 4, 5] (by decide))).arr [1, 2, 0] (by decide)⟩
end Go.Proofs.Ytmmkgkbjneebkaa

/- The store: Load. -/
namespace Go.Proofs.Ytmmkgkbjneebkaa
set_option linter.unusedSectionVars false
open Go Go.RowKit
set_option linter.unusedVariables false
set_option linter.unusedSimpArgs false
theorem SOk.sub {C C' : CS} {mk : Int} {X : SX} (h : SOk C mk X) (x' : CX) (h1 : ∀ e ∈ C'.cl, e ∈ C.cl) (h2 : C'.kp = C.kp) (h3 : C'.room = C.room) (hl : C'.cl.length ≤ C.cl.length) : SOk C' mk { X with x := x' } := by
  refine ⟨fun e he => ?_, fun e he => h.cl e (h1 e he), by rw [h2]; exact h.kp, by rw [h3]; exact Nat.le_trans hl h.room, by rw [h3]; exact h.rm, by rw [h2]; exact h.kpl, h.mk2⟩
  rw [h2] at he
  rcases List.mem_append.1 he with he | he
  · exact h.val e (List.mem_append_left _ (h1 e he))
  · exact h.val e (List.mem_append_right _ he)
theorem mv_len {l : List En} {e : En} (he : e ∈ l) : (mv l e).length ≤ l.length := by
  unfold mv
  rw [List.length_append]
  have : (l.filter (fun u => !(u.k == e.k))).length < l.length := by
    rw [List.length_filter_lt_length_iff_exists]
    exact ⟨e, he, by simp⟩
  simp; omega
theorem got_parts {C : CS} {k : Int} (h : ∀ e, C.look k = some e → e.h = false → e ∈ C.cl) : (∀ e ∈ (C.got k).cl, e ∈ C.cl) ∧ (C.got k).kp = C.kp ∧ (C.got k).room = C.room ∧ (C.got k).cl.length ≤ C.cl.length := by
  unfold CS.got
  split
  · exact ⟨fun e he => he, rfl, rfl, Nat.le_refl _⟩
  · next e he =>
    split
    · exact ⟨fun e he => he, rfl, rfl, Nat.le_refl _⟩
    · next hh =>
      have hm := h e he (by simpa using hh)
      refine ⟨fun u hu => ?_, rfl, rfl, mv_len hm⟩
      have hu' : u ∈ mv C.cl e := hu
      unfold mv at hu'
      rcases List.mem_append.1 hu' with hx | hx
      · exact (List.mem_filter.1 hx).1
      · obtain rfl : u = e := by simpa using hx
        exact hm
theorem flag_look {C : CS} (hF : CFlag C) {k : Int} {e : En} (h : C.look k = some e) (hh : e.h = false) : e ∈ C.cl := by
  rcases List.mem_append.1 (look_some h).1 with hx | hx
  · exact hx
  · have := hF.2 e hx
    rw [hh] at this; cases this
theorem SOk.got {C : CS} {mk : Int} {X : SX} (h : SOk C mk X) (hF : CFlag C) (x' : CX) (k : Int) : SOk (C.got k) mk { X with x := x' } := by
  obtain ⟨h1, h2, h3, h4⟩ := got_parts (C := C) (k := k) fun e he hh => flag_look hF he hh
  exact h.sub x' h1 h2 h3 h4
theorem SOk.put {C : CS} {mk : Int} {X : SX} (h : SOk C mk X) (x' : CX) {e : En} {v : Value} (hv : e.ld = v) (hk : 2 ≤ e.k ∧ e.k < mk) : SOk (trimS { C with cl := C.cl ++ [e] }) mk { X with x := x', V := (v, e.l) :: X.V } := by
  have hm : ∀ u ∈ (trimS { C with cl := C.cl ++ [e] }).cl, u ∈ C.cl ∨ u = e := fun u hu => by
    have := (List.drop_sublist _ _).subset hu
    simpa using this
  refine ⟨fun u hu => ?_, fun u hu => ?_, h.kp, ?_, h.rm, h.kpl, h.mk2⟩
  · rcases List.mem_append.1 hu with hu | hu
    · rcases hm u hu with h1 | rfl
      · exact List.mem_cons_of_mem _ (h.val u (List.mem_append_left _ h1))
      · rw [hv]; exact List.mem_cons_self ..
    · exact List.mem_cons_of_mem _ (h.val u (List.mem_append_right _ hu))
  · rcases hm u hu with h1 | rfl
    · exact h.cl u h1
    · exact hk
  · show ((C.cl ++ [e]).drop ((C.cl ++ [e]).length - C.room.toNat)).length ≤ C.room.toNat
    rw [List.length_drop]; omega
def loadR (D : DV) (V : FV) (C : CS) (page : Int) : Int × Int × List UInt8 × DV :=
  if liveE D V ≠ 0 then (liveE D V, 0, [], D)
  else if page < 2 ∨ V.s.mark + (C.kp.length : Int) ≤ page then (41, 0, [], D)
  else match C.look page with
    | some e => (0, e.kd, e.l, D)
    | none => (fReadE D V page, fReadK D V page, fReadL D V page, fReadD D V page)
def loadC (D : DV) (V : FV) (C : CS) (page : Int) (ge : Nat) (ld : Value) : CS :=
  if liveE D V ≠ 0 then C
  else if page < 2 ∨ V.s.mark + (C.kp.length : Int) ≤ page then C
  else match C.look page with
    | some _ => C.got page
    | none => if fReadE D V page ≠ 0 then C.got page else trimS { C.got page with cl := (C.got page).cl ++ [⟨ge, page, fReadK D V page, ld, false, fReadL D V page⟩] }
theorem cget_some' {S : CS} {c mb : Nat} {x : CX} {w : World} (hM : Mem w (foots [cache S c mb x]) w [cache S c mb x]) {k : Int} (hk : KIn k) {e : En} (hs : S.look k = some e) (hl : S.cl.length ≤ 1099511627776) {la : Option Addr} {ln lc : Nat} (hle : e.ld = .slice la ln lc) :
    Calls Try.prog 65 #[.pointer (some ⟨c, 0, none⟩), .int .i64 k] w fun e' w' => ∃ x', e' = .returned (.tuple #[.agg ([.int .i64 e.kd, .slice la ln lc] : List Value).toArray, .bool true]) ∧ x'.n = x.n ∧ Mem w (foots [cache S c mb x]) w' [cache (S.got k) c mb x'] := by
  have := cget_some hM hk hs hl (by rw [hle]; rfl)
  rw [hle] at this
  exact this
theorem fread_sl {D : DV} {V : FV} {f p pg mb : Nat} {qv : Value} {w : World} (hM : Mem w (foots [disk D p pg mb qv, blk f 117 (fC V p)]) w [disk D p pg mb qv, blk f 117 (fC V p)]) (page : Int) (hV : FOk D V) : Calls Try.prog 51 #[.pointer (some ⟨f, 0, none⟩), .int .i64 page] w fun e w' => ∃ ra rc, e = .returned (.tuple #[.int .i64 (fReadK D V page), .slice ra (fReadL D V page).length rc, .int .i64 (fReadE D V page)]) ∧ Mem w (foots [disk D p pg mb qv, blk f 117 (fC V p)]) w' [disk (fReadD D V page) p pg mb qv, blk f 117 (fC V p), bytesL (.slice ra (fReadL D V page).length rc) (fReadL D V page)] := by
  refine (fread_any hM page hV).mono ?_
  rintro e w' ⟨v, rfl, h⟩
  obtain ⟨ra, rc, rfl⟩ := qv_at (h.get 2 rfl)
  exact ⟨ra, rc, rfl, h⟩
set_option maxRecDepth 100000 in
set_option maxHeartbeats 4000000 in
theorem sload_dead {D : DV} {V : FV} {C : CS} {X : SX} {s f p pg mb : Nat} {qv : Value} {w : World} (hM : Mem w (foots [disk D p pg mb qv, blk f 117 (fC V p), sto C V.s.mark s f X]) w [disk D p pg mb qv, blk f 117 (fC V p), sto C V.s.mark s f X]) (page : Int) (hL : liveE D V ≠ 0) : Calls Try.prog 34 #[.pointer (some ⟨s, 0, none⟩), .int .i64 page] w fun e' w' => ∃ a c' ge ld X', e' = .returned (.tuple #[.int .i64 (loadR D V C page).2.1, .slice a (loadR D V C page).2.2.1.length c', .int .i64 (loadR D V C page).1]) ∧ X'.x.n ≤ X.x.n + 1 ∧ Mem w (foots [disk D p pg mb qv, blk f 117 (fC V p), sto C V.s.mark s f X]) w' [bytesL (.slice a (loadR D V C page).2.2.1.length c') (loadR D V C page).2.2.1, disk (loadR D V C page).2.2.2 p pg mb qv, blk f 117 (fC V p), sto (loadC D V C page ge ld) V.s.mark s f X'] := by
  have M := hM
  clear hM
  go_enter Try.func34, Try.ntmps34
  refine wp_seq_k (fun K1 hK1 => ?_)
  refine wp_region_lit ?_
  refine pl M (y_assign (v := .int .i64 0) rfl rfl rfl) ?_
  simp only [Act.put, zq1, zq2, zq3]
  refine pl M (y_assign (v := .slice none 0 0) rfl rfl rfl) ?_
  simp only [Act.put, zq1, zq2, zq3]
  refine pl M (y_assign (v := .int .i64 0) rfl rfl rfl) ?_
  simp only [Act.put, zq1, zq2, zq3]
  refine wpList_nil ?_
  refine hK1 _ _ ?_
  clear hK1
  refine wp_seq_k (fun K2 hK2 => ?_)
  refine wp_seq_k (fun K3 hK3 => ?_)
  refine wp_region_lit ?_
  refine pl M (y_move (v := .pointer (some ⟨s, 0, none⟩)) rfl rfl rfl) ?_
  simp only [Act.put, zq1, zq2, zq3]
  have hX4 : Mem w _ w ([disk D p pg mb qv, blk f 117 (fC V p), sto C V.s.mark s f X] ++ []) := M.arr [0, 1, 2] (by decide)
  refine pe rfl (fun K hK => ?_)
  refine e_call 26 [.pointer (some ⟨s, 0, none⟩)] rfl rfl Try.call26 (slive_any (Mem.here hX4)) ?_
  rintro e w4 ⟨rfl, H4⟩
  have M4 : Mem w _ w4 [disk D p pg mb qv, blk f 117 (fC V p), sto C V.s.mark s f X] := Mem.frame hX4 H4
  refine ⟨_, rfl, ?_⟩
  refine hK.out _ _ ?_
  clear hK K
  simp only [Act.put, zq1, zq2, zq3]
  refine pl M4 (y_assign (v := .int .i64 (liveE D V)) rfl rfl rfl) ?_
  simp only [Act.put, zq1, zq2, zq3]
  refine wpList_nil ?_
  refine hK3 _ _ ?_
  clear hK3
  refine wp_seq_k (fun K5 hK5 => ?_)
  refine wp_region_lit ?_
  refine pl M4 (y_move (v := .int .i64 (liveE D V)) rfl rfl rfl) ?_
  simp only [Act.put, zq1, zq2, zq3]
  refine pl M4 (y_neq (b := true) rfl rfl rfl rfl (by rw [decide_eq_false hL]; rfl)) ?_
  simp only [Act.put, zq1, zq2, zq3]
  refine wpList_nil ?_
  refine hK5 _ _ ?_
  clear hK5
  refine wp_cond_true rfl ?_
  refine wp_seq_k (fun K6 hK6 => ?_)
  refine wp_region_lit ?_
  refine pl M4 (y_move (v := .int .i64 (liveE D V)) rfl rfl rfl) ?_
  simp only [Act.put, zq1, zq2, zq3]
  refine pl M4 (y_assign (v := .int .i64 0) rfl rfl rfl) ?_
  simp only [Act.put, zq1, zq2, zq3]
  refine pl M4 (y_assign (v := .slice none 0 0) rfl rfl rfl) ?_
  simp only [Act.put, zq1, zq2, zq3]
  refine pl M4 (y_assign (v := .int .i64 (liveE D V)) rfl rfl rfl) ?_
  simp only [Act.put, zq1, zq2, zq3]
  refine wpList_nil ?_
  refine hK6 _ _ ?_
  clear hK6
  refine wp_ret ?_
  try simp only [Exit.inBlock, Exit.then]
  refine bodyPost_ret (v := .tuple #[.int .i64 0, .slice none 0 0, .int .i64 (liveE D V)]) (res3 rfl rfl rfl rfl) rfl ?_
  have e1 : loadR D V C page = (liveE D V, 0, [], D) := by unfold loadR; rw [if_pos hL]
  have e2 : ∀ ge ld, loadC D V C page ge ld = C := by intro ge ld; unfold loadC; rw [if_pos hL]
  have N1 := Mem.nilst (M4.arr [0, 1, 2] (by decide)) 5 1
  rw [e1]
  exact ⟨none, 0, 0, .slice none 0 0, X, rfl, Nat.le_succ _, by rw [e2]; exact N1⟩
set_option maxRecDepth 100000 in
set_option maxHeartbeats 4000000 in
theorem sload_low {D : DV} {V : FV} {C : CS} {X : SX} {s f p pg mb : Nat} {qv : Value} {w : World} (hM : Mem w (foots [disk D p pg mb qv, blk f 117 (fC V p), sto C V.s.mark s f X]) w [disk D p pg mb qv, blk f 117 (fC V p), sto C V.s.mark s f X]) (page : Int) (hL : liveE D V = 0) (h1 : page < 2) : Calls Try.prog 34 #[.pointer (some ⟨s, 0, none⟩), .int .i64 page] w fun e' w' => ∃ a c' ge ld X', e' = .returned (.tuple #[.int .i64 (loadR D V C page).2.1, .slice a (loadR D V C page).2.2.1.length c', .int .i64 (loadR D V C page).1]) ∧ X'.x.n ≤ X.x.n + 1 ∧ Mem w (foots [disk D p pg mb qv, blk f 117 (fC V p), sto C V.s.mark s f X]) w' [bytesL (.slice a (loadR D V C page).2.2.1.length c') (loadR D V C page).2.2.1, disk (loadR D V C page).2.2.2 p pg mb qv, blk f 117 (fC V p), sto (loadC D V C page ge ld) V.s.mark s f X'] := by
  have M := hM
  clear hM
  go_enter Try.func34, Try.ntmps34
  refine wp_seq_k (fun K1 hK1 => ?_)
  refine wp_region_lit ?_
  refine pl M (y_assign (v := .int .i64 0) rfl rfl rfl) ?_
  simp only [Act.put, zq1, zq2, zq3]
  refine pl M (y_assign (v := .slice none 0 0) rfl rfl rfl) ?_
  simp only [Act.put, zq1, zq2, zq3]
  refine pl M (y_assign (v := .int .i64 0) rfl rfl rfl) ?_
  simp only [Act.put, zq1, zq2, zq3]
  refine wpList_nil ?_
  refine hK1 _ _ ?_
  clear hK1
  refine wp_seq_k (fun K2 hK2 => ?_)
  refine wp_seq_k (fun K3 hK3 => ?_)
  refine wp_region_lit ?_
  refine pl M (y_move (v := .pointer (some ⟨s, 0, none⟩)) rfl rfl rfl) ?_
  simp only [Act.put, zq1, zq2, zq3]
  have hX4 : Mem w _ w ([disk D p pg mb qv, blk f 117 (fC V p), sto C V.s.mark s f X] ++ []) := M.arr [0, 1, 2] (by decide)
  refine pe rfl (fun K hK => ?_)
  refine e_call 26 [.pointer (some ⟨s, 0, none⟩)] rfl rfl Try.call26 (slive_any (Mem.here hX4)) ?_
  rintro e w4 ⟨rfl, H4⟩
  have M4 : Mem w _ w4 [disk D p pg mb qv, blk f 117 (fC V p), sto C V.s.mark s f X] := Mem.frame hX4 H4
  refine ⟨_, rfl, ?_⟩
  refine hK.out _ _ ?_
  clear hK K
  simp only [Act.put, zq1, zq2, zq3]
  refine pl M4 (y_assign (v := .int .i64 (liveE D V)) rfl rfl rfl) ?_
  simp only [Act.put, zq1, zq2, zq3]
  refine wpList_nil ?_
  refine hK3 _ _ ?_
  clear hK3
  refine wp_seq_k (fun K5 hK5 => ?_)
  refine wp_region_lit ?_
  refine pl M4 (y_move (v := .int .i64 (liveE D V)) rfl rfl rfl) ?_
  simp only [Act.put, zq1, zq2, zq3]
  refine pl M4 (y_neq (b := false) rfl rfl rfl rfl (by rw [decide_eq_true hL]; rfl)) ?_
  simp only [Act.put, zq1, zq2, zq3]
  refine wpList_nil ?_
  refine hK5 _ _ ?_
  clear hK5
  refine wp_cond_false rfl ?_
  refine wp_skip ?_
  refine hK2 _ _ ?_
  clear hK2
  refine wp_seq_k (fun K6 hK6 => ?_)
  refine wp_seq_k (fun K7 hK7 => ?_)
  refine wp_region_lit ?_
  refine pl M4 (y_move (v := .int .i64 page) rfl rfl rfl) ?_
  simp only [Act.put, zq1, zq2, zq3]
  refine pl M4 (y_lss (b := true) rfl rfl rfl rfl (decide_eq_true h1)) ?_
  simp only [Act.put, zq1, zq2, zq3]
  refine pl M4 (y_move (v := .bool true) rfl rfl rfl) ?_
  simp only [Act.put, zq1, zq2, zq3]
  with_reducible refine pskip ?_ ?_
  · rfl
  simp only [Act.put, zq1, zq2, zq3]
  with_reducible refine pskip ?_ ?_
  · rfl
  simp only [Act.put, zq1, zq2, zq3]
  with_reducible refine pskip ?_ ?_
  · rfl
  simp only [Act.put, zq1, zq2, zq3]
  with_reducible refine pskip ?_ ?_
  · rfl
  simp only [Act.put, zq1, zq2, zq3]
  refine pl M4 (y_pickT (v := .bool true) rfl rfl rfl rfl) ?_
  simp only [Act.put, zq1, zq2, zq3]
  refine wpList_nil ?_
  refine hK7 _ _ ?_
  clear hK7
  refine wp_cond_true rfl ?_
  refine wp_seq_k (fun K8 hK8 => ?_)
  refine wp_region_lit ?_
  refine pl M4 (y_assign (v := .int .i64 0) rfl rfl rfl) ?_
  simp only [Act.put, zq1, zq2, zq3]
  refine pl M4 (y_assign (v := .slice none 0 0) rfl rfl rfl) ?_
  simp only [Act.put, zq1, zq2, zq3]
  refine pl M4 (y_assign (v := .int .i64 41) rfl rfl rfl) ?_
  simp only [Act.put, zq1, zq2, zq3]
  refine wpList_nil ?_
  refine hK8 _ _ ?_
  clear hK8
  refine wp_ret ?_
  try simp only [Exit.inBlock, Exit.then]
  refine bodyPost_ret (v := .tuple #[.int .i64 0, .slice none 0 0, .int .i64 41]) (res3 rfl rfl rfl rfl) rfl ?_
  have e1 : loadR D V C page = (41, 0, [], D) := by unfold loadR; rw [if_neg (fun h => h hL), if_pos (by omega)]
  have e2 : ∀ ge ld, loadC D V C page ge ld = C := by intro ge ld; unfold loadC; rw [if_neg (fun h => h hL), if_pos (by omega)]
  have N1 := Mem.nilst (M4.arr [0, 1, 2] (by decide)) 5 1
  rw [e1]
  exact ⟨none, 0, 0, .slice none 0 0, X, rfl, Nat.le_succ _, by rw [e2]; exact N1⟩
set_option maxRecDepth 100000 in
set_option maxHeartbeats 4000000 in
theorem sload_high {D : DV} {V : FV} {C : CS} {X : SX} {s f p pg mb : Nat} {qv : Value} {w : World} (hM : Mem w (foots [disk D p pg mb qv, blk f 117 (fC V p), sto C V.s.mark s f X]) w [disk D p pg mb qv, blk f 117 (fC V p), sto C V.s.mark s f X]) (page : Int) (hL : liveE D V = 0) (h1 : ¬ page < 2) (h2 : V.s.mark + (C.kp.length : Int) ≤ page) : Calls Try.prog 34 #[.pointer (some ⟨s, 0, none⟩), .int .i64 page] w fun e' w' => ∃ a c' ge ld X', e' = .returned (.tuple #[.int .i64 (loadR D V C page).2.1, .slice a (loadR D V C page).2.2.1.length c', .int .i64 (loadR D V C page).1]) ∧ X'.x.n ≤ X.x.n + 1 ∧ Mem w (foots [disk D p pg mb qv, blk f 117 (fC V p), sto C V.s.mark s f X]) w' [bytesL (.slice a (loadR D V C page).2.2.1.length c') (loadR D V C page).2.2.1, disk (loadR D V C page).2.2.2 p pg mb qv, blk f 117 (fC V p), sto (loadC D V C page ge ld) V.s.mark s f X'] := by
  have M := hM
  clear hM
  go_enter Try.func34, Try.ntmps34
  refine wp_seq_k (fun K1 hK1 => ?_)
  refine wp_region_lit ?_
  refine pl M (y_assign (v := .int .i64 0) rfl rfl rfl) ?_
  simp only [Act.put, zq1, zq2, zq3]
  refine pl M (y_assign (v := .slice none 0 0) rfl rfl rfl) ?_
  simp only [Act.put, zq1, zq2, zq3]
  refine pl M (y_assign (v := .int .i64 0) rfl rfl rfl) ?_
  simp only [Act.put, zq1, zq2, zq3]
  refine wpList_nil ?_
  refine hK1 _ _ ?_
  clear hK1
  refine wp_seq_k (fun K2 hK2 => ?_)
  refine wp_seq_k (fun K3 hK3 => ?_)
  refine wp_region_lit ?_
  refine pl M (y_move (v := .pointer (some ⟨s, 0, none⟩)) rfl rfl rfl) ?_
  simp only [Act.put, zq1, zq2, zq3]
  have hX4 : Mem w _ w ([disk D p pg mb qv, blk f 117 (fC V p), sto C V.s.mark s f X] ++ []) := M.arr [0, 1, 2] (by decide)
  refine pe rfl (fun K hK => ?_)
  refine e_call 26 [.pointer (some ⟨s, 0, none⟩)] rfl rfl Try.call26 (slive_any (Mem.here hX4)) ?_
  rintro e w4 ⟨rfl, H4⟩
  have M4 : Mem w _ w4 [disk D p pg mb qv, blk f 117 (fC V p), sto C V.s.mark s f X] := Mem.frame hX4 H4
  refine ⟨_, rfl, ?_⟩
  refine hK.out _ _ ?_
  clear hK K
  simp only [Act.put, zq1, zq2, zq3]
  refine pl M4 (y_assign (v := .int .i64 (liveE D V)) rfl rfl rfl) ?_
  simp only [Act.put, zq1, zq2, zq3]
  refine wpList_nil ?_
  refine hK3 _ _ ?_
  clear hK3
  refine wp_seq_k (fun K5 hK5 => ?_)
  refine wp_region_lit ?_
  refine pl M4 (y_move (v := .int .i64 (liveE D V)) rfl rfl rfl) ?_
  simp only [Act.put, zq1, zq2, zq3]
  refine pl M4 (y_neq (b := false) rfl rfl rfl rfl (by rw [decide_eq_true hL]; rfl)) ?_
  simp only [Act.put, zq1, zq2, zq3]
  refine wpList_nil ?_
  refine hK5 _ _ ?_
  clear hK5
  refine wp_cond_false rfl ?_
  refine wp_skip ?_
  refine hK2 _ _ ?_
  clear hK2
  refine wp_seq_k (fun K6 hK6 => ?_)
  refine wp_seq_k (fun K7 hK7 => ?_)
  refine wp_region_lit ?_
  refine pl M4 (y_move (v := .int .i64 page) rfl rfl rfl) ?_
  simp only [Act.put, zq1, zq2, zq3]
  refine pl M4 (y_lss (b := false) rfl rfl rfl rfl (decide_eq_false h1)) ?_
  simp only [Act.put, zq1, zq2, zq3]
  refine pl M4 (y_move (v := .bool false) rfl rfl rfl) ?_
  simp only [Act.put, zq1, zq2, zq3]
  refine pl M4 (y_move (v := .int .i64 page) rfl rfl rfl) ?_
  simp only [Act.put, zq1, zq2, zq3]
  refine pl M4 (y_move (v := .pointer (some ⟨s, 0, none⟩)) rfl rfl rfl) ?_
  simp only [Act.put, zq1, zq2, zq3]
  have hX8 : Mem w _ w4 ([disk D p pg mb qv, blk f 117 (fC V p), sto C V.s.mark s f X] ++ []) := M4.arr [0, 1, 2] (by decide)
  refine pe rfl (fun K hK => ?_)
  refine e_call 19 [.pointer (some ⟨s, 0, none⟩)] rfl rfl Try.call19 (snext_any (Mem.here hX8)) ?_
  rintro e w8 ⟨rfl, H8⟩
  have M8 : Mem w _ w8 [disk D p pg mb qv, blk f 117 (fC V p), sto C V.s.mark s f X] := Mem.frame hX8 H8
  refine ⟨_, rfl, ?_⟩
  refine hK.out _ _ ?_
  clear hK K
  simp only [Act.put, zq1, zq2, zq3]
  refine pl M8 (y_geq (b := true) rfl rfl rfl rfl (decide_eq_true h2)) ?_
  simp only [Act.put, zq1, zq2, zq3]
  refine pl M8 (y_pickF (v := .bool true) rfl rfl rfl rfl) ?_
  simp only [Act.put, zq1, zq2, zq3]
  refine wpList_nil ?_
  refine hK7 _ _ ?_
  clear hK7
  refine wp_cond_true rfl ?_
  refine wp_seq_k (fun K9 hK9 => ?_)
  refine wp_region_lit ?_
  refine pl M8 (y_assign (v := .int .i64 0) rfl rfl rfl) ?_
  simp only [Act.put, zq1, zq2, zq3]
  refine pl M8 (y_assign (v := .slice none 0 0) rfl rfl rfl) ?_
  simp only [Act.put, zq1, zq2, zq3]
  refine pl M8 (y_assign (v := .int .i64 41) rfl rfl rfl) ?_
  simp only [Act.put, zq1, zq2, zq3]
  refine wpList_nil ?_
  refine hK9 _ _ ?_
  clear hK9
  refine wp_ret ?_
  try simp only [Exit.inBlock, Exit.then]
  refine bodyPost_ret (v := .tuple #[.int .i64 0, .slice none 0 0, .int .i64 41]) (res3 rfl rfl rfl rfl) rfl ?_
  have e1 : loadR D V C page = (41, 0, [], D) := by unfold loadR; rw [if_neg (fun h => h hL), if_pos (by omega)]
  have e2 : ∀ ge ld, loadC D V C page ge ld = C := by intro ge ld; unfold loadC; rw [if_neg (fun h => h hL), if_pos (by omega)]
  have N1 := Mem.nilst (M8.arr [0, 1, 2] (by decide)) 5 1
  rw [e1]
  exact ⟨none, 0, 0, .slice none 0 0, X, rfl, Nat.le_succ _, by rw [e2]; exact N1⟩
set_option maxRecDepth 100000 in
set_option maxHeartbeats 4000000 in
theorem sload_hit {D : DV} {V : FV} {C : CS} {X : SX} {s f p pg mb : Nat} {qv : Value} {w : World} (hM : Mem w (foots [disk D p pg mb qv, blk f 117 (fC V p), sto C V.s.mark s f X]) w [disk D p pg mb qv, blk f 117 (fC V p), sto C V.s.mark s f X]) (page : Int) (hL : liveE D V = 0) (h1 : ¬ page < 2) (h2 : ¬ V.s.mark + (C.kp.length : Int) ≤ page) {e : En} (hs : C.look page = some e) (hlen : e.l.length ≤ 1099511627776) : Calls Try.prog 34 #[.pointer (some ⟨s, 0, none⟩), .int .i64 page] w fun e' w' => ∃ a c' ge ld X', e' = .returned (.tuple #[.int .i64 (loadR D V C page).2.1, .slice a (loadR D V C page).2.2.1.length c', .int .i64 (loadR D V C page).1]) ∧ X'.x.n ≤ X.x.n + 1 ∧ Mem w (foots [disk D p pg mb qv, blk f 117 (fC V p), sto C V.s.mark s f X]) w' [bytesL (.slice a (loadR D V C page).2.2.1.length c') (loadR D V C page).2.2.1, disk (loadR D V C page).2.2.2 p pg mb qv, blk f 117 (fC V p), sto (loadC D V C page ge ld) V.s.mark s f X'] := by
  have M := hM
  clear hM
  have hF : CFlag C := by
    have := (sto_open (M.arr [2, 0, 1] (by decide))).2
    exact ((this.get 1 rfl).1).2
  have hsk := sto_ok (M.get 2 rfl)
  have hm2 := hsk.mk2
  have hkl := hsk.kpl
  have hcl := hsk.room
  have hrm := hsk.rm
  have hv : (e.ld, e.l) ∈ X.V := hsk.val e (look_some hs).1
  obtain ⟨la, lc, hle⟩ : ∃ la lc, e.ld = .slice la e.l.length lc := by
    have h9 := vault_at ((sto_open (M.arr [2, 0, 1] (by decide))).2.get 3 rfl) hv
    exact qv_at h9
  rw [hle] at hv
  go_enter Try.func34, Try.ntmps34
  refine wp_seq_k (fun K1 hK1 => ?_)
  refine wp_region_lit ?_
  refine pl M (y_assign (v := .int .i64 0) rfl rfl rfl) ?_
  simp only [Act.put, zq1, zq2, zq3]
  refine pl M (y_assign (v := .slice none 0 0) rfl rfl rfl) ?_
  simp only [Act.put, zq1, zq2, zq3]
  refine pl M (y_assign (v := .int .i64 0) rfl rfl rfl) ?_
  simp only [Act.put, zq1, zq2, zq3]
  refine wpList_nil ?_
  refine hK1 _ _ ?_
  clear hK1
  refine wp_seq_k (fun K2 hK2 => ?_)
  refine wp_seq_k (fun K3 hK3 => ?_)
  refine wp_region_lit ?_
  refine pl M (y_move (v := .pointer (some ⟨s, 0, none⟩)) rfl rfl rfl) ?_
  simp only [Act.put, zq1, zq2, zq3]
  have hX4 : Mem w _ w ([disk D p pg mb qv, blk f 117 (fC V p), sto C V.s.mark s f X] ++ []) := M.arr [0, 1, 2] (by decide)
  refine pe rfl (fun K hK => ?_)
  refine e_call 26 [.pointer (some ⟨s, 0, none⟩)] rfl rfl Try.call26 (slive_any (Mem.here hX4)) ?_
  rintro e w4 ⟨rfl, H4⟩
  have M4 : Mem w _ w4 [disk D p pg mb qv, blk f 117 (fC V p), sto C V.s.mark s f X] := Mem.frame hX4 H4
  refine ⟨_, rfl, ?_⟩
  refine hK.out _ _ ?_
  clear hK K
  simp only [Act.put, zq1, zq2, zq3]
  refine pl M4 (y_assign (v := .int .i64 (liveE D V)) rfl rfl rfl) ?_
  simp only [Act.put, zq1, zq2, zq3]
  refine wpList_nil ?_
  refine hK3 _ _ ?_
  clear hK3
  refine wp_seq_k (fun K5 hK5 => ?_)
  refine wp_region_lit ?_
  refine pl M4 (y_move (v := .int .i64 (liveE D V)) rfl rfl rfl) ?_
  simp only [Act.put, zq1, zq2, zq3]
  refine pl M4 (y_neq (b := false) rfl rfl rfl rfl (by rw [decide_eq_true hL]; rfl)) ?_
  simp only [Act.put, zq1, zq2, zq3]
  refine wpList_nil ?_
  refine hK5 _ _ ?_
  clear hK5
  refine wp_cond_false rfl ?_
  refine wp_skip ?_
  refine hK2 _ _ ?_
  clear hK2
  refine wp_seq_k (fun K6 hK6 => ?_)
  refine wp_seq_k (fun K7 hK7 => ?_)
  refine wp_region_lit ?_
  refine pl M4 (y_move (v := .int .i64 page) rfl rfl rfl) ?_
  simp only [Act.put, zq1, zq2, zq3]
  refine pl M4 (y_lss (b := false) rfl rfl rfl rfl (decide_eq_false h1)) ?_
  simp only [Act.put, zq1, zq2, zq3]
  refine pl M4 (y_move (v := .bool false) rfl rfl rfl) ?_
  simp only [Act.put, zq1, zq2, zq3]
  refine pl M4 (y_move (v := .int .i64 page) rfl rfl rfl) ?_
  simp only [Act.put, zq1, zq2, zq3]
  refine pl M4 (y_move (v := .pointer (some ⟨s, 0, none⟩)) rfl rfl rfl) ?_
  simp only [Act.put, zq1, zq2, zq3]
  have hX8 : Mem w _ w4 ([disk D p pg mb qv, blk f 117 (fC V p), sto C V.s.mark s f X] ++ []) := M4.arr [0, 1, 2] (by decide)
  refine pe rfl (fun K hK => ?_)
  refine e_call 19 [.pointer (some ⟨s, 0, none⟩)] rfl rfl Try.call19 (snext_any (Mem.here hX8)) ?_
  rintro e w8 ⟨rfl, H8⟩
  have M8 : Mem w _ w8 [disk D p pg mb qv, blk f 117 (fC V p), sto C V.s.mark s f X] := Mem.frame hX8 H8
  refine ⟨_, rfl, ?_⟩
  refine hK.out _ _ ?_
  clear hK K
  simp only [Act.put, zq1, zq2, zq3]
  refine pl M8 (y_geq (b := false) rfl rfl rfl rfl (decide_eq_false h2)) ?_
  simp only [Act.put, zq1, zq2, zq3]
  refine pl M8 (y_pickF (v := .bool false) rfl rfl rfl rfl) ?_
  simp only [Act.put, zq1, zq2, zq3]
  refine wpList_nil ?_
  refine hK7 _ _ ?_
  clear hK7
  refine wp_cond_false rfl ?_
  refine wp_skip ?_
  refine hK6 _ _ ?_
  clear hK6
  refine wp_seq_k (fun K9 hK9 => ?_)
  refine wp_seq_k (fun K10 hK10 => ?_)
  obtain ⟨hso, M11⟩ : _ ∧ Mem w (foots [disk D p pg mb qv, blk f 117 (fC V p), sto C V.s.mark s f X]) w8 [blk s 124 ([.pointer (some ⟨f, 0, none⟩), .func (.func 51) #[.pointer (some ⟨f, 0, none⟩)] #[], .pointer (some ⟨X.c, 0, none⟩), .slice X.sa C.kp.length X.sc]), cache C X.c X.mb X.x, lst 121 2 (.slice X.sa C.kp.length X.sc) C.kp.length (stC C.kp), vault X.V, disk D p pg mb qv, blk f 117 (fC V p)] := sto_open (M8.arr [2, 0, 1] (by decide))
  clear M8
  refine wp_region_lit ?_
  refine pl M11 (y_move (v := .pointer (some ⟨s, 0, none⟩)) rfl rfl rfl) ?_
  simp only [Act.put, zq1, zq2, zq3]
  refine pl M11 (y_nil rfl rfl rfl) ?_
  simp only [Act.put, zq1, zq2, zq3]
  refine pl M11 (y_fa (r := 2) rfl rfl rfl Try.underlying124 rfl Try.sizeOf118 rfl) ?_
  simp only [Act.put, zq1, zq2, zq3]
  refine pl M11 (y_load (v := .pointer (some ⟨X.c, 0, none⟩)) rfl rfl rfl Try.isAgg118 (fun W hW => hW.get 0 rfl) (rfl)) ?_
  simp only [Act.put, zq1, zq2, zq3]
  refine pl M11 (y_move (v := .int .i64 page) rfl rfl rfl) ?_
  simp only [Act.put, zq1, zq2, zq3]
  have hX12 : Mem w _ w8 ([cache C X.c X.mb X.x] ++ [blk s 124 ([.pointer (some ⟨f, 0, none⟩), .func (.func 51) #[.pointer (some ⟨f, 0, none⟩)] #[], .pointer (some ⟨X.c, 0, none⟩), .slice X.sa C.kp.length X.sc]), lst 121 2 (.slice X.sa C.kp.length X.sc) C.kp.length (stC C.kp), vault X.V, disk D p pg mb qv, blk f 117 (fC V p)]) := M11.arr [1, 0, 2, 3, 4, 5] (by decide)
  have hCH12 := cget_some' (ln := e.l.length) (Mem.here hX12) ⟨by omega, by omega⟩ hs (by omega) hle
  refine pe rfl (fun K hK => ?_)
  refine e_call 65 [.pointer (some ⟨X.c, 0, none⟩), .int .i64 page] rfl rfl Try.call65 (hCH12) ?_
  rintro e w12 ⟨x1, rfl, hx1, H12⟩
  have M12 : Mem w _ w12 [cache (C.got page) X.c X.mb x1, blk s 124 ([.pointer (some ⟨f, 0, none⟩), .func (.func 51) #[.pointer (some ⟨f, 0, none⟩)] #[], .pointer (some ⟨X.c, 0, none⟩), .slice X.sa C.kp.length X.sc]), lst 121 2 (.slice X.sa C.kp.length X.sc) C.kp.length (stC C.kp), vault X.V, disk D p pg mb qv, blk f 117 (fC V p)] := Mem.frame hX12 H12
  refine ⟨_, rfl, ?_⟩
  refine hK.out _ _ ?_
  clear hK K
  simp only [Act.put, zq1, zq2, zq3]
  refine pl M12 (y_move (v := .tuple #[.agg ([.int .i64 e.kd, .slice la e.l.length lc]).toArray, .bool true]) rfl rfl rfl) ?_
  simp only [Act.put, zq1, zq2, zq3]
  refine pl M12 (y_ext (v := .agg ([.int .i64 e.kd, .slice la e.l.length lc]).toArray) rfl rfl rfl rfl) ?_
  simp only [Act.put, zq1, zq2, zq3]
  refine pl M12 (y_ext (v := .bool true) rfl rfl rfl rfl) ?_
  simp only [Act.put, zq1, zq2, zq3]
  refine pe rfl (fun K hK => ?_)
  refine e_alloc M12 ([.int .i64 0, .slice none 0 0]) rfl Try.zeroValue121 ?_
  intro g8 w13 (M13 : Mem w _ w13 [blk g8 121 ([.int .i64 0, .slice none 0 0]), cache (C.got page) X.c X.mb x1, blk s 124 ([.pointer (some ⟨f, 0, none⟩), .func (.func 51) #[.pointer (some ⟨f, 0, none⟩)] #[], .pointer (some ⟨X.c, 0, none⟩), .slice X.sa C.kp.length X.sc]), lst 121 2 (.slice X.sa C.kp.length X.sc) C.kp.length (stC C.kp), vault X.V, disk D p pg mb qv, blk f 117 (fC V p)])
  clear M12
  refine hK.out _ _ ?_
  clear hK K
  simp only [Act.put, zq1, zq2, zq3]
  refine pe rfl (fun K hK => ?_)
  refine e_storew M13 0 (cs := [.int .i64 e.kd, .slice la e.l.length lc]) rfl rfl rfl rfl (size_of_len (n := 2) _ rfl (by kernel_rfl)) (list_all _ rfl) rfl (rfl) ?_
  intro w14 (M14 : Mem w _ w14 [blk g8 121 ([.int .i64 e.kd, .slice la e.l.length lc]), cache (C.got page) X.c X.mb x1, blk s 124 ([.pointer (some ⟨f, 0, none⟩), .func (.func 51) #[.pointer (some ⟨f, 0, none⟩)] #[], .pointer (some ⟨X.c, 0, none⟩), .slice X.sa C.kp.length X.sc]), lst 121 2 (.slice X.sa C.kp.length X.sc) C.kp.length (stC C.kp), vault X.V, disk D p pg mb qv, blk f 117 (fC V p)])
  clear M13
  refine hK.out _ _ ?_
  clear hK K
  simp only [Act.put, zq1, zq2, zq3]
  refine pl M14 (y_assign (v := .bool true) rfl rfl rfl) ?_
  simp only [Act.put, zq1, zq2, zq3]
  refine wpList_nil ?_
  refine hK10 _ _ ?_
  clear hK10
  refine wp_seq_k (fun K15 hK15 => ?_)
  refine wp_region_lit ?_
  refine pl M14 (y_move (v := .bool true) rfl rfl rfl) ?_
  simp only [Act.put, zq1, zq2, zq3]
  refine wpList_nil ?_
  refine hK15 _ _ ?_
  clear hK15
  refine wp_cond_true rfl ?_
  refine wp_seq_k (fun K16 hK16 => ?_)
  have M17 := M14.drew
  refine held_begin (fun W => Mem w (foots [disk D p pg mb qv, blk f 117 (fC V p), sto C V.s.mark s f X]) W [blk g8 121 ([.int .i64 e.kd, .slice la e.l.length lc])]) (by kernel_rfl) (M17.arr [0] (by decide)) (fun hS => ?_)
  refine held_take 0 _ rfl (by kernel_rfl) (by kernel_rfl) (by kernel_rfl) (y_fa (r := 0) rfl rfl rfl Try.underlying121 rfl Try.sizeOf3 rfl) hS ?_
  simp only [Act.put, zq1, zq2, zq3]
  refine held_take 1 _ rfl (by kernel_rfl) (by kernel_rfl) (by kernel_rfl) (y_load (v := .int .i64 e.kd) rfl rfl rfl Try.isAgg3 (fun W hW => hW.get 0 rfl) (rfl)) hS ?_
  simp only [Act.put, zq1, zq2, zq3]
  refine held_take 2 _ rfl (by kernel_rfl) (by kernel_rfl) (by kernel_rfl) (y_fa (r := 1) rfl rfl rfl Try.underlying121 rfl Try.sizeOf44 rfl) hS ?_
  simp only [Act.put, zq1, zq2, zq3]
  refine held_take 3 _ rfl (by kernel_rfl) (by kernel_rfl) (by kernel_rfl) (y_load (v := .slice la e.l.length lc) rfl rfl rfl Try.isAgg44 (fun W hW => hW.get 0 rfl) (rfl)) hS ?_
  simp only [Act.put, zq1, zq2, zq3]
  have hbl := vault_at (M17.get 4 rfl) hv
  have hb9 := bytesL_nil hbl
  refine held_step 4 (by kernel_rfl) rfl (by rfl) (fun K hK => ?_)
  refine e_call 66 [.slice la e.l.length lc] rfl rfl Try.call66 (copied_any la e.l.length lc e.l (bytesL_row hbl) hb9.2.2.2 hlen) ?_
  rintro e w18 ⟨a7, c7, rfl, H18⟩
  have M18 : Mem w _ w18 [bytesL (.slice a7 e.l.length c7) e.l, blk g8 121 ([.int .i64 e.kd, .slice la e.l.length lc]), cache (C.got page) X.c X.mb x1, blk s 124 ([.pointer (some ⟨f, 0, none⟩), .func (.func 51) #[.pointer (some ⟨f, 0, none⟩)] #[], .pointer (some ⟨X.c, 0, none⟩), .slice X.sa C.kp.length X.sc]), lst 121 2 (.slice X.sa C.kp.length X.sc) C.kp.length (stC C.kp), vault X.V, disk D p pg mb qv, blk f 117 (fC V p)] := M17.step H18
  refine ⟨_, rfl, ?_⟩
  refine hK.out _ _ (M18.arr [1] (by decide)) (fun hS => ?_)
  clear hK K
  simp only [Act.put, zq1, zq2, zq3]
  refine held_take 5 _ rfl (by kernel_rfl) (by kernel_rfl) (by kernel_rfl) (y_assign (v := .int .i64 e.kd) rfl rfl rfl) hS ?_
  simp only [Act.put, zq1, zq2, zq3]
  refine held_take 6 _ rfl (by kernel_rfl) (by kernel_rfl) (by kernel_rfl) (y_assign (v := .slice a7 e.l.length c7) rfl rfl rfl) hS ?_
  simp only [Act.put, zq1, zq2, zq3]
  refine held_take 7 _ rfl (by kernel_rfl) (by kernel_rfl) (by kernel_rfl) (y_assign (v := .int .i64 0) rfl rfl rfl) hS ?_
  simp only [Act.put, zq1, zq2, zq3]
  refine held_done (by kernel_rfl) ?_ _
  refine hK16 _ _ ?_
  clear hK16
  refine wp_ret ?_
  try simp only [Exit.inBlock, Exit.then]
  refine bodyPost_ret (v := .tuple #[.int .i64 e.kd, .slice a7 e.l.length c7, .int .i64 0]) (res3 rfl rfl rfl rfl) rfl ?_
  have e1 : loadR D V C page = (0, e.kd, e.l, D) := by unfold loadR; rw [if_neg (fun h => h hL), if_neg (by omega), hs]
  have e2 : ∀ ge ld, loadC D V C page ge ld = C.got page := by intro ge ld; unfold loadC; rw [if_neg (fun h => h hL), if_neg (by omega), hs]
  have hkpe : (C.got page).kp = C.kp := (got_parts (C := C) (k := page) fun e he hh => flag_look hF he hh).2.1
  have N1 := M18.arr [0, 6, 7, 3, 2, 4, 5] (by decide)
  have hso2 : SOk (C.got page) V.s.mark { X with x := x1 } := hso.got hF x1 page
  have N2 : Mem w _ w18 [sto (C.got page) V.s.mark s f { X with x := x1 }, bytesL (.slice a7 e.l.length c7) e.l, disk D p pg mb qv, blk f 117 (fC V p)] := sto_close (C := C.got page) (X := { X with x := x1 }) hso2 (by rw [hkpe]; exact N1.arr [3, 4, 5, 6, 0, 1, 2] (by decide))
  rw [e1]
  exact ⟨a7, c7, 0, .slice none 0 0, { X with x := x1 }, rfl, by show x1.n ≤ _; omega, by rw [e2]; exact N2.arr [1, 2, 3, 0] (by decide)⟩
set_option maxRecDepth 100000 in
set_option maxHeartbeats 4000000 in
theorem sload_err {D : DV} {V : FV} {C : CS} {X : SX} {s f p pg mb : Nat} {qv : Value} {w : World} (hM : Mem w (foots [disk D p pg mb qv, blk f 117 (fC V p), sto C V.s.mark s f X]) w [disk D p pg mb qv, blk f 117 (fC V p), sto C V.s.mark s f X]) (page : Int) (hL : liveE D V = 0) (h1 : ¬ page < 2) (h2 : ¬ V.s.mark + (C.kp.length : Int) ≤ page) (hn : C.look page = none) (hV : FOk D V) (hE : fReadE D V page ≠ 0) : Calls Try.prog 34 #[.pointer (some ⟨s, 0, none⟩), .int .i64 page] w fun e' w' => ∃ a c' ge ld X', e' = .returned (.tuple #[.int .i64 (loadR D V C page).2.1, .slice a (loadR D V C page).2.2.1.length c', .int .i64 (loadR D V C page).1]) ∧ X'.x.n ≤ X.x.n + 1 ∧ Mem w (foots [disk D p pg mb qv, blk f 117 (fC V p), sto C V.s.mark s f X]) w' [bytesL (.slice a (loadR D V C page).2.2.1.length c') (loadR D V C page).2.2.1, disk (loadR D V C page).2.2.2 p pg mb qv, blk f 117 (fC V p), sto (loadC D V C page ge ld) V.s.mark s f X'] := by
  have M := hM
  clear hM
  have hF : CFlag C := by
    have := (sto_open (M.arr [2, 0, 1] (by decide))).2
    exact ((this.get 1 rfl).1).2
  have hsk := sto_ok (M.get 2 rfl)
  have hm2 := hsk.mk2
  have hkl := hsk.kpl
  have hcl := hsk.room
  have hrm := hsk.rm
  go_enter Try.func34, Try.ntmps34
  refine wp_seq_k (fun K1 hK1 => ?_)
  refine wp_region_lit ?_
  refine pl M (y_assign (v := .int .i64 0) rfl rfl rfl) ?_
  simp only [Act.put, zq1, zq2, zq3]
  refine pl M (y_assign (v := .slice none 0 0) rfl rfl rfl) ?_
  simp only [Act.put, zq1, zq2, zq3]
  refine pl M (y_assign (v := .int .i64 0) rfl rfl rfl) ?_
  simp only [Act.put, zq1, zq2, zq3]
  refine wpList_nil ?_
  refine hK1 _ _ ?_
  clear hK1
  refine wp_seq_k (fun K2 hK2 => ?_)
  refine wp_seq_k (fun K3 hK3 => ?_)
  refine wp_region_lit ?_
  refine pl M (y_move (v := .pointer (some ⟨s, 0, none⟩)) rfl rfl rfl) ?_
  simp only [Act.put, zq1, zq2, zq3]
  have hX4 : Mem w _ w ([disk D p pg mb qv, blk f 117 (fC V p), sto C V.s.mark s f X] ++ []) := M.arr [0, 1, 2] (by decide)
  refine pe rfl (fun K hK => ?_)
  refine e_call 26 [.pointer (some ⟨s, 0, none⟩)] rfl rfl Try.call26 (slive_any (Mem.here hX4)) ?_
  rintro e w4 ⟨rfl, H4⟩
  have M4 : Mem w _ w4 [disk D p pg mb qv, blk f 117 (fC V p), sto C V.s.mark s f X] := Mem.frame hX4 H4
  refine ⟨_, rfl, ?_⟩
  refine hK.out _ _ ?_
  clear hK K
  simp only [Act.put, zq1, zq2, zq3]
  refine pl M4 (y_assign (v := .int .i64 (liveE D V)) rfl rfl rfl) ?_
  simp only [Act.put, zq1, zq2, zq3]
  refine wpList_nil ?_
  refine hK3 _ _ ?_
  clear hK3
  refine wp_seq_k (fun K5 hK5 => ?_)
  refine wp_region_lit ?_
  refine pl M4 (y_move (v := .int .i64 (liveE D V)) rfl rfl rfl) ?_
  simp only [Act.put, zq1, zq2, zq3]
  refine pl M4 (y_neq (b := false) rfl rfl rfl rfl (by rw [decide_eq_true hL]; rfl)) ?_
  simp only [Act.put, zq1, zq2, zq3]
  refine wpList_nil ?_
  refine hK5 _ _ ?_
  clear hK5
  refine wp_cond_false rfl ?_
  refine wp_skip ?_
  refine hK2 _ _ ?_
  clear hK2
  refine wp_seq_k (fun K6 hK6 => ?_)
  refine wp_seq_k (fun K7 hK7 => ?_)
  refine wp_region_lit ?_
  refine pl M4 (y_move (v := .int .i64 page) rfl rfl rfl) ?_
  simp only [Act.put, zq1, zq2, zq3]
  refine pl M4 (y_lss (b := false) rfl rfl rfl rfl (decide_eq_false h1)) ?_
  simp only [Act.put, zq1, zq2, zq3]
  refine pl M4 (y_move (v := .bool false) rfl rfl rfl) ?_
  simp only [Act.put, zq1, zq2, zq3]
  refine pl M4 (y_move (v := .int .i64 page) rfl rfl rfl) ?_
  simp only [Act.put, zq1, zq2, zq3]
  refine pl M4 (y_move (v := .pointer (some ⟨s, 0, none⟩)) rfl rfl rfl) ?_
  simp only [Act.put, zq1, zq2, zq3]
  have hX8 : Mem w _ w4 ([disk D p pg mb qv, blk f 117 (fC V p), sto C V.s.mark s f X] ++ []) := M4.arr [0, 1, 2] (by decide)
  refine pe rfl (fun K hK => ?_)
  refine e_call 19 [.pointer (some ⟨s, 0, none⟩)] rfl rfl Try.call19 (snext_any (Mem.here hX8)) ?_
  rintro e w8 ⟨rfl, H8⟩
  have M8 : Mem w _ w8 [disk D p pg mb qv, blk f 117 (fC V p), sto C V.s.mark s f X] := Mem.frame hX8 H8
  refine ⟨_, rfl, ?_⟩
  refine hK.out _ _ ?_
  clear hK K
  simp only [Act.put, zq1, zq2, zq3]
  refine pl M8 (y_geq (b := false) rfl rfl rfl rfl (decide_eq_false h2)) ?_
  simp only [Act.put, zq1, zq2, zq3]
  refine pl M8 (y_pickF (v := .bool false) rfl rfl rfl rfl) ?_
  simp only [Act.put, zq1, zq2, zq3]
  refine wpList_nil ?_
  refine hK7 _ _ ?_
  clear hK7
  refine wp_cond_false rfl ?_
  refine wp_skip ?_
  refine hK6 _ _ ?_
  clear hK6
  refine wp_seq_k (fun K9 hK9 => ?_)
  refine wp_seq_k (fun K10 hK10 => ?_)
  obtain ⟨hso, M11⟩ : _ ∧ Mem w (foots [disk D p pg mb qv, blk f 117 (fC V p), sto C V.s.mark s f X]) w8 [blk s 124 ([.pointer (some ⟨f, 0, none⟩), .func (.func 51) #[.pointer (some ⟨f, 0, none⟩)] #[], .pointer (some ⟨X.c, 0, none⟩), .slice X.sa C.kp.length X.sc]), cache C X.c X.mb X.x, lst 121 2 (.slice X.sa C.kp.length X.sc) C.kp.length (stC C.kp), vault X.V, disk D p pg mb qv, blk f 117 (fC V p)] := sto_open (M8.arr [2, 0, 1] (by decide))
  clear M8
  refine wp_region_lit ?_
  refine pl M11 (y_move (v := .pointer (some ⟨s, 0, none⟩)) rfl rfl rfl) ?_
  simp only [Act.put, zq1, zq2, zq3]
  refine pl M11 (y_nil rfl rfl rfl) ?_
  simp only [Act.put, zq1, zq2, zq3]
  refine pl M11 (y_fa (r := 2) rfl rfl rfl Try.underlying124 rfl Try.sizeOf118 rfl) ?_
  simp only [Act.put, zq1, zq2, zq3]
  refine pl M11 (y_load (v := .pointer (some ⟨X.c, 0, none⟩)) rfl rfl rfl Try.isAgg118 (fun W hW => hW.get 0 rfl) (rfl)) ?_
  simp only [Act.put, zq1, zq2, zq3]
  refine pl M11 (y_move (v := .int .i64 page) rfl rfl rfl) ?_
  simp only [Act.put, zq1, zq2, zq3]
  have hX12 : Mem w _ w8 ([cache C X.c X.mb X.x] ++ [blk s 124 ([.pointer (some ⟨f, 0, none⟩), .func (.func 51) #[.pointer (some ⟨f, 0, none⟩)] #[], .pointer (some ⟨X.c, 0, none⟩), .slice X.sa C.kp.length X.sc]), lst 121 2 (.slice X.sa C.kp.length X.sc) C.kp.length (stC C.kp), vault X.V, disk D p pg mb qv, blk f 117 (fC V p)]) := M11.arr [1, 0, 2, 3, 4, 5] (by decide)
  have hCH12 := cget_none (Mem.here hX12) ⟨by omega, by omega⟩ hn
  refine pe rfl (fun K hK => ?_)
  refine e_call 65 [.pointer (some ⟨X.c, 0, none⟩), .int .i64 page] rfl rfl Try.call65 (hCH12) ?_
  rintro e w12 ⟨x1, rfl, hx1, H12⟩
  have M12 : Mem w _ w12 [cache (C.got page) X.c X.mb x1, blk s 124 ([.pointer (some ⟨f, 0, none⟩), .func (.func 51) #[.pointer (some ⟨f, 0, none⟩)] #[], .pointer (some ⟨X.c, 0, none⟩), .slice X.sa C.kp.length X.sc]), lst 121 2 (.slice X.sa C.kp.length X.sc) C.kp.length (stC C.kp), vault X.V, disk D p pg mb qv, blk f 117 (fC V p)] := Mem.frame hX12 H12
  refine ⟨_, rfl, ?_⟩
  refine hK.out _ _ ?_
  clear hK K
  simp only [Act.put, zq1, zq2, zq3]
  refine pl M12 (y_move (v := .tuple #[.agg ([.int .i64 0, .slice none 0 0]).toArray, .bool false]) rfl rfl rfl) ?_
  simp only [Act.put, zq1, zq2, zq3]
  refine pl M12 (y_ext (v := .agg ([.int .i64 0, .slice none 0 0]).toArray) rfl rfl rfl rfl) ?_
  simp only [Act.put, zq1, zq2, zq3]
  refine pl M12 (y_ext (v := .bool false) rfl rfl rfl rfl) ?_
  simp only [Act.put, zq1, zq2, zq3]
  refine pe rfl (fun K hK => ?_)
  refine e_alloc M12 ([.int .i64 0, .slice none 0 0]) rfl Try.zeroValue121 ?_
  intro g8 w13 (M13 : Mem w _ w13 [blk g8 121 ([.int .i64 0, .slice none 0 0]), cache (C.got page) X.c X.mb x1, blk s 124 ([.pointer (some ⟨f, 0, none⟩), .func (.func 51) #[.pointer (some ⟨f, 0, none⟩)] #[], .pointer (some ⟨X.c, 0, none⟩), .slice X.sa C.kp.length X.sc]), lst 121 2 (.slice X.sa C.kp.length X.sc) C.kp.length (stC C.kp), vault X.V, disk D p pg mb qv, blk f 117 (fC V p)])
  clear M12
  refine hK.out _ _ ?_
  clear hK K
  simp only [Act.put, zq1, zq2, zq3]
  refine pe rfl (fun K hK => ?_)
  refine e_storew M13 0 (cs := [.int .i64 0, .slice none 0 0]) rfl rfl rfl rfl (size_of_len (n := 2) _ rfl (by kernel_rfl)) (list_all _ rfl) rfl (rfl) ?_
  intro w14 (M14 : Mem w _ w14 [blk g8 121 ([.int .i64 0, .slice none 0 0]), cache (C.got page) X.c X.mb x1, blk s 124 ([.pointer (some ⟨f, 0, none⟩), .func (.func 51) #[.pointer (some ⟨f, 0, none⟩)] #[], .pointer (some ⟨X.c, 0, none⟩), .slice X.sa C.kp.length X.sc]), lst 121 2 (.slice X.sa C.kp.length X.sc) C.kp.length (stC C.kp), vault X.V, disk D p pg mb qv, blk f 117 (fC V p)])
  clear M13
  refine hK.out _ _ ?_
  clear hK K
  simp only [Act.put, zq1, zq2, zq3]
  refine pl M14 (y_assign (v := .bool false) rfl rfl rfl) ?_
  simp only [Act.put, zq1, zq2, zq3]
  refine wpList_nil ?_
  refine hK10 _ _ ?_
  clear hK10
  refine wp_seq_k (fun K15 hK15 => ?_)
  refine wp_region_lit ?_
  refine pl M14 (y_move (v := .bool false) rfl rfl rfl) ?_
  simp only [Act.put, zq1, zq2, zq3]
  refine wpList_nil ?_
  refine hK15 _ _ ?_
  clear hK15
  refine wp_cond_false rfl ?_
  refine wp_skip ?_
  refine hK9 _ _ ?_
  clear hK9
  refine wp_seq_k (fun K16 hK16 => ?_)
  refine wp_region_lit ?_
  refine pl M14 (y_move (v := .pointer (some ⟨s, 0, none⟩)) rfl rfl rfl) ?_
  simp only [Act.put, zq1, zq2, zq3]
  refine pl M14 (y_nil rfl rfl rfl) ?_
  simp only [Act.put, zq1, zq2, zq3]
  refine pl M14 (y_fa (r := 1) rfl rfl rfl Try.underlying124 rfl Try.sizeOf89 rfl) ?_
  simp only [Act.put, zq1, zq2, zq3]
  refine pl M14 (y_load (v := .func (.func 51) #[.pointer (some ⟨f, 0, none⟩)] #[]) rfl rfl rfl Try.isAgg89 (fun W hW => hW.get 2 rfl) (rfl)) ?_
  simp only [Act.put, zq1, zq2, zq3]
  refine pl M14 (y_move (v := .int .i64 page) rfl rfl rfl) ?_
  simp only [Act.put, zq1, zq2, zq3]
  have hX17 : Mem w _ w14 ([disk D p pg mb qv, blk f 117 (fC V p)] ++ [blk g8 121 ([.int .i64 0, .slice none 0 0]), cache (C.got page) X.c X.mb x1, blk s 124 ([.pointer (some ⟨f, 0, none⟩), .func (.func 51) #[.pointer (some ⟨f, 0, none⟩)] #[], .pointer (some ⟨X.c, 0, none⟩), .slice X.sa C.kp.length X.sc]), lst 121 2 (.slice X.sa C.kp.length X.sc) C.kp.length (stC C.kp), vault X.V]) := M14.arr [5, 6, 0, 1, 2, 3, 4] (by decide)
  refine pe rfl (fun K hK => ?_)
  refine e_callv 51 [.pointer (some ⟨f, 0, none⟩), .int .i64 page] rfl rfl rfl Try.call51 (fread_sl (Mem.here hX17) page hV) ?_
  rintro e w17 ⟨ra, rc, rfl, H17⟩
  have M17 : Mem w _ w17 [disk (fReadD D V page) p pg mb qv, blk f 117 (fC V p), bytesL (.slice ra (fReadL D V page).length rc) (fReadL D V page), blk g8 121 ([.int .i64 0, .slice none 0 0]), cache (C.got page) X.c X.mb x1, blk s 124 ([.pointer (some ⟨f, 0, none⟩), .func (.func 51) #[.pointer (some ⟨f, 0, none⟩)] #[], .pointer (some ⟨X.c, 0, none⟩), .slice X.sa C.kp.length X.sc]), lst 121 2 (.slice X.sa C.kp.length X.sc) C.kp.length (stC C.kp), vault X.V] := Mem.frame hX17 H17
  refine ⟨_, rfl, ?_⟩
  refine hK.out _ _ ?_
  clear hK K
  simp only [Act.put, zq1, zq2, zq3]
  refine pl M17 (y_move (v := .tuple #[.int .i64 (fReadK D V page), .slice ra ((fReadL D V page).length) rc, .int .i64 (fReadE D V page)]) rfl rfl rfl) ?_
  simp only [Act.put, zq1, zq2, zq3]
  refine pl M17 (y_ext (v := .int .i64 (fReadK D V page)) rfl rfl rfl rfl) ?_
  simp only [Act.put, zq1, zq2, zq3]
  refine pl M17 (y_ext (v := .slice ra ((fReadL D V page).length) rc) rfl rfl rfl rfl) ?_
  simp only [Act.put, zq1, zq2, zq3]
  refine pl M17 (y_ext (v := .int .i64 (fReadE D V page)) rfl rfl rfl rfl) ?_
  simp only [Act.put, zq1, zq2, zq3]
  refine pl M17 (y_assign (v := .int .i64 (fReadK D V page)) rfl rfl rfl) ?_
  simp only [Act.put, zq1, zq2, zq3]
  refine pl M17 (y_assign (v := .slice ra ((fReadL D V page).length) rc) rfl rfl rfl) ?_
  simp only [Act.put, zq1, zq2, zq3]
  refine pl M17 (y_assign (v := .int .i64 (fReadE D V page)) rfl rfl rfl) ?_
  simp only [Act.put, zq1, zq2, zq3]
  refine wpList_nil ?_
  refine hK16 _ _ ?_
  clear hK16
  refine wp_seq_k (fun K18 hK18 => ?_)
  refine wp_seq_k (fun K19 hK19 => ?_)
  refine wp_region_lit ?_
  refine pl M17 (y_move (v := .int .i64 (fReadE D V page)) rfl rfl rfl) ?_
  simp only [Act.put, zq1, zq2, zq3]
  refine pl M17 (y_neq (b := true) rfl rfl rfl rfl (by rw [decide_eq_false hE]; rfl)) ?_
  simp only [Act.put, zq1, zq2, zq3]
  refine wpList_nil ?_
  refine hK19 _ _ ?_
  clear hK19
  refine wp_cond_true rfl ?_
  refine wp_seq_k (fun K20 hK20 => ?_)
  refine wp_region_lit ?_
  refine pl M17 (y_move (v := .int .i64 (fReadE D V page)) rfl rfl rfl) ?_
  simp only [Act.put, zq1, zq2, zq3]
  refine pl M17 (y_assign (v := .int .i64 0) rfl rfl rfl) ?_
  simp only [Act.put, zq1, zq2, zq3]
  refine pl M17 (y_assign (v := .slice none 0 0) rfl rfl rfl) ?_
  simp only [Act.put, zq1, zq2, zq3]
  refine pl M17 (y_assign (v := .int .i64 (fReadE D V page)) rfl rfl rfl) ?_
  simp only [Act.put, zq1, zq2, zq3]
  refine wpList_nil ?_
  refine hK20 _ _ ?_
  clear hK20
  refine wp_ret ?_
  try simp only [Exit.inBlock, Exit.then]
  refine bodyPost_ret (v := .tuple #[.int .i64 0, .slice none 0 0, .int .i64 (fReadE D V page)]) (res3 rfl rfl rfl rfl) rfl ?_
  obtain ⟨z1, z2⟩ := fRead_no rfl hE
  have e1 : loadR D V C page = (fReadE D V page, 0, [], fReadD D V page) := by unfold loadR; rw [if_neg (fun h => h hL), if_neg (by omega), hn, z1, z2]
  have e2 : ∀ ge ld, loadC D V C page ge ld = C.got page := by intro ge ld; unfold loadC; rw [if_neg (fun h => h hL), if_neg (by omega), hn]; exact if_pos hE
  have hkpe : (C.got page).kp = C.kp := (got_parts (C := C) (k := page) fun e he hh => flag_look hF he hh).2.1
  have N1 := Mem.nilst (M17.arr [0, 1, 5, 4, 6, 7] (by decide)) 5 1
  have hso2 : SOk (C.got page) V.s.mark { X with x := x1 } := hso.got hF x1 page
  have N2 : Mem w _ w17 [sto (C.got page) V.s.mark s f { X with x := x1 }, bytesL (.slice none 0 0) [], disk (fReadD D V page) p pg mb qv, blk f 117 (fC V p)] := sto_close (C := C.got page) (X := { X with x := x1 }) hso2 (by rw [hkpe]; exact N1.arr [3, 4, 5, 6, 0, 1, 2] (by decide))
  rw [e1]
  exact ⟨none, 0, 0, .slice none 0 0, { X with x := x1 }, rfl, by show x1.n ≤ _; omega, by rw [e2]; exact N2.arr [1, 2, 3, 0] (by decide)⟩
end Go.Proofs.Ytmmkgkbjneebkaa

/- The store: Load behind a miss, and all. -/
namespace Go.Proofs.Ytmmkgkbjneebkaa
set_option linter.unusedSectionVars false
open Go Go.RowKit
set_option linter.unusedVariables false
set_option linter.unusedSimpArgs false
set_option maxRecDepth 100000 in
set_option maxHeartbeats 4000000 in
theorem sload_miss {D : DV} {V : FV} {C : CS} {X : SX} {s f p pg mb : Nat} {qv : Value} {w : World} (hM : Mem w (foots [disk D p pg mb qv, blk f 117 (fC V p), sto C V.s.mark s f X]) w [disk D p pg mb qv, blk f 117 (fC V p), sto C V.s.mark s f X]) (page : Int) (hL : liveE D V = 0) (h1 : ¬ page < 2) (h2 : ¬ V.s.mark + (C.kp.length : Int) ≤ page) (hn : C.look page = none) (hV : FOk D V) (hE : fReadE D V page = 0) (hnx : V.next = V.s.mark) (hlen : (fReadL D V page).length ≤ 1099511627776) (hXn : X.x.n < 100000000000000) : Calls Try.prog 34 #[.pointer (some ⟨s, 0, none⟩), .int .i64 page] w fun e' w' => ∃ a c' ge ld X', e' = .returned (.tuple #[.int .i64 (loadR D V C page).2.1, .slice a (loadR D V C page).2.2.1.length c', .int .i64 (loadR D V C page).1]) ∧ X'.x.n ≤ X.x.n + 1 ∧ Mem w (foots [disk D p pg mb qv, blk f 117 (fC V p), sto C V.s.mark s f X]) w' [bytesL (.slice a (loadR D V C page).2.2.1.length c') (loadR D V C page).2.2.1, disk (loadR D V C page).2.2.2 p pg mb qv, blk f 117 (fC V p), sto (loadC D V C page ge ld) V.s.mark s f X'] := by
  have M := hM
  clear hM
  have hF : CFlag C := by
    have := (sto_open (M.arr [2, 0, 1] (by decide))).2
    exact ((this.get 1 rfl).1).2
  have hsk := sto_ok (M.get 2 rfl)
  have hm2 := hsk.mk2
  have hkl := hsk.kpl
  have hcl := hsk.room
  have hrm := hsk.rm
  have hgot : C.got page = { C with misses := wrap64 (C.misses + 1) } := by unfold CS.got; rw [hn]
  have hgc : (C.got page).cl = C.cl := by rw [hgot]
  have hgn : (C.got page).look page = none := by rw [hgot]; exact hn
  go_enter Try.func34, Try.ntmps34
  refine wp_seq_k (fun K1 hK1 => ?_)
  refine wp_region_lit ?_
  refine pl M (y_assign (v := .int .i64 0) rfl rfl rfl) ?_
  simp only [Act.put, zq1, zq2, zq3]
  refine pl M (y_assign (v := .slice none 0 0) rfl rfl rfl) ?_
  simp only [Act.put, zq1, zq2, zq3]
  refine pl M (y_assign (v := .int .i64 0) rfl rfl rfl) ?_
  simp only [Act.put, zq1, zq2, zq3]
  refine wpList_nil ?_
  refine hK1 _ _ ?_
  clear hK1
  refine wp_seq_k (fun K2 hK2 => ?_)
  refine wp_seq_k (fun K3 hK3 => ?_)
  refine wp_region_lit ?_
  refine pl M (y_move (v := .pointer (some ⟨s, 0, none⟩)) rfl rfl rfl) ?_
  simp only [Act.put, zq1, zq2, zq3]
  have hX4 : Mem w _ w ([disk D p pg mb qv, blk f 117 (fC V p), sto C V.s.mark s f X] ++ []) := M.arr [0, 1, 2] (by decide)
  refine pe rfl (fun K hK => ?_)
  refine e_call 26 [.pointer (some ⟨s, 0, none⟩)] rfl rfl Try.call26 (slive_any (Mem.here hX4)) ?_
  rintro e w4 ⟨rfl, H4⟩
  have M4 : Mem w _ w4 [disk D p pg mb qv, blk f 117 (fC V p), sto C V.s.mark s f X] := Mem.frame hX4 H4
  refine ⟨_, rfl, ?_⟩
  refine hK.out _ _ ?_
  clear hK K
  simp only [Act.put, zq1, zq2, zq3]
  refine pl M4 (y_assign (v := .int .i64 (liveE D V)) rfl rfl rfl) ?_
  simp only [Act.put, zq1, zq2, zq3]
  refine wpList_nil ?_
  refine hK3 _ _ ?_
  clear hK3
  refine wp_seq_k (fun K5 hK5 => ?_)
  refine wp_region_lit ?_
  refine pl M4 (y_move (v := .int .i64 (liveE D V)) rfl rfl rfl) ?_
  simp only [Act.put, zq1, zq2, zq3]
  refine pl M4 (y_neq (b := false) rfl rfl rfl rfl (by rw [decide_eq_true hL]; rfl)) ?_
  simp only [Act.put, zq1, zq2, zq3]
  refine wpList_nil ?_
  refine hK5 _ _ ?_
  clear hK5
  refine wp_cond_false rfl ?_
  refine wp_skip ?_
  refine hK2 _ _ ?_
  clear hK2
  refine wp_seq_k (fun K6 hK6 => ?_)
  refine wp_seq_k (fun K7 hK7 => ?_)
  refine wp_region_lit ?_
  refine pl M4 (y_move (v := .int .i64 page) rfl rfl rfl) ?_
  simp only [Act.put, zq1, zq2, zq3]
  refine pl M4 (y_lss (b := false) rfl rfl rfl rfl (decide_eq_false h1)) ?_
  simp only [Act.put, zq1, zq2, zq3]
  refine pl M4 (y_move (v := .bool false) rfl rfl rfl) ?_
  simp only [Act.put, zq1, zq2, zq3]
  refine pl M4 (y_move (v := .int .i64 page) rfl rfl rfl) ?_
  simp only [Act.put, zq1, zq2, zq3]
  refine pl M4 (y_move (v := .pointer (some ⟨s, 0, none⟩)) rfl rfl rfl) ?_
  simp only [Act.put, zq1, zq2, zq3]
  have hX8 : Mem w _ w4 ([disk D p pg mb qv, blk f 117 (fC V p), sto C V.s.mark s f X] ++ []) := M4.arr [0, 1, 2] (by decide)
  refine pe rfl (fun K hK => ?_)
  refine e_call 19 [.pointer (some ⟨s, 0, none⟩)] rfl rfl Try.call19 (snext_any (Mem.here hX8)) ?_
  rintro e w8 ⟨rfl, H8⟩
  have M8 : Mem w _ w8 [disk D p pg mb qv, blk f 117 (fC V p), sto C V.s.mark s f X] := Mem.frame hX8 H8
  refine ⟨_, rfl, ?_⟩
  refine hK.out _ _ ?_
  clear hK K
  simp only [Act.put, zq1, zq2, zq3]
  refine pl M8 (y_geq (b := false) rfl rfl rfl rfl (decide_eq_false h2)) ?_
  simp only [Act.put, zq1, zq2, zq3]
  refine pl M8 (y_pickF (v := .bool false) rfl rfl rfl rfl) ?_
  simp only [Act.put, zq1, zq2, zq3]
  refine wpList_nil ?_
  refine hK7 _ _ ?_
  clear hK7
  refine wp_cond_false rfl ?_
  refine wp_skip ?_
  refine hK6 _ _ ?_
  clear hK6
  refine wp_seq_k (fun K9 hK9 => ?_)
  refine wp_seq_k (fun K10 hK10 => ?_)
  obtain ⟨hso, M11⟩ : _ ∧ Mem w (foots [disk D p pg mb qv, blk f 117 (fC V p), sto C V.s.mark s f X]) w8 [blk s 124 ([.pointer (some ⟨f, 0, none⟩), .func (.func 51) #[.pointer (some ⟨f, 0, none⟩)] #[], .pointer (some ⟨X.c, 0, none⟩), .slice X.sa C.kp.length X.sc]), cache C X.c X.mb X.x, lst 121 2 (.slice X.sa C.kp.length X.sc) C.kp.length (stC C.kp), vault X.V, disk D p pg mb qv, blk f 117 (fC V p)] := sto_open (M8.arr [2, 0, 1] (by decide))
  clear M8
  refine wp_region_lit ?_
  refine pl M11 (y_move (v := .pointer (some ⟨s, 0, none⟩)) rfl rfl rfl) ?_
  simp only [Act.put, zq1, zq2, zq3]
  refine pl M11 (y_nil rfl rfl rfl) ?_
  simp only [Act.put, zq1, zq2, zq3]
  refine pl M11 (y_fa (r := 2) rfl rfl rfl Try.underlying124 rfl Try.sizeOf118 rfl) ?_
  simp only [Act.put, zq1, zq2, zq3]
  refine pl M11 (y_load (v := .pointer (some ⟨X.c, 0, none⟩)) rfl rfl rfl Try.isAgg118 (fun W hW => hW.get 0 rfl) (rfl)) ?_
  simp only [Act.put, zq1, zq2, zq3]
  refine pl M11 (y_move (v := .int .i64 page) rfl rfl rfl) ?_
  simp only [Act.put, zq1, zq2, zq3]
  have hX12 : Mem w _ w8 ([cache C X.c X.mb X.x] ++ [blk s 124 ([.pointer (some ⟨f, 0, none⟩), .func (.func 51) #[.pointer (some ⟨f, 0, none⟩)] #[], .pointer (some ⟨X.c, 0, none⟩), .slice X.sa C.kp.length X.sc]), lst 121 2 (.slice X.sa C.kp.length X.sc) C.kp.length (stC C.kp), vault X.V, disk D p pg mb qv, blk f 117 (fC V p)]) := M11.arr [1, 0, 2, 3, 4, 5] (by decide)
  have hCH12 := cget_none (Mem.here hX12) ⟨by omega, by omega⟩ hn
  refine pe rfl (fun K hK => ?_)
  refine e_call 65 [.pointer (some ⟨X.c, 0, none⟩), .int .i64 page] rfl rfl Try.call65 (hCH12) ?_
  rintro e w12 ⟨x1, rfl, hx1, H12⟩
  have M12 : Mem w _ w12 [cache (C.got page) X.c X.mb x1, blk s 124 ([.pointer (some ⟨f, 0, none⟩), .func (.func 51) #[.pointer (some ⟨f, 0, none⟩)] #[], .pointer (some ⟨X.c, 0, none⟩), .slice X.sa C.kp.length X.sc]), lst 121 2 (.slice X.sa C.kp.length X.sc) C.kp.length (stC C.kp), vault X.V, disk D p pg mb qv, blk f 117 (fC V p)] := Mem.frame hX12 H12
  refine ⟨_, rfl, ?_⟩
  refine hK.out _ _ ?_
  clear hK K
  simp only [Act.put, zq1, zq2, zq3]
  refine pl M12 (y_move (v := .tuple #[.agg ([.int .i64 0, .slice none 0 0]).toArray, .bool false]) rfl rfl rfl) ?_
  simp only [Act.put, zq1, zq2, zq3]
  refine pl M12 (y_ext (v := .agg ([.int .i64 0, .slice none 0 0]).toArray) rfl rfl rfl rfl) ?_
  simp only [Act.put, zq1, zq2, zq3]
  refine pl M12 (y_ext (v := .bool false) rfl rfl rfl rfl) ?_
  simp only [Act.put, zq1, zq2, zq3]
  refine pe rfl (fun K hK => ?_)
  refine e_alloc M12 ([.int .i64 0, .slice none 0 0]) rfl Try.zeroValue121 ?_
  intro g8 w13 (M13 : Mem w _ w13 [blk g8 121 ([.int .i64 0, .slice none 0 0]), cache (C.got page) X.c X.mb x1, blk s 124 ([.pointer (some ⟨f, 0, none⟩), .func (.func 51) #[.pointer (some ⟨f, 0, none⟩)] #[], .pointer (some ⟨X.c, 0, none⟩), .slice X.sa C.kp.length X.sc]), lst 121 2 (.slice X.sa C.kp.length X.sc) C.kp.length (stC C.kp), vault X.V, disk D p pg mb qv, blk f 117 (fC V p)])
  clear M12
  refine hK.out _ _ ?_
  clear hK K
  simp only [Act.put, zq1, zq2, zq3]
  refine pe rfl (fun K hK => ?_)
  refine e_storew M13 0 (cs := [.int .i64 0, .slice none 0 0]) rfl rfl rfl rfl (size_of_len (n := 2) _ rfl (by kernel_rfl)) (list_all _ rfl) rfl (rfl) ?_
  intro w14 (M14 : Mem w _ w14 [blk g8 121 ([.int .i64 0, .slice none 0 0]), cache (C.got page) X.c X.mb x1, blk s 124 ([.pointer (some ⟨f, 0, none⟩), .func (.func 51) #[.pointer (some ⟨f, 0, none⟩)] #[], .pointer (some ⟨X.c, 0, none⟩), .slice X.sa C.kp.length X.sc]), lst 121 2 (.slice X.sa C.kp.length X.sc) C.kp.length (stC C.kp), vault X.V, disk D p pg mb qv, blk f 117 (fC V p)])
  clear M13
  refine hK.out _ _ ?_
  clear hK K
  simp only [Act.put, zq1, zq2, zq3]
  refine pl M14 (y_assign (v := .bool false) rfl rfl rfl) ?_
  simp only [Act.put, zq1, zq2, zq3]
  refine wpList_nil ?_
  refine hK10 _ _ ?_
  clear hK10
  refine wp_seq_k (fun K15 hK15 => ?_)
  refine wp_region_lit ?_
  refine pl M14 (y_move (v := .bool false) rfl rfl rfl) ?_
  simp only [Act.put, zq1, zq2, zq3]
  refine wpList_nil ?_
  refine hK15 _ _ ?_
  clear hK15
  refine wp_cond_false rfl ?_
  refine wp_skip ?_
  refine hK9 _ _ ?_
  clear hK9
  refine wp_seq_k (fun K16 hK16 => ?_)
  refine wp_region_lit ?_
  refine pl M14 (y_move (v := .pointer (some ⟨s, 0, none⟩)) rfl rfl rfl) ?_
  simp only [Act.put, zq1, zq2, zq3]
  refine pl M14 (y_nil rfl rfl rfl) ?_
  simp only [Act.put, zq1, zq2, zq3]
  refine pl M14 (y_fa (r := 1) rfl rfl rfl Try.underlying124 rfl Try.sizeOf89 rfl) ?_
  simp only [Act.put, zq1, zq2, zq3]
  refine pl M14 (y_load (v := .func (.func 51) #[.pointer (some ⟨f, 0, none⟩)] #[]) rfl rfl rfl Try.isAgg89 (fun W hW => hW.get 2 rfl) (rfl)) ?_
  simp only [Act.put, zq1, zq2, zq3]
  refine pl M14 (y_move (v := .int .i64 page) rfl rfl rfl) ?_
  simp only [Act.put, zq1, zq2, zq3]
  have hX17 : Mem w _ w14 ([disk D p pg mb qv, blk f 117 (fC V p)] ++ [blk g8 121 ([.int .i64 0, .slice none 0 0]), cache (C.got page) X.c X.mb x1, blk s 124 ([.pointer (some ⟨f, 0, none⟩), .func (.func 51) #[.pointer (some ⟨f, 0, none⟩)] #[], .pointer (some ⟨X.c, 0, none⟩), .slice X.sa C.kp.length X.sc]), lst 121 2 (.slice X.sa C.kp.length X.sc) C.kp.length (stC C.kp), vault X.V]) := M14.arr [5, 6, 0, 1, 2, 3, 4] (by decide)
  refine pe rfl (fun K hK => ?_)
  refine e_callv 51 [.pointer (some ⟨f, 0, none⟩), .int .i64 page] rfl rfl rfl Try.call51 (fread_sl (Mem.here hX17) page hV) ?_
  rintro e w17 ⟨ra, rc, rfl, H17⟩
  have M17 : Mem w _ w17 [disk (fReadD D V page) p pg mb qv, blk f 117 (fC V p), bytesL (.slice ra (fReadL D V page).length rc) (fReadL D V page), blk g8 121 ([.int .i64 0, .slice none 0 0]), cache (C.got page) X.c X.mb x1, blk s 124 ([.pointer (some ⟨f, 0, none⟩), .func (.func 51) #[.pointer (some ⟨f, 0, none⟩)] #[], .pointer (some ⟨X.c, 0, none⟩), .slice X.sa C.kp.length X.sc]), lst 121 2 (.slice X.sa C.kp.length X.sc) C.kp.length (stC C.kp), vault X.V] := Mem.frame hX17 H17
  refine ⟨_, rfl, ?_⟩
  refine hK.out _ _ ?_
  clear hK K
  simp only [Act.put, zq1, zq2, zq3]
  refine pl M17 (y_move (v := .tuple #[.int .i64 (fReadK D V page), .slice ra ((fReadL D V page).length) rc, .int .i64 (fReadE D V page)]) rfl rfl rfl) ?_
  simp only [Act.put, zq1, zq2, zq3]
  refine pl M17 (y_ext (v := .int .i64 (fReadK D V page)) rfl rfl rfl rfl) ?_
  simp only [Act.put, zq1, zq2, zq3]
  refine pl M17 (y_ext (v := .slice ra ((fReadL D V page).length) rc) rfl rfl rfl rfl) ?_
  simp only [Act.put, zq1, zq2, zq3]
  refine pl M17 (y_ext (v := .int .i64 (fReadE D V page)) rfl rfl rfl rfl) ?_
  simp only [Act.put, zq1, zq2, zq3]
  refine pl M17 (y_assign (v := .int .i64 (fReadK D V page)) rfl rfl rfl) ?_
  simp only [Act.put, zq1, zq2, zq3]
  refine pl M17 (y_assign (v := .slice ra ((fReadL D V page).length) rc) rfl rfl rfl) ?_
  simp only [Act.put, zq1, zq2, zq3]
  refine pl M17 (y_assign (v := .int .i64 (fReadE D V page)) rfl rfl rfl) ?_
  simp only [Act.put, zq1, zq2, zq3]
  refine wpList_nil ?_
  refine hK16 _ _ ?_
  clear hK16
  refine wp_seq_k (fun K18 hK18 => ?_)
  refine wp_seq_k (fun K19 hK19 => ?_)
  refine wp_region_lit ?_
  refine pl M17 (y_move (v := .int .i64 (fReadE D V page)) rfl rfl rfl) ?_
  simp only [Act.put, zq1, zq2, zq3]
  refine pl M17 (y_neq (b := false) rfl rfl rfl rfl (by rw [decide_eq_true hE]; rfl)) ?_
  simp only [Act.put, zq1, zq2, zq3]
  refine wpList_nil ?_
  refine hK19 _ _ ?_
  clear hK19
  refine wp_cond_false rfl ?_
  refine wp_skip ?_
  refine hK18 _ _ ?_
  clear hK18
  refine wp_seq_k (fun K20 hK20 => ?_)
  have M21 := M17.drew
  refine held_begin (fun W => Mem w (foots [disk D p pg mb qv, blk f 117 (fC V p), sto C V.s.mark s f X]) W [blk s 124 ([.pointer (some ⟨f, 0, none⟩), .func (.func 51) #[.pointer (some ⟨f, 0, none⟩)] #[], .pointer (some ⟨X.c, 0, none⟩), .slice X.sa C.kp.length X.sc])]) (by kernel_rfl) (M21.arr [5] (by decide)) (fun hS => ?_)
  refine held_take 0 _ rfl (by kernel_rfl) (by kernel_rfl) (by kernel_rfl) (y_move (v := .pointer (some ⟨s, 0, none⟩)) rfl rfl rfl) hS ?_
  simp only [Act.put, zq1, zq2, zq3]
  refine held_take 1 _ rfl (by kernel_rfl) (by kernel_rfl) (by kernel_rfl) (y_nil rfl rfl rfl) hS ?_
  simp only [Act.put, zq1, zq2, zq3]
  refine held_take 2 _ rfl (by kernel_rfl) (by kernel_rfl) (by kernel_rfl) (y_fa (r := 2) rfl rfl rfl Try.underlying124 rfl Try.sizeOf118 rfl) hS ?_
  simp only [Act.put, zq1, zq2, zq3]
  refine held_take 3 _ rfl (by kernel_rfl) (by kernel_rfl) (by kernel_rfl) (y_load (v := .pointer (some ⟨X.c, 0, none⟩)) rfl rfl rfl Try.isAgg118 (fun W hW => hW.get 0 rfl) (rfl)) hS ?_
  simp only [Act.put, zq1, zq2, zq3]
  refine held_take 4 _ rfl (by kernel_rfl) (by kernel_rfl) (by kernel_rfl) (y_move (v := .int .i64 page) rfl rfl rfl) hS ?_
  simp only [Act.put, zq1, zq2, zq3]
  refine held_take 5 _ rfl (by kernel_rfl) (by kernel_rfl) (by kernel_rfl) (y_move (v := .int .i64 (fReadK D V page)) rfl rfl rfl) hS ?_
  simp only [Act.put, zq1, zq2, zq3]
  refine held_take 6 _ rfl (by kernel_rfl) (by kernel_rfl) (by kernel_rfl) (y_move (v := .slice ra ((fReadL D V page).length) rc) rfl rfl rfl) hS ?_
  simp only [Act.put, zq1, zq2, zq3]
  have hbl := M21.get 2 rfl
  have hb9 := bytesL_nil hbl
  refine held_step 7 (by kernel_rfl) rfl (by rfl) (fun K hK => ?_)
  refine e_call 66 [.slice ra ((fReadL D V page).length) rc] rfl rfl Try.call66 (copied_any ra (fReadL D V page).length rc (fReadL D V page) (bytesL_row hbl) hb9.2.2.2 hlen) ?_
  rintro e w22 ⟨a7, c7, rfl, H22⟩
  have M22 : Mem w _ w22 [bytesL (.slice a7 (fReadL D V page).length c7) (fReadL D V page), disk (fReadD D V page) p pg mb qv, blk f 117 (fC V p), bytesL (.slice ra (fReadL D V page).length rc) (fReadL D V page), blk g8 121 ([.int .i64 0, .slice none 0 0]), cache (C.got page) X.c X.mb x1, blk s 124 ([.pointer (some ⟨f, 0, none⟩), .func (.func 51) #[.pointer (some ⟨f, 0, none⟩)] #[], .pointer (some ⟨X.c, 0, none⟩), .slice X.sa C.kp.length X.sc]), lst 121 2 (.slice X.sa C.kp.length X.sc) C.kp.length (stC C.kp), vault X.V] := M21.step H22
  refine ⟨_, rfl, ?_⟩
  refine hK.out _ _ (M22.arr [6] (by decide)) (fun hS => ?_)
  clear hK K
  simp only [Act.put, zq1, zq2, zq3]
  refine held_take 8 _ rfl (by kernel_rfl) (by kernel_rfl) (by kernel_rfl) (y_build (ps := [(0, .tmp 59), (1, .tmp 61)]) (pv := [(0, .int .i64 (fReadK D V page)), (1, .slice a7 ((fReadL D V page).length) c7)]) (cs := [.int .i64 (fReadK D V page), .slice a7 (fReadL D V page).length c7]) rfl rfl rfl (by kernel_rfl)) hS ?_
  simp only [Act.put, zq1, zq2, zq3]
  have hX23 : Mem w _ w22 ([cache (C.got page) X.c X.mb x1] ++ [bytesL (.slice a7 (fReadL D V page).length c7) (fReadL D V page), disk (fReadD D V page) p pg mb qv, blk f 117 (fC V p), bytesL (.slice ra (fReadL D V page).length rc) (fReadL D V page), blk g8 121 ([.int .i64 0, .slice none 0 0]), blk s 124 ([.pointer (some ⟨f, 0, none⟩), .func (.func 51) #[.pointer (some ⟨f, 0, none⟩)] #[], .pointer (some ⟨X.c, 0, none⟩), .slice X.sa C.kp.length X.sc]), lst 121 2 (.slice X.sa C.kp.length X.sc) C.kp.length (stC C.kp), vault X.V]) := M22.arr [5, 0, 1, 2, 3, 4, 6, 7, 8] (by decide)
  have hCH23 := cput (Mem.here hX23) ⟨by omega, by omega⟩ hgn (by rw [hgc]; omega) (fReadK D V page) (.slice a7 (fReadL D V page).length c7) (fReadL D V page) rfl (by rw [hx1]; exact hXn)
  refine held_step 9 (by kernel_rfl) rfl (by rfl) (fun K hK => ?_)
  refine e_call 67 [.pointer (some ⟨X.c, 0, none⟩), .int .i64 page, .agg ([.int .i64 (fReadK D V page), .slice a7 (fReadL D V page).length c7] : List Value).toArray] rfl rfl Try.call67 (hCH23) ?_
  rintro e w23 ⟨ge, x2, rfl, hx2, H23⟩
  have M23 : Mem w _ w23 [cache (trimS { C.got page with cl := (C.got page).cl ++ [⟨ge, page, fReadK D V page, .slice a7 (fReadL D V page).length c7, false, fReadL D V page⟩] }) X.c X.mb x2, bytesL (.slice a7 (fReadL D V page).length c7) (fReadL D V page), disk (fReadD D V page) p pg mb qv, blk f 117 (fC V p), bytesL (.slice ra (fReadL D V page).length rc) (fReadL D V page), blk g8 121 ([.int .i64 0, .slice none 0 0]), blk s 124 ([.pointer (some ⟨f, 0, none⟩), .func (.func 51) #[.pointer (some ⟨f, 0, none⟩)] #[], .pointer (some ⟨X.c, 0, none⟩), .slice X.sa C.kp.length X.sc]), lst 121 2 (.slice X.sa C.kp.length X.sc) C.kp.length (stC C.kp), vault X.V] := Mem.frame hX23 H23
  refine ⟨_, rfl, ?_⟩
  refine hK.out _ _ (M23.arr [6] (by decide)) (fun hS => ?_)
  clear hK K
  simp only [Act.put, zq1, zq2, zq3]
  refine held_done (by kernel_rfl) ?_ _
  refine hK20 _ _ ?_
  clear hK20
  refine wp_seq_k (fun K24 hK24 => ?_)
  refine wp_region_lit ?_
  refine pl M23 (y_move (v := .int .i64 (fReadK D V page)) rfl rfl rfl) ?_
  simp only [Act.put, zq1, zq2, zq3]
  refine pl M23 (y_move (v := .slice ra ((fReadL D V page).length) rc) rfl rfl rfl) ?_
  simp only [Act.put, zq1, zq2, zq3]
  refine pl M23 (y_assign (v := .int .i64 (fReadK D V page)) rfl rfl rfl) ?_
  simp only [Act.put, zq1, zq2, zq3]
  refine pl M23 (y_assign (v := .slice ra ((fReadL D V page).length) rc) rfl rfl rfl) ?_
  simp only [Act.put, zq1, zq2, zq3]
  refine pl M23 (y_assign (v := .int .i64 0) rfl rfl rfl) ?_
  simp only [Act.put, zq1, zq2, zq3]
  refine wpList_nil ?_
  refine hK24 _ _ ?_
  clear hK24
  refine wp_ret ?_
  try simp only [Exit.inBlock, Exit.then]
  refine bodyPost_ret (v := .tuple #[.int .i64 (fReadK D V page), .slice ra ((fReadL D V page).length) rc, .int .i64 0]) (res3 rfl rfl rfl rfl) rfl ?_
  have e1 : loadR D V C page = (fReadE D V page, fReadK D V page, fReadL D V page, fReadD D V page) := by unfold loadR; rw [if_neg (fun h => h hL), if_neg (by omega), hn]
  have e2 : loadC D V C page ge (.slice a7 (fReadL D V page).length c7) = (trimS { C.got page with cl := (C.got page).cl ++ [(⟨ge, page, fReadK D V page, .slice a7 (fReadL D V page).length c7, false, fReadL D V page⟩ : En)] }) := by unfold loadC; rw [if_neg (fun h => h hL), if_neg (by omega), hn]; exact if_neg (fun h => h hE)
  have hkpe : (trimS { C.got page with cl := (C.got page).cl ++ [(⟨ge, page, fReadK D V page, .slice a7 (fReadL D V page).length c7, false, fReadL D V page⟩ : En)] }).kp = C.kp := (got_parts (C := C) (k := page) fun e he hh => flag_look hF he hh).2.1
  have N1 := vault_add (M23.arr [1, 8, 4, 2, 3, 6, 0, 7] (by decide))
  have hnp : page < V.s.mark := by
    have : fReadE D V page = 0 := hE
    unfold fReadE at this
    rw [if_neg (fun h => h hL)] at this
    split at this
    · cases this
    · omega
  have hso2 : SOk (trimS { C.got page with cl := (C.got page).cl ++ [(⟨ge, page, fReadK D V page, .slice a7 (fReadL D V page).length c7, false, fReadL D V page⟩ : En)] }) V.s.mark ({ X with x := x2, V := (.slice a7 (fReadL D V page).length c7, fReadL D V page) :: X.V } : SX) := (hso.got hF x1 page).put x2 (e := (⟨ge, page, fReadK D V page, .slice a7 (fReadL D V page).length c7, false, fReadL D V page⟩ : En)) rfl ⟨by show 2 ≤ page; omega, hnp⟩
  have N2 : Mem w _ w23 [sto (trimS { C.got page with cl := (C.got page).cl ++ [(⟨ge, page, fReadK D V page, .slice a7 (fReadL D V page).length c7, false, fReadL D V page⟩ : En)] }) V.s.mark s f ({ X with x := x2, V := (.slice a7 (fReadL D V page).length c7, fReadL D V page) :: X.V } : SX), bytesL (.slice ra (fReadL D V page).length rc) (fReadL D V page), disk (fReadD D V page) p pg mb qv, blk f 117 (fC V p)] := sto_close (C := (trimS { C.got page with cl := (C.got page).cl ++ [(⟨ge, page, fReadK D V page, .slice a7 (fReadL D V page).length c7, false, fReadL D V page⟩ : En)] })) (X := ({ X with x := x2, V := (.slice a7 (fReadL D V page).length c7, fReadL D V page) :: X.V } : SX)) hso2 (by rw [hkpe]; exact N1.arr [4, 5, 6, 0, 1, 2, 3] (by decide))
  rw [e1, hE]
  exact ⟨ra, rc, ge, .slice a7 (fReadL D V page).length c7, ({ X with x := x2, V := (.slice a7 (fReadL D V page).length c7, fReadL D V page) :: X.V } : SX), rfl, by show x2.n ≤ _; omega, by rw [e2]; exact N2.arr [1, 2, 3, 0] (by decide)⟩
theorem sload_any {D : DV} {V : FV} {C : CS} {X : SX} {s f p pg mb : Nat} {qv : Value} {w : World} (hM : Mem w (foots [disk D p pg mb qv, blk f 117 (fC V p), sto C V.s.mark s f X]) w [disk D p pg mb qv, blk f 117 (fC V p), sto C V.s.mark s f X]) (page : Int) (hV : FOk D V) (hnx : V.next = V.s.mark) (hl1 : ∀ e, C.look page = some e → e.l.length ≤ 1099511627776) (hlen : (fReadL D V page).length ≤ 1099511627776) (hXn : X.x.n < 100000000000000) : Calls Try.prog 34 #[.pointer (some ⟨s, 0, none⟩), .int .i64 page] w fun e' w' => ∃ a c' ge ld X', e' = .returned (.tuple #[.int .i64 (loadR D V C page).2.1, .slice a (loadR D V C page).2.2.1.length c', .int .i64 (loadR D V C page).1]) ∧ X'.x.n ≤ X.x.n + 1 ∧ Mem w (foots [disk D p pg mb qv, blk f 117 (fC V p), sto C V.s.mark s f X]) w' [bytesL (.slice a (loadR D V C page).2.2.1.length c') (loadR D V C page).2.2.1, disk (loadR D V C page).2.2.2 p pg mb qv, blk f 117 (fC V p), sto (loadC D V C page ge ld) V.s.mark s f X'] := by
  by_cases hL : liveE D V = 0
  · by_cases h1 : page < 2
    · exact sload_low hM page hL h1
    · by_cases h2 : V.s.mark + (C.kp.length : Int) ≤ page
      · exact sload_high hM page hL h1 h2
      · rcases hs : C.look page with _ | e
        · by_cases hE : fReadE D V page = 0
          · exact sload_miss hM page hL h1 h2 hs hV hE hnx hlen hXn
          · exact sload_err hM page hL h1 h2 hs hV hE
        · exact sload_hit hM page hL h1 h2 hs (hl1 e hs)
  · exact sload_dead hM page hL
end Go.Proofs.Ytmmkgkbjneebkaa

/- The store: Stage. -/
namespace Go.Proofs.Ytmmkgkbjneebkaa
set_option linter.unusedSectionVars false
open Go Go.RowKit
set_option maxRecDepth 100000
set_option maxHeartbeats 40000000
set_option linter.unusedVariables false
set_option linter.unusedSimpArgs false
section
variable {P : Program} {ops : Array Oper} {S : World → Prop} {o : Oper} {a : Act} {k : IntKind} {x y : Operand} {t : TypeId}
theorem y_slt' {ao : Option Addr} {k' len cap h : Nat} {e : TypeId} (hw : Region.wanted o (yielded ops a.tmps) = true) (ho : o.op = .slice t x none (some y) none) (hx : a.eval x = .slice ao len cap) (hy : a.eval y = .int k (h : Int))
    (hu : P.underlying t = some (.slice e)) (hz : ∀ w, (sizeOf e).run P w = .ok k' w) (hh : h ≤ cap) : YieldsIf P ops S o (.slice ao h cap) a := by
  have hb : bounds? len cap none (some (.int k (h : Int))) 0 h := ⟨⟨_, _, rfl, rfl, hh⟩, rfl⟩
  have := y_sln (S := S) hw ho hx rfl (show (some y).map a.eval = _ by rw [Option.map_some, hy]) hu hz hb (n' := h) (c' := cap) (by omega) (by omega)
  have e : (if cap = 0 then ao else ao.map (·.add (0 * k'))) = ao := by
    split
    · rfl
    · cases ao with
      | none => rfl
      | some b => simp [Addr.add]
  rw [e] at this
  exact this
end
theorem SOk.hold {C : CS} {mk : Int} {X : SX} (h : SOk C mk X) (x' : CX) {e : En} {v : Value} (sa : Option Addr) (sc : Nat) (hv : e.ld = v) (hk : e.k = mk + (C.kp.length : Int)) (hl : C.kp.length < 4096) : SOk { C with kp := C.kp ++ [e] } mk { X with x := x', V := (v, e.l) :: X.V, sa := sa, sc := sc } := by
  refine ⟨fun u hu => ?_, h.cl, fun i u hu => ?_, h.room, h.rm, by show (C.kp ++ [e]).length ≤ _; rw [List.length_append]; simp; omega, h.mk2⟩
  · have hu' : u ∈ C.cl ++ (C.kp ++ [e]) := hu
    rw [← List.append_assoc] at hu'
    rcases List.mem_append.1 hu' with hx | hx
    · exact List.mem_cons_of_mem _ (h.val u hx)
    · obtain rfl : u = e := by simpa using hx
      rw [hv]; exact List.mem_cons_self ..
  · have hu' : (C.kp ++ [e])[i]? = some u := hu
    rcases Nat.lt_or_ge i C.kp.length with hi | hi
    · rw [List.getElem?_append_left hi] at hu'
      exact h.kp i u hu'
    · rw [List.getElem?_append_right hi] at hu'
      have h0 : i - C.kp.length = 0 := by
        apply Classical.byContradiction
        intro hne
        rw [List.getElem?_eq_none (by simp; omega)] at hu'; cases hu'
      rw [h0] at hu'
      obtain rfl : e = u := by simpa using hu'
      rw [hk]; congr 1; omega
theorem SOk.rel {C : CS} {mk : Int} {X : SX} (h : SOk C mk X) (x' : CX) (k : Nat) : SOk (relS C k) mk { X with x := x' } := by
  refine ⟨fun u hu => h.val u ?_, h.cl, fun i u hu => ?_, h.room, h.rm, by show (C.kp.take k).length ≤ _; rw [List.length_take]; have := h.kpl; omega, h.mk2⟩
  · rcases List.mem_append.1 hu with hx | hx
    · exact List.mem_append_left _ hx
    · exact List.mem_append_right _ (List.mem_of_mem_take hx)
  · have hu' : (C.kp.take k)[i]? = some u := hu
    rw [List.getElem?_take] at hu'
    split at hu'
    · exact h.kp i u hu'
    · cases hu'
theorem SOk.fresh {C : CS} {mk : Int} {X : SX} (h : SOk C mk X) : C.look (mk + (C.kp.length : Int)) = none := by
  unfold CS.look
  rw [List.find?_eq_none]
  intro e he hk
  have hk' : e.k = mk + (C.kp.length : Int) := by simpa using hk
  rcases List.mem_append.1 he with hx | hx
  · have := (h.cl e hx).2; omega
  · obtain ⟨i, hi, hg⟩ := List.mem_iff_getElem.1 hx
    have := h.kp i e (by rw [List.getElem?_eq_getElem hi, hg])
    omega
def stageE (D : DV) (V : FV) (C : CS) (kind : Int) (l : List UInt8) : Int :=
  if liveE D V ≠ 0 then liveE D V else if kind < 1 ∨ 3 < kind then 50 else if 246 < l.length then 51 else if (D.pages.length : Int) ≤ V.s.mark + (C.kp.length : Int) then 5 else 0
def stageN (D : DV) (V : FV) (C : CS) (kind : Int) (l : List UInt8) : Int := if stageE D V C kind l = 0 then V.s.mark + (C.kp.length : Int) else 0
def stageC (D : DV) (V : FV) (C : CS) (kind : Int) (l : List UInt8) (ge : Nat) (ld : Value) : CS := if stageE D V C kind l = 0 then { C with kp := C.kp ++ [⟨ge, V.s.mark + (C.kp.length : Int), kind, ld, true, l⟩] } else C
theorem stage_no {D : DV} {V : FV} {C : CS} {kind : Int} {l : List UInt8} {e : Int} (h : stageE D V C kind l = e) (he : e ≠ 0) : stageN D V C kind l = 0 ∧ ∀ ge ld, stageC D V C kind l ge ld = C := by
  unfold stageN stageC
  rw [h, if_neg he]
  exact ⟨rfl, fun ge ld => if_neg he⟩
theorem stage_yes {D : DV} {V : FV} {C : CS} {kind : Int} {l : List UInt8} (h : stageE D V C kind l = 0) : stageN D V C kind l = V.s.mark + (C.kp.length : Int) ∧ ∀ ge ld, stageC D V C kind l ge ld = { C with kp := C.kp ++ [⟨ge, V.s.mark + (C.kp.length : Int), kind, ld, true, l⟩] } := by
  unfold stageN stageC
  rw [if_pos h]
  exact ⟨rfl, fun ge ld => if_pos h⟩
theorem sstage_dead {D : DV} {V : FV} {C : CS} {X : SX} {s f p pg mb : Nat} {qv : Value} {w : World} (hM : zM w [disk D p pg mb qv, blk f 117 (fC V p), sto C V.s.mark s f X]) (kind : Int) (ao : Option Addr) (n c : Nat) (l : List UInt8) (hr : Row w ao n l) (hnil : ao = none → n = 0 ∧ c = 0) (hF : ∀ b o, ao = some ⟨b, o, none⟩ → 0 < n → b ∉ foots [disk D p pg mb qv, blk f 117 (fC V p), sto C V.s.mark s f X]) (hpl : D.pages.length ≤ 4096) (hL : liveE D V ≠ 0) : zC 44 [zP s 0, zI kind, .slice ao n c] w fun e' w' => ∃ ge ld X', e' = .returned (.tuple #[zI (stageN D V C kind l), zI (stageE D V C kind l)]) ∧ X'.x.n ≤ X.x.n + 1 ∧ zD w [disk D p pg mb qv, blk f 117 (fC V p), sto C V.s.mark s f X] w' [disk D p pg mb qv, blk f 117 (fC V p), sto (stageC D V C kind l ge ld) V.s.mark s f X'] := by
 have M := hM;clear hM;have hsk := sto_ok (M.get 2 rfl);have hm2 := hsk.mk2;have hkl := hsk.kpl;have hnl := hr.1;go_enter Try.func44, Try.ntmps44;refine zin ?_;refine zk fun K1 hK1 => zr ?_;refine zp 2 rfl ?_;refine zw (hK1 _ _ (zk fun K2 hK2 => zk fun K3 hK3 => zr ?_));refine zp 1 rfl ?_;have hX4 := M.pk [0, 1, 2];simp only[Y3,Y4,Y1,Y2]at hX4;refine zca 26 [zP s 0] rfl zc26 (slive_any hX4.h3) ?_;rintro e w4 ⟨rfl, H4⟩;have M4 := hX4.f3 H4;simp only[Y1,Y2]at M4;refine ⟨_, rfl, ?_⟩;refine zp 1 rfl ?_;refine zw (hK3 _ _ (zk fun K5 hK5 => zr ?_));refine zp 1 rfl (zo M4 (zneq (b := true) rfl (by rw [decide_eq_false hL]; rfl)) ?_);refine zw (hK5 _ _ (zct rfl (zk fun K6 hK6 => zr ?_)));refine zp 3 rfl ?_;refine zw (hK6 _ _ (zrt ?_));(try simp only[zi,zj]);refine zR (v := .tuple #[zI 0, zI (liveE D V)]) (res2 rfl (zgd rfl) (zgd rfl)) (zdf _) ?_;have e0 : stageE D V C kind l = liveE D V := if_pos hL;obtain ⟨e1, e2⟩ := stage_no e0 hL;rw [e1, e0];exact ⟨0, zN, X, rfl, Nat.le_succ _, by rw [e2]; exact (M4.arr [0, 1, 2] (by decide))⟩
theorem sstage_kind {D : DV} {V : FV} {C : CS} {X : SX} {s f p pg mb : Nat} {qv : Value} {w : World} (hM : zM w [disk D p pg mb qv, blk f 117 (fC V p), sto C V.s.mark s f X]) (kind : Int) (ao : Option Addr) (n c : Nat) (l : List UInt8) (hr : Row w ao n l) (hnil : ao = none → n = 0 ∧ c = 0) (hF : ∀ b o, ao = some ⟨b, o, none⟩ → 0 < n → b ∉ foots [disk D p pg mb qv, blk f 117 (fC V p), sto C V.s.mark s f X]) (hpl : D.pages.length ≤ 4096) (hL : liveE D V = 0) (k1 : ¬ kind = 1) (k2 : ¬ kind = 2) (k3 : ¬ kind = 3) : zC 44 [zP s 0, zI kind, .slice ao n c] w fun e' w' => ∃ ge ld X', e' = .returned (.tuple #[zI (stageN D V C kind l), zI (stageE D V C kind l)]) ∧ X'.x.n ≤ X.x.n + 1 ∧ zD w [disk D p pg mb qv, blk f 117 (fC V p), sto C V.s.mark s f X] w' [disk D p pg mb qv, blk f 117 (fC V p), sto (stageC D V C kind l ge ld) V.s.mark s f X'] := by
 have M := hM;clear hM;have hsk := sto_ok (M.get 2 rfl);have hm2 := hsk.mk2;have hkl := hsk.kpl;have hnl := hr.1;go_enter Try.func44, Try.ntmps44;refine zin ?_;refine zk fun K1 hK1 => zr ?_;refine zp 2 rfl ?_;refine zw (hK1 _ _ (zk fun K2 hK2 => zk fun K3 hK3 => zr ?_));refine zp 1 rfl ?_;have hX4 := M.pk [0, 1, 2];simp only[Y3,Y4,Y1,Y2]at hX4;refine zca 26 [zP s 0] rfl zc26 (slive_any hX4.h3) ?_;rintro e w4 ⟨rfl, H4⟩;have M4 := hX4.f3 H4;simp only[Y1,Y2]at M4;refine ⟨_, rfl, ?_⟩;refine zp 1 rfl ?_;refine zw (hK3 _ _ (zk fun K5 hK5 => zr ?_));refine zp 1 rfl (zo M4 (zneq (b := false) rfl (by rw [decide_eq_true hL]; rfl)) ?_);refine zw (hK5 _ _ (zcf rfl (zsk (hK2 _ _ (zk fun K6 hK6 => ?_)))));refine zk fun K7 hK7 => zr ?_;refine zp 1 rfl (zo M4 (zneq (b := true) rfl (by rw [decide_eq_false k1]; rfl)) (zp 2 rfl (zo M4 (zneq (b := true) rfl (by rw [decide_eq_false k2]; rfl)) (zp 3 rfl ?_))));refine zo M4 (zneq (b := true) rfl (by rw [decide_eq_false k3]; rfl)) (zp 1 rfl ?_);refine zw (hK7 _ _ (zct rfl (zk fun K8 hK8 => zr ?_)));refine zp 2 rfl ?_;refine zw (hK8 _ _ (zrt ?_));(try simp only[zi,zj]);refine zR (v := .tuple #[zI 0, zI 50]) (res2 rfl (zgd rfl) (zgd rfl)) (zdf _) ?_;have e0 : stageE D V C kind l = 50 := by unfold stageE; rw [if_neg (fun h => h hL), if_pos (by omega)]
 obtain ⟨e1, e2⟩ := stage_no e0 (by decide);rw [e1, e0];exact ⟨0, zN, X, rfl, Nat.le_succ _, by rw [e2]; exact (M4.arr [0, 1, 2] (by decide))⟩
theorem sstage_long1 {D : DV} {V : FV} {C : CS} {X : SX} {s f p pg mb : Nat} {qv : Value} {w : World} (hM : zM w [disk D p pg mb qv, blk f 117 (fC V p), sto C V.s.mark s f X]) (kind : Int) (ao : Option Addr) (n c : Nat) (l : List UInt8) (hr : Row w ao n l) (hnil : ao = none → n = 0 ∧ c = 0) (hF : ∀ b o, ao = some ⟨b, o, none⟩ → 0 < n → b ∉ foots [disk D p pg mb qv, blk f 117 (fC V p), sto C V.s.mark s f X]) (hpl : D.pages.length ≤ 4096) (hL : liveE D V = 0) (k1 : kind = 1) (hn : 246 < n) : zC 44 [zP s 0, zI kind, .slice ao n c] w fun e' w' => ∃ ge ld X', e' = .returned (.tuple #[zI (stageN D V C kind l), zI (stageE D V C kind l)]) ∧ X'.x.n ≤ X.x.n + 1 ∧ zD w [disk D p pg mb qv, blk f 117 (fC V p), sto C V.s.mark s f X] w' [disk D p pg mb qv, blk f 117 (fC V p), sto (stageC D V C kind l ge ld) V.s.mark s f X'] := by
 have M := hM;clear hM;have hsk := sto_ok (M.get 2 rfl);have hm2 := hsk.mk2;have hkl := hsk.kpl;have hnl := hr.1;go_enter Try.func44, Try.ntmps44;refine zin ?_;refine zk fun K1 hK1 => zr ?_;refine zp 2 rfl ?_;refine zw (hK1 _ _ (zk fun K2 hK2 => zk fun K3 hK3 => zr ?_));refine zp 1 rfl ?_;have hX4 := M.pk [0, 1, 2];simp only[Y3,Y4,Y1,Y2]at hX4;refine zca 26 [zP s 0] rfl zc26 (slive_any hX4.h3) ?_;rintro e w4 ⟨rfl, H4⟩;have M4 := hX4.f3 H4;simp only[Y1,Y2]at M4;refine ⟨_, rfl, ?_⟩;refine zp 1 rfl ?_;refine zw (hK3 _ _ (zk fun K5 hK5 => zr ?_));refine zp 1 rfl (zo M4 (zneq (b := false) rfl (by rw [decide_eq_true hL]; rfl)) ?_);refine zw (hK5 _ _ (zcf rfl (zsk (hK2 _ _ (zk fun K6 hK6 => ?_)))));refine zk fun K7 hK7 => zr ?_;refine zp 1 rfl (zo M4 (zneq (b := false) rfl (by rw [decide_eq_true k1]; rfl)) (zp 6 rfl ?_));refine zp 2 rfl ?_;refine zw (hK7 _ _ (zcf rfl (zsk (hK6 _ _ (zk fun K8 hK8 => ?_)))));refine zk fun K9 hK9 => zr ?_;refine zp 1 rfl (zo M4 (y_len (zwn rfl) rfl (zev rfl) zu44) (zo M4 (zgtr rfl (zT (by omega))) ?_));refine zw (hK9 _ _ (zct rfl (zk fun K10 hK10 => zr ?_)));refine zp 2 rfl ?_;refine zw (hK10 _ _ (zrt ?_));(try simp only[zi,zj]);refine zR (v := .tuple #[zI 0, zI 51]) (res2 rfl (zgd rfl) (zgd rfl)) (zdf _) ?_;have e0 : stageE D V C kind l = 51 := by unfold stageE; rw [if_neg (fun h => h hL), if_neg (by omega), if_pos (by omega)]
 obtain ⟨e1, e2⟩ := stage_no e0 (by decide);rw [e1, e0];exact ⟨0, zN, X, rfl, Nat.le_succ _, by rw [e2]; exact (M4.arr [0, 1, 2] (by decide))⟩
theorem sstage_full1 {D : DV} {V : FV} {C : CS} {X : SX} {s f p pg mb : Nat} {qv : Value} {w : World} (hM : zM w [disk D p pg mb qv, blk f 117 (fC V p), sto C V.s.mark s f X]) (kind : Int) (ao : Option Addr) (n c : Nat) (l : List UInt8) (hr : Row w ao n l) (hnil : ao = none → n = 0 ∧ c = 0) (hF : ∀ b o, ao = some ⟨b, o, none⟩ → 0 < n → b ∉ foots [disk D p pg mb qv, blk f 117 (fC V p), sto C V.s.mark s f X]) (hpl : D.pages.length ≤ 4096) (hL : liveE D V = 0) (k1 : kind = 1) (hn : ¬ 246 < n) (hp : (D.pages.length : Int) ≤ V.s.mark + (C.kp.length : Int)) : zC 44 [zP s 0, zI kind, .slice ao n c] w fun e' w' => ∃ ge ld X', e' = .returned (.tuple #[zI (stageN D V C kind l), zI (stageE D V C kind l)]) ∧ X'.x.n ≤ X.x.n + 1 ∧ zD w [disk D p pg mb qv, blk f 117 (fC V p), sto C V.s.mark s f X] w' [disk D p pg mb qv, blk f 117 (fC V p), sto (stageC D V C kind l ge ld) V.s.mark s f X'] := by
 have M := hM;clear hM;have hsk := sto_ok (M.get 2 rfl);have hm2 := hsk.mk2;have hkl := hsk.kpl;have hnl := hr.1;go_enter Try.func44, Try.ntmps44;refine zin ?_;refine zk fun K1 hK1 => zr ?_;refine zp 2 rfl ?_;refine zw (hK1 _ _ (zk fun K2 hK2 => zk fun K3 hK3 => zr ?_));refine zp 1 rfl ?_;have hX4 := M.pk [0, 1, 2];simp only[Y3,Y4,Y1,Y2]at hX4;refine zca 26 [zP s 0] rfl zc26 (slive_any hX4.h3) ?_;rintro e w4 ⟨rfl, H4⟩;have M4 := hX4.f3 H4;simp only[Y1,Y2]at M4;refine ⟨_, rfl, ?_⟩;refine zp 1 rfl ?_;refine zw (hK3 _ _ (zk fun K5 hK5 => zr ?_));refine zp 1 rfl (zo M4 (zneq (b := false) rfl (by rw [decide_eq_true hL]; rfl)) ?_);refine zw (hK5 _ _ (zcf rfl (zsk (hK2 _ _ (zk fun K6 hK6 => ?_)))));refine zk fun K7 hK7 => zr ?_;refine zp 1 rfl (zo M4 (zneq (b := false) rfl (by rw [decide_eq_true k1]; rfl)) (zp 6 rfl ?_));refine zp 2 rfl ?_;refine zw (hK7 _ _ (zcf rfl (zsk (hK6 _ _ (zk fun K8 hK8 => ?_)))));refine zk fun K9 hK9 => zr ?_;refine zp 1 rfl (zo M4 (y_len (zwn rfl) rfl (zev rfl) zu44) (zo M4 (zgtr rfl (zF (by omega))) ?_));refine zw (hK9 _ _ (zcf rfl (zsk (hK8 _ _ (zk fun K10 hK10 => ?_)))));refine zr ?_;refine zp 1 rfl ?_;have hX11 := M4.pk [0, 1, 2];simp only[Y3,Y4,Y1,Y2]at hX11;refine zca 19 [zP s 0] rfl zc19 (snext_any hX11.h3) ?_;rintro e w11 ⟨rfl, H11⟩;have M11 := hX11.f3 H11;simp only[Y1,Y2]at M11;refine ⟨_, rfl, ?_⟩;refine zp 1 rfl ?_;refine zw (hK10 _ _ (zk fun K12 hK12 => zk fun K13 hK13 => zr ?_));refine zp 2 rfl ?_;have hX14 := M11.pk [0, 1, 2];simp only[Y3,Y4,Y1,Y2]at hX14;refine zca 45 [zP s 0] rfl zc45 (spages_any hX14.h3) ?_;rintro e w14 ⟨rfl, H14⟩;have M14 := hX14.f3 H14;simp only[Y1,Y2]at M14;refine ⟨_, rfl, ?_⟩;refine zo M14 (zgeq rfl (zT hp)) ?_;refine zw (hK13 _ _ (zct rfl (zk fun K15 hK15 => zr ?_)));refine zp 2 rfl ?_;refine zw (hK15 _ _ (zrt ?_));(try simp only[zi,zj]);refine zR (v := .tuple #[zI 0, zI 5]) (res2 rfl (zgd rfl) (zgd rfl)) (zdf _) ?_;have e0 : stageE D V C kind l = 5 := by unfold stageE; rw [if_neg (fun h => h hL), if_neg (by omega), if_neg (by omega), if_pos hp]
 obtain ⟨e1, e2⟩ := stage_no e0 (by decide);rw [e1, e0];exact ⟨0, zN, X, rfl, Nat.le_succ _, by rw [e2]; exact (M14.arr [0, 1, 2] (by decide))⟩
theorem sstage_ok1 {D : DV} {V : FV} {C : CS} {X : SX} {s f p pg mb : Nat} {qv : Value} {w : World} (hM : zM w [disk D p pg mb qv, blk f 117 (fC V p), sto C V.s.mark s f X]) (kind : Int) (ao : Option Addr) (n c : Nat) (l : List UInt8) (hr : Row w ao n l) (hnil : ao = none → n = 0 ∧ c = 0) (hF : ∀ b o, ao = some ⟨b, o, none⟩ → 0 < n → b ∉ foots [disk D p pg mb qv, blk f 117 (fC V p), sto C V.s.mark s f X]) (hpl : D.pages.length ≤ 4096) (hL : liveE D V = 0) (k1 : kind = 1) (hn : ¬ 246 < n) (hp : ¬ (D.pages.length : Int) ≤ V.s.mark + (C.kp.length : Int)) (hXn : X.x.n < 100000000000000) : zC 44 [zP s 0, zI kind, .slice ao n c] w fun e' w' => ∃ ge ld X', e' = .returned (.tuple #[zI (stageN D V C kind l), zI (stageE D V C kind l)]) ∧ X'.x.n ≤ X.x.n + 1 ∧ zD w [disk D p pg mb qv, blk f 117 (fC V p), sto C V.s.mark s f X] w' [disk D p pg mb qv, blk f 117 (fC V p), sto (stageC D V C kind l ge ld) V.s.mark s f X'] := by
 have M := hM;clear hM;have hsk := sto_ok (M.get 2 rfl);have hm2 := hsk.mk2;have hkl := hsk.kpl;have hnl := hr.1;go_enter Try.func44, Try.ntmps44;refine zin ?_;refine zk fun K1 hK1 => zr ?_;refine zp 2 rfl ?_;refine zw (hK1 _ _ (zk fun K2 hK2 => zk fun K3 hK3 => zr ?_));refine zp 1 rfl ?_;have hX4 := M.pk [0, 1, 2];simp only[Y3,Y4,Y1,Y2]at hX4;refine zca 26 [zP s 0] rfl zc26 (slive_any hX4.h3) ?_;rintro e w4 ⟨rfl, H4⟩;have M4 := hX4.f3 H4;simp only[Y1,Y2]at M4;refine ⟨_, rfl, ?_⟩;refine zp 1 rfl ?_;refine zw (hK3 _ _ (zk fun K5 hK5 => zr ?_));refine zp 1 rfl (zo M4 (zneq (b := false) rfl (by rw [decide_eq_true hL]; rfl)) ?_);refine zw (hK5 _ _ (zcf rfl (zsk (hK2 _ _ (zk fun K6 hK6 => ?_)))));refine zk fun K7 hK7 => zr ?_;refine zp 1 rfl (zo M4 (zneq (b := false) rfl (by rw [decide_eq_true k1]; rfl)) (zp 6 rfl ?_));refine zp 2 rfl ?_;refine zw (hK7 _ _ (zcf rfl (zsk (hK6 _ _ (zk fun K8 hK8 => ?_)))));refine zk fun K9 hK9 => zr ?_;refine zp 1 rfl (zo M4 (y_len (zwn rfl) rfl (zev rfl) zu44) (zo M4 (zgtr rfl (zF (by omega))) ?_));refine zw (hK9 _ _ (zcf rfl (zsk (hK8 _ _ (zk fun K10 hK10 => ?_)))));refine zr ?_;refine zp 1 rfl ?_;have hX11 := M4.pk [0, 1, 2];simp only[Y3,Y4,Y1,Y2]at hX11;refine zca 19 [zP s 0] rfl zc19 (snext_any hX11.h3) ?_;rintro e w11 ⟨rfl, H11⟩;have M11 := hX11.f3 H11;simp only[Y1,Y2]at M11;refine ⟨_, rfl, ?_⟩;refine zp 1 rfl ?_;refine zw (hK10 _ _ (zk fun K12 hK12 => zk fun K13 hK13 => zr ?_));refine zp 2 rfl ?_;have hX14 := M11.pk [0, 1, 2];simp only[Y3,Y4,Y1,Y2]at hX14;refine zca 45 [zP s 0] rfl zc45 (spages_any hX14.h3) ?_;rintro e w14 ⟨rfl, H14⟩;have M14 := hX14.f3 H14;simp only[Y1,Y2]at M14;refine ⟨_, rfl, ?_⟩;refine zo M14 (zgeq rfl (zF hp)) ?_;refine zw (hK13 _ _ (zcf rfl (zsk (hK12 _ _ (zk fun K15 hK15 => ?_)))));refine zr ?_;refine zp 2 rfl ?_;refine zca 66 [.slice ao n c] rfl zc66 (copied_any ao n c l (M14.row hr hF) hnil (by omega)) ?_;rintro e w16 ⟨a7, c7, rfl, H16⟩;have M16 := M14.step H16;simp only[Y1,Y2]at M16;refine ⟨_, rfl, ?_⟩;refine zo M16 (y_build (ps := [(0, .tmp 35), (1, .tmp 37)]) (pv := [(0, zI kind), (1, .slice a7 l.length c7)]) (cs := [zI kind, .slice a7 l.length c7]) (zwn rfl) rfl (zep rfl) (by kernel_rfl)) ?_;refine zal M16 ([zI 0, zN]) rfl z0121 fun g10 w17 M17 => ?_;refine zsw M17 0 rfl (size_of_len (n := 2) _ rfl (by kernel_rfl)) (list_all _ rfl) rfl fun w18 M18 => ?_;simp only[Zg,Zh]at M18;refine zw (hK15 _ _ (zk fun K19 hK19 => ?_));obtain ⟨hso, M20⟩ : _ ∧ zD w [disk D p pg mb qv, blk f 117 (fC V p), sto C V.s.mark s f X] w18 [blk s 124 ([zP f 0, .func (.func 51) #[zP f 0] #[], .pointer (some ⟨X.c, 0, none⟩), .slice X.sa C.kp.length X.sc]), cache C X.c X.mb X.x, lst 121 2 (.slice X.sa C.kp.length X.sc) C.kp.length (stC C.kp), vault X.V, blk g10 121 ([zI kind, .slice a7 l.length c7]), bytesL (.slice a7 l.length c7) l, disk D p pg mb qv, blk f 117 (fC V p)] := sto_open (M18.arr [4, 0, 1, 2, 3] (by decide));have M21 := M20.drew;have hzM21 := M21.pk [4];simp only[Y3,Y4,Y1,Y2]at hzM21;refine zhb hzM21 (by kernel_rfl) fun hS => ?_;refine zt 0 rfl (zy rfl) hS (zt 1 rfl (zy rfl) hS (zt 2 rfl (zy rfl) hS (zt 3 rfl (zf 3 zu124 rfl zz122) hS (zt 5 rfl (zlb 0 rfl zu121 rfl (size_of_len (n := 2) _ rfl (by kernel_rfl))) hS ?_))));refine held_step2 4 6 (by kernel_rfl) rfl rfl (by rfl) (by rfl) (fun K hK => ?_) (fun K hK => ?_)
 ·refine e_yield (ops := #[]) M21 (y_load (v := .slice X.sa C.kp.length X.sc) (zwn rfl) rfl (zev rfl) zg122 (fun W hW => hW.get 0 rfl) (rfl)) (zwn rfl) ?_;refine hK.out _ _ (M21.arr [4] (by decide)) (fun hS => zpa ?_);refine held_step 6 (by kernel_rfl) rfl (by rfl) (fun K hK => ?_);refine e_bslice M21 ([zI kind, .slice a7 l.length c7]) (pv := [(0, .agg ([zI kind, .slice a7 l.length c7]).toArray)]) rfl (zep rfl) zu122 zz121 z0121 (by decide) (by kernel_rfl) ?_;intro g22 w23 (M23 : Mem w _ w23 [blk g22 121 ([zI kind, .slice a7 l.length c7]), blk s 124 ([zP f 0, .func (.func 51) #[zP f 0] #[], .pointer (some ⟨X.c, 0, none⟩), .slice X.sa C.kp.length X.sc]), cache C X.c X.mb X.x, lst 121 2 (.slice X.sa C.kp.length X.sc) C.kp.length (stC C.kp), vault X.V, blk g10 121 ([zI kind, .slice a7 l.length c7]), bytesL (.slice a7 l.length c7) l, disk D p pg mb qv, blk f 117 (fC V p)]);refine hK.out _ _ (M23.arr [5] (by decide)) (fun hS => zpa ?_);refine held_step 7 (by kernel_rfl) rfl (by rfl) (fun K hK => ?_);refine e_append M23 3 contentT (by decide) (news := [zI kind, .slice a7 l.length c7]) rfl rfl (zev rfl) (zev rfl) (rfl) (by intro h; cases h) (fun ad e j u hj => by cases e; rw [Addr_add, Nat.zero_add]; exact cell_of_blk (M23.get 0 rfl) hj) (by intro u hu; simp at hu; rcases hu with rfl | rfl <;> rfl) (⟨by unfold maxLen; omega, by omega⟩) ?_;intro v24 w24 (M24 : Mem w _ w24 [blk g22 121 ([zI kind, .slice a7 l.length c7]), blk s 124 ([zP f 0, .func (.func 51) #[zP f 0] #[], .pointer (some ⟨X.c, 0, none⟩), .slice X.sa C.kp.length X.sc]), cache C X.c X.mb X.x, lst 121 2 v24 (C.kp.length + 1) (stC C.kp ++ [zI kind, .slice a7 l.length c7]), vault X.V, blk g10 121 ([zI kind, .slice a7 l.length c7]), bytesL (.slice a7 l.length c7) l, disk D p pg mb qv, blk f 117 (fC V p)]);obtain ⟨a24, c24, rfl⟩ := qv_at (M24.get 3 rfl);refine hK.out _ _ (M24.arr [5] (by decide)) (fun hS => zpa ?_);refine zt 8 rfl (zy rfl) hS (zt 9 rfl (zf 3 zu124 rfl zz122) hS ?_);refine held_step 10 (by kernel_rfl) rfl (by rfl) (fun K hK => ?_);refine e_store M24 1 (v := .slice a24 (C.kp.length + 1) c24) rfl rfl (zev rfl) (zev rfl) rfl rfl zz122 rfl (show (3 : Nat) < 4 by decide) ?_;intro w25 (M25 : Mem w _ w25 [blk g22 121 ([zI kind, .slice a7 l.length c7]), blk s 124 ([zP f 0, .func (.func 51) #[zP f 0] #[], .pointer (some ⟨X.c, 0, none⟩), .slice a24 (C.kp.length + 1) c24]), cache C X.c X.mb X.x, lst 121 2 (.slice a24 (C.kp.length + 1) c24) (C.kp.length + 1) (stC C.kp ++ [zI kind, .slice a7 l.length c7]), vault X.V, blk g10 121 ([zI kind, .slice a7 l.length c7]), bytesL (.slice a7 l.length c7) l, disk D p pg mb qv, blk f 117 (fC V p)]);refine hK.out _ _ (M25.arr [5] (by decide)) (fun hS => zpa ?_);refine held_done (by kernel_rfl) (hK19 _ _ ?_) _;refine zk fun K26 hK26 => ?_;have M27 := M25.drew;have hzM27 := M27.pk [1, 5];simp only[Y3,Y4,Y1,Y2]at hzM27;refine zhb hzM27 (by kernel_rfl) fun hS => ?_;refine zt 0 rfl (zy rfl) hS (zt 1 rfl (zy rfl) hS (zt 2 rfl (zf 2 zu124 rfl zz118) hS (zt 3 rfl (zl 0 rfl zg118) hS (zt 4 rfl (zy rfl) hS (zt 5 rfl (zlb 1 rfl zu121 rfl (size_of_len (n := 2) _ rfl (by kernel_rfl))) hS ?_)))));have hX28 := M27.pk [2, 0, 1, 3, 4, 5, 6, 7, 8];simp only[Y3,Y4,Y1,Y2]at hX28;have hCH28 := chold hX28.h1 ⟨by omega, by omega⟩ hsk.fresh (by omega) kind (.slice a7 l.length c7) l rfl hXn;refine held_step 6 (by kernel_rfl) rfl (by rfl) (fun K hK => ?_);refine e_call 76 [.pointer (some ⟨X.c, 0, none⟩), zI (V.s.mark + (C.kp.length : Int)), .agg ([zI kind, .slice a7 l.length c7] : List Value).toArray] rfl (zls_eval rfl) zc76 (hCH28) ?_;rintro e w28 ⟨ge, x2, rfl, hx2, H28⟩;have M28 := hX28.f1 H28;simp only[Y1,Y2]at M28;refine ⟨_, rfl, ?_⟩;refine hK.out _ _ (M28.arr [2, 5] (by decide)) (fun hS => zpa ?_);refine held_done (by kernel_rfl) (hK26 _ _ ?_) _;refine zk fun K29 hK29 => zr ?_;refine zp 3 rfl ?_;refine zw (hK29 _ _ (zrt ?_));(try simp only[zi,zj]);refine zR (v := .tuple #[zI (V.s.mark + (C.kp.length : Int)), zI 0]) (res2 rfl (zgd rfl) (zgd rfl)) (zdf _) ?_;have e0 : stageE D V C kind l = 0 := by unfold stageE; rw [if_neg (fun h => h hL), if_neg (by omega), if_neg (by omega), if_neg hp]
  obtain ⟨e1, e2⟩ := stage_yes e0;have N1 := vault_add (M28.arr [6, 4, 7, 8, 2, 0, 3] (by decide));have hso2 : SOk ({ C with kp := C.kp ++ [(⟨ge, V.s.mark + (C.kp.length : Int), kind, .slice a7 l.length c7, true, l⟩ : En)] } : CS) V.s.mark ({ X with x := x2, V := (.slice a7 l.length c7, l) :: X.V, sa := a24, sc := c24 } : SX) := hsk.hold x2 (e := (⟨ge, V.s.mark + (C.kp.length : Int), kind, .slice a7 l.length c7, true, l⟩ : En)) a24 c24 rfl rfl (by omega);have hkn : (({ C with kp := C.kp ++ [(⟨ge, V.s.mark + (C.kp.length : Int), kind, .slice a7 l.length c7, true, l⟩ : En)] } : CS)).kp.length = C.kp.length + 1 := by show (C.kp ++ [_]).length = _; rw [List.length_append]; rfl
  have N2 : Mem w _ w28 [sto ({ C with kp := C.kp ++ [(⟨ge, V.s.mark + (C.kp.length : Int), kind, .slice a7 l.length c7, true, l⟩ : En)] } : CS) V.s.mark s f ({ X with x := x2, V := (.slice a7 l.length c7, l) :: X.V, sa := a24, sc := c24 } : SX), disk D p pg mb qv, blk f 117 (fC V p)] := sto_close (C := ({ C with kp := C.kp ++ [(⟨ge, V.s.mark + (C.kp.length : Int), kind, .slice a7 l.length c7, true, l⟩ : En)] } : CS)) (X := ({ X with x := x2, V := (.slice a7 l.length c7, l) :: X.V, sa := a24, sc := c24 } : SX)) hso2 (by rw [hkn, ← stC_snoc]; exact N1.arr [3, 4, 5, 0, 1, 2] (by decide));rw [e1, e0];exact ⟨ge, .slice a7 l.length c7, ({ X with x := x2, V := (.slice a7 l.length c7, l) :: X.V, sa := a24, sc := c24 } : SX), rfl, by show x2.n ≤ _; omega, by rw [e2]; exact N2.arr [1, 2, 0] (by decide)⟩
 ·refine e_bslice M21 ([zI kind, .slice a7 l.length c7]) (pv := [(0, .agg ([zI kind, .slice a7 l.length c7]).toArray)]) rfl (zep rfl) zu122 zz121 z0121 (by decide) (by kernel_rfl) ?_;intro g30 w31 (M31 : Mem w _ w31 [blk g30 121 ([zI kind, .slice a7 l.length c7]), blk s 124 ([zP f 0, .func (.func 51) #[zP f 0] #[], .pointer (some ⟨X.c, 0, none⟩), .slice X.sa C.kp.length X.sc]), cache C X.c X.mb X.x, lst 121 2 (.slice X.sa C.kp.length X.sc) C.kp.length (stC C.kp), vault X.V, blk g10 121 ([zI kind, .slice a7 l.length c7]), bytesL (.slice a7 l.length c7) l, disk D p pg mb qv, blk f 117 (fC V p)]);refine hK.out _ _ (M31.arr [5] (by decide)) (fun hS => zpa ?_);refine held_step 4 (by kernel_rfl) rfl (by rfl) (fun K hK => ?_);refine e_yield (ops := #[]) M31 (y_load (v := .slice X.sa C.kp.length X.sc) (zwn rfl) rfl (zev rfl) zg122 (fun W hW => hW.get 1 rfl) (rfl)) (zwn rfl) ?_;refine hK.out _ _ (M31.arr [5] (by decide)) (fun hS => zpa ?_);refine held_step 7 (by kernel_rfl) rfl (by rfl) (fun K hK => ?_);refine e_append M31 3 contentT (by decide) (news := [zI kind, .slice a7 l.length c7]) rfl rfl (zev rfl) (zev rfl) (rfl) (by intro h; cases h) (fun ad e j u hj => by cases e; rw [Addr_add, Nat.zero_add]; exact cell_of_blk (M31.get 0 rfl) hj) (by intro u hu; simp at hu; rcases hu with rfl | rfl <;> rfl) (⟨by unfold maxLen; omega, by omega⟩) ?_;intro v32 w32 (M32 : Mem w _ w32 [blk g30 121 ([zI kind, .slice a7 l.length c7]), blk s 124 ([zP f 0, .func (.func 51) #[zP f 0] #[], .pointer (some ⟨X.c, 0, none⟩), .slice X.sa C.kp.length X.sc]), cache C X.c X.mb X.x, lst 121 2 v32 (C.kp.length + 1) (stC C.kp ++ [zI kind, .slice a7 l.length c7]), vault X.V, blk g10 121 ([zI kind, .slice a7 l.length c7]), bytesL (.slice a7 l.length c7) l, disk D p pg mb qv, blk f 117 (fC V p)]);obtain ⟨a32, c32, rfl⟩ := qv_at (M32.get 3 rfl);refine hK.out _ _ (M32.arr [5] (by decide)) (fun hS => zpa ?_);refine zt 8 rfl (zy rfl) hS (zt 9 rfl (zf 3 zu124 rfl zz122) hS ?_);refine held_step 10 (by kernel_rfl) rfl (by rfl) (fun K hK => ?_);refine e_store M32 1 (v := .slice a32 (C.kp.length + 1) c32) rfl rfl (zev rfl) (zev rfl) rfl rfl zz122 rfl (show (3 : Nat) < 4 by decide) ?_;intro w33 (M33 : Mem w _ w33 [blk g30 121 ([zI kind, .slice a7 l.length c7]), blk s 124 ([zP f 0, .func (.func 51) #[zP f 0] #[], .pointer (some ⟨X.c, 0, none⟩), .slice a32 (C.kp.length + 1) c32]), cache C X.c X.mb X.x, lst 121 2 (.slice a32 (C.kp.length + 1) c32) (C.kp.length + 1) (stC C.kp ++ [zI kind, .slice a7 l.length c7]), vault X.V, blk g10 121 ([zI kind, .slice a7 l.length c7]), bytesL (.slice a7 l.length c7) l, disk D p pg mb qv, blk f 117 (fC V p)]);refine hK.out _ _ (M33.arr [5] (by decide)) (fun hS => zpa ?_);refine held_done (by kernel_rfl) (hK19 _ _ ?_) _;refine zk fun K34 hK34 => ?_;have M35 := M33.drew;have hzM35 := M35.pk [1, 5];simp only[Y3,Y4,Y1,Y2]at hzM35;refine zhb hzM35 (by kernel_rfl) fun hS => ?_;refine zt 0 rfl (zy rfl) hS (zt 1 rfl (zy rfl) hS (zt 2 rfl (zf 2 zu124 rfl zz118) hS (zt 3 rfl (zl 0 rfl zg118) hS (zt 4 rfl (zy rfl) hS (zt 5 rfl (zlb 1 rfl zu121 rfl (size_of_len (n := 2) _ rfl (by kernel_rfl))) hS ?_)))));have hX36 := M35.pk [2, 0, 1, 3, 4, 5, 6, 7, 8];simp only[Y3,Y4,Y1,Y2]at hX36;have hCH36 := chold hX36.h1 ⟨by omega, by omega⟩ hsk.fresh (by omega) kind (.slice a7 l.length c7) l rfl hXn;refine held_step 6 (by kernel_rfl) rfl (by rfl) (fun K hK => ?_);refine e_call 76 [.pointer (some ⟨X.c, 0, none⟩), zI (V.s.mark + (C.kp.length : Int)), .agg ([zI kind, .slice a7 l.length c7] : List Value).toArray] rfl (zls_eval rfl) zc76 (hCH36) ?_;rintro e w36 ⟨ge, x2, rfl, hx2, H36⟩;have M36 := hX36.f1 H36;simp only[Y1,Y2]at M36;refine ⟨_, rfl, ?_⟩;refine hK.out _ _ (M36.arr [2, 5] (by decide)) (fun hS => zpa ?_);refine held_done (by kernel_rfl) (hK34 _ _ ?_) _;refine zk fun K37 hK37 => zr ?_;refine zp 3 rfl ?_;refine zw (hK37 _ _ (zrt ?_));(try simp only[zi,zj]);refine zR (v := .tuple #[zI (V.s.mark + (C.kp.length : Int)), zI 0]) (res2 rfl (zgd rfl) (zgd rfl)) (zdf _) ?_;have e0 : stageE D V C kind l = 0 := by unfold stageE; rw [if_neg (fun h => h hL), if_neg (by omega), if_neg (by omega), if_neg hp]
  obtain ⟨e1, e2⟩ := stage_yes e0;have N1 := vault_add (M36.arr [6, 4, 7, 8, 2, 0, 3] (by decide));have hso2 : SOk ({ C with kp := C.kp ++ [(⟨ge, V.s.mark + (C.kp.length : Int), kind, .slice a7 l.length c7, true, l⟩ : En)] } : CS) V.s.mark ({ X with x := x2, V := (.slice a7 l.length c7, l) :: X.V, sa := a32, sc := c32 } : SX) := hsk.hold x2 (e := (⟨ge, V.s.mark + (C.kp.length : Int), kind, .slice a7 l.length c7, true, l⟩ : En)) a32 c32 rfl rfl (by omega);have hkn : (({ C with kp := C.kp ++ [(⟨ge, V.s.mark + (C.kp.length : Int), kind, .slice a7 l.length c7, true, l⟩ : En)] } : CS)).kp.length = C.kp.length + 1 := by show (C.kp ++ [_]).length = _; rw [List.length_append]; rfl
  have N2 : Mem w _ w36 [sto ({ C with kp := C.kp ++ [(⟨ge, V.s.mark + (C.kp.length : Int), kind, .slice a7 l.length c7, true, l⟩ : En)] } : CS) V.s.mark s f ({ X with x := x2, V := (.slice a7 l.length c7, l) :: X.V, sa := a32, sc := c32 } : SX), disk D p pg mb qv, blk f 117 (fC V p)] := sto_close (C := ({ C with kp := C.kp ++ [(⟨ge, V.s.mark + (C.kp.length : Int), kind, .slice a7 l.length c7, true, l⟩ : En)] } : CS)) (X := ({ X with x := x2, V := (.slice a7 l.length c7, l) :: X.V, sa := a32, sc := c32 } : SX)) hso2 (by rw [hkn, ← stC_snoc]; exact N1.arr [3, 4, 5, 0, 1, 2] (by decide));rw [e1, e0];exact ⟨ge, .slice a7 l.length c7, ({ X with x := x2, V := (.slice a7 l.length c7, l) :: X.V, sa := a32, sc := c32 } : SX), rfl, by show x2.n ≤ _; omega, by rw [e2]; exact N2.arr [1, 2, 0] (by decide)⟩
theorem sstage_long2 {D : DV} {V : FV} {C : CS} {X : SX} {s f p pg mb : Nat} {qv : Value} {w : World} (hM : zM w [disk D p pg mb qv, blk f 117 (fC V p), sto C V.s.mark s f X]) (kind : Int) (ao : Option Addr) (n c : Nat) (l : List UInt8) (hr : Row w ao n l) (hnil : ao = none → n = 0 ∧ c = 0) (hF : ∀ b o, ao = some ⟨b, o, none⟩ → 0 < n → b ∉ foots [disk D p pg mb qv, blk f 117 (fC V p), sto C V.s.mark s f X]) (hpl : D.pages.length ≤ 4096) (hL : liveE D V = 0) (k1 : ¬ kind = 1) (k2 : kind = 2) (hn : 246 < n) : zC 44 [zP s 0, zI kind, .slice ao n c] w fun e' w' => ∃ ge ld X', e' = .returned (.tuple #[zI (stageN D V C kind l), zI (stageE D V C kind l)]) ∧ X'.x.n ≤ X.x.n + 1 ∧ zD w [disk D p pg mb qv, blk f 117 (fC V p), sto C V.s.mark s f X] w' [disk D p pg mb qv, blk f 117 (fC V p), sto (stageC D V C kind l ge ld) V.s.mark s f X'] := by
 have M := hM;clear hM;have hsk := sto_ok (M.get 2 rfl);have hm2 := hsk.mk2;have hkl := hsk.kpl;have hnl := hr.1;go_enter Try.func44, Try.ntmps44;refine zin ?_;refine zk fun K1 hK1 => zr ?_;refine zp 2 rfl ?_;refine zw (hK1 _ _ (zk fun K2 hK2 => zk fun K3 hK3 => zr ?_));refine zp 1 rfl ?_;have hX4 := M.pk [0, 1, 2];simp only[Y3,Y4,Y1,Y2]at hX4;refine zca 26 [zP s 0] rfl zc26 (slive_any hX4.h3) ?_;rintro e w4 ⟨rfl, H4⟩;have M4 := hX4.f3 H4;simp only[Y1,Y2]at M4;refine ⟨_, rfl, ?_⟩;refine zp 1 rfl ?_;refine zw (hK3 _ _ (zk fun K5 hK5 => zr ?_));refine zp 1 rfl (zo M4 (zneq (b := false) rfl (by rw [decide_eq_true hL]; rfl)) ?_);refine zw (hK5 _ _ (zcf rfl (zsk (hK2 _ _ (zk fun K6 hK6 => ?_)))));refine zk fun K7 hK7 => zr ?_;refine zp 1 rfl (zo M4 (zneq (b := true) rfl (by rw [decide_eq_false k1]; rfl)) (zp 2 rfl (zo M4 (zneq (b := false) rfl (by rw [decide_eq_true k2]; rfl)) (zp 3 rfl ?_))));refine zp 2 rfl ?_;refine zw (hK7 _ _ (zcf rfl (zsk (hK6 _ _ (zk fun K8 hK8 => ?_)))));refine zk fun K9 hK9 => zr ?_;refine zp 1 rfl (zo M4 (y_len (zwn rfl) rfl (zev rfl) zu44) (zo M4 (zgtr rfl (zT (by omega))) ?_));refine zw (hK9 _ _ (zct rfl (zk fun K10 hK10 => zr ?_)));refine zp 2 rfl ?_;refine zw (hK10 _ _ (zrt ?_));(try simp only[zi,zj]);refine zR (v := .tuple #[zI 0, zI 51]) (res2 rfl (zgd rfl) (zgd rfl)) (zdf _) ?_;have e0 : stageE D V C kind l = 51 := by unfold stageE; rw [if_neg (fun h => h hL), if_neg (by omega), if_pos (by omega)]
 obtain ⟨e1, e2⟩ := stage_no e0 (by decide);rw [e1, e0];exact ⟨0, zN, X, rfl, Nat.le_succ _, by rw [e2]; exact (M4.arr [0, 1, 2] (by decide))⟩
theorem sstage_full2 {D : DV} {V : FV} {C : CS} {X : SX} {s f p pg mb : Nat} {qv : Value} {w : World} (hM : zM w [disk D p pg mb qv, blk f 117 (fC V p), sto C V.s.mark s f X]) (kind : Int) (ao : Option Addr) (n c : Nat) (l : List UInt8) (hr : Row w ao n l) (hnil : ao = none → n = 0 ∧ c = 0) (hF : ∀ b o, ao = some ⟨b, o, none⟩ → 0 < n → b ∉ foots [disk D p pg mb qv, blk f 117 (fC V p), sto C V.s.mark s f X]) (hpl : D.pages.length ≤ 4096) (hL : liveE D V = 0) (k1 : ¬ kind = 1) (k2 : kind = 2) (hn : ¬ 246 < n) (hp : (D.pages.length : Int) ≤ V.s.mark + (C.kp.length : Int)) : zC 44 [zP s 0, zI kind, .slice ao n c] w fun e' w' => ∃ ge ld X', e' = .returned (.tuple #[zI (stageN D V C kind l), zI (stageE D V C kind l)]) ∧ X'.x.n ≤ X.x.n + 1 ∧ zD w [disk D p pg mb qv, blk f 117 (fC V p), sto C V.s.mark s f X] w' [disk D p pg mb qv, blk f 117 (fC V p), sto (stageC D V C kind l ge ld) V.s.mark s f X'] := by
 have M := hM;clear hM;have hsk := sto_ok (M.get 2 rfl);have hm2 := hsk.mk2;have hkl := hsk.kpl;have hnl := hr.1;go_enter Try.func44, Try.ntmps44;refine zin ?_;refine zk fun K1 hK1 => zr ?_;refine zp 2 rfl ?_;refine zw (hK1 _ _ (zk fun K2 hK2 => zk fun K3 hK3 => zr ?_));refine zp 1 rfl ?_;have hX4 := M.pk [0, 1, 2];simp only[Y3,Y4,Y1,Y2]at hX4;refine zca 26 [zP s 0] rfl zc26 (slive_any hX4.h3) ?_;rintro e w4 ⟨rfl, H4⟩;have M4 := hX4.f3 H4;simp only[Y1,Y2]at M4;refine ⟨_, rfl, ?_⟩;refine zp 1 rfl ?_;refine zw (hK3 _ _ (zk fun K5 hK5 => zr ?_));refine zp 1 rfl (zo M4 (zneq (b := false) rfl (by rw [decide_eq_true hL]; rfl)) ?_);refine zw (hK5 _ _ (zcf rfl (zsk (hK2 _ _ (zk fun K6 hK6 => ?_)))));refine zk fun K7 hK7 => zr ?_;refine zp 1 rfl (zo M4 (zneq (b := true) rfl (by rw [decide_eq_false k1]; rfl)) (zp 2 rfl (zo M4 (zneq (b := false) rfl (by rw [decide_eq_true k2]; rfl)) (zp 3 rfl ?_))));refine zp 2 rfl ?_;refine zw (hK7 _ _ (zcf rfl (zsk (hK6 _ _ (zk fun K8 hK8 => ?_)))));refine zk fun K9 hK9 => zr ?_;refine zp 1 rfl (zo M4 (y_len (zwn rfl) rfl (zev rfl) zu44) (zo M4 (zgtr rfl (zF (by omega))) ?_));refine zw (hK9 _ _ (zcf rfl (zsk (hK8 _ _ (zk fun K10 hK10 => ?_)))));refine zr ?_;refine zp 1 rfl ?_;have hX11 := M4.pk [0, 1, 2];simp only[Y3,Y4,Y1,Y2]at hX11;refine zca 19 [zP s 0] rfl zc19 (snext_any hX11.h3) ?_;rintro e w11 ⟨rfl, H11⟩;have M11 := hX11.f3 H11;simp only[Y1,Y2]at M11;refine ⟨_, rfl, ?_⟩;refine zp 1 rfl ?_;refine zw (hK10 _ _ (zk fun K12 hK12 => zk fun K13 hK13 => zr ?_));refine zp 2 rfl ?_;have hX14 := M11.pk [0, 1, 2];simp only[Y3,Y4,Y1,Y2]at hX14;refine zca 45 [zP s 0] rfl zc45 (spages_any hX14.h3) ?_;rintro e w14 ⟨rfl, H14⟩;have M14 := hX14.f3 H14;simp only[Y1,Y2]at M14;refine ⟨_, rfl, ?_⟩;refine zo M14 (zgeq rfl (zT hp)) ?_;refine zw (hK13 _ _ (zct rfl (zk fun K15 hK15 => zr ?_)));refine zp 2 rfl ?_;refine zw (hK15 _ _ (zrt ?_));(try simp only[zi,zj]);refine zR (v := .tuple #[zI 0, zI 5]) (res2 rfl (zgd rfl) (zgd rfl)) (zdf _) ?_;have e0 : stageE D V C kind l = 5 := by unfold stageE; rw [if_neg (fun h => h hL), if_neg (by omega), if_neg (by omega), if_pos hp]
 obtain ⟨e1, e2⟩ := stage_no e0 (by decide);rw [e1, e0];exact ⟨0, zN, X, rfl, Nat.le_succ _, by rw [e2]; exact (M14.arr [0, 1, 2] (by decide))⟩
theorem sstage_ok2 {D : DV} {V : FV} {C : CS} {X : SX} {s f p pg mb : Nat} {qv : Value} {w : World} (hM : zM w [disk D p pg mb qv, blk f 117 (fC V p), sto C V.s.mark s f X]) (kind : Int) (ao : Option Addr) (n c : Nat) (l : List UInt8) (hr : Row w ao n l) (hnil : ao = none → n = 0 ∧ c = 0) (hF : ∀ b o, ao = some ⟨b, o, none⟩ → 0 < n → b ∉ foots [disk D p pg mb qv, blk f 117 (fC V p), sto C V.s.mark s f X]) (hpl : D.pages.length ≤ 4096) (hL : liveE D V = 0) (k1 : ¬ kind = 1) (k2 : kind = 2) (hn : ¬ 246 < n) (hp : ¬ (D.pages.length : Int) ≤ V.s.mark + (C.kp.length : Int)) (hXn : X.x.n < 100000000000000) : zC 44 [zP s 0, zI kind, .slice ao n c] w fun e' w' => ∃ ge ld X', e' = .returned (.tuple #[zI (stageN D V C kind l), zI (stageE D V C kind l)]) ∧ X'.x.n ≤ X.x.n + 1 ∧ zD w [disk D p pg mb qv, blk f 117 (fC V p), sto C V.s.mark s f X] w' [disk D p pg mb qv, blk f 117 (fC V p), sto (stageC D V C kind l ge ld) V.s.mark s f X'] := by
 have M := hM;clear hM;have hsk := sto_ok (M.get 2 rfl);have hm2 := hsk.mk2;have hkl := hsk.kpl;have hnl := hr.1;go_enter Try.func44, Try.ntmps44;refine zin ?_;refine zk fun K1 hK1 => zr ?_;refine zp 2 rfl ?_;refine zw (hK1 _ _ (zk fun K2 hK2 => zk fun K3 hK3 => zr ?_));refine zp 1 rfl ?_;have hX4 := M.pk [0, 1, 2];simp only[Y3,Y4,Y1,Y2]at hX4;refine zca 26 [zP s 0] rfl zc26 (slive_any hX4.h3) ?_;rintro e w4 ⟨rfl, H4⟩;have M4 := hX4.f3 H4;simp only[Y1,Y2]at M4;refine ⟨_, rfl, ?_⟩;refine zp 1 rfl ?_;refine zw (hK3 _ _ (zk fun K5 hK5 => zr ?_));refine zp 1 rfl (zo M4 (zneq (b := false) rfl (by rw [decide_eq_true hL]; rfl)) ?_);refine zw (hK5 _ _ (zcf rfl (zsk (hK2 _ _ (zk fun K6 hK6 => ?_)))));refine zk fun K7 hK7 => zr ?_;refine zp 1 rfl (zo M4 (zneq (b := true) rfl (by rw [decide_eq_false k1]; rfl)) (zp 2 rfl (zo M4 (zneq (b := false) rfl (by rw [decide_eq_true k2]; rfl)) (zp 3 rfl ?_))));refine zp 2 rfl ?_;refine zw (hK7 _ _ (zcf rfl (zsk (hK6 _ _ (zk fun K8 hK8 => ?_)))));refine zk fun K9 hK9 => zr ?_;refine zp 1 rfl (zo M4 (y_len (zwn rfl) rfl (zev rfl) zu44) (zo M4 (zgtr rfl (zF (by omega))) ?_));refine zw (hK9 _ _ (zcf rfl (zsk (hK8 _ _ (zk fun K10 hK10 => ?_)))));refine zr ?_;refine zp 1 rfl ?_;have hX11 := M4.pk [0, 1, 2];simp only[Y3,Y4,Y1,Y2]at hX11;refine zca 19 [zP s 0] rfl zc19 (snext_any hX11.h3) ?_;rintro e w11 ⟨rfl, H11⟩;have M11 := hX11.f3 H11;simp only[Y1,Y2]at M11;refine ⟨_, rfl, ?_⟩;refine zp 1 rfl ?_;refine zw (hK10 _ _ (zk fun K12 hK12 => zk fun K13 hK13 => zr ?_));refine zp 2 rfl ?_;have hX14 := M11.pk [0, 1, 2];simp only[Y3,Y4,Y1,Y2]at hX14;refine zca 45 [zP s 0] rfl zc45 (spages_any hX14.h3) ?_;rintro e w14 ⟨rfl, H14⟩;have M14 := hX14.f3 H14;simp only[Y1,Y2]at M14;refine ⟨_, rfl, ?_⟩;refine zo M14 (zgeq rfl (zF hp)) ?_;refine zw (hK13 _ _ (zcf rfl (zsk (hK12 _ _ (zk fun K15 hK15 => ?_)))));refine zr ?_;refine zp 2 rfl ?_;refine zca 66 [.slice ao n c] rfl zc66 (copied_any ao n c l (M14.row hr hF) hnil (by omega)) ?_;rintro e w16 ⟨a7, c7, rfl, H16⟩;have M16 := M14.step H16;simp only[Y1,Y2]at M16;refine ⟨_, rfl, ?_⟩;refine zo M16 (y_build (ps := [(0, .tmp 35), (1, .tmp 37)]) (pv := [(0, zI kind), (1, .slice a7 l.length c7)]) (cs := [zI kind, .slice a7 l.length c7]) (zwn rfl) rfl (zep rfl) (by kernel_rfl)) ?_;refine zal M16 ([zI 0, zN]) rfl z0121 fun g10 w17 M17 => ?_;refine zsw M17 0 rfl (size_of_len (n := 2) _ rfl (by kernel_rfl)) (list_all _ rfl) rfl fun w18 M18 => ?_;simp only[Zg,Zh]at M18;refine zw (hK15 _ _ (zk fun K19 hK19 => ?_));obtain ⟨hso, M20⟩ : _ ∧ zD w [disk D p pg mb qv, blk f 117 (fC V p), sto C V.s.mark s f X] w18 [blk s 124 ([zP f 0, .func (.func 51) #[zP f 0] #[], .pointer (some ⟨X.c, 0, none⟩), .slice X.sa C.kp.length X.sc]), cache C X.c X.mb X.x, lst 121 2 (.slice X.sa C.kp.length X.sc) C.kp.length (stC C.kp), vault X.V, blk g10 121 ([zI kind, .slice a7 l.length c7]), bytesL (.slice a7 l.length c7) l, disk D p pg mb qv, blk f 117 (fC V p)] := sto_open (M18.arr [4, 0, 1, 2, 3] (by decide));have M21 := M20.drew;have hzM21 := M21.pk [4];simp only[Y3,Y4,Y1,Y2]at hzM21;refine zhb hzM21 (by kernel_rfl) fun hS => ?_;refine zt 0 rfl (zy rfl) hS (zt 1 rfl (zy rfl) hS (zt 2 rfl (zy rfl) hS (zt 3 rfl (zf 3 zu124 rfl zz122) hS (zt 5 rfl (zlb 0 rfl zu121 rfl (size_of_len (n := 2) _ rfl (by kernel_rfl))) hS ?_))));refine held_step2 4 6 (by kernel_rfl) rfl rfl (by rfl) (by rfl) (fun K hK => ?_) (fun K hK => ?_)
 ·refine e_yield (ops := #[]) M21 (y_load (v := .slice X.sa C.kp.length X.sc) (zwn rfl) rfl (zev rfl) zg122 (fun W hW => hW.get 0 rfl) (rfl)) (zwn rfl) ?_;refine hK.out _ _ (M21.arr [4] (by decide)) (fun hS => zpa ?_);refine held_step 6 (by kernel_rfl) rfl (by rfl) (fun K hK => ?_);refine e_bslice M21 ([zI kind, .slice a7 l.length c7]) (pv := [(0, .agg ([zI kind, .slice a7 l.length c7]).toArray)]) rfl (zep rfl) zu122 zz121 z0121 (by decide) (by kernel_rfl) ?_;intro g22 w23 (M23 : Mem w _ w23 [blk g22 121 ([zI kind, .slice a7 l.length c7]), blk s 124 ([zP f 0, .func (.func 51) #[zP f 0] #[], .pointer (some ⟨X.c, 0, none⟩), .slice X.sa C.kp.length X.sc]), cache C X.c X.mb X.x, lst 121 2 (.slice X.sa C.kp.length X.sc) C.kp.length (stC C.kp), vault X.V, blk g10 121 ([zI kind, .slice a7 l.length c7]), bytesL (.slice a7 l.length c7) l, disk D p pg mb qv, blk f 117 (fC V p)]);refine hK.out _ _ (M23.arr [5] (by decide)) (fun hS => zpa ?_);refine held_step 7 (by kernel_rfl) rfl (by rfl) (fun K hK => ?_);refine e_append M23 3 contentT (by decide) (news := [zI kind, .slice a7 l.length c7]) rfl rfl (zev rfl) (zev rfl) (rfl) (by intro h; cases h) (fun ad e j u hj => by cases e; rw [Addr_add, Nat.zero_add]; exact cell_of_blk (M23.get 0 rfl) hj) (by intro u hu; simp at hu; rcases hu with rfl | rfl <;> rfl) (⟨by unfold maxLen; omega, by omega⟩) ?_;intro v24 w24 (M24 : Mem w _ w24 [blk g22 121 ([zI kind, .slice a7 l.length c7]), blk s 124 ([zP f 0, .func (.func 51) #[zP f 0] #[], .pointer (some ⟨X.c, 0, none⟩), .slice X.sa C.kp.length X.sc]), cache C X.c X.mb X.x, lst 121 2 v24 (C.kp.length + 1) (stC C.kp ++ [zI kind, .slice a7 l.length c7]), vault X.V, blk g10 121 ([zI kind, .slice a7 l.length c7]), bytesL (.slice a7 l.length c7) l, disk D p pg mb qv, blk f 117 (fC V p)]);obtain ⟨a24, c24, rfl⟩ := qv_at (M24.get 3 rfl);refine hK.out _ _ (M24.arr [5] (by decide)) (fun hS => zpa ?_);refine zt 8 rfl (zy rfl) hS (zt 9 rfl (zf 3 zu124 rfl zz122) hS ?_);refine held_step 10 (by kernel_rfl) rfl (by rfl) (fun K hK => ?_);refine e_store M24 1 (v := .slice a24 (C.kp.length + 1) c24) rfl rfl (zev rfl) (zev rfl) rfl rfl zz122 rfl (show (3 : Nat) < 4 by decide) ?_;intro w25 (M25 : Mem w _ w25 [blk g22 121 ([zI kind, .slice a7 l.length c7]), blk s 124 ([zP f 0, .func (.func 51) #[zP f 0] #[], .pointer (some ⟨X.c, 0, none⟩), .slice a24 (C.kp.length + 1) c24]), cache C X.c X.mb X.x, lst 121 2 (.slice a24 (C.kp.length + 1) c24) (C.kp.length + 1) (stC C.kp ++ [zI kind, .slice a7 l.length c7]), vault X.V, blk g10 121 ([zI kind, .slice a7 l.length c7]), bytesL (.slice a7 l.length c7) l, disk D p pg mb qv, blk f 117 (fC V p)]);refine hK.out _ _ (M25.arr [5] (by decide)) (fun hS => zpa ?_);refine held_done (by kernel_rfl) (hK19 _ _ ?_) _;refine zk fun K26 hK26 => ?_;have M27 := M25.drew;have hzM27 := M27.pk [1, 5];simp only[Y3,Y4,Y1,Y2]at hzM27;refine zhb hzM27 (by kernel_rfl) fun hS => ?_;refine zt 0 rfl (zy rfl) hS (zt 1 rfl (zy rfl) hS (zt 2 rfl (zf 2 zu124 rfl zz118) hS (zt 3 rfl (zl 0 rfl zg118) hS (zt 4 rfl (zy rfl) hS (zt 5 rfl (zlb 1 rfl zu121 rfl (size_of_len (n := 2) _ rfl (by kernel_rfl))) hS ?_)))));have hX28 := M27.pk [2, 0, 1, 3, 4, 5, 6, 7, 8];simp only[Y3,Y4,Y1,Y2]at hX28;have hCH28 := chold hX28.h1 ⟨by omega, by omega⟩ hsk.fresh (by omega) kind (.slice a7 l.length c7) l rfl hXn;refine held_step 6 (by kernel_rfl) rfl (by rfl) (fun K hK => ?_);refine e_call 76 [.pointer (some ⟨X.c, 0, none⟩), zI (V.s.mark + (C.kp.length : Int)), .agg ([zI kind, .slice a7 l.length c7] : List Value).toArray] rfl (zls_eval rfl) zc76 (hCH28) ?_;rintro e w28 ⟨ge, x2, rfl, hx2, H28⟩;have M28 := hX28.f1 H28;simp only[Y1,Y2]at M28;refine ⟨_, rfl, ?_⟩;refine hK.out _ _ (M28.arr [2, 5] (by decide)) (fun hS => zpa ?_);refine held_done (by kernel_rfl) (hK26 _ _ ?_) _;refine zk fun K29 hK29 => zr ?_;refine zp 3 rfl ?_;refine zw (hK29 _ _ (zrt ?_));(try simp only[zi,zj]);refine zR (v := .tuple #[zI (V.s.mark + (C.kp.length : Int)), zI 0]) (res2 rfl (zgd rfl) (zgd rfl)) (zdf _) ?_;have e0 : stageE D V C kind l = 0 := by unfold stageE; rw [if_neg (fun h => h hL), if_neg (by omega), if_neg (by omega), if_neg hp]
  obtain ⟨e1, e2⟩ := stage_yes e0;have N1 := vault_add (M28.arr [6, 4, 7, 8, 2, 0, 3] (by decide));have hso2 : SOk ({ C with kp := C.kp ++ [(⟨ge, V.s.mark + (C.kp.length : Int), kind, .slice a7 l.length c7, true, l⟩ : En)] } : CS) V.s.mark ({ X with x := x2, V := (.slice a7 l.length c7, l) :: X.V, sa := a24, sc := c24 } : SX) := hsk.hold x2 (e := (⟨ge, V.s.mark + (C.kp.length : Int), kind, .slice a7 l.length c7, true, l⟩ : En)) a24 c24 rfl rfl (by omega);have hkn : (({ C with kp := C.kp ++ [(⟨ge, V.s.mark + (C.kp.length : Int), kind, .slice a7 l.length c7, true, l⟩ : En)] } : CS)).kp.length = C.kp.length + 1 := by show (C.kp ++ [_]).length = _; rw [List.length_append]; rfl
  have N2 : Mem w _ w28 [sto ({ C with kp := C.kp ++ [(⟨ge, V.s.mark + (C.kp.length : Int), kind, .slice a7 l.length c7, true, l⟩ : En)] } : CS) V.s.mark s f ({ X with x := x2, V := (.slice a7 l.length c7, l) :: X.V, sa := a24, sc := c24 } : SX), disk D p pg mb qv, blk f 117 (fC V p)] := sto_close (C := ({ C with kp := C.kp ++ [(⟨ge, V.s.mark + (C.kp.length : Int), kind, .slice a7 l.length c7, true, l⟩ : En)] } : CS)) (X := ({ X with x := x2, V := (.slice a7 l.length c7, l) :: X.V, sa := a24, sc := c24 } : SX)) hso2 (by rw [hkn, ← stC_snoc]; exact N1.arr [3, 4, 5, 0, 1, 2] (by decide));rw [e1, e0];exact ⟨ge, .slice a7 l.length c7, ({ X with x := x2, V := (.slice a7 l.length c7, l) :: X.V, sa := a24, sc := c24 } : SX), rfl, by show x2.n ≤ _; omega, by rw [e2]; exact N2.arr [1, 2, 0] (by decide)⟩
 ·refine e_bslice M21 ([zI kind, .slice a7 l.length c7]) (pv := [(0, .agg ([zI kind, .slice a7 l.length c7]).toArray)]) rfl (zep rfl) zu122 zz121 z0121 (by decide) (by kernel_rfl) ?_;intro g30 w31 (M31 : Mem w _ w31 [blk g30 121 ([zI kind, .slice a7 l.length c7]), blk s 124 ([zP f 0, .func (.func 51) #[zP f 0] #[], .pointer (some ⟨X.c, 0, none⟩), .slice X.sa C.kp.length X.sc]), cache C X.c X.mb X.x, lst 121 2 (.slice X.sa C.kp.length X.sc) C.kp.length (stC C.kp), vault X.V, blk g10 121 ([zI kind, .slice a7 l.length c7]), bytesL (.slice a7 l.length c7) l, disk D p pg mb qv, blk f 117 (fC V p)]);refine hK.out _ _ (M31.arr [5] (by decide)) (fun hS => zpa ?_);refine held_step 4 (by kernel_rfl) rfl (by rfl) (fun K hK => ?_);refine e_yield (ops := #[]) M31 (y_load (v := .slice X.sa C.kp.length X.sc) (zwn rfl) rfl (zev rfl) zg122 (fun W hW => hW.get 1 rfl) (rfl)) (zwn rfl) ?_;refine hK.out _ _ (M31.arr [5] (by decide)) (fun hS => zpa ?_);refine held_step 7 (by kernel_rfl) rfl (by rfl) (fun K hK => ?_);refine e_append M31 3 contentT (by decide) (news := [zI kind, .slice a7 l.length c7]) rfl rfl (zev rfl) (zev rfl) (rfl) (by intro h; cases h) (fun ad e j u hj => by cases e; rw [Addr_add, Nat.zero_add]; exact cell_of_blk (M31.get 0 rfl) hj) (by intro u hu; simp at hu; rcases hu with rfl | rfl <;> rfl) (⟨by unfold maxLen; omega, by omega⟩) ?_;intro v32 w32 (M32 : Mem w _ w32 [blk g30 121 ([zI kind, .slice a7 l.length c7]), blk s 124 ([zP f 0, .func (.func 51) #[zP f 0] #[], .pointer (some ⟨X.c, 0, none⟩), .slice X.sa C.kp.length X.sc]), cache C X.c X.mb X.x, lst 121 2 v32 (C.kp.length + 1) (stC C.kp ++ [zI kind, .slice a7 l.length c7]), vault X.V, blk g10 121 ([zI kind, .slice a7 l.length c7]), bytesL (.slice a7 l.length c7) l, disk D p pg mb qv, blk f 117 (fC V p)]);obtain ⟨a32, c32, rfl⟩ := qv_at (M32.get 3 rfl);refine hK.out _ _ (M32.arr [5] (by decide)) (fun hS => zpa ?_);refine zt 8 rfl (zy rfl) hS (zt 9 rfl (zf 3 zu124 rfl zz122) hS ?_);refine held_step 10 (by kernel_rfl) rfl (by rfl) (fun K hK => ?_);refine e_store M32 1 (v := .slice a32 (C.kp.length + 1) c32) rfl rfl (zev rfl) (zev rfl) rfl rfl zz122 rfl (show (3 : Nat) < 4 by decide) ?_;intro w33 (M33 : Mem w _ w33 [blk g30 121 ([zI kind, .slice a7 l.length c7]), blk s 124 ([zP f 0, .func (.func 51) #[zP f 0] #[], .pointer (some ⟨X.c, 0, none⟩), .slice a32 (C.kp.length + 1) c32]), cache C X.c X.mb X.x, lst 121 2 (.slice a32 (C.kp.length + 1) c32) (C.kp.length + 1) (stC C.kp ++ [zI kind, .slice a7 l.length c7]), vault X.V, blk g10 121 ([zI kind, .slice a7 l.length c7]), bytesL (.slice a7 l.length c7) l, disk D p pg mb qv, blk f 117 (fC V p)]);refine hK.out _ _ (M33.arr [5] (by decide)) (fun hS => zpa ?_);refine held_done (by kernel_rfl) (hK19 _ _ ?_) _;refine zk fun K34 hK34 => ?_;have M35 := M33.drew;have hzM35 := M35.pk [1, 5];simp only[Y3,Y4,Y1,Y2]at hzM35;refine zhb hzM35 (by kernel_rfl) fun hS => ?_;refine zt 0 rfl (zy rfl) hS (zt 1 rfl (zy rfl) hS (zt 2 rfl (zf 2 zu124 rfl zz118) hS (zt 3 rfl (zl 0 rfl zg118) hS (zt 4 rfl (zy rfl) hS (zt 5 rfl (zlb 1 rfl zu121 rfl (size_of_len (n := 2) _ rfl (by kernel_rfl))) hS ?_)))));have hX36 := M35.pk [2, 0, 1, 3, 4, 5, 6, 7, 8];simp only[Y3,Y4,Y1,Y2]at hX36;have hCH36 := chold hX36.h1 ⟨by omega, by omega⟩ hsk.fresh (by omega) kind (.slice a7 l.length c7) l rfl hXn;refine held_step 6 (by kernel_rfl) rfl (by rfl) (fun K hK => ?_);refine e_call 76 [.pointer (some ⟨X.c, 0, none⟩), zI (V.s.mark + (C.kp.length : Int)), .agg ([zI kind, .slice a7 l.length c7] : List Value).toArray] rfl (zls_eval rfl) zc76 (hCH36) ?_;rintro e w36 ⟨ge, x2, rfl, hx2, H36⟩;have M36 := hX36.f1 H36;simp only[Y1,Y2]at M36;refine ⟨_, rfl, ?_⟩;refine hK.out _ _ (M36.arr [2, 5] (by decide)) (fun hS => zpa ?_);refine held_done (by kernel_rfl) (hK34 _ _ ?_) _;refine zk fun K37 hK37 => zr ?_;refine zp 3 rfl ?_;refine zw (hK37 _ _ (zrt ?_));(try simp only[zi,zj]);refine zR (v := .tuple #[zI (V.s.mark + (C.kp.length : Int)), zI 0]) (res2 rfl (zgd rfl) (zgd rfl)) (zdf _) ?_;have e0 : stageE D V C kind l = 0 := by unfold stageE; rw [if_neg (fun h => h hL), if_neg (by omega), if_neg (by omega), if_neg hp]
  obtain ⟨e1, e2⟩ := stage_yes e0;have N1 := vault_add (M36.arr [6, 4, 7, 8, 2, 0, 3] (by decide));have hso2 : SOk ({ C with kp := C.kp ++ [(⟨ge, V.s.mark + (C.kp.length : Int), kind, .slice a7 l.length c7, true, l⟩ : En)] } : CS) V.s.mark ({ X with x := x2, V := (.slice a7 l.length c7, l) :: X.V, sa := a32, sc := c32 } : SX) := hsk.hold x2 (e := (⟨ge, V.s.mark + (C.kp.length : Int), kind, .slice a7 l.length c7, true, l⟩ : En)) a32 c32 rfl rfl (by omega);have hkn : (({ C with kp := C.kp ++ [(⟨ge, V.s.mark + (C.kp.length : Int), kind, .slice a7 l.length c7, true, l⟩ : En)] } : CS)).kp.length = C.kp.length + 1 := by show (C.kp ++ [_]).length = _; rw [List.length_append]; rfl
  have N2 : Mem w _ w36 [sto ({ C with kp := C.kp ++ [(⟨ge, V.s.mark + (C.kp.length : Int), kind, .slice a7 l.length c7, true, l⟩ : En)] } : CS) V.s.mark s f ({ X with x := x2, V := (.slice a7 l.length c7, l) :: X.V, sa := a32, sc := c32 } : SX), disk D p pg mb qv, blk f 117 (fC V p)] := sto_close (C := ({ C with kp := C.kp ++ [(⟨ge, V.s.mark + (C.kp.length : Int), kind, .slice a7 l.length c7, true, l⟩ : En)] } : CS)) (X := ({ X with x := x2, V := (.slice a7 l.length c7, l) :: X.V, sa := a32, sc := c32 } : SX)) hso2 (by rw [hkn, ← stC_snoc]; exact N1.arr [3, 4, 5, 0, 1, 2] (by decide));rw [e1, e0];exact ⟨ge, .slice a7 l.length c7, ({ X with x := x2, V := (.slice a7 l.length c7, l) :: X.V, sa := a32, sc := c32 } : SX), rfl, by show x2.n ≤ _; omega, by rw [e2]; exact N2.arr [1, 2, 0] (by decide)⟩
theorem sstage_long3 {D : DV} {V : FV} {C : CS} {X : SX} {s f p pg mb : Nat} {qv : Value} {w : World} (hM : zM w [disk D p pg mb qv, blk f 117 (fC V p), sto C V.s.mark s f X]) (kind : Int) (ao : Option Addr) (n c : Nat) (l : List UInt8) (hr : Row w ao n l) (hnil : ao = none → n = 0 ∧ c = 0) (hF : ∀ b o, ao = some ⟨b, o, none⟩ → 0 < n → b ∉ foots [disk D p pg mb qv, blk f 117 (fC V p), sto C V.s.mark s f X]) (hpl : D.pages.length ≤ 4096) (hL : liveE D V = 0) (k1 : ¬ kind = 1) (k2 : ¬ kind = 2) (k3 : kind = 3) (hn : 246 < n) : zC 44 [zP s 0, zI kind, .slice ao n c] w fun e' w' => ∃ ge ld X', e' = .returned (.tuple #[zI (stageN D V C kind l), zI (stageE D V C kind l)]) ∧ X'.x.n ≤ X.x.n + 1 ∧ zD w [disk D p pg mb qv, blk f 117 (fC V p), sto C V.s.mark s f X] w' [disk D p pg mb qv, blk f 117 (fC V p), sto (stageC D V C kind l ge ld) V.s.mark s f X'] := by
 have M := hM;clear hM;have hsk := sto_ok (M.get 2 rfl);have hm2 := hsk.mk2;have hkl := hsk.kpl;have hnl := hr.1;go_enter Try.func44, Try.ntmps44;refine zin ?_;refine zk fun K1 hK1 => zr ?_;refine zp 2 rfl ?_;refine zw (hK1 _ _ (zk fun K2 hK2 => zk fun K3 hK3 => zr ?_));refine zp 1 rfl ?_;have hX4 := M.pk [0, 1, 2];simp only[Y3,Y4,Y1,Y2]at hX4;refine zca 26 [zP s 0] rfl zc26 (slive_any hX4.h3) ?_;rintro e w4 ⟨rfl, H4⟩;have M4 := hX4.f3 H4;simp only[Y1,Y2]at M4;refine ⟨_, rfl, ?_⟩;refine zp 1 rfl ?_;refine zw (hK3 _ _ (zk fun K5 hK5 => zr ?_));refine zp 1 rfl (zo M4 (zneq (b := false) rfl (by rw [decide_eq_true hL]; rfl)) ?_);refine zw (hK5 _ _ (zcf rfl (zsk (hK2 _ _ (zk fun K6 hK6 => ?_)))));refine zk fun K7 hK7 => zr ?_;refine zp 1 rfl (zo M4 (zneq (b := true) rfl (by rw [decide_eq_false k1]; rfl)) (zp 2 rfl (zo M4 (zneq (b := true) rfl (by rw [decide_eq_false k2]; rfl)) (zp 3 rfl ?_))));refine zo M4 (zneq (b := false) rfl (by rw [decide_eq_true k3]; rfl)) (zp 1 rfl ?_);refine zw (hK7 _ _ (zcf rfl (zsk (hK6 _ _ (zk fun K8 hK8 => ?_)))));refine zk fun K9 hK9 => zr ?_;refine zp 1 rfl (zo M4 (y_len (zwn rfl) rfl (zev rfl) zu44) (zo M4 (zgtr rfl (zT (by omega))) ?_));refine zw (hK9 _ _ (zct rfl (zk fun K10 hK10 => zr ?_)));refine zp 2 rfl ?_;refine zw (hK10 _ _ (zrt ?_));(try simp only[zi,zj]);refine zR (v := .tuple #[zI 0, zI 51]) (res2 rfl (zgd rfl) (zgd rfl)) (zdf _) ?_;have e0 : stageE D V C kind l = 51 := by unfold stageE; rw [if_neg (fun h => h hL), if_neg (by omega), if_pos (by omega)]
 obtain ⟨e1, e2⟩ := stage_no e0 (by decide);rw [e1, e0];exact ⟨0, zN, X, rfl, Nat.le_succ _, by rw [e2]; exact (M4.arr [0, 1, 2] (by decide))⟩
theorem sstage_full3 {D : DV} {V : FV} {C : CS} {X : SX} {s f p pg mb : Nat} {qv : Value} {w : World} (hM : zM w [disk D p pg mb qv, blk f 117 (fC V p), sto C V.s.mark s f X]) (kind : Int) (ao : Option Addr) (n c : Nat) (l : List UInt8) (hr : Row w ao n l) (hnil : ao = none → n = 0 ∧ c = 0) (hF : ∀ b o, ao = some ⟨b, o, none⟩ → 0 < n → b ∉ foots [disk D p pg mb qv, blk f 117 (fC V p), sto C V.s.mark s f X]) (hpl : D.pages.length ≤ 4096) (hL : liveE D V = 0) (k1 : ¬ kind = 1) (k2 : ¬ kind = 2) (k3 : kind = 3) (hn : ¬ 246 < n) (hp : (D.pages.length : Int) ≤ V.s.mark + (C.kp.length : Int)) : zC 44 [zP s 0, zI kind, .slice ao n c] w fun e' w' => ∃ ge ld X', e' = .returned (.tuple #[zI (stageN D V C kind l), zI (stageE D V C kind l)]) ∧ X'.x.n ≤ X.x.n + 1 ∧ zD w [disk D p pg mb qv, blk f 117 (fC V p), sto C V.s.mark s f X] w' [disk D p pg mb qv, blk f 117 (fC V p), sto (stageC D V C kind l ge ld) V.s.mark s f X'] := by
 have M := hM;clear hM;have hsk := sto_ok (M.get 2 rfl);have hm2 := hsk.mk2;have hkl := hsk.kpl;have hnl := hr.1;go_enter Try.func44, Try.ntmps44;refine zin ?_;refine zk fun K1 hK1 => zr ?_;refine zp 2 rfl ?_;refine zw (hK1 _ _ (zk fun K2 hK2 => zk fun K3 hK3 => zr ?_));refine zp 1 rfl ?_;have hX4 := M.pk [0, 1, 2];simp only[Y3,Y4,Y1,Y2]at hX4;refine zca 26 [zP s 0] rfl zc26 (slive_any hX4.h3) ?_;rintro e w4 ⟨rfl, H4⟩;have M4 := hX4.f3 H4;simp only[Y1,Y2]at M4;refine ⟨_, rfl, ?_⟩;refine zp 1 rfl ?_;refine zw (hK3 _ _ (zk fun K5 hK5 => zr ?_));refine zp 1 rfl (zo M4 (zneq (b := false) rfl (by rw [decide_eq_true hL]; rfl)) ?_);refine zw (hK5 _ _ (zcf rfl (zsk (hK2 _ _ (zk fun K6 hK6 => ?_)))));refine zk fun K7 hK7 => zr ?_;refine zp 1 rfl (zo M4 (zneq (b := true) rfl (by rw [decide_eq_false k1]; rfl)) (zp 2 rfl (zo M4 (zneq (b := true) rfl (by rw [decide_eq_false k2]; rfl)) (zp 3 rfl ?_))));refine zo M4 (zneq (b := false) rfl (by rw [decide_eq_true k3]; rfl)) (zp 1 rfl ?_);refine zw (hK7 _ _ (zcf rfl (zsk (hK6 _ _ (zk fun K8 hK8 => ?_)))));refine zk fun K9 hK9 => zr ?_;refine zp 1 rfl (zo M4 (y_len (zwn rfl) rfl (zev rfl) zu44) (zo M4 (zgtr rfl (zF (by omega))) ?_));refine zw (hK9 _ _ (zcf rfl (zsk (hK8 _ _ (zk fun K10 hK10 => ?_)))));refine zr ?_;refine zp 1 rfl ?_;have hX11 := M4.pk [0, 1, 2];simp only[Y3,Y4,Y1,Y2]at hX11;refine zca 19 [zP s 0] rfl zc19 (snext_any hX11.h3) ?_;rintro e w11 ⟨rfl, H11⟩;have M11 := hX11.f3 H11;simp only[Y1,Y2]at M11;refine ⟨_, rfl, ?_⟩;refine zp 1 rfl ?_;refine zw (hK10 _ _ (zk fun K12 hK12 => zk fun K13 hK13 => zr ?_));refine zp 2 rfl ?_;have hX14 := M11.pk [0, 1, 2];simp only[Y3,Y4,Y1,Y2]at hX14;refine zca 45 [zP s 0] rfl zc45 (spages_any hX14.h3) ?_;rintro e w14 ⟨rfl, H14⟩;have M14 := hX14.f3 H14;simp only[Y1,Y2]at M14;refine ⟨_, rfl, ?_⟩;refine zo M14 (zgeq rfl (zT hp)) ?_;refine zw (hK13 _ _ (zct rfl (zk fun K15 hK15 => zr ?_)));refine zp 2 rfl ?_;refine zw (hK15 _ _ (zrt ?_));(try simp only[zi,zj]);refine zR (v := .tuple #[zI 0, zI 5]) (res2 rfl (zgd rfl) (zgd rfl)) (zdf _) ?_;have e0 : stageE D V C kind l = 5 := by unfold stageE; rw [if_neg (fun h => h hL), if_neg (by omega), if_neg (by omega), if_pos hp]
 obtain ⟨e1, e2⟩ := stage_no e0 (by decide);rw [e1, e0];exact ⟨0, zN, X, rfl, Nat.le_succ _, by rw [e2]; exact (M14.arr [0, 1, 2] (by decide))⟩
theorem sstage_ok3 {D : DV} {V : FV} {C : CS} {X : SX} {s f p pg mb : Nat} {qv : Value} {w : World} (hM : zM w [disk D p pg mb qv, blk f 117 (fC V p), sto C V.s.mark s f X]) (kind : Int) (ao : Option Addr) (n c : Nat) (l : List UInt8) (hr : Row w ao n l) (hnil : ao = none → n = 0 ∧ c = 0) (hF : ∀ b o, ao = some ⟨b, o, none⟩ → 0 < n → b ∉ foots [disk D p pg mb qv, blk f 117 (fC V p), sto C V.s.mark s f X]) (hpl : D.pages.length ≤ 4096) (hL : liveE D V = 0) (k1 : ¬ kind = 1) (k2 : ¬ kind = 2) (k3 : kind = 3) (hn : ¬ 246 < n) (hp : ¬ (D.pages.length : Int) ≤ V.s.mark + (C.kp.length : Int)) (hXn : X.x.n < 100000000000000) : zC 44 [zP s 0, zI kind, .slice ao n c] w fun e' w' => ∃ ge ld X', e' = .returned (.tuple #[zI (stageN D V C kind l), zI (stageE D V C kind l)]) ∧ X'.x.n ≤ X.x.n + 1 ∧ zD w [disk D p pg mb qv, blk f 117 (fC V p), sto C V.s.mark s f X] w' [disk D p pg mb qv, blk f 117 (fC V p), sto (stageC D V C kind l ge ld) V.s.mark s f X'] := by
 have M := hM;clear hM;have hsk := sto_ok (M.get 2 rfl);have hm2 := hsk.mk2;have hkl := hsk.kpl;have hnl := hr.1;go_enter Try.func44, Try.ntmps44;refine zin ?_;refine zk fun K1 hK1 => zr ?_;refine zp 2 rfl ?_;refine zw (hK1 _ _ (zk fun K2 hK2 => zk fun K3 hK3 => zr ?_));refine zp 1 rfl ?_;have hX4 := M.pk [0, 1, 2];simp only[Y3,Y4,Y1,Y2]at hX4;refine zca 26 [zP s 0] rfl zc26 (slive_any hX4.h3) ?_;rintro e w4 ⟨rfl, H4⟩;have M4 := hX4.f3 H4;simp only[Y1,Y2]at M4;refine ⟨_, rfl, ?_⟩;refine zp 1 rfl ?_;refine zw (hK3 _ _ (zk fun K5 hK5 => zr ?_));refine zp 1 rfl (zo M4 (zneq (b := false) rfl (by rw [decide_eq_true hL]; rfl)) ?_);refine zw (hK5 _ _ (zcf rfl (zsk (hK2 _ _ (zk fun K6 hK6 => ?_)))));refine zk fun K7 hK7 => zr ?_;refine zp 1 rfl (zo M4 (zneq (b := true) rfl (by rw [decide_eq_false k1]; rfl)) (zp 2 rfl (zo M4 (zneq (b := true) rfl (by rw [decide_eq_false k2]; rfl)) (zp 3 rfl ?_))));refine zo M4 (zneq (b := false) rfl (by rw [decide_eq_true k3]; rfl)) (zp 1 rfl ?_);refine zw (hK7 _ _ (zcf rfl (zsk (hK6 _ _ (zk fun K8 hK8 => ?_)))));refine zk fun K9 hK9 => zr ?_;refine zp 1 rfl (zo M4 (y_len (zwn rfl) rfl (zev rfl) zu44) (zo M4 (zgtr rfl (zF (by omega))) ?_));refine zw (hK9 _ _ (zcf rfl (zsk (hK8 _ _ (zk fun K10 hK10 => ?_)))));refine zr ?_;refine zp 1 rfl ?_;have hX11 := M4.pk [0, 1, 2];simp only[Y3,Y4,Y1,Y2]at hX11;refine zca 19 [zP s 0] rfl zc19 (snext_any hX11.h3) ?_;rintro e w11 ⟨rfl, H11⟩;have M11 := hX11.f3 H11;simp only[Y1,Y2]at M11;refine ⟨_, rfl, ?_⟩;refine zp 1 rfl ?_;refine zw (hK10 _ _ (zk fun K12 hK12 => zk fun K13 hK13 => zr ?_));refine zp 2 rfl ?_;have hX14 := M11.pk [0, 1, 2];simp only[Y3,Y4,Y1,Y2]at hX14;refine zca 45 [zP s 0] rfl zc45 (spages_any hX14.h3) ?_;rintro e w14 ⟨rfl, H14⟩;have M14 := hX14.f3 H14;simp only[Y1,Y2]at M14;refine ⟨_, rfl, ?_⟩;refine zo M14 (zgeq rfl (zF hp)) ?_;refine zw (hK13 _ _ (zcf rfl (zsk (hK12 _ _ (zk fun K15 hK15 => ?_)))));refine zr ?_;refine zp 2 rfl ?_;refine zca 66 [.slice ao n c] rfl zc66 (copied_any ao n c l (M14.row hr hF) hnil (by omega)) ?_;rintro e w16 ⟨a7, c7, rfl, H16⟩;have M16 := M14.step H16;simp only[Y1,Y2]at M16;refine ⟨_, rfl, ?_⟩;refine zo M16 (y_build (ps := [(0, .tmp 35), (1, .tmp 37)]) (pv := [(0, zI kind), (1, .slice a7 l.length c7)]) (cs := [zI kind, .slice a7 l.length c7]) (zwn rfl) rfl (zep rfl) (by kernel_rfl)) ?_;refine zal M16 ([zI 0, zN]) rfl z0121 fun g10 w17 M17 => ?_;refine zsw M17 0 rfl (size_of_len (n := 2) _ rfl (by kernel_rfl)) (list_all _ rfl) rfl fun w18 M18 => ?_;simp only[Zg,Zh]at M18;refine zw (hK15 _ _ (zk fun K19 hK19 => ?_));obtain ⟨hso, M20⟩ : _ ∧ zD w [disk D p pg mb qv, blk f 117 (fC V p), sto C V.s.mark s f X] w18 [blk s 124 ([zP f 0, .func (.func 51) #[zP f 0] #[], .pointer (some ⟨X.c, 0, none⟩), .slice X.sa C.kp.length X.sc]), cache C X.c X.mb X.x, lst 121 2 (.slice X.sa C.kp.length X.sc) C.kp.length (stC C.kp), vault X.V, blk g10 121 ([zI kind, .slice a7 l.length c7]), bytesL (.slice a7 l.length c7) l, disk D p pg mb qv, blk f 117 (fC V p)] := sto_open (M18.arr [4, 0, 1, 2, 3] (by decide));have M21 := M20.drew;have hzM21 := M21.pk [4];simp only[Y3,Y4,Y1,Y2]at hzM21;refine zhb hzM21 (by kernel_rfl) fun hS => ?_;refine zt 0 rfl (zy rfl) hS (zt 1 rfl (zy rfl) hS (zt 2 rfl (zy rfl) hS (zt 3 rfl (zf 3 zu124 rfl zz122) hS (zt 5 rfl (zlb 0 rfl zu121 rfl (size_of_len (n := 2) _ rfl (by kernel_rfl))) hS ?_))));refine held_step2 4 6 (by kernel_rfl) rfl rfl (by rfl) (by rfl) (fun K hK => ?_) (fun K hK => ?_)
 ·refine e_yield (ops := #[]) M21 (y_load (v := .slice X.sa C.kp.length X.sc) (zwn rfl) rfl (zev rfl) zg122 (fun W hW => hW.get 0 rfl) (rfl)) (zwn rfl) ?_;refine hK.out _ _ (M21.arr [4] (by decide)) (fun hS => zpa ?_);refine held_step 6 (by kernel_rfl) rfl (by rfl) (fun K hK => ?_);refine e_bslice M21 ([zI kind, .slice a7 l.length c7]) (pv := [(0, .agg ([zI kind, .slice a7 l.length c7]).toArray)]) rfl (zep rfl) zu122 zz121 z0121 (by decide) (by kernel_rfl) ?_;intro g22 w23 (M23 : Mem w _ w23 [blk g22 121 ([zI kind, .slice a7 l.length c7]), blk s 124 ([zP f 0, .func (.func 51) #[zP f 0] #[], .pointer (some ⟨X.c, 0, none⟩), .slice X.sa C.kp.length X.sc]), cache C X.c X.mb X.x, lst 121 2 (.slice X.sa C.kp.length X.sc) C.kp.length (stC C.kp), vault X.V, blk g10 121 ([zI kind, .slice a7 l.length c7]), bytesL (.slice a7 l.length c7) l, disk D p pg mb qv, blk f 117 (fC V p)]);refine hK.out _ _ (M23.arr [5] (by decide)) (fun hS => zpa ?_);refine held_step 7 (by kernel_rfl) rfl (by rfl) (fun K hK => ?_);refine e_append M23 3 contentT (by decide) (news := [zI kind, .slice a7 l.length c7]) rfl rfl (zev rfl) (zev rfl) (rfl) (by intro h; cases h) (fun ad e j u hj => by cases e; rw [Addr_add, Nat.zero_add]; exact cell_of_blk (M23.get 0 rfl) hj) (by intro u hu; simp at hu; rcases hu with rfl | rfl <;> rfl) (⟨by unfold maxLen; omega, by omega⟩) ?_;intro v24 w24 (M24 : Mem w _ w24 [blk g22 121 ([zI kind, .slice a7 l.length c7]), blk s 124 ([zP f 0, .func (.func 51) #[zP f 0] #[], .pointer (some ⟨X.c, 0, none⟩), .slice X.sa C.kp.length X.sc]), cache C X.c X.mb X.x, lst 121 2 v24 (C.kp.length + 1) (stC C.kp ++ [zI kind, .slice a7 l.length c7]), vault X.V, blk g10 121 ([zI kind, .slice a7 l.length c7]), bytesL (.slice a7 l.length c7) l, disk D p pg mb qv, blk f 117 (fC V p)]);obtain ⟨a24, c24, rfl⟩ := qv_at (M24.get 3 rfl);refine hK.out _ _ (M24.arr [5] (by decide)) (fun hS => zpa ?_);refine zt 8 rfl (zy rfl) hS (zt 9 rfl (zf 3 zu124 rfl zz122) hS ?_);refine held_step 10 (by kernel_rfl) rfl (by rfl) (fun K hK => ?_);refine e_store M24 1 (v := .slice a24 (C.kp.length + 1) c24) rfl rfl (zev rfl) (zev rfl) rfl rfl zz122 rfl (show (3 : Nat) < 4 by decide) ?_;intro w25 (M25 : Mem w _ w25 [blk g22 121 ([zI kind, .slice a7 l.length c7]), blk s 124 ([zP f 0, .func (.func 51) #[zP f 0] #[], .pointer (some ⟨X.c, 0, none⟩), .slice a24 (C.kp.length + 1) c24]), cache C X.c X.mb X.x, lst 121 2 (.slice a24 (C.kp.length + 1) c24) (C.kp.length + 1) (stC C.kp ++ [zI kind, .slice a7 l.length c7]), vault X.V, blk g10 121 ([zI kind, .slice a7 l.length c7]), bytesL (.slice a7 l.length c7) l, disk D p pg mb qv, blk f 117 (fC V p)]);refine hK.out _ _ (M25.arr [5] (by decide)) (fun hS => zpa ?_);refine held_done (by kernel_rfl) (hK19 _ _ ?_) _;refine zk fun K26 hK26 => ?_;have M27 := M25.drew;have hzM27 := M27.pk [1, 5];simp only[Y3,Y4,Y1,Y2]at hzM27;refine zhb hzM27 (by kernel_rfl) fun hS => ?_;refine zt 0 rfl (zy rfl) hS (zt 1 rfl (zy rfl) hS (zt 2 rfl (zf 2 zu124 rfl zz118) hS (zt 3 rfl (zl 0 rfl zg118) hS (zt 4 rfl (zy rfl) hS (zt 5 rfl (zlb 1 rfl zu121 rfl (size_of_len (n := 2) _ rfl (by kernel_rfl))) hS ?_)))));have hX28 := M27.pk [2, 0, 1, 3, 4, 5, 6, 7, 8];simp only[Y3,Y4,Y1,Y2]at hX28;have hCH28 := chold hX28.h1 ⟨by omega, by omega⟩ hsk.fresh (by omega) kind (.slice a7 l.length c7) l rfl hXn;refine held_step 6 (by kernel_rfl) rfl (by rfl) (fun K hK => ?_);refine e_call 76 [.pointer (some ⟨X.c, 0, none⟩), zI (V.s.mark + (C.kp.length : Int)), .agg ([zI kind, .slice a7 l.length c7] : List Value).toArray] rfl (zls_eval rfl) zc76 (hCH28) ?_;rintro e w28 ⟨ge, x2, rfl, hx2, H28⟩;have M28 := hX28.f1 H28;simp only[Y1,Y2]at M28;refine ⟨_, rfl, ?_⟩;refine hK.out _ _ (M28.arr [2, 5] (by decide)) (fun hS => zpa ?_);refine held_done (by kernel_rfl) (hK26 _ _ ?_) _;refine zk fun K29 hK29 => zr ?_;refine zp 3 rfl ?_;refine zw (hK29 _ _ (zrt ?_));(try simp only[zi,zj]);refine zR (v := .tuple #[zI (V.s.mark + (C.kp.length : Int)), zI 0]) (res2 rfl (zgd rfl) (zgd rfl)) (zdf _) ?_;have e0 : stageE D V C kind l = 0 := by unfold stageE; rw [if_neg (fun h => h hL), if_neg (by omega), if_neg (by omega), if_neg hp]
  obtain ⟨e1, e2⟩ := stage_yes e0;have N1 := vault_add (M28.arr [6, 4, 7, 8, 2, 0, 3] (by decide));have hso2 : SOk ({ C with kp := C.kp ++ [(⟨ge, V.s.mark + (C.kp.length : Int), kind, .slice a7 l.length c7, true, l⟩ : En)] } : CS) V.s.mark ({ X with x := x2, V := (.slice a7 l.length c7, l) :: X.V, sa := a24, sc := c24 } : SX) := hsk.hold x2 (e := (⟨ge, V.s.mark + (C.kp.length : Int), kind, .slice a7 l.length c7, true, l⟩ : En)) a24 c24 rfl rfl (by omega);have hkn : (({ C with kp := C.kp ++ [(⟨ge, V.s.mark + (C.kp.length : Int), kind, .slice a7 l.length c7, true, l⟩ : En)] } : CS)).kp.length = C.kp.length + 1 := by show (C.kp ++ [_]).length = _; rw [List.length_append]; rfl
  have N2 : Mem w _ w28 [sto ({ C with kp := C.kp ++ [(⟨ge, V.s.mark + (C.kp.length : Int), kind, .slice a7 l.length c7, true, l⟩ : En)] } : CS) V.s.mark s f ({ X with x := x2, V := (.slice a7 l.length c7, l) :: X.V, sa := a24, sc := c24 } : SX), disk D p pg mb qv, blk f 117 (fC V p)] := sto_close (C := ({ C with kp := C.kp ++ [(⟨ge, V.s.mark + (C.kp.length : Int), kind, .slice a7 l.length c7, true, l⟩ : En)] } : CS)) (X := ({ X with x := x2, V := (.slice a7 l.length c7, l) :: X.V, sa := a24, sc := c24 } : SX)) hso2 (by rw [hkn, ← stC_snoc]; exact N1.arr [3, 4, 5, 0, 1, 2] (by decide));rw [e1, e0];exact ⟨ge, .slice a7 l.length c7, ({ X with x := x2, V := (.slice a7 l.length c7, l) :: X.V, sa := a24, sc := c24 } : SX), rfl, by show x2.n ≤ _; omega, by rw [e2]; exact N2.arr [1, 2, 0] (by decide)⟩
 ·refine e_bslice M21 ([zI kind, .slice a7 l.length c7]) (pv := [(0, .agg ([zI kind, .slice a7 l.length c7]).toArray)]) rfl (zep rfl) zu122 zz121 z0121 (by decide) (by kernel_rfl) ?_;intro g30 w31 (M31 : Mem w _ w31 [blk g30 121 ([zI kind, .slice a7 l.length c7]), blk s 124 ([zP f 0, .func (.func 51) #[zP f 0] #[], .pointer (some ⟨X.c, 0, none⟩), .slice X.sa C.kp.length X.sc]), cache C X.c X.mb X.x, lst 121 2 (.slice X.sa C.kp.length X.sc) C.kp.length (stC C.kp), vault X.V, blk g10 121 ([zI kind, .slice a7 l.length c7]), bytesL (.slice a7 l.length c7) l, disk D p pg mb qv, blk f 117 (fC V p)]);refine hK.out _ _ (M31.arr [5] (by decide)) (fun hS => zpa ?_);refine held_step 4 (by kernel_rfl) rfl (by rfl) (fun K hK => ?_);refine e_yield (ops := #[]) M31 (y_load (v := .slice X.sa C.kp.length X.sc) (zwn rfl) rfl (zev rfl) zg122 (fun W hW => hW.get 1 rfl) (rfl)) (zwn rfl) ?_;refine hK.out _ _ (M31.arr [5] (by decide)) (fun hS => zpa ?_);refine held_step 7 (by kernel_rfl) rfl (by rfl) (fun K hK => ?_);refine e_append M31 3 contentT (by decide) (news := [zI kind, .slice a7 l.length c7]) rfl rfl (zev rfl) (zev rfl) (rfl) (by intro h; cases h) (fun ad e j u hj => by cases e; rw [Addr_add, Nat.zero_add]; exact cell_of_blk (M31.get 0 rfl) hj) (by intro u hu; simp at hu; rcases hu with rfl | rfl <;> rfl) (⟨by unfold maxLen; omega, by omega⟩) ?_;intro v32 w32 (M32 : Mem w _ w32 [blk g30 121 ([zI kind, .slice a7 l.length c7]), blk s 124 ([zP f 0, .func (.func 51) #[zP f 0] #[], .pointer (some ⟨X.c, 0, none⟩), .slice X.sa C.kp.length X.sc]), cache C X.c X.mb X.x, lst 121 2 v32 (C.kp.length + 1) (stC C.kp ++ [zI kind, .slice a7 l.length c7]), vault X.V, blk g10 121 ([zI kind, .slice a7 l.length c7]), bytesL (.slice a7 l.length c7) l, disk D p pg mb qv, blk f 117 (fC V p)]);obtain ⟨a32, c32, rfl⟩ := qv_at (M32.get 3 rfl);refine hK.out _ _ (M32.arr [5] (by decide)) (fun hS => zpa ?_);refine zt 8 rfl (zy rfl) hS (zt 9 rfl (zf 3 zu124 rfl zz122) hS ?_);refine held_step 10 (by kernel_rfl) rfl (by rfl) (fun K hK => ?_);refine e_store M32 1 (v := .slice a32 (C.kp.length + 1) c32) rfl rfl (zev rfl) (zev rfl) rfl rfl zz122 rfl (show (3 : Nat) < 4 by decide) ?_;intro w33 (M33 : Mem w _ w33 [blk g30 121 ([zI kind, .slice a7 l.length c7]), blk s 124 ([zP f 0, .func (.func 51) #[zP f 0] #[], .pointer (some ⟨X.c, 0, none⟩), .slice a32 (C.kp.length + 1) c32]), cache C X.c X.mb X.x, lst 121 2 (.slice a32 (C.kp.length + 1) c32) (C.kp.length + 1) (stC C.kp ++ [zI kind, .slice a7 l.length c7]), vault X.V, blk g10 121 ([zI kind, .slice a7 l.length c7]), bytesL (.slice a7 l.length c7) l, disk D p pg mb qv, blk f 117 (fC V p)]);refine hK.out _ _ (M33.arr [5] (by decide)) (fun hS => zpa ?_);refine held_done (by kernel_rfl) (hK19 _ _ ?_) _;refine zk fun K34 hK34 => ?_;have M35 := M33.drew;have hzM35 := M35.pk [1, 5];simp only[Y3,Y4,Y1,Y2]at hzM35;refine zhb hzM35 (by kernel_rfl) fun hS => ?_;refine zt 0 rfl (zy rfl) hS (zt 1 rfl (zy rfl) hS (zt 2 rfl (zf 2 zu124 rfl zz118) hS (zt 3 rfl (zl 0 rfl zg118) hS (zt 4 rfl (zy rfl) hS (zt 5 rfl (zlb 1 rfl zu121 rfl (size_of_len (n := 2) _ rfl (by kernel_rfl))) hS ?_)))));have hX36 := M35.pk [2, 0, 1, 3, 4, 5, 6, 7, 8];simp only[Y3,Y4,Y1,Y2]at hX36;have hCH36 := chold hX36.h1 ⟨by omega, by omega⟩ hsk.fresh (by omega) kind (.slice a7 l.length c7) l rfl hXn;refine held_step 6 (by kernel_rfl) rfl (by rfl) (fun K hK => ?_);refine e_call 76 [.pointer (some ⟨X.c, 0, none⟩), zI (V.s.mark + (C.kp.length : Int)), .agg ([zI kind, .slice a7 l.length c7] : List Value).toArray] rfl (zls_eval rfl) zc76 (hCH36) ?_;rintro e w36 ⟨ge, x2, rfl, hx2, H36⟩;have M36 := hX36.f1 H36;simp only[Y1,Y2]at M36;refine ⟨_, rfl, ?_⟩;refine hK.out _ _ (M36.arr [2, 5] (by decide)) (fun hS => zpa ?_);refine held_done (by kernel_rfl) (hK34 _ _ ?_) _;refine zk fun K37 hK37 => zr ?_;refine zp 3 rfl ?_;refine zw (hK37 _ _ (zrt ?_));(try simp only[zi,zj]);refine zR (v := .tuple #[zI (V.s.mark + (C.kp.length : Int)), zI 0]) (res2 rfl (zgd rfl) (zgd rfl)) (zdf _) ?_;have e0 : stageE D V C kind l = 0 := by unfold stageE; rw [if_neg (fun h => h hL), if_neg (by omega), if_neg (by omega), if_neg hp]
  obtain ⟨e1, e2⟩ := stage_yes e0;have N1 := vault_add (M36.arr [6, 4, 7, 8, 2, 0, 3] (by decide));have hso2 : SOk ({ C with kp := C.kp ++ [(⟨ge, V.s.mark + (C.kp.length : Int), kind, .slice a7 l.length c7, true, l⟩ : En)] } : CS) V.s.mark ({ X with x := x2, V := (.slice a7 l.length c7, l) :: X.V, sa := a32, sc := c32 } : SX) := hsk.hold x2 (e := (⟨ge, V.s.mark + (C.kp.length : Int), kind, .slice a7 l.length c7, true, l⟩ : En)) a32 c32 rfl rfl (by omega);have hkn : (({ C with kp := C.kp ++ [(⟨ge, V.s.mark + (C.kp.length : Int), kind, .slice a7 l.length c7, true, l⟩ : En)] } : CS)).kp.length = C.kp.length + 1 := by show (C.kp ++ [_]).length = _; rw [List.length_append]; rfl
  have N2 : Mem w _ w36 [sto ({ C with kp := C.kp ++ [(⟨ge, V.s.mark + (C.kp.length : Int), kind, .slice a7 l.length c7, true, l⟩ : En)] } : CS) V.s.mark s f ({ X with x := x2, V := (.slice a7 l.length c7, l) :: X.V, sa := a32, sc := c32 } : SX), disk D p pg mb qv, blk f 117 (fC V p)] := sto_close (C := ({ C with kp := C.kp ++ [(⟨ge, V.s.mark + (C.kp.length : Int), kind, .slice a7 l.length c7, true, l⟩ : En)] } : CS)) (X := ({ X with x := x2, V := (.slice a7 l.length c7, l) :: X.V, sa := a32, sc := c32 } : SX)) hso2 (by rw [hkn, ← stC_snoc]; exact N1.arr [3, 4, 5, 0, 1, 2] (by decide));rw [e1, e0];exact ⟨ge, .slice a7 l.length c7, ({ X with x := x2, V := (.slice a7 l.length c7, l) :: X.V, sa := a32, sc := c32 } : SX), rfl, by show x2.n ≤ _; omega, by rw [e2]; exact N2.arr [1, 2, 0] (by decide)⟩
theorem sstage_any {D : DV} {V : FV} {C : CS} {X : SX} {s f p pg mb : Nat} {qv : Value} {w : World} (hM : Mem w (foots [disk D p pg mb qv, blk f 117 (fC V p), sto C V.s.mark s f X]) w [disk D p pg mb qv, blk f 117 (fC V p), sto C V.s.mark s f X]) (kind : Int) (ao : Option Addr) (n c : Nat) (l : List UInt8) (hr : Row w ao n l) (hnil : ao = none → n = 0 ∧ c = 0) (hF : ∀ b o, ao = some ⟨b, o, none⟩ → 0 < n → b ∉ foots [disk D p pg mb qv, blk f 117 (fC V p), sto C V.s.mark s f X]) (hpl : D.pages.length ≤ 4096) (hXn : X.x.n < 100000000000000) : Calls Try.prog 44 #[.pointer (some ⟨s, 0, none⟩), .int .i64 kind, .slice ao n c] w fun e' w' => ∃ ge ld X', e' = .returned (.tuple #[.int .i64 (stageN D V C kind l), .int .i64 (stageE D V C kind l)]) ∧ X'.x.n ≤ X.x.n + 1 ∧ Mem w (foots [disk D p pg mb qv, blk f 117 (fC V p), sto C V.s.mark s f X]) w' [disk D p pg mb qv, blk f 117 (fC V p), sto (stageC D V C kind l ge ld) V.s.mark s f X'] := by
  by_cases hL : liveE D V = 0
  · by_cases k1 : kind = 1
    · by_cases hn : 246 < n
      · exact sstage_long1 hM kind ao n c l hr hnil hF hpl hL k1 hn
      · by_cases hp : (D.pages.length : Int) ≤ V.s.mark + (C.kp.length : Int)
        · exact sstage_full1 hM kind ao n c l hr hnil hF hpl hL k1 hn hp
        · exact sstage_ok1 hM kind ao n c l hr hnil hF hpl hL k1 hn hp hXn
    · by_cases k2 : kind = 2
      · by_cases hn : 246 < n
        · exact sstage_long2 hM kind ao n c l hr hnil hF hpl hL k1 k2 hn
        · by_cases hp : (D.pages.length : Int) ≤ V.s.mark + (C.kp.length : Int)
          · exact sstage_full2 hM kind ao n c l hr hnil hF hpl hL k1 k2 hn hp
          · exact sstage_ok2 hM kind ao n c l hr hnil hF hpl hL k1 k2 hn hp hXn
      · by_cases k3 : kind = 3
        · by_cases hn : 246 < n
          · exact sstage_long3 hM kind ao n c l hr hnil hF hpl hL k1 k2 k3 hn
          · by_cases hp : (D.pages.length : Int) ≤ V.s.mark + (C.kp.length : Int)
            · exact sstage_full3 hM kind ao n c l hr hnil hF hpl hL k1 k2 k3 hn hp
            · exact sstage_ok3 hM kind ao n c l hr hnil hF hpl hL k1 k2 k3 hn hp hXn
        · exact sstage_kind hM kind ao n c l hr hnil hF hpl hL k1 k2 k3
  · exact sstage_dead hM kind ao n c l hr hnil hF hpl hL
end Go.Proofs.Ytmmkgkbjneebkaa
