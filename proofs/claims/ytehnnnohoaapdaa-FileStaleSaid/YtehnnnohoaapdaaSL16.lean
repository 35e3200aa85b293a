/- Texts joined: Law9, LawC, LawD, Law120. -/
import Derived.Test.YtehnnnohoaapdaaSL15
import Derived.LaidEql
/- The law FileSurvives. -/
namespace Go.Proofs.Ytehnnnohoaapdaa
open Go Go.RowKit
set_option linter.unusedVariables false
set_option linter.unusedSimpArgs false
theorem size_act (a : AV) : Box ((Try.prog.info? 50).map (·.size) = some (actC a).length) := size_of_len (n := 3) _ rfl (by kernel_rfl)
theorem book_new {w0 w : World} {F : List Nat} {R : List Asn} {b : Nat} (h : Mem w0 F w (blk b 48 (bC (⟨[], 2, 1, 0, 0, 0⟩ : BV) (⟨.slice none 0 0, .slice none 0 0, []⟩ : BX)) :: R)) : Mem w0 F w (book (⟨[], 2, 1, 0, 0, 0⟩ : BV) b (⟨.slice none 0 0, .slice none 0 0, []⟩ : BX) :: R) := by
  refine book_close ?_
  have h1 := (h.nilst 3 1)
  have h2 : Mem w0 F w (innerA [] [] :: lst 3 1 (.slice none 0 0) 0 [] :: blk b 48 (bC (⟨[], 2, 1, 0, 0, 0⟩ : BV) (⟨.slice none 0 0, .slice none 0 0, []⟩ : BX)) :: R) := Mem.close (X := inner [] []) trivial h1
  have h3 := h2.nilst 22 1
  have h4 : Mem w0 F w (rows (.slice none 0 0) [] [] :: lst 3 1 (.slice none 0 0) 0 [] :: blk b 48 (bC (⟨[], 2, 1, 0, 0, 0⟩ : BV) (⟨.slice none 0 0, .slice none 0 0, []⟩ : BX)) :: R) := Mem.close (X := rowsL (.slice none 0 0) [] []) rfl h3
  refine h4.perm ?_
  exact ((List.Perm.cons _ (List.Perm.swap _ _ _)).trans (List.Perm.swap _ _ _))
theorem Out.good {D E : DV} {V V' : FV} {B B' : BV} {kd er : Int} (h : Out D V B kd er E V' B') (hn : kd ≠ 4 ∧ D.armed = 0) : er = 0 ∧ Kept D E V V' B B' ∧ BInv E V' B' ∧ E.armed = 0 := by
  obtain ⟨h1, ⟨h2, h3, h4⟩ | ⟨_, h5, _⟩⟩ := h
  · exact ⟨h2, h1, h3, h4 hn.1 hn.2⟩
  · exact absurd hn.2 h5
end Go.Proofs.Ytehnnnohoaapdaa

/- What an image shows of the pages below a mark. No program in sight. -/
namespace Go.Proofs.Ytehnnnohoaapdaa
open Go Go.RowKit
set_option linter.unusedVariables false
theorem image_fit {D : DV} {p pg mb : Nat} {qv : Value} {w : World} (hM : Mem w (foots [disk D p pg mb qv]) w [disk D p pg mb qv]) {k : Nat} (hk : D.pages.length = k) (h3 : 3 ≤ k) :
    Calls Try.prog 30 #[.pointer (some ⟨p, 0, none⟩)] w fun e w' => ∃ gi ci, e = .returned (.slice (some ⟨gi, 0, none⟩) (256 * k) ci) ∧ Mem w (foots [disk D p pg mb qv]) w' [disk D p pg mb qv, lst 5 1 (.slice (some ⟨gi, 0, none⟩) (256 * k) ci) (256 * k) (bvs D.pages.flatten)] ∧ 256 * k ≤ ci ∧ ci ≤ 9223372036854775807 := by
  refine (image_any hM).mono ?_
  rintro e w' ⟨v, rfl, h⟩
  rw [hk] at h
  obtain ⟨gi, ci, rfl, h1, h2⟩ := lst_slice (h.get 1 rfl) (by omega)
  exact ⟨gi, ci, rfl, h, h1, h2⟩
end Go.Proofs.Ytehnnnohoaapdaa

/- A file that lost its disk; pointers and counts compared. -/
namespace Go.Proofs.Ytehnnnohoaapdaa
open Go Go.RowKit
set_option linter.unusedVariables false
set_option linter.unusedSectionVars false
set_option linter.unusedSimpArgs false
section
variable {P : Program} {ops : Array Oper} {S : World → Prop} {o : Oper} {a : Act} {x y : Operand} {t t' : TypeId}
theorem y_eqptr_same {e : TypeId} {p : Addr} {z : Nat} (hw : Region.wanted o (yielded ops a.tmps) = true) (ho : o.op = .binOp .eql t x y t') (hx : a.eval x = .pointer (some p)) (hy : a.eval y = .pointer (some p)) (hu : P.underlying t = some (.pointer e)) (hz : ∀ w, (sizeOf e).run P w = .ok (z + 1) w) : YieldsIf P ops S o (.bool true) a :=
  y_bin hw ho hx hy (guard_ptr ..) fun w => by
    unfold binOp Op.equal Op.maxDepth Op.equalIn
    simp [run_underlying hu, hz, run_sameAddr_same]
theorem y_eqptr_ne {e : TypeId} {g h T U : Nat} {C D : List Value} {z : Nat} (hw : Region.wanted o (yielded ops a.tmps) = true) (ho : o.op = .binOp .eql t x y t') (hx : a.eval x = .pointer (some ⟨g, 0, none⟩)) (hy : a.eval y = .pointer (some ⟨h, 0, none⟩)) (hu : P.underlying t = some (.pointer e)) (hz : ∀ w, (sizeOf e).run P w = .ok (z + 1) w)
    (hne : g ≠ h) (h1 : ∀ w, S w → (blk g T C).holds w) (h2 : ∀ w, S w → (blk h U D).holds w) : YieldsIf P ops S o (.bool false) a :=
  y_run hw fun w hS => by
    have hn : (⟨g, 0, none⟩ : Addr) ≠ ⟨h, 0, none⟩ := fun e => hne (congrArg Addr.block e)
    have hg : eqGuard .eql t x y (.pointer (some ⟨g, 0, none⟩)) (.pointer (some ⟨h, 0, none⟩)) = pure () := guard_ptr ..
    unfold execOp
    simp only [ho, hx, hy, hg, Sem.run_bind, Sem.run_pure, Result.andThen_ok]
    unfold binOp Op.equal Op.maxDepth Op.equalIn
    simp [run_underlying hu, hz, hn, hne, run_sameAddr_other w hn (h1 w hS) (h2 w hS)]
end
theorem wrap64_ne (x : Int) : wrap64 (x + 1) ≠ x := by
  unfold wrap64
  omega
theorem cnt_same (D : DV) (W : World) : (Op.equalIn 10000 52 (.agg (cntC D).toArray) (.agg (cntC D).toArray)).run Try.prog W = .ok true W := by
  have hu : Try.prog.underlying 52 = some (.struct (Try.prog.fieldsOf 52)) := by kernel_rfl
  rw [run_equalIn_agg W 9999 _ _ _ hu (by kernel_rfl), E.eqFields_tr,
    show ((Try.prog.fieldsOf 52).toList.map E.fieldTr) = [(false, 3, 0), (false, 3, 1), (false, 3, 2), (false, 3, 3)] by kernel_rfl]
  have pl : Try.prog.plainKey 3 = true := by kernel_rfl
  have I : ∀ (a : Int), (Op.equalIn 9999 3 (.int .i64 a) (.int .i64 a)).run Try.prog W = .ok true W := fun a => by
    have := run_equalIn_int W 9998 3 .i64 .i64 a a Try.underlying3
    simpa using this
  have F := fun (i : Nat) (v : Int) (fs : List (Bool × TypeId × Nat)) (hv : (cntC D).toArray[i]? = some (.int .i64 v)) (h : (E.eqF 9999 (cntC D).toArray (cntC D).toArray fs).run Try.prog W = .ok true W) =>
    E.run_eqF_cons (q := true) (r := true) W (run_part_plain W pl (v := .int .i64 v) hv) (run_part_plain W pl (v := .int .i64 v) hv) (I v) h
  exact F 0 D.reads _ rfl (F 1 D.writes _ rfl (F 2 D.syncs _ rfl (F 3 (D.q.length : Int) _ rfl rfl)))
theorem cnt_guard : Try.prog.eqGuardType Try.prog.depth 52 = false := by kernel_rfl
theorem FOk.of_len {D E : DV} {V : FV} (h : FOk D V) (e : E.pages.length = D.pages.length) : FOk E V := ⟨h.valid, by rw [e]; exact h.pages, h.lo, h.hi, h.mark⟩
theorem stale_of {D : DV} {V : FV} (h : D.epoch = wrap64 (V.mine + 1)) : liveE D V = 3 := if_pos (by rw [h]; exact wrap64_ne _)
section
variable {D : DV} {V : FV} {f p pg mb : Nat} {qv : Value} {w : World}
theorem app_stale (hM : Mem w (foots [disk D p pg mb qv, blk f 96 (fC V p)]) w [disk D p pg mb qv, blk f 96 (fC V p)]) (hs : liveE D V = 3) (hV : FOk D V) (kind : Int) (ao : Option Addr) (n c : Nat) (l : List UInt8) (hr : Row w ao n l) (hF : ∀ b o, ao = some ⟨b, o, none⟩ → 0 < n → b ∉ foots [disk D p pg mb qv, blk f 96 (fC V p)]) (hq : D.q.length ≤ 500000000000) :
    Calls Try.prog 26 #[.pointer (some ⟨f, 0, none⟩), .int .i64 kind, .slice ao n c] w fun e w' => ∃ qv', e = .returned (.tuple #[.int .i64 0, .int .i64 3]) ∧ Mem w (foots [disk D p pg mb qv, blk f 96 (fC V p)]) w' [disk D p pg mb qv', blk f 96 (fC V p)] := by
  have hn : liveE D V ≠ 0 := by rw [hs]; decide
  have e1 : appE D V kind l = 3 := by unfold appE; rw [if_pos hn, hs]
  obtain ⟨e2, e3⟩ := app_no e1 (by decide)
  have e4 : appD D V kind l = D := if_pos (.inl hn)
  have := app_any hM kind ao n c l hr hF hq hV
  rw [e1, e2, e3, e4] at this
  exact this
theorem read_stale (hM : Mem w (foots [disk D p pg mb qv, blk f 96 (fC V p)]) w [disk D p pg mb qv, blk f 96 (fC V p)]) (hs : liveE D V = 3) (hV : FOk D V) (page : Int) :
    Calls Try.prog 25 #[.pointer (some ⟨f, 0, none⟩), .int .i64 page] w fun e w' => ∃ a c, e = .returned (.tuple #[.int .i64 0, .slice a 0 c, .int .i64 3]) ∧ Mem w (foots [disk D p pg mb qv, blk f 96 (fC V p)]) w' [disk D p pg mb qv, blk f 96 (fC V p)] := by
  have hn : liveE D V ≠ 0 := by rw [hs]; decide
  have e1 : fReadE D V page = 3 := by unfold fReadE; rw [if_pos hn, hs]
  obtain ⟨e2, e3⟩ := fRead_no e1 (by decide)
  have e4 : fReadD D V page = D := if_pos (.inl hn)
  have := fread_any hM page hV
  rw [e1, e2, e3, e4] at this
  refine this.mono ?_
  rintro e w' ⟨v, rfl, h⟩
  obtain ⟨a, c, rfl⟩ := qv_at (h.get 2 rfl)
  exact ⟨a, c, rfl, h.arr [0, 1] (by decide)⟩
theorem pub_stale (hM : Mem w (foots [disk D p pg mb qv, blk f 96 (fC V p)]) w [disk D p pg mb qv, blk f 96 (fC V p)]) (hs : liveE D V = 3) (hV : FOk D V) (head : Int) (hq : D.q.length ≤ 400000000000) :
    Calls Try.prog 28 #[.pointer (some ⟨f, 0, none⟩), .int .i64 head] w fun e w' => ∃ qv', e = .returned (.int .i64 3) ∧ Mem w (foots [disk D p pg mb qv, blk f 96 (fC V p)]) w' [disk D p pg mb qv', blk f 96 (fC V p)] := by
  have hn : liveE D V ≠ 0 := by rw [hs]; decide
  have e1 : pubR D V head = (D, 3) := by unfold pubR; rw [if_pos hn, hs]
  have e2 := pub_no e1 (by decide)
  have := pub_any hM head hq hV
  rw [e2, e1] at this
  exact this
theorem live_stale (hM : Mem w (foots [disk D p pg mb qv, blk f 96 (fC V p)]) w [disk D p pg mb qv, blk f 96 (fC V p)]) (hs : liveE D V = 3) :
    Calls Try.prog 21 #[.pointer (some ⟨f, 0, none⟩)] w fun e w' => e = .returned (.int .i64 3) ∧ Mem w (foots [disk D p pg mb qv, blk f 96 (fC V p)]) w' [disk D p pg mb qv, blk f 96 (fC V p)] := by
  have := live_any hM
  rw [hs] at this
  exact this
end
end Go.Proofs.Ytehnnnohoaapdaa

/- The law FileStale: case 0. -/
namespace Go.Proofs.Ytehnnnohoaapdaa
open Go Go.RowKit
set_option linter.unusedVariables false
set_option linter.unusedSimpArgs false
set_option maxRecDepth 100000 in
set_option maxHeartbeats 800000 in
theorem stale_fit0 {w : World} (k : Nat) (width : Int) (hn : 3 ≤ k ∧ k ≤ 64) (hw : 1 ≤ width ∧ width ≤ 32) (aa : Option Addr) (an ac : Nat) (avs : List AV) (hacts : ListIn actC 3 w aa an avs) (hok : ∀ a ∈ avs, ActIn w a) (han : an ≤ 4611686018427387904) (how n : Int) (la : Option Addr) (ln lc : Nat) (ll : List UInt8) (hlr : Row w la ln ll) (hlm : ln ≤ 140737488351232) (hj : how % 3 = 0) : Calls Try.prog 9 #[.int .i64 (k : Int), .int .i64 width, .slice aa an ac, .int .i64 how, .int .i64 n, .slice la ln lc] w fun e w' => e = .returned (.bool true) ∧ Mem w [] w' [] := by
  have M := Mem.nil w
  have hal := hacts.1
  go_enter Try.func9, Try.ntmps9
  refine wp_seq_k (fun K1 hK1 => ?_)
  refine wp_region_lit ?_
  refine pl M (y_assign (v := .bool false) rfl rfl rfl) ?_
  simp only [Act.put, z1, z2, z3]
  refine wpList_nil ?_
  refine hK1 _ _ ?_
  clear hK1
  refine wp_seq_k (fun K2 hK2 => ?_)
  refine wp_seq_k (fun K3 hK3 => ?_)
  refine wp_region_lit ?_
  refine pl M (y_move (v := .int .i64 (k : Int)) rfl rfl rfl) ?_
  simp only [Act.put, z1, z2, z3]
  refine pl M (y_move (v := .int .i64 width) rfl rfl rfl) ?_
  simp only [Act.put, z1, z2, z3]
  refine pe rfl (fun K hK => ?_)
  refine e_call 11 [.int .i64 (k : Int), .int .i64 width] rfl rfl Try.call11 (fits_any (k : Int) width _) ?_
  rintro e w4 ⟨rfl, H4⟩
  have M4 : Mem w [] w4 [] := M.step H4
  rw [(fits_yes hn hw)]
  refine ⟨_, rfl, ?_⟩
  refine hK.out _ _ ?_
  clear hK K
  simp only [Act.put, z1, z2, z3]
  refine pl M4 (y_not rfl rfl rfl rfl) ?_
  simp only [Act.put, z1, z2, z3]
  refine wpList_nil ?_
  refine hK3 _ _ ?_
  clear hK3
  refine wp_cond_false rfl ?_
  refine wp_skip ?_
  refine hK2 _ _ ?_
  clear hK2
  refine wp_seq_k (fun K5 hK5 => ?_)
  refine wp_region_lit ?_
  refine pl M4 (y_move (v := .int .i64 (k : Int)) rfl rfl rfl) ?_
  simp only [Act.put, z1, z2, z3]
  refine pl M4 (y_move (v := .int .i64 width) rfl rfl rfl) ?_
  simp only [Act.put, z1, z2, z3]
  refine pe rfl (fun K hK => ?_)
  refine e_call 22 [.int .i64 (k : Int), .int .i64 width] rfl rfl Try.call22 (fresh_any k width hn hw _) ?_
  rintro e w6 ⟨p, pg, mb, qv0, f, D0, m, rfl, H6, hI0, hq0, ha0, hp0⟩
  have M6 : Mem w [] w6 [disk D0 p pg mb qv0, blk f 96 (fC (⟨secondS width k, 2, m⟩ : FV) p)] := M4.step H6
  refine ⟨_, rfl, ?_⟩
  refine hK.out _ _ ?_
  clear hK K
  simp only [Act.put, z1, z2, z3]
  refine pl M6 (y_move (v := .tuple #[.pointer (some ⟨p, 0, none⟩), .pointer (some ⟨f, 0, none⟩)]) rfl rfl rfl) ?_
  simp only [Act.put, z1, z2, z3]
  refine pl M6 (y_ext (v := .pointer (some ⟨p, 0, none⟩)) rfl rfl rfl rfl) ?_
  simp only [Act.put, z1, z2, z3]
  refine pl M6 (y_ext (v := .pointer (some ⟨f, 0, none⟩)) rfl rfl rfl rfl) ?_
  simp only [Act.put, z1, z2, z3]
  refine pl M6 (y_assign (v := .pointer (some ⟨p, 0, none⟩)) rfl rfl rfl) ?_
  simp only [Act.put, z1, z2, z3]
  refine pl M6 (y_assign (v := .pointer (some ⟨f, 0, none⟩)) rfl rfl rfl) ?_
  simp only [Act.put, z1, z2, z3]
  refine wpList_nil ?_
  refine hK5 _ _ ?_
  clear hK5
  refine wp_seq_k (fun K7 hK7 => ?_)
  refine wp_seq_k (fun K8 hK8 => ?_)
  refine wp_region_lit ?_
  refine pl M6 (y_move (v := .pointer (some ⟨f, 0, none⟩)) rfl rfl rfl) ?_
  simp only [Act.put, z1, z2, z3]
  refine pl M6 (y_eqnil (r := false) rfl rfl rfl rfl Try.underlying33 rfl) ?_
  simp only [Act.put, z1, z2, z3]
  refine wpList_nil ?_
  refine hK8 _ _ ?_
  clear hK8
  refine wp_cond_false rfl ?_
  refine wp_skip ?_
  refine hK7 _ _ ?_
  clear hK7
  refine wp_seq_k (fun K9 hK9 => ?_)
  refine wp_region_lit ?_
  refine pl M6 (y_build (ps := [(2, .const (.int .i64 2)), (3, .const (.int .i64 1))]) (pv := [(2, .int .i64 2), (3, .int .i64 1)]) (cs := (bC (⟨[], 2, 1, 0, 0, 0⟩ : BV) (⟨.slice none 0 0, .slice none 0 0, []⟩ : BX))) rfl rfl rfl (by kernel_rfl)) ?_
  simp only [Act.put, z1, z2, z3]
  refine pe rfl (fun K hK => ?_)
  refine e_box M6 (bC (⟨[], 2, 1, 0, 0, 0⟩ : BV) (⟨.slice none 0 0, .slice none 0 0, []⟩ : BX)) rfl rfl ?_
  intro b w10 (M10 : Mem w [] w10 [blk b 48 (bC (⟨[], 2, 1, 0, 0, 0⟩ : BV) (⟨.slice none 0 0, .slice none 0 0, []⟩ : BX)), disk D0 p pg mb qv0, blk f 96 (fC (⟨secondS width k, 2, m⟩ : FV) p)])
  clear M6
  refine hK.out _ _ ?_
  clear hK K
  simp only [Act.put, z1, z2, z3]
  have M11 : Mem w [] w10 [blk b 48 (bC (⟨[], 2, 1, 0, 0, 0⟩ : BV) (⟨.slice none 0 0, .slice none 0 0, []⟩ : BX)), disk D0 p pg mb qv0, blk f 96 (fC (⟨secondS width k, 2, m⟩ : FV) p)] := M10.arr [0, 1, 2] (by decide)
  clear M10
  have M12 : Mem w [] w10 [book (⟨[], 2, 1, 0, 0, 0⟩ : BV) b (⟨.slice none 0 0, .slice none 0 0, []⟩ : BX), disk D0 p pg mb qv0, blk f 96 (fC (⟨secondS width k, 2, m⟩ : FV) p)] := book_new M11
  clear M11
  refine pl M12 (y_assign (v := .pointer (some ⟨b, 0, none⟩)) rfl rfl rfl) ?_
  simp only [Act.put, z1, z2, z3]
  refine wpList_nil ?_
  refine hK9 _ _ ?_
  clear hK9
  refine wp_seq_k (fun K13 hK13 => ?_)
  refine wp_seq_k (fun K14 hK14 => ?_)
  refine wp_region_lit ?_
  refine pl M12 (y_assign (v := .int .i64 0) rfl rfl rfl) ?_
  simp only [Act.put, z1, z2, z3]
  refine wpList_nil ?_
  refine hK14 _ _ ?_
  clear hK14
  have hBI : BInv D0 (⟨secondS width k, 2, m⟩ : FV) (⟨[], 2, 1, 0, 0, 0⟩ : BV) := ⟨hI0, rfl, rfl, rfl, rfl, Nat.zero_le _⟩
  have hcutK13 : ∀ a' w', (fun a' w' => ∃ (i : Nat) (D : DV) (V : FV) (B : BV) (qv : Value) (bx : BX) (us15 : List Value), a' = (⟨#[.int .i64 (k : Int), .int .i64 width, .slice aa an ac, .int .i64 how, .int .i64 n, .slice la ln lc, undef, undef, undef, undef, undef, undef, (us15.getD 0 undef), .pointer (some ⟨p, 0, none⟩), .pointer (some ⟨f, 0, none⟩), .pointer (some ⟨b, 0, none⟩), .int .i64 (i : Int), (us15.getD 1 undef), (us15.getD 2 undef), undef, undef, undef, undef, undef, undef, undef, undef, undef, undef, undef, undef, undef, .int .i64 (k : Int), .int .i64 width, .bool true, .bool false, .tuple #[.pointer (some ⟨p, 0, none⟩), .pointer (some ⟨f, 0, none⟩)], .int .i64 (k : Int), .int .i64 width, .tuple #[.pointer (some ⟨p, 0, none⟩), .pointer (some ⟨f, 0, none⟩)], .pointer (some ⟨p, 0, none⟩), .pointer (some ⟨f, 0, none⟩), .pointer (some ⟨f, 0, none⟩), .bool false, .agg ((bC (⟨[], 2, 1, 0, 0, 0⟩ : BV) (⟨.slice none 0 0, .slice none 0 0, []⟩ : BX))).toArray, .pointer (some ⟨b, 0, none⟩), (us15.getD 3 undef), (us15.getD 4 undef), (us15.getD 5 undef), (us15.getD 6 undef), (us15.getD 7 undef), (us15.getD 8 undef), (us15.getD 9 undef), (us15.getD 10 undef), (us15.getD 11 undef), (us15.getD 12 undef), (us15.getD 13 undef), (us15.getD 14 undef), (us15.getD 15 undef), (us15.getD 16 undef), (us15.getD 17 undef), (us15.getD 18 undef), (us15.getD 19 undef), (us15.getD 20 undef), (us15.getD 21 undef), (us15.getD 22 undef), (us15.getD 23 undef), (us15.getD 24 undef), (us15.getD 25 undef), (us15.getD 26 undef), (us15.getD 27 undef), (us15.getD 28 undef), (us15.getD 29 undef), (us15.getD 30 undef), (us15.getD 31 undef), undef, undef, undef, undef, undef, undef, undef, undef, undef, undef, undef, undef, undef, undef, undef, undef, undef, undef, undef, undef, undef, undef, undef, undef, undef, undef, undef, undef, undef, undef, undef, undef, undef, undef, undef, undef, undef, undef, undef, undef, undef, undef, undef, undef, undef, undef, undef, undef, undef, undef, undef, undef, undef, undef, undef, undef, undef, undef, undef, undef, undef, undef, undef, undef, undef, undef, undef, undef, undef, undef, undef, undef, undef, undef, undef, undef, undef, undef, undef, undef, undef, undef, undef, undef, undef, undef, undef, undef, undef, undef, undef, undef, undef, undef, undef, undef, undef, undef, undef, undef, undef, undef, undef, undef, undef, undef, undef, undef, undef, undef, undef, undef, undef, undef, undef, undef, undef, undef, undef, undef, undef, undef, undef, undef, undef, undef, undef, undef, undef, undef, undef, undef, undef, undef, undef, undef, undef, undef, undef, undef, undef, undef, undef, undef, undef], []⟩ : Act) ∧ (BInv D V B) ∧ (D.q.length ≤ i ∧ i ≤ 60 ∧ D.pages.length = k ∧ D.armed = 0) ∧ (V.s.gen ≤ 1 + i ∧ V.s.width = width) ∧ Mem w [] w' [disk D p pg mb qv, blk f 96 (fC V p), book B b bx]) a' w' → K13 a' w' := by
    clear M12
    rintro a' w16 ⟨i, D, V, B, qv, bx, us15, rfl, hB, hqi, hgi, M16⟩
    refine hK13 _ _ ?_
    clear hK13
    refine wp_seq_k (fun K17 hK17 => ?_)
    refine wp_region_lit ?_
    refine pl M16 (y_move (v := .pointer (some ⟨f, 0, none⟩)) rfl rfl rfl) ?_
    simp only [Act.put, z1, z2, z3]
    have hX18 : Mem w [] w16 ([disk D p pg mb qv, blk f 96 (fC V p)] ++ [book B b bx]) := M16.arr [0, 1, 2] (by decide)
    refine pe rfl (fun K hK => ?_)
    refine e_call 19 [.pointer (some ⟨f, 0, none⟩)] rfl rfl Try.call19 (super_any (Mem.here hX18)) ?_
    rintro e w18 ⟨rfl, H18⟩
    have M18 : Mem w [] w18 [disk D p pg mb qv, blk f 96 (fC V p), book B b bx] := Mem.frame hX18 H18
    refine ⟨_, rfl, ?_⟩
    refine hK.out _ _ ?_
    clear hK K
    simp only [Act.put, z1, z2, z3]
    refine pe rfl (fun K hK => ?_)
    refine e_alloc M18 (supC noSup) rfl zero_sup ?_
    intro g19 w19 (M19 : Mem w [] w19 [blk g19 37 (supC noSup), disk D p pg mb qv, blk f 96 (fC V p), book B b bx])
    clear M18
    refine hK.out _ _ ?_
    clear hK K
    simp only [Act.put, z1, z2, z3]
    refine pe rfl (fun K hK => ?_)
    refine e_storew M19 0 (cs := (supC V.s)) rfl rfl rfl rfl (size_sup _) (sup_all _) rfl (rfl) ?_
    intro w20 (M20 : Mem w [] w20 [blk g19 37 (supC V.s), disk D p pg mb qv, blk f 96 (fC V p), book B b bx])
    clear M19
    refine hK.out _ _ ?_
    clear hK K
    simp only [Act.put, z1, z2, z3]
    refine wpList_nil ?_
    refine hK17 _ _ ?_
    clear hK17
    refine wp_seq_k (fun K21 hK21 => ?_)
    refine wp_region_lit ?_
    refine pl M20 (y_move (v := .pointer (some ⟨f, 0, none⟩)) rfl rfl rfl) ?_
    simp only [Act.put, z1, z2, z3]
    have hX22 : Mem w [] w20 ([disk D p pg mb qv, blk f 96 (fC V p)] ++ [blk g19 37 (supC V.s), book B b bx]) := M20.arr [1, 2, 0, 3] (by decide)
    refine pe rfl (fun K hK => ?_)
    refine e_call 20 [.pointer (some ⟨f, 0, none⟩)] rfl rfl Try.call20 (next_any (Mem.here hX22)) ?_
    rintro e w22 ⟨rfl, H22⟩
    have M22 : Mem w [] w22 [disk D p pg mb qv, blk f 96 (fC V p), blk g19 37 (supC V.s), book B b bx] := Mem.frame hX22 H22
    refine ⟨_, rfl, ?_⟩
    refine hK.out _ _ ?_
    clear hK K
    simp only [Act.put, z1, z2, z3]
    refine pl M22 (y_assign (v := .int .i64 V.next) rfl rfl rfl) ?_
    simp only [Act.put, z1, z2, z3]
    refine wpList_nil ?_
    refine hK21 _ _ ?_
    clear hK21
    refine wp_seq_k (fun K23 hK23 => ?_)
    refine wp_seq_k (fun K24 hK24 => ?_)
    refine wp_region_lit ?_
    refine pl M22 (y_move (v := .pointer (some ⟨f, 0, none⟩)) rfl rfl rfl) ?_
    simp only [Act.put, z1, z2, z3]
    have hX25 : Mem w [] w22 ([disk D p pg mb qv, blk f 96 (fC V p)] ++ [blk g19 37 (supC V.s), book B b bx]) := M22.arr [0, 1, 2, 3] (by decide)
    refine pe rfl (fun K hK => ?_)
    refine e_call 21 [.pointer (some ⟨f, 0, none⟩)] rfl rfl Try.call21 (live_ok (Mem.here hX25) hB.inv) ?_
    rintro e w25 ⟨rfl, H25⟩
    have M25 : Mem w [] w25 [disk D p pg mb qv, blk f 96 (fC V p), blk g19 37 (supC V.s), book B b bx] := Mem.frame hX25 H25
    refine ⟨_, rfl, ?_⟩
    refine hK.out _ _ ?_
    clear hK K
    simp only [Act.put, z1, z2, z3]
    refine pl M25 (y_neq (b := false) rfl rfl rfl rfl (by rw [decide_eq_true (by decide)]; rfl)) ?_
    simp only [Act.put, z1, z2, z3]
    refine wpList_nil ?_
    refine hK24 _ _ ?_
    clear hK24
    refine wp_cond_false rfl ?_
    refine wp_skip ?_
    refine hK23 _ _ ?_
    clear hK23
    refine wp_seq_k (fun K26 hK26 => ?_)
    refine wp_region_lit ?_
    refine pl M25 (y_move (v := .pointer (some ⟨f, 0, none⟩)) rfl rfl rfl) ?_
    simp only [Act.put, z1, z2, z3]
    refine pl M25 (y_assign (v := .pointer (some ⟨f, 0, none⟩)) rfl rfl rfl) ?_
    simp only [Act.put, z1, z2, z3]
    refine wpList_nil ?_
    refine hK26 _ _ ?_
    clear hK26
    refine wp_seq_k (fun K27 hK27 => ?_)
    refine wp_seq_k (fun K28 hK28 => ?_)
    refine wp_region_lit ?_
    refine pl M25 (y_move (v := .int .i64 how) rfl rfl rfl) ?_
    simp only [Act.put, z1, z2, z3]
    refine pe rfl (fun K hK => ?_)
    refine e_call 13 [.int .i64 how, .int .i64 3] rfl rfl Try.call13 (place3_any how 3 (by decide) (by decide) _) ?_
    rintro e w29 ⟨rfl, H29⟩
    have M29 : Mem w [] w29 [disk D p pg mb qv, blk f 96 (fC V p), blk g19 37 (supC V.s), book B b bx] := M25.step H29
    refine ⟨_, rfl, ?_⟩
    refine hK.out _ _ ?_
    clear hK K
    simp only [Act.put, z1, z2, z3]
    refine wpList_nil ?_
    refine hK28 _ _ ?_
    clear hK28
    refine wp_block ?_
    refine wp_seq_k (fun K30 hK30 => ?_)
    refine wp_region_lit ?_
    refine pl M29 (y_eql (b := true) rfl rfl rfl rfl (decide_eq_true hj)) ?_
    simp only [Act.put, z1, z2, z3]
    refine pl M29 (y_assign (v := .bool true) rfl rfl rfl) ?_
    simp only [Act.put, z1, z2, z3]
    refine wpList_nil ?_
    refine hK30 _ _ ?_
    clear hK30
    refine wp_cond_true rfl ?_
    refine wp_region_lit ?_
    refine pl M29 (y_move (v := .pointer (some ⟨p, 0, none⟩)) rfl rfl rfl) ?_
    simp only [Act.put, z1, z2, z3]
    refine pe rfl (fun K hK => ?_)
    refine e_bslice M29 (bvs [15, 15, 15]) (pv := [(0, .int .u8 15), (1, .int .u8 15), (2, .int .u8 15)]) rfl rfl Try.underlying22 Try.sizeOf5 Try.zeroValue5 (by decide) (by kernel_rfl) ?_
    intro g31 w32 (M32 : Mem w [] w32 [blk g31 5 (bvs [15, 15, 15]), disk D p pg mb qv, blk f 96 (fC V p), blk g19 37 (supC V.s), book B b bx])
    clear M29
    refine hK.out _ _ ?_
    clear hK K
    simp only [Act.put, z1, z2, z3]
    have hX33 : Mem w [] w32 ([disk D p pg mb qv] ++ [blk g31 5 (bvs [15, 15, 15]), blk f 96 (fC V p), blk g19 37 (supC V.s), book B b bx]) := M32.arr [1, 0, 2, 3, 4] (by decide)
    refine pe rfl (fun K hK => ?_)
    refine e_call 16 [.pointer (some ⟨p, 0, none⟩), .slice (some ⟨g31, 0, none⟩) 3 3] rfl rfl Try.call16 (crash_any (Mem.here hX33) (some ⟨g31, 0, none⟩) 3 3 [15, 15, 15] (blk_row (l := [15, 15, 15]) (M32.get 0 rfl)) (fun b o e _ hb => by cases e; exact M32.apart 1 0 (by decide) rfl rfl (by simpa [foots] using hb) (by simp [blk])) (by omega)) ?_
    rintro e w33 ⟨qx, rfl, H33⟩
    have M33 : Mem w [] w33 [disk (crashD D [15, 15, 15]) p pg mb qx, blk g31 5 (bvs [15, 15, 15]), blk f 96 (fC V p), blk g19 37 (supC V.s), book B b bx] := Mem.frame hX33 H33
    refine ⟨_, rfl, ?_⟩
    refine hK.out _ _ ?_
    clear hK K
    simp only [Act.put, z1, z2, z3]
    have hst : liveE (crashD D [15, 15, 15]) V = 3 := stale_of (by show wrap64 (D.epoch + 1) = _; rw [hB.inv.live])
    have hfok : FOk (crashD D [15, 15, 15]) V := hB.inv.fok.of_len (crash_len _ _)
    have hxq : (crashD D [15, 15, 15]).q.length ≤ 100 := Nat.zero_le _
    have hxk : (crashD D [15, 15, 15]).pages.length = k := by rw [crash_len]; exact hqi.2.2.1
    refine wpList_nil ?_
    refine hK27 _ _ ?_
    clear hK27
    refine wp_seq_k (fun K34 hK34 => ?_)
    refine wp_region_lit ?_
    refine pl M33 (y_move (v := .pointer (some ⟨p, 0, none⟩)) rfl rfl rfl) ?_
    simp only [Act.put, z1, z2, z3]
    have hX35 : Mem w [] w33 ([disk (crashD D [15, 15, 15]) p pg mb qx] ++ [blk g31 5 (bvs [15, 15, 15]), blk f 96 (fC V p), blk g19 37 (supC V.s), book B b bx]) := M33.arr [0, 1, 2, 3, 4] (by decide)
    refine pe rfl (fun K hK => ?_)
    refine e_call 30 [.pointer (some ⟨p, 0, none⟩)] rfl rfl Try.call30 (image_fit (Mem.here hX35) hxk (by omega)) ?_
    rintro e w35 ⟨gi1, ci1, rfl, H35, hci1, hcm1⟩
    have M35 : Mem w [] w35 [disk (crashD D [15, 15, 15]) p pg mb qx, lst 5 1 (.slice (some ⟨gi1, 0, none⟩) (256 * k) ci1) (256 * k) (bvs (crashD D [15, 15, 15]).pages.flatten), blk g31 5 (bvs [15, 15, 15]), blk f 96 (fC V p), blk g19 37 (supC V.s), book B b bx] := Mem.frame hX35 H35
    refine ⟨_, rfl, ?_⟩
    refine hK.out _ _ ?_
    clear hK K
    simp only [Act.put, z1, z2, z3]
    refine pl M35 (y_assign (v := .slice (some ⟨gi1, 0, none⟩) (256 * k) ci1) rfl rfl rfl) ?_
    simp only [Act.put, z1, z2, z3]
    refine wpList_nil ?_
    refine hK34 _ _ ?_
    clear hK34
    refine wp_seq_k (fun K36 hK36 => ?_)
    refine wp_region_lit ?_
    refine pl M35 (y_move (v := .pointer (some ⟨p, 0, none⟩)) rfl rfl rfl) ?_
    simp only [Act.put, z1, z2, z3]
    refine pl M35 (y_nil rfl rfl rfl) ?_
    simp only [Act.put, z1, z2, z3]
    refine pl M35 (y_fa (r := 0) rfl rfl rfl Try.underlying60 rfl Try.sizeOf55 rfl) ?_
    simp only [Act.put, z1, z2, z3]
    have hX37 : Mem w [] w35 ([disk (crashD D [15, 15, 15]) p pg mb qx] ++ [lst 5 1 (.slice (some ⟨gi1, 0, none⟩) (256 * k) ci1) (256 * k) (bvs (crashD D [15, 15, 15]).pages.flatten), blk g31 5 (bvs [15, 15, 15]), blk f 96 (fC V p), blk g19 37 (supC V.s), book B b bx]) := M35.arr [0, 1, 2, 3, 4, 5] (by decide)
    refine pe rfl (fun K hK => ?_)
    refine e_call 23 [.pointer (some ⟨p, 0, none⟩)] rfl rfl Try.call23 (counts_any (Mem.here hX37)) ?_
    rintro e w37 ⟨rfl, H37⟩
    have M37 : Mem w [] w37 [disk (crashD D [15, 15, 15]) p pg mb qx, lst 5 1 (.slice (some ⟨gi1, 0, none⟩) (256 * k) ci1) (256 * k) (bvs (crashD D [15, 15, 15]).pages.flatten), blk g31 5 (bvs [15, 15, 15]), blk f 96 (fC V p), blk g19 37 (supC V.s), book B b bx] := Mem.frame hX37 H37
    refine ⟨_, rfl, ?_⟩
    refine hK.out _ _ ?_
    clear hK K
    simp only [Act.put, z1, z2, z3]
    refine pe rfl (fun K hK => ?_)
    refine e_alloc M37 ([.int .i64 0, .int .i64 0, .int .i64 0, .int .i64 0]) rfl Try.zeroValue52 ?_
    intro c25 w38 (M38 : Mem w [] w38 [blk c25 52 ([.int .i64 0, .int .i64 0, .int .i64 0, .int .i64 0]), disk (crashD D [15, 15, 15]) p pg mb qx, lst 5 1 (.slice (some ⟨gi1, 0, none⟩) (256 * k) ci1) (256 * k) (bvs (crashD D [15, 15, 15]).pages.flatten), blk g31 5 (bvs [15, 15, 15]), blk f 96 (fC V p), blk g19 37 (supC V.s), book B b bx])
    clear M37
    refine hK.out _ _ ?_
    clear hK K
    simp only [Act.put, z1, z2, z3]
    refine pe rfl (fun K hK => ?_)
    refine e_storew M38 0 (cs := (cntC (crashD D [15, 15, 15]))) rfl rfl rfl rfl size_cnt (list_all _ rfl) rfl (rfl) ?_
    intro w39 (M39 : Mem w [] w39 [blk c25 52 (cntC (crashD D [15, 15, 15])), disk (crashD D [15, 15, 15]) p pg mb qx, lst 5 1 (.slice (some ⟨gi1, 0, none⟩) (256 * k) ci1) (256 * k) (bvs (crashD D [15, 15, 15]).pages.flatten), blk g31 5 (bvs [15, 15, 15]), blk f 96 (fC V p), blk g19 37 (supC V.s), book B b bx])
    clear M38
    refine hK.out _ _ ?_
    clear hK K
    simp only [Act.put, z1, z2, z3]
    refine wpList_nil ?_
    refine hK36 _ _ ?_
    clear hK36
    refine wp_seq_k (fun K40 hK40 => ?_)
    refine wp_region_lit ?_
    refine pl M39 (y_move (v := .pointer (some ⟨f, 0, none⟩)) rfl rfl rfl) ?_
    simp only [Act.put, z1, z2, z3]
    refine pl M39 (y_move (v := .int .i64 n) rfl rfl rfl) ?_
    simp only [Act.put, z1, z2, z3]
    refine pl M39 (y_move (v := .slice la ln lc) rfl rfl rfl) ?_
    simp only [Act.put, z1, z2, z3]
    have hX41 : Mem w [] w39 ([disk (crashD D [15, 15, 15]) p pg mb qx, blk f 96 (fC V p)] ++ [blk c25 52 (cntC (crashD D [15, 15, 15])), lst 5 1 (.slice (some ⟨gi1, 0, none⟩) (256 * k) ci1) (256 * k) (bvs (crashD D [15, 15, 15]).pages.flatten), blk g31 5 (bvs [15, 15, 15]), blk g19 37 (supC V.s), book B b bx]) := M39.arr [1, 4, 0, 2, 3, 5, 6] (by decide)
    refine pe rfl (fun K hK => ?_)
    refine e_call 26 [.pointer (some ⟨f, 0, none⟩), .int .i64 n, .slice la ln lc] rfl rfl Try.call26 (app_stale (Mem.here hX41) hst hfok n la ln lc ll (M39.row hlr (by simp)) (hX41.left.off_row hlr) (by omega)) ?_
    rintro e w41 ⟨qa, rfl, H41⟩
    have M41 : Mem w [] w41 [disk (crashD D [15, 15, 15]) p pg mb qa, blk f 96 (fC V p), blk c25 52 (cntC (crashD D [15, 15, 15])), lst 5 1 (.slice (some ⟨gi1, 0, none⟩) (256 * k) ci1) (256 * k) (bvs (crashD D [15, 15, 15]).pages.flatten), blk g31 5 (bvs [15, 15, 15]), blk g19 37 (supC V.s), book B b bx] := Mem.frame hX41 H41
    refine ⟨_, rfl, ?_⟩
    refine hK.out _ _ ?_
    clear hK K
    simp only [Act.put, z1, z2, z3]
    refine pl M41 (y_move (v := .tuple #[.int .i64 0, .int .i64 3]) rfl rfl rfl) ?_
    simp only [Act.put, z1, z2, z3]
    refine pl M41 (y_ext (v := .int .i64 0) rfl rfl rfl rfl) ?_
    simp only [Act.put, z1, z2, z3]
    refine pl M41 (y_ext (v := .int .i64 3) rfl rfl rfl rfl) ?_
    simp only [Act.put, z1, z2, z3]
    refine pl M41 (y_assign (v := .int .i64 0) rfl rfl rfl) ?_
    simp only [Act.put, z1, z2, z3]
    refine pl M41 (y_assign (v := .int .i64 3) rfl rfl rfl) ?_
    simp only [Act.put, z1, z2, z3]
    refine wpList_nil ?_
    refine hK40 _ _ ?_
    clear hK40
    refine wp_seq_k (fun K42 hK42 => ?_)
    refine wp_region_lit ?_
    refine pl M41 (y_move (v := .pointer (some ⟨f, 0, none⟩)) rfl rfl rfl) ?_
    simp only [Act.put, z1, z2, z3]
    refine pl M41 (y_move (v := .int .i64 n) rfl rfl rfl) ?_
    simp only [Act.put, z1, z2, z3]
    have hX43 : Mem w [] w41 ([disk (crashD D [15, 15, 15]) p pg mb qa, blk f 96 (fC V p)] ++ [blk c25 52 (cntC (crashD D [15, 15, 15])), lst 5 1 (.slice (some ⟨gi1, 0, none⟩) (256 * k) ci1) (256 * k) (bvs (crashD D [15, 15, 15]).pages.flatten), blk g31 5 (bvs [15, 15, 15]), blk g19 37 (supC V.s), book B b bx]) := M41.arr [0, 1, 2, 3, 4, 5, 6] (by decide)
    refine pe rfl (fun K hK => ?_)
    refine e_call 25 [.pointer (some ⟨f, 0, none⟩), .int .i64 n] rfl rfl Try.call25 (read_stale (Mem.here hX43) hst hfok n) ?_
    rintro e w43 ⟨a3, c3, rfl, H43⟩
    have M43 : Mem w [] w43 [disk (crashD D [15, 15, 15]) p pg mb qa, blk f 96 (fC V p), blk c25 52 (cntC (crashD D [15, 15, 15])), lst 5 1 (.slice (some ⟨gi1, 0, none⟩) (256 * k) ci1) (256 * k) (bvs (crashD D [15, 15, 15]).pages.flatten), blk g31 5 (bvs [15, 15, 15]), blk g19 37 (supC V.s), book B b bx] := Mem.frame hX43 H43
    refine ⟨_, rfl, ?_⟩
    refine hK.out _ _ ?_
    clear hK K
    simp only [Act.put, z1, z2, z3]
    refine pl M43 (y_move (v := .tuple #[.int .i64 0, .slice a3 0 c3, .int .i64 3]) rfl rfl rfl) ?_
    simp only [Act.put, z1, z2, z3]
    refine pl M43 (y_ext (v := .int .i64 0) rfl rfl rfl rfl) ?_
    simp only [Act.put, z1, z2, z3]
    refine pl M43 (y_ext (v := .slice a3 0 c3) rfl rfl rfl rfl) ?_
    simp only [Act.put, z1, z2, z3]
    refine pl M43 (y_ext (v := .int .i64 3) rfl rfl rfl rfl) ?_
    simp only [Act.put, z1, z2, z3]
    refine pl M43 (y_assign (v := .int .i64 0) rfl rfl rfl) ?_
    simp only [Act.put, z1, z2, z3]
    refine pl M43 (y_assign (v := .slice a3 0 c3) rfl rfl rfl) ?_
    simp only [Act.put, z1, z2, z3]
    refine pl M43 (y_assign (v := .int .i64 3) rfl rfl rfl) ?_
    simp only [Act.put, z1, z2, z3]
    refine wpList_nil ?_
    refine hK42 _ _ ?_
    clear hK42
    refine wp_seq_k (fun K44 hK44 => ?_)
    refine wp_region_lit ?_
    refine pl M43 (y_move (v := .pointer (some ⟨f, 0, none⟩)) rfl rfl rfl) ?_
    simp only [Act.put, z1, z2, z3]
    refine pl M43 (y_move (v := .int .i64 n) rfl rfl rfl) ?_
    simp only [Act.put, z1, z2, z3]
    have hX45 : Mem w [] w43 ([disk (crashD D [15, 15, 15]) p pg mb qa, blk f 96 (fC V p)] ++ [blk c25 52 (cntC (crashD D [15, 15, 15])), lst 5 1 (.slice (some ⟨gi1, 0, none⟩) (256 * k) ci1) (256 * k) (bvs (crashD D [15, 15, 15]).pages.flatten), blk g31 5 (bvs [15, 15, 15]), blk g19 37 (supC V.s), book B b bx]) := M43.arr [0, 1, 2, 3, 4, 5, 6] (by decide)
    refine pe rfl (fun K hK => ?_)
    refine e_call 28 [.pointer (some ⟨f, 0, none⟩), .int .i64 n] rfl rfl Try.call28 (pub_stale (Mem.here hX45) hst hfok n (by omega)) ?_
    rintro e w45 ⟨qb, rfl, H45⟩
    have M45 : Mem w [] w45 [disk (crashD D [15, 15, 15]) p pg mb qb, blk f 96 (fC V p), blk c25 52 (cntC (crashD D [15, 15, 15])), lst 5 1 (.slice (some ⟨gi1, 0, none⟩) (256 * k) ci1) (256 * k) (bvs (crashD D [15, 15, 15]).pages.flatten), blk g31 5 (bvs [15, 15, 15]), blk g19 37 (supC V.s), book B b bx] := Mem.frame hX45 H45
    refine ⟨_, rfl, ?_⟩
    refine hK.out _ _ ?_
    clear hK K
    simp only [Act.put, z1, z2, z3]
    refine pl M45 (y_assign (v := .int .i64 3) rfl rfl rfl) ?_
    simp only [Act.put, z1, z2, z3]
    refine wpList_nil ?_
    refine hK44 _ _ ?_
    clear hK44
    refine wp_seq_k (fun K46 hK46 => ?_)
    refine wp_seq_k (fun K47 hK47 => ?_)
    refine wp_region_lit ?_
    refine pl M45 (y_move (v := .int .i64 3) rfl rfl rfl) ?_
    simp only [Act.put, z1, z2, z3]
    refine pl M45 (y_neq (b := false) rfl rfl rfl rfl (by rw [decide_eq_true (by decide)]; rfl)) ?_
    simp only [Act.put, z1, z2, z3]
    refine pl M45 (y_move (v := .bool false) rfl rfl rfl) ?_
    simp only [Act.put, z1, z2, z3]
    refine pl M45 (y_move (v := .int .i64 3) rfl rfl rfl) ?_
    simp only [Act.put, z1, z2, z3]
    refine pl M45 (y_neq (b := false) rfl rfl rfl rfl (by rw [decide_eq_true (by decide)]; rfl)) ?_
    simp only [Act.put, z1, z2, z3]
    refine pl M45 (y_pickF (v := .bool false) rfl rfl rfl rfl) ?_
    simp only [Act.put, z1, z2, z3]
    refine pl M45 (y_move (v := .bool false) rfl rfl rfl) ?_
    simp only [Act.put, z1, z2, z3]
    refine pl M45 (y_move (v := .int .i64 3) rfl rfl rfl) ?_
    simp only [Act.put, z1, z2, z3]
    refine pl M45 (y_neq (b := false) rfl rfl rfl rfl (by rw [decide_eq_true (by decide)]; rfl)) ?_
    simp only [Act.put, z1, z2, z3]
    refine pl M45 (y_pickF (v := .bool false) rfl rfl rfl rfl) ?_
    simp only [Act.put, z1, z2, z3]
    refine pl M45 (y_move (v := .bool false) rfl rfl rfl) ?_
    simp only [Act.put, z1, z2, z3]
    refine pl M45 (y_move (v := .pointer (some ⟨f, 0, none⟩)) rfl rfl rfl) ?_
    simp only [Act.put, z1, z2, z3]
    have hX48 : Mem w [] w45 ([disk (crashD D [15, 15, 15]) p pg mb qb, blk f 96 (fC V p)] ++ [blk c25 52 (cntC (crashD D [15, 15, 15])), lst 5 1 (.slice (some ⟨gi1, 0, none⟩) (256 * k) ci1) (256 * k) (bvs (crashD D [15, 15, 15]).pages.flatten), blk g31 5 (bvs [15, 15, 15]), blk g19 37 (supC V.s), book B b bx]) := M45.arr [0, 1, 2, 3, 4, 5, 6] (by decide)
    refine pe rfl (fun K hK => ?_)
    refine e_call 21 [.pointer (some ⟨f, 0, none⟩)] rfl rfl Try.call21 (live_stale (Mem.here hX48) hst) ?_
    rintro e w48 ⟨rfl, H48⟩
    have M48 : Mem w [] w48 [disk (crashD D [15, 15, 15]) p pg mb qb, blk f 96 (fC V p), blk c25 52 (cntC (crashD D [15, 15, 15])), lst 5 1 (.slice (some ⟨gi1, 0, none⟩) (256 * k) ci1) (256 * k) (bvs (crashD D [15, 15, 15]).pages.flatten), blk g31 5 (bvs [15, 15, 15]), blk g19 37 (supC V.s), book B b bx] := Mem.frame hX48 H48
    refine ⟨_, rfl, ?_⟩
    refine hK.out _ _ ?_
    clear hK K
    simp only [Act.put, z1, z2, z3]
    refine pl M48 (y_neq (b := false) rfl rfl rfl rfl (by rw [decide_eq_true (by decide)]; rfl)) ?_
    simp only [Act.put, z1, z2, z3]
    refine pl M48 (y_pickF (v := .bool false) rfl rfl rfl rfl) ?_
    simp only [Act.put, z1, z2, z3]
    refine pl M48 (y_move (v := .bool false) rfl rfl rfl) ?_
    simp only [Act.put, z1, z2, z3]
    refine pl M48 (y_move (v := .int .i64 0) rfl rfl rfl) ?_
    simp only [Act.put, z1, z2, z3]
    refine pl M48 (y_neq (b := false) rfl rfl rfl rfl (by rw [decide_eq_true (by decide)]; rfl)) ?_
    simp only [Act.put, z1, z2, z3]
    refine pl M48 (y_pickF (v := .bool false) rfl rfl rfl rfl) ?_
    simp only [Act.put, z1, z2, z3]
    refine pl M48 (y_move (v := .bool false) rfl rfl rfl) ?_
    simp only [Act.put, z1, z2, z3]
    refine pl M48 (y_move (v := .int .i64 0) rfl rfl rfl) ?_
    simp only [Act.put, z1, z2, z3]
    refine pl M48 (y_neq (b := false) rfl rfl rfl rfl (by rw [decide_eq_true (by decide)]; rfl)) ?_
    simp only [Act.put, z1, z2, z3]
    refine pl M48 (y_pickF (v := .bool false) rfl rfl rfl rfl) ?_
    simp only [Act.put, z1, z2, z3]
    refine pl M48 (y_move (v := .bool false) rfl rfl rfl) ?_
    simp only [Act.put, z1, z2, z3]
    refine pl M48 (y_move (v := .slice a3 0 c3) rfl rfl rfl) ?_
    simp only [Act.put, z1, z2, z3]
    refine pl M48 (y_len rfl rfl rfl Try.underlying22) ?_
    simp only [Act.put, z1, z2, z3]
    refine pl M48 (y_neq (b := false) rfl rfl rfl rfl (by rw [decide_eq_true (by decide)]; rfl)) ?_
    simp only [Act.put, z1, z2, z3]
    refine pl M48 (y_pickF (v := .bool false) rfl rfl rfl rfl) ?_
    simp only [Act.put, z1, z2, z3]
    refine wpList_nil ?_
    refine hK47 _ _ ?_
    clear hK47
    refine wp_cond_false rfl ?_
    refine wp_skip ?_
    refine hK46 _ _ ?_
    clear hK46
    refine wp_seq_k (fun K49 hK49 => ?_)
    refine wp_seq_k (fun K50 hK50 => ?_)
    have M51 := M48.drew
    refine held_begin (fun W => Mem w [] W [blk c25 52 (cntC (crashD D [15, 15, 15])), blk g19 37 (supC V.s)]) (by kernel_rfl) (M51.arr [2, 5] (by decide)) (fun hS => ?_)
    refine held_take 0 _ rfl (by kernel_rfl) (by kernel_rfl) (by kernel_rfl) (y_move (v := .pointer (some ⟨f, 0, none⟩)) rfl rfl rfl) hS ?_
    simp only [Act.put, z1, z2, z3]
    refine held_take 2 _ rfl (by kernel_rfl) (by kernel_rfl) (by kernel_rfl) (y_loadb (cs := (supC V.s)) rfl rfl rfl Try.underlying37 rfl (size_sup _) (fun W hW => hW.get 1 rfl) (List.take_of_length_le (Nat.le_refl _))) hS ?_
    simp only [Act.put, z1, z2, z3]
    have hX52 : Mem w [] w48.drew ([disk (crashD D [15, 15, 15]) p pg mb qb, blk f 96 (fC V p)] ++ [blk c25 52 (cntC (crashD D [15, 15, 15])), lst 5 1 (.slice (some ⟨gi1, 0, none⟩) (256 * k) ci1) (256 * k) (bvs (crashD D [15, 15, 15]).pages.flatten), blk g31 5 (bvs [15, 15, 15]), blk g19 37 (supC V.s), book B b bx]) := M51.arr [0, 1, 2, 3, 4, 5, 6] (by decide)
    refine held_step 1 (by kernel_rfl) rfl (by rfl) (fun K hK => ?_)
    refine e_call 19 [.pointer (some ⟨f, 0, none⟩)] rfl rfl Try.call19 (super_any (Mem.here hX52)) ?_
    rintro e w52 ⟨rfl, H52⟩
    have M52 : Mem w [] w52 [disk (crashD D [15, 15, 15]) p pg mb qb, blk f 96 (fC V p), blk c25 52 (cntC (crashD D [15, 15, 15])), lst 5 1 (.slice (some ⟨gi1, 0, none⟩) (256 * k) ci1) (256 * k) (bvs (crashD D [15, 15, 15]).pages.flatten), blk g31 5 (bvs [15, 15, 15]), blk g19 37 (supC V.s), book B b bx] := Mem.frame hX52 H52
    refine ⟨_, rfl, ?_⟩
    refine hK.out _ _ (M52.arr [2, 5] (by decide)) (fun hS => ?_)
    clear hK K
    simp only [Act.put, z1, z2, z3]
    refine held_take 3 _ rfl (by kernel_rfl) (by kernel_rfl) (by kernel_rfl) (y_nes (r := false) rfl rfl rfl rfl sup_guard (fun W => sup_same _ W)) hS ?_
    simp only [Act.put, z1, z2, z3]
    refine held_take 4 _ rfl (by kernel_rfl) (by kernel_rfl) (by kernel_rfl) (y_move (v := .bool false) rfl rfl rfl) hS ?_
    simp only [Act.put, z1, z2, z3]
    refine held_take 5 _ rfl (by kernel_rfl) (by kernel_rfl) (by kernel_rfl) (y_move (v := .pointer (some ⟨f, 0, none⟩)) rfl rfl rfl) hS ?_
    simp only [Act.put, z1, z2, z3]
    refine held_take 7 _ rfl (by kernel_rfl) (by kernel_rfl) (by kernel_rfl) (y_move (v := .int .i64 V.next) rfl rfl rfl) hS ?_
    simp only [Act.put, z1, z2, z3]
    have hX53 : Mem w [] w52 ([disk (crashD D [15, 15, 15]) p pg mb qb, blk f 96 (fC V p)] ++ [blk c25 52 (cntC (crashD D [15, 15, 15])), lst 5 1 (.slice (some ⟨gi1, 0, none⟩) (256 * k) ci1) (256 * k) (bvs (crashD D [15, 15, 15]).pages.flatten), blk g31 5 (bvs [15, 15, 15]), blk g19 37 (supC V.s), book B b bx]) := M52.arr [0, 1, 2, 3, 4, 5, 6] (by decide)
    refine held_step 6 (by kernel_rfl) rfl (by rfl) (fun K hK => ?_)
    refine e_call 20 [.pointer (some ⟨f, 0, none⟩)] rfl rfl Try.call20 (next_any (Mem.here hX53)) ?_
    rintro e w53 ⟨rfl, H53⟩
    have M53 : Mem w [] w53 [disk (crashD D [15, 15, 15]) p pg mb qb, blk f 96 (fC V p), blk c25 52 (cntC (crashD D [15, 15, 15])), lst 5 1 (.slice (some ⟨gi1, 0, none⟩) (256 * k) ci1) (256 * k) (bvs (crashD D [15, 15, 15]).pages.flatten), blk g31 5 (bvs [15, 15, 15]), blk g19 37 (supC V.s), book B b bx] := Mem.frame hX53 H53
    refine ⟨_, rfl, ?_⟩
    refine hK.out _ _ (M53.arr [2, 5] (by decide)) (fun hS => ?_)
    clear hK K
    simp only [Act.put, z1, z2, z3]
    refine held_take 8 _ rfl (by kernel_rfl) (by kernel_rfl) (by kernel_rfl) (y_neq (b := false) rfl rfl rfl rfl (by rw [decide_eq_true rfl]; rfl)) hS ?_
    simp only [Act.put, z1, z2, z3]
    refine held_take 9 _ rfl (by kernel_rfl) (by kernel_rfl) (by kernel_rfl) (y_pickF (v := .bool false) rfl rfl rfl rfl) hS ?_
    simp only [Act.put, z1, z2, z3]
    refine held_take 10 _ rfl (by kernel_rfl) (by kernel_rfl) (by kernel_rfl) (y_move (v := .bool false) rfl rfl rfl) hS ?_
    simp only [Act.put, z1, z2, z3]
    refine held_take 11 _ rfl (by kernel_rfl) (by kernel_rfl) (by kernel_rfl) (y_move (v := .pointer (some ⟨p, 0, none⟩)) rfl rfl rfl) hS ?_
    simp only [Act.put, z1, z2, z3]
    refine held_take 13 _ rfl (by kernel_rfl) (by kernel_rfl) (by kernel_rfl) (y_move (v := .slice (some ⟨gi1, 0, none⟩) (256 * k) ci1) rfl rfl rfl) hS ?_
    simp only [Act.put, z1, z2, z3]
    have hX54 : Mem w [] w53 ([disk (crashD D [15, 15, 15]) p pg mb qb] ++ [blk f 96 (fC V p), blk c25 52 (cntC (crashD D [15, 15, 15])), lst 5 1 (.slice (some ⟨gi1, 0, none⟩) (256 * k) ci1) (256 * k) (bvs (crashD D [15, 15, 15]).pages.flatten), blk g31 5 (bvs [15, 15, 15]), blk g19 37 (supC V.s), book B b bx]) := M53.arr [0, 1, 2, 3, 4, 5, 6] (by decide)
    refine held_step 12 (by kernel_rfl) rfl (by rfl) (fun K hK => ?_)
    refine e_call 30 [.pointer (some ⟨p, 0, none⟩)] rfl rfl Try.call30 (image_fit (Mem.here hX54) hxk (by omega)) ?_
    rintro e w54 ⟨gi2, ci2, rfl, H54, hci2, hcm2⟩
    have M54 : Mem w [] w54 [disk (crashD D [15, 15, 15]) p pg mb qb, lst 5 1 (.slice (some ⟨gi2, 0, none⟩) (256 * k) ci2) (256 * k) (bvs (crashD D [15, 15, 15]).pages.flatten), blk f 96 (fC V p), blk c25 52 (cntC (crashD D [15, 15, 15])), lst 5 1 (.slice (some ⟨gi1, 0, none⟩) (256 * k) ci1) (256 * k) (bvs (crashD D [15, 15, 15]).pages.flatten), blk g31 5 (bvs [15, 15, 15]), blk g19 37 (supC V.s), book B b bx] := Mem.frame hX54 H54
    refine ⟨_, rfl, ?_⟩
    refine hK.out _ _ (M54.arr [3, 6] (by decide)) (fun hS => ?_)
    clear hK K
    simp only [Act.put, z1, z2, z3]
    refine held_step 14 (by kernel_rfl) rfl (by rfl) (fun K hK => ?_)
    refine e_call 35 [.slice (some ⟨gi2, 0, none⟩) (256 * k) ci2, .slice (some ⟨gi1, 0, none⟩) (256 * k) ci1] rfl rfl Try.call35 (same_any _ _ _ _ _ _ (crashD D [15, 15, 15]).pages.flatten (crashD D [15, 15, 15]).pages.flatten _ (lst_row (M54.get 1 rfl)) (lst_row (M54.get 4 rfl)) (by unfold maxLen; omega) (by unfold maxLen; omega)) ?_
    rintro e w55 ⟨rfl, H55⟩
    have M55 : Mem w [] w55 [disk (crashD D [15, 15, 15]) p pg mb qb, lst 5 1 (.slice (some ⟨gi2, 0, none⟩) (256 * k) ci2) (256 * k) (bvs (crashD D [15, 15, 15]).pages.flatten), blk f 96 (fC V p), blk c25 52 (cntC (crashD D [15, 15, 15])), lst 5 1 (.slice (some ⟨gi1, 0, none⟩) (256 * k) ci1) (256 * k) (bvs (crashD D [15, 15, 15]).pages.flatten), blk g31 5 (bvs [15, 15, 15]), blk g19 37 (supC V.s), book B b bx] := M54.step H55
    rw [(eqB_true rfl)]
    refine ⟨_, rfl, ?_⟩
    refine hK.out _ _ (M55.arr [3, 6] (by decide)) (fun hS => ?_)
    clear hK K
    simp only [Act.put, z1, z2, z3]
    refine held_take 15 _ rfl (by kernel_rfl) (by kernel_rfl) (by kernel_rfl) (y_not rfl rfl rfl rfl) hS ?_
    simp only [Act.put, z1, z2, z3]
    refine held_take 16 _ rfl (by kernel_rfl) (by kernel_rfl) (by kernel_rfl) (y_pickF (v := .bool false) rfl rfl rfl rfl) hS ?_
    simp only [Act.put, z1, z2, z3]
    refine held_take 17 _ rfl (by kernel_rfl) (by kernel_rfl) (by kernel_rfl) (y_move (v := .bool false) rfl rfl rfl) hS ?_
    simp only [Act.put, z1, z2, z3]
    refine held_take 18 _ rfl (by kernel_rfl) (by kernel_rfl) (by kernel_rfl) (y_move (v := .pointer (some ⟨p, 0, none⟩)) rfl rfl rfl) hS ?_
    simp only [Act.put, z1, z2, z3]
    refine held_take 19 _ rfl (by kernel_rfl) (by kernel_rfl) (by kernel_rfl) (y_nil rfl rfl rfl) hS ?_
    simp only [Act.put, z1, z2, z3]
    refine held_take 20 _ rfl (by kernel_rfl) (by kernel_rfl) (by kernel_rfl) (y_fa (r := 0) rfl rfl rfl Try.underlying60 rfl Try.sizeOf55 rfl) hS ?_
    simp only [Act.put, z1, z2, z3]
    refine held_take 22 _ rfl (by kernel_rfl) (by kernel_rfl) (by kernel_rfl) (y_loadb (cs := (cntC (crashD D [15, 15, 15]))) rfl rfl rfl Try.underlying52 rfl size_cnt (fun W hW => hW.get 0 rfl) (List.take_of_length_le (Nat.le_refl _))) hS ?_
    simp only [Act.put, z1, z2, z3]
    have hX56 : Mem w [] w55 ([disk (crashD D [15, 15, 15]) p pg mb qb] ++ [lst 5 1 (.slice (some ⟨gi2, 0, none⟩) (256 * k) ci2) (256 * k) (bvs (crashD D [15, 15, 15]).pages.flatten), blk f 96 (fC V p), blk c25 52 (cntC (crashD D [15, 15, 15])), lst 5 1 (.slice (some ⟨gi1, 0, none⟩) (256 * k) ci1) (256 * k) (bvs (crashD D [15, 15, 15]).pages.flatten), blk g31 5 (bvs [15, 15, 15]), blk g19 37 (supC V.s), book B b bx]) := M55.arr [0, 1, 2, 3, 4, 5, 6, 7] (by decide)
    refine held_step 21 (by kernel_rfl) rfl (by rfl) (fun K hK => ?_)
    refine e_call 23 [.pointer (some ⟨p, 0, none⟩)] rfl rfl Try.call23 (counts_any (Mem.here hX56)) ?_
    rintro e w56 ⟨rfl, H56⟩
    have M56 : Mem w [] w56 [disk (crashD D [15, 15, 15]) p pg mb qb, lst 5 1 (.slice (some ⟨gi2, 0, none⟩) (256 * k) ci2) (256 * k) (bvs (crashD D [15, 15, 15]).pages.flatten), blk f 96 (fC V p), blk c25 52 (cntC (crashD D [15, 15, 15])), lst 5 1 (.slice (some ⟨gi1, 0, none⟩) (256 * k) ci1) (256 * k) (bvs (crashD D [15, 15, 15]).pages.flatten), blk g31 5 (bvs [15, 15, 15]), blk g19 37 (supC V.s), book B b bx] := Mem.frame hX56 H56
    refine ⟨_, rfl, ?_⟩
    refine hK.out _ _ (M56.arr [3, 6] (by decide)) (fun hS => ?_)
    clear hK K
    simp only [Act.put, z1, z2, z3]
    refine held_take 23 _ rfl (by kernel_rfl) (by kernel_rfl) (by kernel_rfl) (y_nes (r := false) rfl rfl rfl rfl cnt_guard (fun W => cnt_same _ W)) hS ?_
    simp only [Act.put, z1, z2, z3]
    refine held_take 24 _ rfl (by kernel_rfl) (by kernel_rfl) (by kernel_rfl) (y_pickF (v := .bool false) rfl rfl rfl rfl) hS ?_
    simp only [Act.put, z1, z2, z3]
    refine held_done (by kernel_rfl) ?_ _
    refine hK50 _ _ ?_
    clear hK50
    refine wp_cond_false rfl ?_
    refine wp_skip ?_
    refine hK49 _ _ ?_
    clear hK49
    refine wp_seq_k (fun K57 hK57 => ?_)
    refine wp_region_lit ?_
    refine pl M56 (y_move (v := .pointer (some ⟨f, 0, none⟩)) rfl rfl rfl) ?_
    simp only [Act.put, z1, z2, z3]
    have hX58 : Mem w [] w56 ([disk (crashD D [15, 15, 15]) p pg mb qb, blk f 96 (fC V p)] ++ [lst 5 1 (.slice (some ⟨gi2, 0, none⟩) (256 * k) ci2) (256 * k) (bvs (crashD D [15, 15, 15]).pages.flatten), blk c25 52 (cntC (crashD D [15, 15, 15])), lst 5 1 (.slice (some ⟨gi1, 0, none⟩) (256 * k) ci1) (256 * k) (bvs (crashD D [15, 15, 15]).pages.flatten), blk g31 5 (bvs [15, 15, 15]), blk g19 37 (supC V.s), book B b bx]) := M56.arr [0, 2, 1, 3, 4, 5, 6, 7] (by decide)
    refine pe rfl (fun K hK => ?_)
    refine e_call 39 [.pointer (some ⟨f, 0, none⟩)] rfl rfl Try.call39 (forget_any (Mem.here hX58)) ?_
    rintro e w58 ⟨rfl, H58⟩
    have M58 : Mem w [] w58 [disk (crashD D [15, 15, 15]) p pg mb qb, blk f 96 (fC ({ V with next := V.s.mark } : FV) p), lst 5 1 (.slice (some ⟨gi2, 0, none⟩) (256 * k) ci2) (256 * k) (bvs (crashD D [15, 15, 15]).pages.flatten), blk c25 52 (cntC (crashD D [15, 15, 15])), lst 5 1 (.slice (some ⟨gi1, 0, none⟩) (256 * k) ci1) (256 * k) (bvs (crashD D [15, 15, 15]).pages.flatten), blk g31 5 (bvs [15, 15, 15]), blk g19 37 (supC V.s), book B b bx] := Mem.frame hX58 H58
    refine ⟨_, rfl, ?_⟩
    refine hK.out _ _ ?_
    clear hK K
    simp only [Act.put, z1, z2, z3]
    refine wpList_nil ?_
    refine hK57 _ _ ?_
    clear hK57
    refine wp_seq_k (fun K59 hK59 => ?_)
    refine wp_seq_k (fun K60 hK60 => ?_)
    have M61 := M58.drew
    refine held_begin (fun W => Mem w [] W [blk g19 37 (supC V.s)]) (by kernel_rfl) (M61.arr [6] (by decide)) (fun hS => ?_)
    refine held_take 0 _ rfl (by kernel_rfl) (by kernel_rfl) (by kernel_rfl) (y_move (v := .pointer (some ⟨f, 0, none⟩)) rfl rfl rfl) hS ?_
    simp only [Act.put, z1, z2, z3]
    refine held_take 2 _ rfl (by kernel_rfl) (by kernel_rfl) (by kernel_rfl) (y_fa (r := 2) rfl rfl rfl Try.underlying37 rfl Try.sizeOf3 rfl) hS ?_
    simp only [Act.put, z1, z2, z3]
    refine held_take 3 _ rfl (by kernel_rfl) (by kernel_rfl) (by kernel_rfl) (y_load (v := .int .i64 V.s.mark) rfl rfl rfl Try.isAgg3 (fun W hW => hW.get 0 rfl) (rfl)) hS ?_
    simp only [Act.put, z1, z2, z3]
    have hX62 : Mem w [] w58.drew ([disk (crashD D [15, 15, 15]) p pg mb qb, blk f 96 (fC ({ V with next := V.s.mark } : FV) p)] ++ [lst 5 1 (.slice (some ⟨gi2, 0, none⟩) (256 * k) ci2) (256 * k) (bvs (crashD D [15, 15, 15]).pages.flatten), blk c25 52 (cntC (crashD D [15, 15, 15])), lst 5 1 (.slice (some ⟨gi1, 0, none⟩) (256 * k) ci1) (256 * k) (bvs (crashD D [15, 15, 15]).pages.flatten), blk g31 5 (bvs [15, 15, 15]), blk g19 37 (supC V.s), book B b bx]) := M61.arr [0, 1, 2, 3, 4, 5, 6, 7] (by decide)
    refine held_step 1 (by kernel_rfl) rfl (by rfl) (fun K hK => ?_)
    refine e_call 20 [.pointer (some ⟨f, 0, none⟩)] rfl rfl Try.call20 (next_any (Mem.here hX62)) ?_
    rintro e w62 ⟨rfl, H62⟩
    have M62 : Mem w [] w62 [disk (crashD D [15, 15, 15]) p pg mb qb, blk f 96 (fC ({ V with next := V.s.mark } : FV) p), lst 5 1 (.slice (some ⟨gi2, 0, none⟩) (256 * k) ci2) (256 * k) (bvs (crashD D [15, 15, 15]).pages.flatten), blk c25 52 (cntC (crashD D [15, 15, 15])), lst 5 1 (.slice (some ⟨gi1, 0, none⟩) (256 * k) ci1) (256 * k) (bvs (crashD D [15, 15, 15]).pages.flatten), blk g31 5 (bvs [15, 15, 15]), blk g19 37 (supC V.s), book B b bx] := Mem.frame hX62 H62
    refine ⟨_, rfl, ?_⟩
    refine hK.out _ _ (M62.arr [6] (by decide)) (fun hS => ?_)
    clear hK K
    simp only [Act.put, z1, z2, z3]
    refine held_take 4 _ rfl (by kernel_rfl) (by kernel_rfl) (by kernel_rfl) (y_neq (b := false) rfl rfl rfl rfl (by rw [decide_eq_true rfl]; rfl)) hS ?_
    simp only [Act.put, z1, z2, z3]
    refine held_take 5 _ rfl (by kernel_rfl) (by kernel_rfl) (by kernel_rfl) (y_move (v := .bool false) rfl rfl rfl) hS ?_
    simp only [Act.put, z1, z2, z3]
    refine held_take 6 _ rfl (by kernel_rfl) (by kernel_rfl) (by kernel_rfl) (y_move (v := .pointer (some ⟨f, 0, none⟩)) rfl rfl rfl) hS ?_
    simp only [Act.put, z1, z2, z3]
    have hX63 : Mem w [] w62 ([disk (crashD D [15, 15, 15]) p pg mb qb, blk f 96 (fC ({ V with next := V.s.mark } : FV) p)] ++ [lst 5 1 (.slice (some ⟨gi2, 0, none⟩) (256 * k) ci2) (256 * k) (bvs (crashD D [15, 15, 15]).pages.flatten), blk c25 52 (cntC (crashD D [15, 15, 15])), lst 5 1 (.slice (some ⟨gi1, 0, none⟩) (256 * k) ci1) (256 * k) (bvs (crashD D [15, 15, 15]).pages.flatten), blk g31 5 (bvs [15, 15, 15]), blk g19 37 (supC V.s), book B b bx]) := M62.arr [0, 1, 2, 3, 4, 5, 6, 7] (by decide)
    refine held_step 7 (by kernel_rfl) rfl (by rfl) (fun K hK => ?_)
    refine e_call 21 [.pointer (some ⟨f, 0, none⟩)] rfl rfl Try.call21 (live_stale (V := ({ V with next := V.s.mark } : FV)) (Mem.here hX63) hst) ?_
    rintro e w63 ⟨rfl, H63⟩
    have M63 : Mem w [] w63 [disk (crashD D [15, 15, 15]) p pg mb qb, blk f 96 (fC ({ V with next := V.s.mark } : FV) p), lst 5 1 (.slice (some ⟨gi2, 0, none⟩) (256 * k) ci2) (256 * k) (bvs (crashD D [15, 15, 15]).pages.flatten), blk c25 52 (cntC (crashD D [15, 15, 15])), lst 5 1 (.slice (some ⟨gi1, 0, none⟩) (256 * k) ci1) (256 * k) (bvs (crashD D [15, 15, 15]).pages.flatten), blk g31 5 (bvs [15, 15, 15]), blk g19 37 (supC V.s), book B b bx] := Mem.frame hX63 H63
    refine ⟨_, rfl, ?_⟩
    refine hK.out _ _ (M63.arr [6] (by decide)) (fun hS => ?_)
    clear hK K
    simp only [Act.put, z1, z2, z3]
    refine held_take 8 _ rfl (by kernel_rfl) (by kernel_rfl) (by kernel_rfl) (y_neq (b := false) rfl rfl rfl rfl (by rw [decide_eq_true (by decide)]; rfl)) hS ?_
    simp only [Act.put, z1, z2, z3]
    refine held_take 9 _ rfl (by kernel_rfl) (by kernel_rfl) (by kernel_rfl) (y_pickF (v := .bool false) rfl rfl rfl rfl) hS ?_
    simp only [Act.put, z1, z2, z3]
    refine held_done (by kernel_rfl) ?_ _
    refine hK60 _ _ ?_
    clear hK60
    refine wp_cond_false rfl ?_
    refine wp_skip ?_
    refine hK59 _ _ ?_
    clear hK59
    refine wp_seq_k (fun K64 hK64 => ?_)
    have M65 := M63.drew
    refine held_begin (fun W => Mem w [] W [blk f 96 (fC ({ V with next := V.s.mark } : FV) p), blk g19 37 (supC V.s)]) (by kernel_rfl) (M65.arr [1, 6] (by decide)) (fun hS => ?_)
    refine held_take 0 _ rfl (by kernel_rfl) (by kernel_rfl) (by kernel_rfl) (y_move (v := .pointer (some ⟨f, 0, none⟩)) rfl rfl rfl) hS ?_
    simp only [Act.put, z1, z2, z3]
    refine held_take 1 _ rfl (by kernel_rfl) (by kernel_rfl) (by kernel_rfl) (y_move (v := .pointer (some ⟨f, 0, none⟩)) rfl rfl rfl) hS ?_
    simp only [Act.put, z1, z2, z3]
    refine held_take 2 _ rfl (by kernel_rfl) (by kernel_rfl) (by kernel_rfl) (y_eqptr_same rfl rfl rfl rfl Try.underlying33 Try.sizeOf96) hS ?_
    simp only [Act.put, z1, z2, z3]
    refine held_take 3 _ rfl (by kernel_rfl) (by kernel_rfl) (by kernel_rfl) (y_move (v := .bool true) rfl rfl rfl) hS ?_
    simp only [Act.put, z1, z2, z3]
    refine held_take 4 _ rfl (by kernel_rfl) (by kernel_rfl) (by kernel_rfl) (.inr ⟨by rfl, rfl⟩) hS ?_
    simp only [Act.put, z1, z2, z3]
    refine held_take 5 _ rfl (by kernel_rfl) (by kernel_rfl) (by kernel_rfl) (.inr ⟨by rfl, rfl⟩) hS ?_
    simp only [Act.put, z1, z2, z3]
    refine held_take 6 _ rfl (by kernel_rfl) (by kernel_rfl) (by kernel_rfl) (.inr ⟨by rfl, rfl⟩) hS ?_
    simp only [Act.put, z1, z2, z3]
    refine held_take 7 _ rfl (by kernel_rfl) (by kernel_rfl) (by kernel_rfl) (.inr ⟨by rfl, rfl⟩) hS ?_
    simp only [Act.put, z1, z2, z3]
    refine held_take 8 _ rfl (by kernel_rfl) (by kernel_rfl) (by kernel_rfl) (.inr ⟨by rfl, rfl⟩) hS ?_
    simp only [Act.put, z1, z2, z3]
    refine held_take 9 _ rfl (by kernel_rfl) (by kernel_rfl) (by kernel_rfl) (.inr ⟨by rfl, rfl⟩) hS ?_
    simp only [Act.put, z1, z2, z3]
    refine held_take 10 _ rfl (by kernel_rfl) (by kernel_rfl) (by kernel_rfl) (.inr ⟨by rfl, rfl⟩) hS ?_
    simp only [Act.put, z1, z2, z3]
    refine held_take 11 _ rfl (by kernel_rfl) (by kernel_rfl) (by kernel_rfl) (.inr ⟨by rfl, rfl⟩) hS ?_
    simp only [Act.put, z1, z2, z3]
    refine held_take 12 _ rfl (by kernel_rfl) (by kernel_rfl) (by kernel_rfl) (.inr ⟨by rfl, rfl⟩) hS ?_
    simp only [Act.put, z1, z2, z3]
    refine held_take 13 _ rfl (by kernel_rfl) (by kernel_rfl) (by kernel_rfl) (.inr ⟨by rfl, rfl⟩) hS ?_
    simp only [Act.put, z1, z2, z3]
    refine held_take 14 _ rfl (by kernel_rfl) (by kernel_rfl) (by kernel_rfl) (y_pickT (v := .bool true) rfl rfl rfl rfl) hS ?_
    simp only [Act.put, z1, z2, z3]
    refine held_take 15 _ rfl (by kernel_rfl) (by kernel_rfl) (by kernel_rfl) (y_assign (v := .bool true) rfl rfl rfl) hS ?_
    simp only [Act.put, z1, z2, z3]
    refine held_done (by kernel_rfl) ?_ _
    refine hK64 _ _ ?_
    clear hK64
    refine wp_ret ?_
    try simp only [Exit.inBlock, Exit.then]
    refine bodyPost_ret (v := .bool true) (res1 rfl rfl) rfl ?_
    exact ⟨rfl, M65.arr [] (by decide)⟩
  clear hK13
  refine wp_block ?_
  refine wp_loop (fun a' w' => ∃ (i : Nat) (D : DV) (V : FV) (B : BV) (qv : Value) (bx : BX) (us15 : List Value), a' = (⟨#[.int .i64 (k : Int), .int .i64 width, .slice aa an ac, .int .i64 how, .int .i64 n, .slice la ln lc, undef, undef, undef, undef, undef, undef, (us15.getD 0 undef), .pointer (some ⟨p, 0, none⟩), .pointer (some ⟨f, 0, none⟩), .pointer (some ⟨b, 0, none⟩), .int .i64 (i : Int), (us15.getD 1 undef), (us15.getD 2 undef), undef, undef, undef, undef, undef, undef, undef, undef, undef, undef, undef, undef, undef, .int .i64 (k : Int), .int .i64 width, .bool true, .bool false, .tuple #[.pointer (some ⟨p, 0, none⟩), .pointer (some ⟨f, 0, none⟩)], .int .i64 (k : Int), .int .i64 width, .tuple #[.pointer (some ⟨p, 0, none⟩), .pointer (some ⟨f, 0, none⟩)], .pointer (some ⟨p, 0, none⟩), .pointer (some ⟨f, 0, none⟩), .pointer (some ⟨f, 0, none⟩), .bool false, .agg ((bC (⟨[], 2, 1, 0, 0, 0⟩ : BV) (⟨.slice none 0 0, .slice none 0 0, []⟩ : BX))).toArray, .pointer (some ⟨b, 0, none⟩), (us15.getD 3 undef), (us15.getD 4 undef), (us15.getD 5 undef), (us15.getD 6 undef), (us15.getD 7 undef), (us15.getD 8 undef), (us15.getD 9 undef), (us15.getD 10 undef), (us15.getD 11 undef), (us15.getD 12 undef), (us15.getD 13 undef), (us15.getD 14 undef), (us15.getD 15 undef), (us15.getD 16 undef), (us15.getD 17 undef), (us15.getD 18 undef), (us15.getD 19 undef), (us15.getD 20 undef), (us15.getD 21 undef), (us15.getD 22 undef), (us15.getD 23 undef), (us15.getD 24 undef), (us15.getD 25 undef), (us15.getD 26 undef), (us15.getD 27 undef), (us15.getD 28 undef), (us15.getD 29 undef), (us15.getD 30 undef), (us15.getD 31 undef), undef, undef, undef, undef, undef, undef, undef, undef, undef, undef, undef, undef, undef, undef, undef, undef, undef, undef, undef, undef, undef, undef, undef, undef, undef, undef, undef, undef, undef, undef, undef, undef, undef, undef, undef, undef, undef, undef, undef, undef, undef, undef, undef, undef, undef, undef, undef, undef, undef, undef, undef, undef, undef, undef, undef, undef, undef, undef, undef, undef, undef, undef, undef, undef, undef, undef, undef, undef, undef, undef, undef, undef, undef, undef, undef, undef, undef, undef, undef, undef, undef, undef, undef, undef, undef, undef, undef, undef, undef, undef, undef, undef, undef, undef, undef, undef, undef, undef, undef, undef, undef, undef, undef, undef, undef, undef, undef, undef, undef, undef, undef, undef, undef, undef, undef, undef, undef, undef, undef, undef, undef, undef, undef, undef, undef, undef, undef, undef, undef, undef, undef, undef, undef, undef, undef, undef, undef, undef, undef, undef, undef, undef, undef, undef, undef], []⟩ : Act) ∧ (BInv D V B) ∧ (D.q.length ≤ i ∧ i ≤ 60 ∧ D.pages.length = k ∧ D.armed = 0) ∧ (V.s.gen ≤ 1 + i ∧ V.s.width = width) ∧ Mem w [] w' [disk D p pg mb qv, blk f 96 (fC V p), book B b bx]) (fun a' _ => an - (intOf (a'.tmps.getD 16 undef)).toNat) ⟨0, D0, (⟨secondS width k, 2, m⟩ : FV), (⟨[], 2, 1, 0, 0, 0⟩ : BV), qv0, (⟨.slice none 0 0, .slice none 0 0, []⟩ : BX), [.bool false, undef, undef, undef, undef, undef, undef, undef, undef, undef, undef, undef, undef, undef, undef, undef, undef, undef, undef, undef, undef, undef, undef, undef, undef, undef, undef, undef, undef, undef, undef, undef], rfl, hBI, ⟨by rw [hq0]; exact Nat.zero_le _, by omega, hp0, ha0⟩, ⟨by show (1 : Int) ≤ 1 + ((0 : Nat) : Int); decide, rfl⟩, (M12.arr [1, 2, 0] (by decide))⟩ ?_
  clear M12
  rintro a' w66 ⟨i, D, V, B, qv, bx, us15, rfl, hB, hqi, hgi, M66⟩
  refine wp_seq_k (fun K67 hK67 => ?_)
  refine wp_seq_k (fun K68 hK68 => ?_)
  refine wp_region_lit ?_
  refine pl M66 (y_move (v := .int .i64 (i : Int)) rfl rfl rfl) ?_
  simp only [Act.put, z1, z2, z3]
  refine pl M66 (y_move (v := .slice aa an ac) rfl rfl rfl) ?_
  simp only [Act.put, z1, z2, z3]
  refine pl M66 (y_len rfl rfl rfl Try.underlying41) ?_
  simp only [Act.put, z1, z2, z3]
  rcases Decidable.em ((i : Int) < (an : Int)) with h69 | h69
  · obtain ⟨a, hget⟩ : ∃ a, avs[i]? = some a := ⟨_, List.getElem?_eq_getElem (by have := hacts.1; omega)⟩
    obtain ⟨ga, oa, hao, hra⟩ := hacts.2 i a hget
    obtain ⟨hrow, hnil, hmc, hcc⟩ := hok a (List.mem_of_getElem? hget)
    refine pl M66 (y_lss (b := true) rfl rfl rfl rfl (decide_eq_true h69)) ?_
    simp only [Act.put, z1, z2, z3]
    refine pl M66 (y_move (v := .bool true) rfl rfl rfl) ?_
    simp only [Act.put, z1, z2, z3]
    refine pl M66 (y_move (v := .int .i64 (i : Int)) rfl rfl rfl) ?_
    simp only [Act.put, z1, z2, z3]
    rcases Decidable.em ((i : Int) < 60) with h70 | h70
    · refine pl M66 (y_lss (b := true) rfl rfl rfl rfl (decide_eq_true h70)) ?_
      simp only [Act.put, z1, z2, z3]
      refine pl M66 (y_pickT (v := .bool true) rfl rfl rfl rfl) ?_
      simp only [Act.put, z1, z2, z3]
      refine wpList_nil ?_
      refine hK68 _ _ ?_
      clear hK68
      refine wp_cond_true rfl ?_
      refine wp_skip ?_
      refine hK67 _ _ ?_
      clear hK67
      refine wp_seq_k (fun K71 hK71 => ?_)
      refine wp_block ?_
      refine wp_seq_k (fun K72 hK72 => ?_)
      refine wp_region_lit ?_
      refine pl M66 (y_move (v := .slice aa an ac) rfl rfl rfl) ?_
      simp only [Act.put, z1, z2, z3]
      refine pl M66 (y_move (v := .int .i64 (i : Int)) rfl rfl rfl) ?_
      simp only [Act.put, z1, z2, z3]
      refine pl M66 (y_ias (r := oa + i * 3) rfl rfl (congrArg (fun z => Value.slice z an ac) hao) rfl Try.underlying41 Try.sizeOf50 (by omega) (by omega)) ?_
      simp only [Act.put, z1, z2, z3]
      refine pl M66 (y_fa (r := oa + i * 3) rfl rfl rfl Try.underlying50 rfl Try.sizeOf3 rfl) ?_
      simp only [Act.put, z1, z2, z3]
      refine pl M66 (y_loadc (v := .int .i64 a.k) rfl rfl rfl Try.isAgg3 (fun W hW => (hW.range hra (by simp)) 0 _ rfl)) ?_
      simp only [Act.put, z1, z2, z3]
      rcases Decidable.em (a.k = 4) with h73 | h73
      · refine pl M66 (y_neq (b := false) rfl rfl rfl rfl (by rw [decide_eq_true h73]; rfl)) ?_
        simp only [Act.put, z1, z2, z3]
        refine wpList_nil ?_
        refine hK72 _ _ ?_
        clear hK72
        refine wp_cond_false rfl ?_
        refine wp_skip ?_
        refine hK71 _ _ ?_
        clear hK71
        refine wp_region_lit ?_
        refine pl M66 (y_move (v := .int .i64 (i : Int)) rfl rfl rfl) ?_
        simp only [Act.put, z1, z2, z3]
        refine pl M66 (y_add (r := (i : Int) + 1) rfl rfl rfl rfl (rfl) (by omega)) ?_
        simp only [Act.put, z1, z2, z3]
        refine pl M66 (y_assign (v := .int .i64 ((i : Int) + 1)) rfl rfl rfl) ?_
        simp only [Act.put, z1, z2, z3]
        refine wpList_nil ?_
        refine ⟨⟨i + 1, D, V, B, qv, bx, [(us15.getD 0 undef), (us15.getD 1 undef), (us15.getD 2 undef), .int .i64 (i : Int), .slice aa an ac, .int .i64 (an : Int), .bool true, .bool true, .int .i64 (i : Int), .bool true, .bool true, .int .i64 (i : Int), .int .i64 ((i : Int) + 1), .slice aa an ac, .int .i64 (i : Int), .pointer (some ⟨ga, oa + i * 3, none⟩), .pointer (some ⟨ga, oa + i * 3, none⟩), .int .i64 a.k, .bool false, (us15.getD 19 undef), (us15.getD 20 undef), (us15.getD 21 undef), (us15.getD 22 undef), (us15.getD 23 undef), (us15.getD 24 undef), (us15.getD 25 undef), (us15.getD 26 undef), (us15.getD 27 undef), (us15.getD 28 undef), (us15.getD 29 undef), (us15.getD 30 undef), (us15.getD 31 undef)], rfl, (by first | exact hB2 | exact hB), ⟨by first | (have := hkept.que; omega) | omega, by omega, by first | (have := hkept.pages; omega) | omega, by first | exact harm2 | exact hqi.2.2.2⟩, ⟨by first | (have := hkept.gen; omega) | omega, by first | (rw [hkept.width]; exact hgi.2) | exact hgi.2⟩, (M66.arr [0, 1, 2] (by decide))⟩, ?_⟩
        simp [intOf]; omega
      · have hk4 : a.k ≠ 4 := h73
        refine pl M66 (y_neq (b := true) rfl rfl rfl rfl (by rw [decide_eq_false h73]; rfl)) ?_
        simp only [Act.put, z1, z2, z3]
        refine wpList_nil ?_
        refine hK72 _ _ ?_
        clear hK72
        refine wp_cond_true rfl ?_
        refine wp_seq_k (fun K74 hK74 => ?_)
        refine wp_region_lit ?_
        refine pl M66 (y_move (v := .pointer (some ⟨b, 0, none⟩)) rfl rfl rfl) ?_
        simp only [Act.put, z1, z2, z3]
        refine pl M66 (y_move (v := .pointer (some ⟨p, 0, none⟩)) rfl rfl rfl) ?_
        simp only [Act.put, z1, z2, z3]
        refine pl M66 (y_move (v := .pointer (some ⟨f, 0, none⟩)) rfl rfl rfl) ?_
        simp only [Act.put, z1, z2, z3]
        refine pl M66 (y_move (v := .slice aa an ac) rfl rfl rfl) ?_
        simp only [Act.put, z1, z2, z3]
        refine pl M66 (y_move (v := .int .i64 (i : Int)) rfl rfl rfl) ?_
        simp only [Act.put, z1, z2, z3]
        refine pl M66 (y_ias (r := oa + i * 3) rfl rfl (congrArg (fun z => Value.slice z an ac) hao) rfl Try.underlying41 Try.sizeOf50 (by omega) (by omega)) ?_
        simp only [Act.put, z1, z2, z3]
        refine pl M66 (y_loadr (cs := (actC a)) rfl rfl rfl Try.underlying50 rfl (size_act a) (fun W hW => hW.range hra (by simp))) ?_
        simp only [Act.put, z1, z2, z3]
        have hX75 : Mem w [] w66 ([disk D p pg mb qv, blk f 96 (fC V p), book B b bx] ++ []) := M66.arr [0, 1, 2] (by decide)
        refine pe rfl (fun K hK => ?_)
        refine e_call 27 [.pointer (some ⟨b, 0, none⟩), .pointer (some ⟨p, 0, none⟩), .pointer (some ⟨f, 0, none⟩), .agg ((actC a)).toArray] rfl rfl Try.call27 (bact_any (Mem.here hX75) a.k a.n a.ao a.m a.c a.l (M66.row hrow (by simp)) (hX75.left.off_row hrow) (by omega) hB (by omega) (by omega)) ?_
        rintro e w75 ⟨er, E, V2, B2, qv2, bx2, rfl, H75, hout⟩
        have M75 : Mem w [] w75 [disk E p pg mb qv2, blk f 96 (fC V2 p), book B2 b bx2] := Mem.frame hX75 H75
        obtain ⟨her, hkept, hB2, harm2⟩ := hout.good ⟨hk4, hqi.2.2.2⟩
        refine ⟨_, rfl, ?_⟩
        refine hK.out _ _ ?_
        clear hK K
        simp only [Act.put, z1, z2, z3]
        refine pl M75 (y_move (v := .tuple #[.int .i64 er, .bool true]) rfl rfl rfl) ?_
        simp only [Act.put, z1, z2, z3]
        refine pl M75 (y_ext (v := .int .i64 er) rfl rfl rfl rfl) ?_
        simp only [Act.put, z1, z2, z3]
        refine pl M75 (y_ext (v := .bool true) rfl rfl rfl rfl) ?_
        simp only [Act.put, z1, z2, z3]
        refine pl M75 (y_assign (v := .int .i64 er) rfl rfl rfl) ?_
        simp only [Act.put, z1, z2, z3]
        refine pl M75 (y_assign (v := .bool true) rfl rfl rfl) ?_
        simp only [Act.put, z1, z2, z3]
        refine wpList_nil ?_
        refine hK74 _ _ ?_
        clear hK74
        refine wp_seq_k (fun K76 hK76 => ?_)
        refine wp_region_lit ?_
        refine pl M75 (y_move (v := .bool true) rfl rfl rfl) ?_
        simp only [Act.put, z1, z2, z3]
        refine pl M75 (y_not rfl rfl rfl rfl) ?_
        simp only [Act.put, z1, z2, z3]
        refine wpList_nil ?_
        refine hK76 _ _ ?_
        clear hK76
        refine wp_cond_false rfl ?_
        refine wp_skip ?_
        refine hK71 _ _ ?_
        clear hK71
        refine wp_region_lit ?_
        refine pl M75 (y_move (v := .int .i64 (i : Int)) rfl rfl rfl) ?_
        simp only [Act.put, z1, z2, z3]
        refine pl M75 (y_add (r := (i : Int) + 1) rfl rfl rfl rfl (rfl) (by omega)) ?_
        simp only [Act.put, z1, z2, z3]
        refine pl M75 (y_assign (v := .int .i64 ((i : Int) + 1)) rfl rfl rfl) ?_
        simp only [Act.put, z1, z2, z3]
        refine wpList_nil ?_
        refine ⟨⟨i + 1, E, V2, B2, qv2, bx2, [(us15.getD 0 undef), .int .i64 er, .bool true, .int .i64 (i : Int), .slice aa an ac, .int .i64 (an : Int), .bool true, .bool true, .int .i64 (i : Int), .bool true, .bool true, .int .i64 (i : Int), .int .i64 ((i : Int) + 1), .slice aa an ac, .int .i64 (i : Int), .pointer (some ⟨ga, oa + i * 3, none⟩), .pointer (some ⟨ga, oa + i * 3, none⟩), .int .i64 a.k, .bool true, .tuple #[.int .i64 er, .bool true], .pointer (some ⟨b, 0, none⟩), .pointer (some ⟨p, 0, none⟩), .pointer (some ⟨f, 0, none⟩), .slice aa an ac, .int .i64 (i : Int), .pointer (some ⟨ga, oa + i * 3, none⟩), .agg ((actC a)).toArray, .tuple #[.int .i64 er, .bool true], .int .i64 er, .bool true, .bool true, .bool false], rfl, (by first | exact hB2 | exact hB), ⟨by first | (have := hkept.que; omega) | omega, by omega, by first | (have := hkept.pages; omega) | omega, by first | exact harm2 | exact hqi.2.2.2⟩, ⟨by first | (have := hkept.gen; omega) | omega, by first | (rw [hkept.width]; exact hgi.2) | exact hgi.2⟩, (M75.arr [0, 1, 2] (by decide))⟩, ?_⟩
        simp [intOf]; omega
    · refine pl M66 (y_lss (b := false) rfl rfl rfl rfl (decide_eq_false h70)) ?_
      simp only [Act.put, z1, z2, z3]
      refine pl M66 (y_pickT (v := .bool false) rfl rfl rfl rfl) ?_
      simp only [Act.put, z1, z2, z3]
      refine wpList_nil ?_
      refine hK68 _ _ ?_
      clear hK68
      refine wp_cond_false rfl ?_
      refine wp_exit ?_
      exact hcutK13 _ _ ⟨i, D, V, B, qv, bx, [(us15.getD 0 undef), (us15.getD 1 undef), (us15.getD 2 undef), .int .i64 (i : Int), .slice aa an ac, .int .i64 (an : Int), .bool true, .bool true, .int .i64 (i : Int), .bool false, .bool false, (us15.getD 11 undef), (us15.getD 12 undef), (us15.getD 13 undef), (us15.getD 14 undef), (us15.getD 15 undef), (us15.getD 16 undef), (us15.getD 17 undef), (us15.getD 18 undef), (us15.getD 19 undef), (us15.getD 20 undef), (us15.getD 21 undef), (us15.getD 22 undef), (us15.getD 23 undef), (us15.getD 24 undef), (us15.getD 25 undef), (us15.getD 26 undef), (us15.getD 27 undef), (us15.getD 28 undef), (us15.getD 29 undef), (us15.getD 30 undef), (us15.getD 31 undef)], rfl, hB, hqi, hgi, (M66.arr [0, 1, 2] (by decide))⟩
  · refine pl M66 (y_lss (b := false) rfl rfl rfl rfl (decide_eq_false h69)) ?_
    simp only [Act.put, z1, z2, z3]
    refine pl M66 (y_move (v := .bool false) rfl rfl rfl) ?_
    simp only [Act.put, z1, z2, z3]
    with_reducible refine pskip ?_ ?_
    · rfl
    simp only [Act.put, z1, z2, z3]
    with_reducible refine pskip ?_ ?_
    · rfl
    simp only [Act.put, z1, z2, z3]
    refine pl M66 (y_pickF (v := .bool false) rfl rfl rfl rfl) ?_
    simp only [Act.put, z1, z2, z3]
    refine wpList_nil ?_
    refine hK68 _ _ ?_
    clear hK68
    refine wp_cond_false rfl ?_
    refine wp_exit ?_
    exact hcutK13 _ _ ⟨i, D, V, B, qv, bx, [(us15.getD 0 undef), (us15.getD 1 undef), (us15.getD 2 undef), .int .i64 (i : Int), .slice aa an ac, .int .i64 (an : Int), .bool false, .bool false, undef, undef, .bool false, (us15.getD 11 undef), (us15.getD 12 undef), (us15.getD 13 undef), (us15.getD 14 undef), (us15.getD 15 undef), (us15.getD 16 undef), (us15.getD 17 undef), (us15.getD 18 undef), (us15.getD 19 undef), (us15.getD 20 undef), (us15.getD 21 undef), (us15.getD 22 undef), (us15.getD 23 undef), (us15.getD 24 undef), (us15.getD 25 undef), (us15.getD 26 undef), (us15.getD 27 undef), (us15.getD 28 undef), (us15.getD 29 undef), (us15.getD 30 undef), (us15.getD 31 undef)], rfl, hB, hqi, hgi, (M66.arr [0, 1, 2] (by decide))⟩
end Go.Proofs.Ytehnnnohoaapdaa
