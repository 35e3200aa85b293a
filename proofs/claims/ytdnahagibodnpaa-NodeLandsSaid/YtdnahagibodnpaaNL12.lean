/- Texts joined: Disk9, Page2, SupEq, Held1. -/
import Derived.Test.YtdnahagibodnpaaNL11
import Derived.Test.YtdnahagibodnpaaNL09
import Derived.Test.YtdnahagibodnpaaRows
import Derived.Test.YtdnahagibodnpaaNL08
import Derived.ChangeKeysEq
import Derived.Test.YtdnahagibodnpaaNL01
/- The program's disk: Crash. -/
namespace Go.Proofs.Ytdnahagibodnpaa
set_option linter.unusedSectionVars false
open Go Go.RowKit
set_option linter.unusedVariables false
set_option linter.unusedSimpArgs false
theorem Row.getD {w : World} {b o n : Nat} {l : List UInt8} (h : Row w (some ⟨b, o, none⟩) n l) (i : Nat) (hi : i < n) : w.cell? ⟨b, o + i, none⟩ = some (.int .u8 ((l.getD i 0).toNat : Int)) := by
  have hl : i < l.length := by rw [h.1]; exact hi
  rw [h.cell i hl, List.getD_eq_getElem?_getD, List.getElem?_eq_getElem hl]
  rfl
theorem shr_byte {t : TypeId} (x : UInt8) (j : Nat) (hj : j < 8) : binOp .shr t (.int .u8 (x.toNat : Int)) (.int .i64 (j : Int)) = pure (.int .u8 ((x.toNat >>> j : Nat) : Int)) := by
  show Op.shift .shr .u8 (x.toNat : Int) .i64 (j : Int) = _
  unfold Op.shift
  rw [if_neg (by omega)]
  have hm : min ((j : Int).toNat) IntKind.u8.bits = j := by simp [IntKind.bits]; omega
  simp only [hm]
  congr 2
  rw [Int.fdiv_eq_ediv_of_nonneg _ (by exact_mod_cast Nat.zero_le _), Nat.shiftRight_eq_div_pow]
  simp
theorem and_byte1 {t : TypeId} (n : Nat) (hn : n < 256) : binOp .and t (.int .u8 (n : Int)) (.int .u8 1) = pure (.int .u8 ((n % 2 : Nat) : Int)) := by
  show (pure (Value.int .u8 (IntKind.u8.wrap (((BitVec.ofInt 8 (n : Int) &&& BitVec.ofInt 8 1).toNat : Nat) : Int))) : Sem Value) = _
  congr 2
  rw [BitVec.toNat_and, BitVec.toNat_ofInt, BitVec.toNat_ofInt]
  have e1 : ((n : Int) % (2 ^ 8 : Nat)).toNat = n := by omega
  have e2 : ((1 : Int) % (2 ^ 8 : Nat)).toNat = 1 := by decide
  rw [e1, e2, Nat.and_one_is_mod, wrap_u8, UInt8.toNat_ofNat', Nat.mod_eq_of_lt (by omega)]
theorem blk_row_mid {g o : Nat} {T : TypeId} {C : List Value} {l : List UInt8} {w : World} (h : (blk g T C).holds w) (hv : (C.drop o).take l.length = bvs l) : Row w (some ⟨g, o, none⟩) l.length l := Row.of_block h hv
theorem page_part {ps : List (List UInt8)} (h : ∀ p ∈ ps, p.length = 256) {n o : Nat} {l : List UInt8} (hn : n < ps.length) (ho : o + l.length ≤ 256) : splice (pagesC ps) (256 * n + o) (bvs l) = pagesC (ps.set n (splice (ps.getD n []) o l)) :=
  flat_upd bvs 256 ps n (ps.getD n []) _ o (bvs l) (fun y hy => by rw [length_bvs]; exact h y hy) (by rw [List.getD_eq_getElem?_getD, List.getElem?_eq_getElem hn]; rfl) (by rw [length_bvs]; exact ho) (by rw [splice_bvs])
theorem getD_set {α : Type} (ps : List α) (n : Nat) (x d : α) (hn : n < ps.length) : (ps.set n x).getD n d = x := by rw [List.getD_eq_getElem?_getD, List.getElem?_set_self hn]; rfl
theorem zip_at {q : List Wr} {l : List UInt8} {k : Nat} {x : Wr} (hx : q[k]? = some x) (hl : k < l.length) : (q.zip l)[k]? = some (x, l.getD k 0) := by
  rw [List.getElem?_zip_eq_some]
  exact ⟨hx, by rw [List.getD_eq_getElem?_getD, List.getElem?_eq_getElem hl]; rfl⟩
theorem crashP_take {ps : List (List UInt8)} {z : List (Wr × UInt8)} {k : Nat} {x : Wr × UInt8} (hx : z[k]? = some x) : crashP ps (z.take (k + 1)) = (crashP ps (z.take k)).set x.1.1 (mixS x.2 x.1.2 ((crashP ps (z.take k)).getD x.1.1 []) 4) := by
  obtain ⟨hk, rfl⟩ := List.getElem?_eq_some_iff.1 hx
  rw [List.take_succ_eq_append_getElem hk, crashP_snoc]
theorem zip_in {D : DV} (h : DOk D) (l : List UInt8) : ∀ x ∈ D.q.zip l, x.1.1 < D.pages.length ∧ x.1.2.length = 256 := fun x hx => h.qs x.1 (List.of_mem_zip (a := x.1) (b := x.2) hx).1
theorem crash_ok2 {D : DV} (h : DOk D) (l : List UInt8) : DOk { D with pages := crashP D.pages (D.q.zip l) } :=
  ⟨by rw [crashP_len]; exact h.lo, by rw [crashP_len]; exact h.hi, crashP_each h.len _ (zip_in h l), fun x hx => ⟨by rw [crashP_len]; exact (h.qs x hx).1, (h.qs x hx).2⟩, h.arm, h.ep⟩
theorem crash_ok {D : DV} (h : DOk D) (l : List UInt8) : DOk (crashD D l) :=
  ⟨by show 3 ≤ (crashP _ _).length; rw [crashP_len]; exact h.lo, by show (crashP _ _).length ≤ _; rw [crashP_len]; exact h.hi, crashP_each h.len _ (zip_in h l), by simp [crashD], ⟨by show (0 : Int) ≤ 0; omega, by show (0 : Int) ≤ _; omega⟩, inI_wrap _⟩
set_option maxRecDepth 100000 in
set_option maxHeartbeats 4000000 in
theorem crash_nil {D : DV} {p pg mb : Nat} {qv : Value} {w : World} (hM : Mem w (foots [disk D p pg mb qv]) w [disk D p pg mb qv]) (ao : Option Addr) (n c : Nat) (l : List UInt8) (hnm : n ≤ 140737488355328) (hqv : qv = .slice none 0 0) (h0 : D.q = []) : Calls Try.prog 11 #[.pointer (some ⟨p, 0, none⟩), .slice ao n c] w fun e w' => ∃ qv', e = .returned (.int .i64 (D.q.length : Int)) ∧ Mem w (foots [disk D p pg mb qv]) w' [disk (crashD D l) p pg mb qv'] := by
  obtain ⟨hok, M⟩ := disk_open hM
  clear hM
  subst hqv
  have hql : D.q.length = 0 := by rw [h0]; rfl
  have hap : crashP D.pages (D.q.zip l) = D.pages := by rw [h0]; rfl
  go_enter Try.func11, Try.ntmps11
  refine wp_seq_k (fun K1 hK1 => ?_)
  refine wp_region_lit ?_
  refine pl M (y_assign (v := .int .i64 0) rfl rfl rfl) ?_
  simp only [Act.put, zq1, zq2, zq3]
  refine wpList_nil ?_
  refine hK1 _ _ ?_
  clear hK1
  refine wp_seq_k (fun K2 hK2 => ?_)
  refine wp_region_lit ?_
  refine pl M (y_move (v := .pointer (some ⟨p, 0, none⟩)) rfl rfl rfl) ?_
  simp only [Act.put, zq1, zq2, zq3]
  refine pl M (y_nil rfl rfl rfl) ?_
  simp only [Act.put, zq1, zq2, zq3]
  refine pl M (y_fa (r := 5) rfl rfl rfl Try.underlying57 rfl Try.sizeOf55 rfl) ?_
  simp only [Act.put, zq1, zq2, zq3]
  refine pl M (y_load (v := .slice none 0 0) rfl rfl rfl Try.isAgg55 (fun W hW => hW.get 0 rfl) (rfl)) ?_
  simp only [Act.put, zq1, zq2, zq3]
  refine pl M (y_len rfl rfl rfl Try.underlying55) ?_
  simp only [Act.put, zq1, zq2, zq3]
  refine pl M (y_assign (v := .int .i64 0) rfl rfl rfl) ?_
  simp only [Act.put, zq1, zq2, zq3]
  refine wpList_nil ?_
  refine hK2 _ _ ?_
  clear hK2
  refine wp_seq_k (fun K3 hK3 => ?_)
  refine wp_seq_k (fun K4 hK4 => ?_)
  refine wp_region_lit ?_
  refine pl M (y_move (v := .pointer (some ⟨p, 0, none⟩)) rfl rfl rfl) ?_
  simp only [Act.put, zq1, zq2, zq3]
  refine pl M (y_nil rfl rfl rfl) ?_
  simp only [Act.put, zq1, zq2, zq3]
  refine pl M (y_fa (r := 5) rfl rfl rfl Try.underlying57 rfl Try.sizeOf55 rfl) ?_
  simp only [Act.put, zq1, zq2, zq3]
  refine pl M (y_load (v := .slice none 0 0) rfl rfl rfl Try.isAgg55 (fun W hW => hW.get 0 rfl) (rfl)) ?_
  simp only [Act.put, zq1, zq2, zq3]
  refine pl M (y_move (v := .int .i64 0) rfl rfl rfl) ?_
  simp only [Act.put, zq1, zq2, zq3]
  refine pl M (y_move (v := .slice ao n c) rfl rfl rfl) ?_
  simp only [Act.put, zq1, zq2, zq3]
  refine pl M (y_len rfl rfl rfl Try.underlying23) ?_
  simp only [Act.put, zq1, zq2, zq3]
  refine pl M (y_min (r := 0) rfl rfl rfl rfl (by split <;> omega)) ?_
  simp only [Act.put, zq1, zq2, zq3]
  refine pl M (y_sln (l := 0) (h := 0) (n' := 0) (c' := 0) rfl rfl rfl rfl rfl Try.underlying55 Try.sizeOf79 (by exact ⟨⟨_, _, rfl, by omega, by omega⟩, rfl⟩) (by omega) (by omega)) ?_
  simp only [Act.put, zq1, zq2, zq3]
  refine pl M (y_len rfl rfl rfl Try.underlying55) ?_
  simp only [Act.put, zq1, zq2, zq3]
  refine pl M (y_move (v := .int .i64 0) rfl rfl rfl) ?_
  simp only [Act.put, zq1, zq2, zq3]
  refine wpList_nil ?_
  refine hK4 _ _ ?_
  clear hK4
  refine wp_block ?_
  refine wp_loop (fun a' w' => ∃  (us5 : List Value), a' = (⟨#[.pointer (some ⟨p, 0, none⟩), .slice ao n c, undef, undef, .int .i64 0, .int .i64 0, (us5.getD 0 undef), (us5.getD 1 undef), (us5.getD 2 undef), (us5.getD 3 undef), (us5.getD 4 undef), .pointer (some ⟨p, 0, none⟩), .pointer (some ⟨p, 0, none⟩), .pointer (some ⟨p, 5, none⟩), .slice none 0 0, .int .i64 0, .pointer (some ⟨p, 0, none⟩), .pointer (some ⟨p, 0, none⟩), .pointer (some ⟨p, 5, none⟩), .slice none 0 0, .int .i64 0, .slice ao n c, .int .i64 (n : Int), .int .i64 0, .slice none 0 0, .int .i64 0, .int .i64 0, (us5.getD 5 undef), (us5.getD 6 undef), (us5.getD 7 undef), (us5.getD 8 undef), (us5.getD 9 undef), (us5.getD 10 undef), (us5.getD 11 undef), (us5.getD 12 undef), (us5.getD 13 undef), (us5.getD 14 undef), (us5.getD 15 undef), (us5.getD 16 undef), (us5.getD 17 undef), (us5.getD 18 undef), (us5.getD 19 undef), (us5.getD 20 undef), (us5.getD 21 undef), (us5.getD 22 undef), (us5.getD 23 undef), (us5.getD 24 undef), (us5.getD 25 undef), (us5.getD 26 undef), (us5.getD 27 undef), (us5.getD 28 undef), (us5.getD 29 undef), (us5.getD 30 undef), (us5.getD 31 undef), (us5.getD 32 undef), (us5.getD 33 undef), (us5.getD 34 undef), (us5.getD 35 undef), (us5.getD 36 undef), (us5.getD 37 undef), (us5.getD 38 undef), (us5.getD 39 undef), (us5.getD 40 undef), (us5.getD 41 undef), undef, undef, undef, undef, undef, undef, undef, undef, undef, undef, undef, undef, undef, undef, undef, undef], []⟩ : Act) ∧ Mem w (foots [disk D p pg mb (.slice none 0 0)]) w' [blk p 57 (dC D pg mb (.slice none 0 0)), blk pg 77 (pagesC D.pages), lst 79 257 (.slice none 0 0) D.q.length (qC D.q), mapq mb D.q]) (fun _ _ => 0) ⟨[undef, undef, undef, undef, undef, undef, undef, undef, undef, undef, undef, undef, undef, undef, undef, undef, undef, undef, undef, undef, undef, undef, undef, undef, undef, undef, undef, undef, undef, undef, undef, undef, undef, undef, undef, undef, undef, undef, undef, undef, undef, undef], rfl, M⟩ ?_
  clear M
  rintro a' w6 ⟨us5, rfl, M6⟩
  refine wp_seq_k (fun K7 hK7 => ?_)
  refine wp_region_lit ?_
  refine pl M6 (y_lss (b := false) rfl rfl rfl rfl (decide_eq_false (by decide))) ?_
  simp only [Act.put, zq1, zq2, zq3]
  refine wpList_nil ?_
  refine hK7 _ _ ?_
  clear hK7
  refine wp_seq_k (fun K8 hK8 => ?_)
  refine wp_cond_false rfl ?_
  refine wp_exit ?_
  refine hK3 _ _ ?_
  clear hK3
  refine wp_seq_k (fun K9 hK9 => ?_)
  refine wp_region_lit ?_
  refine pl M6 (y_move (v := .pointer (some ⟨p, 0, none⟩)) rfl rfl rfl) ?_
  simp only [Act.put, zq1, zq2, zq3]
  have M10 : Mem w (foots [disk D p pg mb (.slice none 0 0)]) w6 [blk p 57 ([.int .i64 D.reads, .int .i64 D.writes, .int .i64 D.syncs, .int .i64 (D.q.length : Int), .slice (some ⟨pg, 0, none⟩) ((crashP D.pages (D.q.zip l)).length) ((crashP D.pages (D.q.zip l)).length), .slice none 0 0, .map (some mb), .int .i64 D.armed, .bool D.dead, .int .i64 D.epoch]), blk pg 77 (pagesC (crashP D.pages (D.q.zip l))), lst 79 257 (.slice none 0 0) D.q.length (qC D.q), mapq mb D.q] := by rw [hap]; exact M6
  refine pe rfl (fun K hK => ?_)
  refine e_call 27 [.pointer (some ⟨p, 0, none⟩)] rfl rfl Try.call27 (close_any (Mem.here (L := [disk (({ D with pages := crashP D.pages (D.q.zip l) } : DV)) p pg mb (.slice none 0 0)]) (R := []) (disk_close (D := ({ D with pages := crashP D.pages (D.q.zip l) } : DV)) (R := []) (crash_ok2 hok l) M10)) ) ?_
  rintro e w11 ⟨rfl, H11⟩
  have M11 : Mem w _ w11 [blk p 57 (dC ({ ({ D with pages := crashP D.pages (D.q.zip l) } : DV) with q := [] }) pg mb (.slice none 0 0)), blk pg 77 (pagesC ({ ({ D with pages := crashP D.pages (D.q.zip l) } : DV) with q := [] }).pages), lst 79 257 (.slice none 0 0) (({ ({ D with pages := crashP D.pages (D.q.zip l) } : DV) with q := [] }).q.length) (qC ({ ({ D with pages := crashP D.pages (D.q.zip l) } : DV) with q := [] }).q), mapq mb (({ ({ D with pages := crashP D.pages (D.q.zip l) } : DV) with q := [] }).q)] := (disk_open (Mem.frame (Pre := [disk (({ D with pages := crashP D.pages (D.q.zip l) } : DV)) p pg mb (.slice none 0 0)]) (Post := [disk ({ ({ D with pages := crashP D.pages (D.q.zip l) } : DV) with q := [] }) p pg mb (.slice none 0 0)]) (R := []) (disk_close (D := ({ D with pages := crashP D.pages (D.q.zip l) } : DV)) (R := []) (crash_ok2 hok l) M10) H11)).2
  refine ⟨_, rfl, ?_⟩
  refine hK.out _ _ ?_
  clear hK K
  simp only [Act.put, zq1, zq2, zq3]
  refine wpList_nil ?_
  refine hK9 _ _ ?_
  clear hK9
  refine wp_seq_k (fun K12 hK12 => ?_)
  refine wp_region_lit ?_
  refine pl M11 (y_move (v := .pointer (some ⟨p, 0, none⟩)) rfl rfl rfl) ?_
  simp only [Act.put, zq1, zq2, zq3]
  refine pl M11 (y_move (v := .pointer (some ⟨p, 0, none⟩)) rfl rfl rfl) ?_
  simp only [Act.put, zq1, zq2, zq3]
  refine pl M11 (y_nil rfl rfl rfl) ?_
  simp only [Act.put, zq1, zq2, zq3]
  refine pl M11 (y_fa (r := 8) rfl rfl rfl Try.underlying57 rfl Try.sizeOf4 rfl) ?_
  simp only [Act.put, zq1, zq2, zq3]
  refine pe rfl (fun K hK => ?_)
  refine e_store M11 0 (v := .bool false) rfl rfl rfl rfl rfl rfl Try.sizeOf4 rfl (show (8 : Nat) < 10 by decide) ?_
  intro w13 (M13 : Mem w _ w13 [blk p 57 ([.int .i64 (({ ({ D with pages := crashP D.pages (D.q.zip l) } : DV) with q := [] }).reads), .int .i64 (({ ({ D with pages := crashP D.pages (D.q.zip l) } : DV) with q := [] }).writes), .int .i64 (({ ({ D with pages := crashP D.pages (D.q.zip l) } : DV) with q := [] }).syncs), .int .i64 (({ ({ D with pages := crashP D.pages (D.q.zip l) } : DV) with q := [] }).q.length : Int), .slice (some ⟨pg, 0, none⟩) (({ ({ D with pages := crashP D.pages (D.q.zip l) } : DV) with q := [] }).pages.length) (({ ({ D with pages := crashP D.pages (D.q.zip l) } : DV) with q := [] }).pages.length), .slice none 0 0, .map (some mb), .int .i64 (({ ({ D with pages := crashP D.pages (D.q.zip l) } : DV) with q := [] }).armed), .bool false, .int .i64 (({ ({ D with pages := crashP D.pages (D.q.zip l) } : DV) with q := [] }).epoch)]), blk pg 77 (pagesC ({ ({ D with pages := crashP D.pages (D.q.zip l) } : DV) with q := [] }).pages), lst 79 257 (.slice none 0 0) (({ ({ D with pages := crashP D.pages (D.q.zip l) } : DV) with q := [] }).q.length) (qC ({ ({ D with pages := crashP D.pages (D.q.zip l) } : DV) with q := [] }).q), mapq mb (({ ({ D with pages := crashP D.pages (D.q.zip l) } : DV) with q := [] }).q)])
  clear M11
  refine hK.out _ _ ?_
  clear hK K
  simp only [Act.put, zq1, zq2, zq3]
  refine pl M13 (y_nil rfl rfl rfl) ?_
  simp only [Act.put, zq1, zq2, zq3]
  refine pl M13 (y_fa (r := 7) rfl rfl rfl Try.underlying57 rfl Try.sizeOf3 rfl) ?_
  simp only [Act.put, zq1, zq2, zq3]
  refine pe rfl (fun K hK => ?_)
  refine e_store M13 0 (v := .int .i64 0) rfl rfl rfl rfl rfl rfl Try.sizeOf3 rfl (show (7 : Nat) < 10 by decide) ?_
  intro w14 (M14 : Mem w _ w14 [blk p 57 ([.int .i64 (({ ({ D with pages := crashP D.pages (D.q.zip l) } : DV) with q := [] }).reads), .int .i64 (({ ({ D with pages := crashP D.pages (D.q.zip l) } : DV) with q := [] }).writes), .int .i64 (({ ({ D with pages := crashP D.pages (D.q.zip l) } : DV) with q := [] }).syncs), .int .i64 (({ ({ D with pages := crashP D.pages (D.q.zip l) } : DV) with q := [] }).q.length : Int), .slice (some ⟨pg, 0, none⟩) (({ ({ D with pages := crashP D.pages (D.q.zip l) } : DV) with q := [] }).pages.length) (({ ({ D with pages := crashP D.pages (D.q.zip l) } : DV) with q := [] }).pages.length), .slice none 0 0, .map (some mb), .int .i64 0, .bool false, .int .i64 (({ ({ D with pages := crashP D.pages (D.q.zip l) } : DV) with q := [] }).epoch)]), blk pg 77 (pagesC ({ ({ D with pages := crashP D.pages (D.q.zip l) } : DV) with q := [] }).pages), lst 79 257 (.slice none 0 0) (({ ({ D with pages := crashP D.pages (D.q.zip l) } : DV) with q := [] }).q.length) (qC ({ ({ D with pages := crashP D.pages (D.q.zip l) } : DV) with q := [] }).q), mapq mb (({ ({ D with pages := crashP D.pages (D.q.zip l) } : DV) with q := [] }).q)])
  clear M13
  refine hK.out _ _ ?_
  clear hK K
  simp only [Act.put, zq1, zq2, zq3]
  refine wpList_nil ?_
  refine hK12 _ _ ?_
  clear hK12
  refine wp_seq_k (fun K15 hK15 => ?_)
  refine wp_region_lit ?_
  refine pl M14 (y_move (v := .pointer (some ⟨p, 0, none⟩)) rfl rfl rfl) ?_
  simp only [Act.put, zq1, zq2, zq3]
  refine pl M14 (y_nil rfl rfl rfl) ?_
  simp only [Act.put, zq1, zq2, zq3]
  refine pl M14 (y_fa (r := 9) rfl rfl rfl Try.underlying57 rfl Try.sizeOf3 rfl) ?_
  simp only [Act.put, zq1, zq2, zq3]
  refine pl M14 (y_load (v := .int .i64 (({ ({ D with pages := crashP D.pages (D.q.zip l) } : DV) with q := [] }).epoch)) rfl rfl rfl Try.isAgg3 (fun W hW => hW.get 0 rfl) (rfl)) ?_
  simp only [Act.put, zq1, zq2, zq3]
  refine pl M14 (y_addw rfl rfl rfl rfl) ?_
  simp only [Act.put, zq1, zq2, zq3]
  refine pl M14 (y_nil rfl rfl rfl) ?_
  simp only [Act.put, zq1, zq2, zq3]
  refine pl M14 (y_fa (r := 9) rfl rfl rfl Try.underlying57 rfl Try.sizeOf3 rfl) ?_
  simp only [Act.put, zq1, zq2, zq3]
  refine pe rfl (fun K hK => ?_)
  refine e_store M14 0 (v := .int .i64 (wrap64 (({ ({ D with pages := crashP D.pages (D.q.zip l) } : DV) with q := [] }).epoch + 1))) rfl rfl rfl rfl rfl rfl Try.sizeOf3 rfl (show (9 : Nat) < 10 by decide) ?_
  intro w16 (M16 : Mem w _ w16 [blk p 57 ([.int .i64 (({ ({ D with pages := crashP D.pages (D.q.zip l) } : DV) with q := [] }).reads), .int .i64 (({ ({ D with pages := crashP D.pages (D.q.zip l) } : DV) with q := [] }).writes), .int .i64 (({ ({ D with pages := crashP D.pages (D.q.zip l) } : DV) with q := [] }).syncs), .int .i64 (({ ({ D with pages := crashP D.pages (D.q.zip l) } : DV) with q := [] }).q.length : Int), .slice (some ⟨pg, 0, none⟩) (({ ({ D with pages := crashP D.pages (D.q.zip l) } : DV) with q := [] }).pages.length) (({ ({ D with pages := crashP D.pages (D.q.zip l) } : DV) with q := [] }).pages.length), .slice none 0 0, .map (some mb), .int .i64 0, .bool false, .int .i64 (wrap64 (({ ({ D with pages := crashP D.pages (D.q.zip l) } : DV) with q := [] }).epoch + 1))]), blk pg 77 (pagesC ({ ({ D with pages := crashP D.pages (D.q.zip l) } : DV) with q := [] }).pages), lst 79 257 (.slice none 0 0) (({ ({ D with pages := crashP D.pages (D.q.zip l) } : DV) with q := [] }).q.length) (qC ({ ({ D with pages := crashP D.pages (D.q.zip l) } : DV) with q := [] }).q), mapq mb (({ ({ D with pages := crashP D.pages (D.q.zip l) } : DV) with q := [] }).q)])
  clear M14
  refine hK.out _ _ ?_
  clear hK K
  simp only [Act.put, zq1, zq2, zq3]
  refine wpList_nil ?_
  refine hK15 _ _ ?_
  clear hK15
  refine wp_seq_k (fun K17 hK17 => ?_)
  refine wp_region_lit ?_
  refine pl M16 (y_move (v := .int .i64 0) rfl rfl rfl) ?_
  simp only [Act.put, zq1, zq2, zq3]
  refine pl M16 (y_assign (v := .int .i64 0) rfl rfl rfl) ?_
  simp only [Act.put, zq1, zq2, zq3]
  refine wpList_nil ?_
  refine hK17 _ _ ?_
  clear hK17
  refine wp_ret ?_
  try simp only [Exit.inBlock, Exit.then]
  refine bodyPost_ret (v := .int .i64 0) (res1 rfl rfl) rfl ?_
  exact ⟨_, by rw [hql]; rfl, disk_close (D := crashD D l) (crash_ok hok l) M16⟩
set_option maxRecDepth 100000 in
set_option maxHeartbeats 4000000 in
theorem crash_none {D : DV} {p pg mb : Nat} {qv : Value} {w : World} (hM : Mem w (foots [disk D p pg mb qv]) w [disk D p pg mb qv]) (ao : Option Addr) (n c : Nat) (l : List UInt8) (hnm : n ≤ 140737488355328) (gq cq : Nat) (hqv : qv = .slice (some ⟨gq, 0, none⟩) D.q.length cq) (hqm : D.q.length ≤ maxLen) (hqc : D.q.length ≤ cq) (hn0 : n = 0) (hl0 : l = []) : Calls Try.prog 11 #[.pointer (some ⟨p, 0, none⟩), .slice ao n c] w fun e w' => ∃ qv', e = .returned (.int .i64 (D.q.length : Int)) ∧ Mem w (foots [disk D p pg mb qv]) w' [disk (crashD D l) p pg mb qv'] := by
  obtain ⟨hok, M⟩ := disk_open hM
  clear hM
  subst hqv
  unfold maxLen at hqm
  have hap : crashP D.pages (D.q.zip l) = D.pages := by rw [hl0]; simp [crashP]
  go_enter Try.func11, Try.ntmps11
  refine wp_seq_k (fun K1 hK1 => ?_)
  refine wp_region_lit ?_
  refine pl M (y_assign (v := .int .i64 0) rfl rfl rfl) ?_
  simp only [Act.put, zq1, zq2, zq3]
  refine wpList_nil ?_
  refine hK1 _ _ ?_
  clear hK1
  refine wp_seq_k (fun K2 hK2 => ?_)
  refine wp_region_lit ?_
  refine pl M (y_move (v := .pointer (some ⟨p, 0, none⟩)) rfl rfl rfl) ?_
  simp only [Act.put, zq1, zq2, zq3]
  refine pl M (y_nil rfl rfl rfl) ?_
  simp only [Act.put, zq1, zq2, zq3]
  refine pl M (y_fa (r := 5) rfl rfl rfl Try.underlying57 rfl Try.sizeOf55 rfl) ?_
  simp only [Act.put, zq1, zq2, zq3]
  refine pl M (y_load (v := .slice (some ⟨gq, 0, none⟩) D.q.length cq) rfl rfl rfl Try.isAgg55 (fun W hW => hW.get 0 rfl) (rfl)) ?_
  simp only [Act.put, zq1, zq2, zq3]
  refine pl M (y_len rfl rfl rfl Try.underlying55) ?_
  simp only [Act.put, zq1, zq2, zq3]
  refine pl M (y_assign (v := .int .i64 (D.q.length : Int)) rfl rfl rfl) ?_
  simp only [Act.put, zq1, zq2, zq3]
  refine wpList_nil ?_
  refine hK2 _ _ ?_
  clear hK2
  refine wp_seq_k (fun K3 hK3 => ?_)
  refine wp_seq_k (fun K4 hK4 => ?_)
  refine wp_region_lit ?_
  refine pl M (y_move (v := .pointer (some ⟨p, 0, none⟩)) rfl rfl rfl) ?_
  simp only [Act.put, zq1, zq2, zq3]
  refine pl M (y_nil rfl rfl rfl) ?_
  simp only [Act.put, zq1, zq2, zq3]
  refine pl M (y_fa (r := 5) rfl rfl rfl Try.underlying57 rfl Try.sizeOf55 rfl) ?_
  simp only [Act.put, zq1, zq2, zq3]
  refine pl M (y_load (v := .slice (some ⟨gq, 0, none⟩) D.q.length cq) rfl rfl rfl Try.isAgg55 (fun W hW => hW.get 0 rfl) (rfl)) ?_
  simp only [Act.put, zq1, zq2, zq3]
  refine pl M (y_move (v := .int .i64 (D.q.length : Int)) rfl rfl rfl) ?_
  simp only [Act.put, zq1, zq2, zq3]
  refine pl M (y_move (v := .slice ao n c) rfl rfl rfl) ?_
  simp only [Act.put, zq1, zq2, zq3]
  refine pl M (y_len rfl rfl rfl Try.underlying23) ?_
  simp only [Act.put, zq1, zq2, zq3]
  refine pl M (y_min (r := 0) rfl rfl rfl rfl (by split <;> omega)) ?_
  simp only [Act.put, zq1, zq2, zq3]
  refine pl M (y_sls (l := 0) (h := 0) (r := 0) (n' := 0) (c' := cq) rfl rfl rfl rfl rfl Try.underlying55 Try.sizeOf79 (by exact ⟨⟨_, _, rfl, by omega, by omega⟩, rfl⟩) (by split <;> omega) (by omega) (by omega)) ?_
  simp only [Act.put, zq1, zq2, zq3]
  refine pl M (y_len rfl rfl rfl Try.underlying55) ?_
  simp only [Act.put, zq1, zq2, zq3]
  refine pl M (y_move (v := .int .i64 0) rfl rfl rfl) ?_
  simp only [Act.put, zq1, zq2, zq3]
  refine wpList_nil ?_
  refine hK4 _ _ ?_
  clear hK4
  refine wp_block ?_
  refine wp_loop (fun a' w' => ∃  (us5 : List Value), a' = (⟨#[.pointer (some ⟨p, 0, none⟩), .slice ao n c, undef, undef, .int .i64 0, .int .i64 (D.q.length : Int), (us5.getD 0 undef), (us5.getD 1 undef), (us5.getD 2 undef), (us5.getD 3 undef), (us5.getD 4 undef), .pointer (some ⟨p, 0, none⟩), .pointer (some ⟨p, 0, none⟩), .pointer (some ⟨p, 5, none⟩), .slice (some ⟨gq, 0, none⟩) D.q.length cq, .int .i64 (D.q.length : Int), .pointer (some ⟨p, 0, none⟩), .pointer (some ⟨p, 0, none⟩), .pointer (some ⟨p, 5, none⟩), .slice (some ⟨gq, 0, none⟩) D.q.length cq, .int .i64 (D.q.length : Int), .slice ao n c, .int .i64 (n : Int), .int .i64 0, .slice (some ⟨gq, 0, none⟩) 0 cq, .int .i64 0, .int .i64 0, (us5.getD 5 undef), (us5.getD 6 undef), (us5.getD 7 undef), (us5.getD 8 undef), (us5.getD 9 undef), (us5.getD 10 undef), (us5.getD 11 undef), (us5.getD 12 undef), (us5.getD 13 undef), (us5.getD 14 undef), (us5.getD 15 undef), (us5.getD 16 undef), (us5.getD 17 undef), (us5.getD 18 undef), (us5.getD 19 undef), (us5.getD 20 undef), (us5.getD 21 undef), (us5.getD 22 undef), (us5.getD 23 undef), (us5.getD 24 undef), (us5.getD 25 undef), (us5.getD 26 undef), (us5.getD 27 undef), (us5.getD 28 undef), (us5.getD 29 undef), (us5.getD 30 undef), (us5.getD 31 undef), (us5.getD 32 undef), (us5.getD 33 undef), (us5.getD 34 undef), (us5.getD 35 undef), (us5.getD 36 undef), (us5.getD 37 undef), (us5.getD 38 undef), (us5.getD 39 undef), (us5.getD 40 undef), (us5.getD 41 undef), undef, undef, undef, undef, undef, undef, undef, undef, undef, undef, undef, undef, undef, undef, undef, undef], []⟩ : Act) ∧ Mem w (foots [disk D p pg mb (.slice (some ⟨gq, 0, none⟩) D.q.length cq)]) w' [blk p 57 (dC D pg mb (.slice (some ⟨gq, 0, none⟩) D.q.length cq)), blk pg 77 (pagesC D.pages), lst 79 257 (.slice (some ⟨gq, 0, none⟩) D.q.length cq) D.q.length (qC D.q), mapq mb D.q]) (fun _ _ => 0) ⟨[undef, undef, undef, undef, undef, undef, undef, undef, undef, undef, undef, undef, undef, undef, undef, undef, undef, undef, undef, undef, undef, undef, undef, undef, undef, undef, undef, undef, undef, undef, undef, undef, undef, undef, undef, undef, undef, undef, undef, undef, undef, undef], rfl, M⟩ ?_
  clear M
  rintro a' w6 ⟨us5, rfl, M6⟩
  refine wp_seq_k (fun K7 hK7 => ?_)
  refine wp_region_lit ?_
  refine pl M6 (y_lss (b := false) rfl rfl rfl rfl (decide_eq_false (by decide))) ?_
  simp only [Act.put, zq1, zq2, zq3]
  refine wpList_nil ?_
  refine hK7 _ _ ?_
  clear hK7
  refine wp_seq_k (fun K8 hK8 => ?_)
  refine wp_cond_false rfl ?_
  refine wp_exit ?_
  refine hK3 _ _ ?_
  clear hK3
  refine wp_seq_k (fun K9 hK9 => ?_)
  refine wp_region_lit ?_
  refine pl M6 (y_move (v := .pointer (some ⟨p, 0, none⟩)) rfl rfl rfl) ?_
  simp only [Act.put, zq1, zq2, zq3]
  have M10 : Mem w (foots [disk D p pg mb (.slice (some ⟨gq, 0, none⟩) D.q.length cq)]) w6 [blk p 57 ([.int .i64 D.reads, .int .i64 D.writes, .int .i64 D.syncs, .int .i64 (D.q.length : Int), .slice (some ⟨pg, 0, none⟩) ((crashP D.pages (D.q.zip l)).length) ((crashP D.pages (D.q.zip l)).length), .slice (some ⟨gq, 0, none⟩) D.q.length cq, .map (some mb), .int .i64 D.armed, .bool D.dead, .int .i64 D.epoch]), blk pg 77 (pagesC (crashP D.pages (D.q.zip l))), lst 79 257 (.slice (some ⟨gq, 0, none⟩) D.q.length cq) D.q.length (qC D.q), mapq mb D.q] := by rw [hap]; exact M6
  refine pe rfl (fun K hK => ?_)
  refine e_call 27 [.pointer (some ⟨p, 0, none⟩)] rfl rfl Try.call27 (close_any (Mem.here (L := [disk (({ D with pages := crashP D.pages (D.q.zip l) } : DV)) p pg mb (.slice (some ⟨gq, 0, none⟩) D.q.length cq)]) (R := []) (disk_close (D := ({ D with pages := crashP D.pages (D.q.zip l) } : DV)) (R := []) (crash_ok2 hok l) M10)) ) ?_
  rintro e w11 ⟨rfl, H11⟩
  have M11 : Mem w _ w11 [blk p 57 (dC ({ ({ D with pages := crashP D.pages (D.q.zip l) } : DV) with q := [] }) pg mb (.slice none 0 0)), blk pg 77 (pagesC ({ ({ D with pages := crashP D.pages (D.q.zip l) } : DV) with q := [] }).pages), lst 79 257 (.slice none 0 0) (({ ({ D with pages := crashP D.pages (D.q.zip l) } : DV) with q := [] }).q.length) (qC ({ ({ D with pages := crashP D.pages (D.q.zip l) } : DV) with q := [] }).q), mapq mb (({ ({ D with pages := crashP D.pages (D.q.zip l) } : DV) with q := [] }).q)] := (disk_open (Mem.frame (Pre := [disk (({ D with pages := crashP D.pages (D.q.zip l) } : DV)) p pg mb (.slice (some ⟨gq, 0, none⟩) D.q.length cq)]) (Post := [disk ({ ({ D with pages := crashP D.pages (D.q.zip l) } : DV) with q := [] }) p pg mb (.slice none 0 0)]) (R := []) (disk_close (D := ({ D with pages := crashP D.pages (D.q.zip l) } : DV)) (R := []) (crash_ok2 hok l) M10) H11)).2
  refine ⟨_, rfl, ?_⟩
  refine hK.out _ _ ?_
  clear hK K
  simp only [Act.put, zq1, zq2, zq3]
  refine wpList_nil ?_
  refine hK9 _ _ ?_
  clear hK9
  refine wp_seq_k (fun K12 hK12 => ?_)
  refine wp_region_lit ?_
  refine pl M11 (y_move (v := .pointer (some ⟨p, 0, none⟩)) rfl rfl rfl) ?_
  simp only [Act.put, zq1, zq2, zq3]
  refine pl M11 (y_move (v := .pointer (some ⟨p, 0, none⟩)) rfl rfl rfl) ?_
  simp only [Act.put, zq1, zq2, zq3]
  refine pl M11 (y_nil rfl rfl rfl) ?_
  simp only [Act.put, zq1, zq2, zq3]
  refine pl M11 (y_fa (r := 8) rfl rfl rfl Try.underlying57 rfl Try.sizeOf4 rfl) ?_
  simp only [Act.put, zq1, zq2, zq3]
  refine pe rfl (fun K hK => ?_)
  refine e_store M11 0 (v := .bool false) rfl rfl rfl rfl rfl rfl Try.sizeOf4 rfl (show (8 : Nat) < 10 by decide) ?_
  intro w13 (M13 : Mem w _ w13 [blk p 57 ([.int .i64 (({ ({ D with pages := crashP D.pages (D.q.zip l) } : DV) with q := [] }).reads), .int .i64 (({ ({ D with pages := crashP D.pages (D.q.zip l) } : DV) with q := [] }).writes), .int .i64 (({ ({ D with pages := crashP D.pages (D.q.zip l) } : DV) with q := [] }).syncs), .int .i64 (({ ({ D with pages := crashP D.pages (D.q.zip l) } : DV) with q := [] }).q.length : Int), .slice (some ⟨pg, 0, none⟩) (({ ({ D with pages := crashP D.pages (D.q.zip l) } : DV) with q := [] }).pages.length) (({ ({ D with pages := crashP D.pages (D.q.zip l) } : DV) with q := [] }).pages.length), .slice none 0 0, .map (some mb), .int .i64 (({ ({ D with pages := crashP D.pages (D.q.zip l) } : DV) with q := [] }).armed), .bool false, .int .i64 (({ ({ D with pages := crashP D.pages (D.q.zip l) } : DV) with q := [] }).epoch)]), blk pg 77 (pagesC ({ ({ D with pages := crashP D.pages (D.q.zip l) } : DV) with q := [] }).pages), lst 79 257 (.slice none 0 0) (({ ({ D with pages := crashP D.pages (D.q.zip l) } : DV) with q := [] }).q.length) (qC ({ ({ D with pages := crashP D.pages (D.q.zip l) } : DV) with q := [] }).q), mapq mb (({ ({ D with pages := crashP D.pages (D.q.zip l) } : DV) with q := [] }).q)])
  clear M11
  refine hK.out _ _ ?_
  clear hK K
  simp only [Act.put, zq1, zq2, zq3]
  refine pl M13 (y_nil rfl rfl rfl) ?_
  simp only [Act.put, zq1, zq2, zq3]
  refine pl M13 (y_fa (r := 7) rfl rfl rfl Try.underlying57 rfl Try.sizeOf3 rfl) ?_
  simp only [Act.put, zq1, zq2, zq3]
  refine pe rfl (fun K hK => ?_)
  refine e_store M13 0 (v := .int .i64 0) rfl rfl rfl rfl rfl rfl Try.sizeOf3 rfl (show (7 : Nat) < 10 by decide) ?_
  intro w14 (M14 : Mem w _ w14 [blk p 57 ([.int .i64 (({ ({ D with pages := crashP D.pages (D.q.zip l) } : DV) with q := [] }).reads), .int .i64 (({ ({ D with pages := crashP D.pages (D.q.zip l) } : DV) with q := [] }).writes), .int .i64 (({ ({ D with pages := crashP D.pages (D.q.zip l) } : DV) with q := [] }).syncs), .int .i64 (({ ({ D with pages := crashP D.pages (D.q.zip l) } : DV) with q := [] }).q.length : Int), .slice (some ⟨pg, 0, none⟩) (({ ({ D with pages := crashP D.pages (D.q.zip l) } : DV) with q := [] }).pages.length) (({ ({ D with pages := crashP D.pages (D.q.zip l) } : DV) with q := [] }).pages.length), .slice none 0 0, .map (some mb), .int .i64 0, .bool false, .int .i64 (({ ({ D with pages := crashP D.pages (D.q.zip l) } : DV) with q := [] }).epoch)]), blk pg 77 (pagesC ({ ({ D with pages := crashP D.pages (D.q.zip l) } : DV) with q := [] }).pages), lst 79 257 (.slice none 0 0) (({ ({ D with pages := crashP D.pages (D.q.zip l) } : DV) with q := [] }).q.length) (qC ({ ({ D with pages := crashP D.pages (D.q.zip l) } : DV) with q := [] }).q), mapq mb (({ ({ D with pages := crashP D.pages (D.q.zip l) } : DV) with q := [] }).q)])
  clear M13
  refine hK.out _ _ ?_
  clear hK K
  simp only [Act.put, zq1, zq2, zq3]
  refine wpList_nil ?_
  refine hK12 _ _ ?_
  clear hK12
  refine wp_seq_k (fun K15 hK15 => ?_)
  refine wp_region_lit ?_
  refine pl M14 (y_move (v := .pointer (some ⟨p, 0, none⟩)) rfl rfl rfl) ?_
  simp only [Act.put, zq1, zq2, zq3]
  refine pl M14 (y_nil rfl rfl rfl) ?_
  simp only [Act.put, zq1, zq2, zq3]
  refine pl M14 (y_fa (r := 9) rfl rfl rfl Try.underlying57 rfl Try.sizeOf3 rfl) ?_
  simp only [Act.put, zq1, zq2, zq3]
  refine pl M14 (y_load (v := .int .i64 (({ ({ D with pages := crashP D.pages (D.q.zip l) } : DV) with q := [] }).epoch)) rfl rfl rfl Try.isAgg3 (fun W hW => hW.get 0 rfl) (rfl)) ?_
  simp only [Act.put, zq1, zq2, zq3]
  refine pl M14 (y_addw rfl rfl rfl rfl) ?_
  simp only [Act.put, zq1, zq2, zq3]
  refine pl M14 (y_nil rfl rfl rfl) ?_
  simp only [Act.put, zq1, zq2, zq3]
  refine pl M14 (y_fa (r := 9) rfl rfl rfl Try.underlying57 rfl Try.sizeOf3 rfl) ?_
  simp only [Act.put, zq1, zq2, zq3]
  refine pe rfl (fun K hK => ?_)
  refine e_store M14 0 (v := .int .i64 (wrap64 (({ ({ D with pages := crashP D.pages (D.q.zip l) } : DV) with q := [] }).epoch + 1))) rfl rfl rfl rfl rfl rfl Try.sizeOf3 rfl (show (9 : Nat) < 10 by decide) ?_
  intro w16 (M16 : Mem w _ w16 [blk p 57 ([.int .i64 (({ ({ D with pages := crashP D.pages (D.q.zip l) } : DV) with q := [] }).reads), .int .i64 (({ ({ D with pages := crashP D.pages (D.q.zip l) } : DV) with q := [] }).writes), .int .i64 (({ ({ D with pages := crashP D.pages (D.q.zip l) } : DV) with q := [] }).syncs), .int .i64 (({ ({ D with pages := crashP D.pages (D.q.zip l) } : DV) with q := [] }).q.length : Int), .slice (some ⟨pg, 0, none⟩) (({ ({ D with pages := crashP D.pages (D.q.zip l) } : DV) with q := [] }).pages.length) (({ ({ D with pages := crashP D.pages (D.q.zip l) } : DV) with q := [] }).pages.length), .slice none 0 0, .map (some mb), .int .i64 0, .bool false, .int .i64 (wrap64 (({ ({ D with pages := crashP D.pages (D.q.zip l) } : DV) with q := [] }).epoch + 1))]), blk pg 77 (pagesC ({ ({ D with pages := crashP D.pages (D.q.zip l) } : DV) with q := [] }).pages), lst 79 257 (.slice none 0 0) (({ ({ D with pages := crashP D.pages (D.q.zip l) } : DV) with q := [] }).q.length) (qC ({ ({ D with pages := crashP D.pages (D.q.zip l) } : DV) with q := [] }).q), mapq mb (({ ({ D with pages := crashP D.pages (D.q.zip l) } : DV) with q := [] }).q)])
  clear M14
  refine hK.out _ _ ?_
  clear hK K
  simp only [Act.put, zq1, zq2, zq3]
  refine wpList_nil ?_
  refine hK15 _ _ ?_
  clear hK15
  refine wp_seq_k (fun K17 hK17 => ?_)
  refine wp_region_lit ?_
  refine pl M16 (y_move (v := .int .i64 (D.q.length : Int)) rfl rfl rfl) ?_
  simp only [Act.put, zq1, zq2, zq3]
  refine pl M16 (y_assign (v := .int .i64 (D.q.length : Int)) rfl rfl rfl) ?_
  simp only [Act.put, zq1, zq2, zq3]
  refine wpList_nil ?_
  refine hK17 _ _ ?_
  clear hK17
  refine wp_ret ?_
  try simp only [Exit.inBlock, Exit.then]
  refine bodyPost_ret (v := .int .i64 (D.q.length : Int)) (res1 rfl rfl) rfl ?_
  exact ⟨_, rfl, disk_close (D := crashD D l) (crash_ok hok l) M16⟩
set_option maxRecDepth 100000 in
set_option maxHeartbeats 4000000 in
theorem crash_some {D : DV} {p pg mb : Nat} {qv : Value} {w : World} (hM : Mem w (foots [disk D p pg mb qv]) w [disk D p pg mb qv]) (fb fo : Nat) (n c : Nat) (l : List UInt8) (hnm : n ≤ 140737488355328) (gq cq : Nat) (hqv : qv = .slice (some ⟨gq, 0, none⟩) D.q.length cq) (hqm : D.q.length ≤ maxLen) (hqc : D.q.length ≤ cq) (hr : Row w (some ⟨fb, fo, none⟩) n l) (hF : ∀ b o, (some ⟨fb, fo, none⟩ : Option Addr) = some ⟨b, o, none⟩ → 0 < n → b ∉ foots [disk D p pg mb qv]) : Calls Try.prog 11 #[.pointer (some ⟨p, 0, none⟩), .slice (some ⟨fb, fo, none⟩) n c] w fun e w' => ∃ qv', e = .returned (.int .i64 (D.q.length : Int)) ∧ Mem w (foots [disk D p pg mb qv]) w' [disk (crashD D l) p pg mb qv'] := by
  obtain ⟨hok, M⟩ := disk_open hM
  clear hM
  subst hqv
  unfold maxLen at hqm
  have hhi := hok.hi
  have hq : ∀ y ∈ D.q, y.2.length = 256 := fun y hy => (hok.qs y hy).2
  obtain ⟨m, hm⟩ : ∃ m, m = min D.q.length n := ⟨_, rfl⟩
  go_enter Try.func11, Try.ntmps11
  refine wp_seq_k (fun K1 hK1 => ?_)
  refine wp_region_lit ?_
  refine pl M (y_assign (v := .int .i64 0) rfl rfl rfl) ?_
  simp only [Act.put, zq1, zq2, zq3]
  refine wpList_nil ?_
  refine hK1 _ _ ?_
  clear hK1
  refine wp_seq_k (fun K2 hK2 => ?_)
  refine wp_region_lit ?_
  refine pl M (y_move (v := .pointer (some ⟨p, 0, none⟩)) rfl rfl rfl) ?_
  simp only [Act.put, zq1, zq2, zq3]
  refine pl M (y_nil rfl rfl rfl) ?_
  simp only [Act.put, zq1, zq2, zq3]
  refine pl M (y_fa (r := 5) rfl rfl rfl Try.underlying57 rfl Try.sizeOf55 rfl) ?_
  simp only [Act.put, zq1, zq2, zq3]
  refine pl M (y_load (v := .slice (some ⟨gq, 0, none⟩) D.q.length cq) rfl rfl rfl Try.isAgg55 (fun W hW => hW.get 0 rfl) (rfl)) ?_
  simp only [Act.put, zq1, zq2, zq3]
  refine pl M (y_len rfl rfl rfl Try.underlying55) ?_
  simp only [Act.put, zq1, zq2, zq3]
  refine pl M (y_assign (v := .int .i64 (D.q.length : Int)) rfl rfl rfl) ?_
  simp only [Act.put, zq1, zq2, zq3]
  refine wpList_nil ?_
  refine hK2 _ _ ?_
  clear hK2
  refine wp_seq_k (fun K3 hK3 => ?_)
  refine wp_seq_k (fun K4 hK4 => ?_)
  refine wp_region_lit ?_
  refine pl M (y_move (v := .pointer (some ⟨p, 0, none⟩)) rfl rfl rfl) ?_
  simp only [Act.put, zq1, zq2, zq3]
  refine pl M (y_nil rfl rfl rfl) ?_
  simp only [Act.put, zq1, zq2, zq3]
  refine pl M (y_fa (r := 5) rfl rfl rfl Try.underlying57 rfl Try.sizeOf55 rfl) ?_
  simp only [Act.put, zq1, zq2, zq3]
  refine pl M (y_load (v := .slice (some ⟨gq, 0, none⟩) D.q.length cq) rfl rfl rfl Try.isAgg55 (fun W hW => hW.get 0 rfl) (rfl)) ?_
  simp only [Act.put, zq1, zq2, zq3]
  refine pl M (y_move (v := .int .i64 (D.q.length : Int)) rfl rfl rfl) ?_
  simp only [Act.put, zq1, zq2, zq3]
  refine pl M (y_move (v := .slice (some ⟨fb, fo, none⟩) n c) rfl rfl rfl) ?_
  simp only [Act.put, zq1, zq2, zq3]
  refine pl M (y_len rfl rfl rfl Try.underlying23) ?_
  simp only [Act.put, zq1, zq2, zq3]
  refine pl M (y_min (r := (m : Int)) rfl rfl rfl rfl (by split <;> omega)) ?_
  simp only [Act.put, zq1, zq2, zq3]
  refine pl M (y_sls (l := 0) (h := m) (r := 0) (n' := m) (c' := cq) rfl rfl rfl rfl rfl Try.underlying55 Try.sizeOf79 (by exact ⟨⟨_, _, rfl, by omega, by omega⟩, rfl⟩) (by split <;> omega) (by omega) (by omega)) ?_
  simp only [Act.put, zq1, zq2, zq3]
  refine pl M (y_len rfl rfl rfl Try.underlying55) ?_
  simp only [Act.put, zq1, zq2, zq3]
  refine pl M (y_move (v := .int .i64 0) rfl rfl rfl) ?_
  simp only [Act.put, zq1, zq2, zq3]
  refine wpList_nil ?_
  refine hK4 _ _ ?_
  clear hK4
  refine wp_block ?_
  refine wp_loop (fun a' w' => ∃ (k : Nat) (us5 : List Value), a' = (⟨#[.pointer (some ⟨p, 0, none⟩), .slice (some ⟨fb, fo, none⟩) n c, undef, undef, .int .i64 0, .int .i64 (D.q.length : Int), (us5.getD 0 undef), (us5.getD 1 undef), (us5.getD 2 undef), (us5.getD 3 undef), (us5.getD 4 undef), .pointer (some ⟨p, 0, none⟩), .pointer (some ⟨p, 0, none⟩), .pointer (some ⟨p, 5, none⟩), .slice (some ⟨gq, 0, none⟩) D.q.length cq, .int .i64 (D.q.length : Int), .pointer (some ⟨p, 0, none⟩), .pointer (some ⟨p, 0, none⟩), .pointer (some ⟨p, 5, none⟩), .slice (some ⟨gq, 0, none⟩) D.q.length cq, .int .i64 (D.q.length : Int), .slice (some ⟨fb, fo, none⟩) n c, .int .i64 (n : Int), .int .i64 (m : Int), .slice (some ⟨gq, 0, none⟩) m cq, .int .i64 (m : Int), .int .i64 (k : Int), (us5.getD 5 undef), (us5.getD 6 undef), (us5.getD 7 undef), (us5.getD 8 undef), (us5.getD 9 undef), (us5.getD 10 undef), (us5.getD 11 undef), (us5.getD 12 undef), (us5.getD 13 undef), (us5.getD 14 undef), (us5.getD 15 undef), (us5.getD 16 undef), (us5.getD 17 undef), (us5.getD 18 undef), (us5.getD 19 undef), (us5.getD 20 undef), (us5.getD 21 undef), (us5.getD 22 undef), (us5.getD 23 undef), (us5.getD 24 undef), (us5.getD 25 undef), (us5.getD 26 undef), (us5.getD 27 undef), (us5.getD 28 undef), (us5.getD 29 undef), (us5.getD 30 undef), (us5.getD 31 undef), (us5.getD 32 undef), (us5.getD 33 undef), (us5.getD 34 undef), (us5.getD 35 undef), (us5.getD 36 undef), (us5.getD 37 undef), (us5.getD 38 undef), (us5.getD 39 undef), (us5.getD 40 undef), (us5.getD 41 undef), undef, undef, undef, undef, undef, undef, undef, undef, undef, undef, undef, undef, undef, undef, undef, undef], []⟩ : Act) ∧ (k ≤ m) ∧ Mem w (foots [disk D p pg mb (.slice (some ⟨gq, 0, none⟩) D.q.length cq)]) w' [blk p 57 (dC D pg mb (.slice (some ⟨gq, 0, none⟩) D.q.length cq)), blk pg 77 (pagesC (crashP D.pages ((D.q.zip l).take k))), lst 79 257 (.slice (some ⟨gq, 0, none⟩) D.q.length cq) D.q.length (qC D.q), mapq mb D.q]) (fun a' _ => m - (intOf (a'.tmps.getD 26 undef)).toNat) ⟨0, [undef, undef, undef, undef, undef, undef, undef, undef, undef, undef, undef, undef, undef, undef, undef, undef, undef, undef, undef, undef, undef, undef, undef, undef, undef, undef, undef, undef, undef, undef, undef, undef, undef, undef, undef, undef, undef, undef, undef, undef, undef, undef], rfl, Nat.zero_le _, M⟩ ?_
  clear M
  rintro a' w7 ⟨k, us5, rfl, f6, M7⟩
  refine wp_seq_k (fun K8 hK8 => ?_)
  refine wp_region_lit ?_
  rcases Decidable.em ((k : Int) < (m : Int)) with h9 | h9
  · have hkl : k < D.q.length := by omega
    obtain ⟨x, hx⟩ : ∃ x, D.q[k]? = some x := ⟨_, List.getElem?_eq_getElem hkl⟩
    have hxp := hok.qs x (List.mem_of_getElem? hx)
    have hxl : x.2.length = 256 := hxp.2
    have hz := zip_at hx (show k < l.length by rw [hr.1]; omega)
    have hps : ∀ q ∈ crashP D.pages ((D.q.zip l).take k), q.length = 256 := crashP_each hok.len _ fun y hy => zip_in hok l y (List.mem_of_mem_take hy)
    have hpl : (crashP D.pages ((D.q.zip l).take k)).length = D.pages.length := crashP_len _ _
    have hcur := pages_get hps (show x.1 < (crashP D.pages ((D.q.zip l).take k)).length by rw [hpl]; exact hxp.1)
    have hset0 : (crashP D.pages ((D.q.zip l).take k)).set x.1 (mixS (l.getD k 0) x.2 ((crashP D.pages ((D.q.zip l).take k)).getD x.1 []) 0) = crashP D.pages ((D.q.zip l).take k) := by
      have hi : x.1 < (crashP D.pages ((D.q.zip l).take k)).length := by rw [hpl]; exact hxp.1
      show (crashP D.pages ((D.q.zip l).take k)).set x.1 ((crashP D.pages ((D.q.zip l).take k)).getD x.1 []) = _
      rw [List.getD_eq_getElem?_getD, List.getElem?_eq_getElem hi]
      exact List.set_getElem_self hi
    refine pl M7 (y_lss (b := true) rfl rfl rfl rfl (decide_eq_true h9)) ?_
    simp only [Act.put, zq1, zq2, zq3]
    refine wpList_nil ?_
    refine hK8 _ _ ?_
    clear hK8
    refine wp_seq_k (fun K10 hK10 => ?_)
    refine wp_cond_true rfl ?_
    refine wp_skip ?_
    refine hK10 _ _ ?_
    clear hK10
    refine wp_seq_k (fun K11 hK11 => ?_)
    refine wp_block ?_
    refine wp_seq_k (fun K12 hK12 => ?_)
    refine wp_region_lit ?_
    refine pl M7 (y_move (v := .int .i64 (k : Int)) rfl rfl rfl) ?_
    simp only [Act.put, zq1, zq2, zq3]
    refine pl M7 (y_ias (r := 257 * k) rfl rfl rfl rfl Try.underlying55 Try.sizeOf79 (by omega) (by omega)) ?_
    simp only [Act.put, zq1, zq2, zq3]
    refine pl M7 (y_loadr (cs := (wC x)) rfl rfl rfl Try.underlying79 rfl (size_write _ hxl) (fun W hW => lst_range (hW.get 2 rfl) (257 * k) (queue_wr hq hx))) ?_
    simp only [Act.put, zq1, zq2, zq3]
    refine pe rfl (fun K hK => ?_)
    refine e_alloc M7 (wC (0, zeroPage)) rfl zero_write ?_
    intro gw w13 (M13 : Mem w _ w13 [blk gw 79 (wC (0, zeroPage)), blk p 57 (dC D pg mb (.slice (some ⟨gq, 0, none⟩) D.q.length cq)), blk pg 77 (pagesC (crashP D.pages ((D.q.zip l).take k))), lst 79 257 (.slice (some ⟨gq, 0, none⟩) D.q.length cq) D.q.length (qC D.q), mapq mb D.q])
    clear M7
    refine hK.out _ _ ?_
    clear hK K
    simp only [Act.put, zq1, zq2, zq3]
    refine pl M13 (y_assign (v := .int .i64 (k : Int)) rfl rfl rfl) ?_
    simp only [Act.put, zq1, zq2, zq3]
    refine pe rfl (fun K hK => ?_)
    refine e_storew M13 0 (cs := (wC x)) rfl rfl rfl rfl (size_write _ hxl) (wC_all _) rfl (by simp [wC, hxl, zeroPage_len]) ?_
    intro w14 (M14 : Mem w _ w14 [blk gw 79 (wC x), blk p 57 (dC D pg mb (.slice (some ⟨gq, 0, none⟩) D.q.length cq)), blk pg 77 (pagesC (crashP D.pages ((D.q.zip l).take k))), lst 79 257 (.slice (some ⟨gq, 0, none⟩) D.q.length cq) D.q.length (qC D.q), mapq mb D.q])
    clear M13
    refine hK.out _ _ ?_
    clear hK K
    simp only [Act.put, zq1, zq2, zq3]
    refine wpList_nil ?_
    refine hK12 _ _ ?_
    clear hK12
    refine wp_seq_k (fun K15 hK15 => ?_)
    refine wp_region_lit ?_
    refine pl M14 (y_move (v := .int .i64 0) rfl rfl rfl) ?_
    simp only [Act.put, zq1, zq2, zq3]
    refine wpList_nil ?_
    refine hK15 _ _ ?_
    clear hK15
    refine wp_block ?_
    refine wp_loop (fun a' w' => ∃ (j : Nat) (us16 : List Value), a' = (⟨#[.pointer (some ⟨p, 0, none⟩), .slice (some ⟨fb, fo, none⟩) n c, undef, undef, .int .i64 0, .int .i64 (D.q.length : Int), .int .i64 (k : Int), .pointer (some ⟨gw, 0, none⟩), (us16.getD 0 undef), (us16.getD 1 undef), (us16.getD 2 undef), .pointer (some ⟨p, 0, none⟩), .pointer (some ⟨p, 0, none⟩), .pointer (some ⟨p, 5, none⟩), .slice (some ⟨gq, 0, none⟩) D.q.length cq, .int .i64 (D.q.length : Int), .pointer (some ⟨p, 0, none⟩), .pointer (some ⟨p, 0, none⟩), .pointer (some ⟨p, 5, none⟩), .slice (some ⟨gq, 0, none⟩) D.q.length cq, .int .i64 (D.q.length : Int), .slice (some ⟨fb, fo, none⟩) n c, .int .i64 (n : Int), .int .i64 (m : Int), .slice (some ⟨gq, 0, none⟩) m cq, .int .i64 (m : Int), .int .i64 (k : Int), .bool true, .int .i64 (k : Int), .pointer (some ⟨gq, 257 * k, none⟩), .agg ((wC x)).toArray, .int .i64 (j : Int), (us16.getD 3 undef), (us16.getD 4 undef), (us16.getD 5 undef), (us16.getD 6 undef), (us16.getD 7 undef), (us16.getD 8 undef), (us16.getD 9 undef), (us16.getD 10 undef), (us16.getD 11 undef), (us16.getD 12 undef), (us16.getD 13 undef), (us16.getD 14 undef), (us16.getD 15 undef), (us16.getD 16 undef), (us16.getD 17 undef), (us16.getD 18 undef), (us16.getD 19 undef), (us16.getD 20 undef), (us16.getD 21 undef), (us16.getD 22 undef), (us16.getD 23 undef), (us16.getD 24 undef), (us16.getD 25 undef), (us16.getD 26 undef), (us16.getD 27 undef), (us16.getD 28 undef), (us16.getD 29 undef), (us16.getD 30 undef), (us16.getD 31 undef), (us16.getD 32 undef), (us16.getD 33 undef), (us5.getD 41 undef), undef, undef, undef, undef, undef, undef, undef, undef, undef, undef, undef, undef, undef, undef, undef, undef], []⟩ : Act) ∧ (j ≤ 4) ∧ Mem w (foots [disk D p pg mb (.slice (some ⟨gq, 0, none⟩) D.q.length cq)]) w' [blk gw 79 (wC x), blk p 57 (dC D pg mb (.slice (some ⟨gq, 0, none⟩) D.q.length cq)), blk pg 77 (pagesC ((crashP D.pages ((D.q.zip l).take k)).set x.1 (mixS (l.getD k 0) x.2 ((crashP D.pages ((D.q.zip l).take k)).getD x.1 []) j))), lst 79 257 (.slice (some ⟨gq, 0, none⟩) D.q.length cq) D.q.length (qC D.q), mapq mb D.q]) (fun a' _ => 4 - (intOf (a'.tmps.getD 31 undef)).toNat) ⟨0, [(us5.getD 2 undef), (us5.getD 3 undef), (us5.getD 4 undef), (us5.getD 10 undef), (us5.getD 11 undef), (us5.getD 12 undef), (us5.getD 13 undef), (us5.getD 14 undef), (us5.getD 15 undef), (us5.getD 16 undef), (us5.getD 17 undef), (us5.getD 18 undef), (us5.getD 19 undef), (us5.getD 20 undef), (us5.getD 21 undef), (us5.getD 22 undef), (us5.getD 23 undef), (us5.getD 24 undef), (us5.getD 25 undef), (us5.getD 26 undef), (us5.getD 27 undef), (us5.getD 28 undef), (us5.getD 29 undef), (us5.getD 30 undef), (us5.getD 31 undef), (us5.getD 32 undef), (us5.getD 33 undef), (us5.getD 34 undef), (us5.getD 35 undef), (us5.getD 36 undef), (us5.getD 37 undef), (us5.getD 38 undef), (us5.getD 39 undef), (us5.getD 40 undef)], rfl, by omega, (show Mem w (foots [disk D p pg mb (.slice (some ⟨gq, 0, none⟩) D.q.length cq)]) w14 [blk gw 79 (wC x), blk p 57 (dC D pg mb (.slice (some ⟨gq, 0, none⟩) D.q.length cq)), blk pg 77 (pagesC ((crashP D.pages ((D.q.zip l).take k)).set x.1 (mixS (l.getD k 0) x.2 ((crashP D.pages ((D.q.zip l).take k)).getD x.1 []) 0))), lst 79 257 (.slice (some ⟨gq, 0, none⟩) D.q.length cq) D.q.length (qC D.q), mapq mb D.q] from by rw [hset0]; exact M14)⟩ ?_
    clear M14
    rintro a' w18 ⟨j, us16, rfl, f17, M18⟩
    refine wp_seq_k (fun K19 hK19 => ?_)
    refine wp_region_lit ?_
    rcases Decidable.em ((j : Int) < 4) with h20 | h20
    · refine pl M18 (y_lss (b := true) rfl rfl rfl rfl (decide_eq_true h20)) ?_
      simp only [Act.put, zq1, zq2, zq3]
      refine wpList_nil ?_
      refine hK19 _ _ ?_
      clear hK19
      refine wp_seq_k (fun K21 hK21 => ?_)
      refine wp_cond_true rfl ?_
      refine wp_skip ?_
      refine hK21 _ _ ?_
      clear hK21
      refine wp_seq_k (fun K22 hK22 => ?_)
      refine wp_block ?_
      refine wp_seq_k (fun K23 hK23 => ?_)
      refine wp_region_lit ?_
      refine pl M18 (y_move (v := .int .i64 (j : Int)) rfl rfl rfl) ?_
      simp only [Act.put, zq1, zq2, zq3]
      refine pl M18 (y_assign (v := .int .i64 (j : Int)) rfl rfl rfl) ?_
      simp only [Act.put, zq1, zq2, zq3]
      refine wpList_nil ?_
      refine hK23 _ _ ?_
      clear hK23
      refine wp_seq_k (fun K24 hK24 => ?_)
      refine wp_region_lit ?_
      refine pl M18 (y_move (v := .slice (some ⟨fb, fo, none⟩) n c) rfl rfl rfl) ?_
      simp only [Act.put, zq1, zq2, zq3]
      refine pl M18 (y_move (v := .int .i64 (k : Int)) rfl rfl rfl) ?_
      simp only [Act.put, zq1, zq2, zq3]
      refine pl M18 (y_ias (r := fo + k) rfl rfl rfl rfl Try.underlying23 Try.sizeOf5 (by omega) (by omega)) ?_
      simp only [Act.put, zq1, zq2, zq3]
      refine pl M18 (y_loadc (v := .int .u8 ((l.getD k 0).toNat : Int)) rfl rfl rfl Try.isAgg5 (fun W hW => (hW.row hr hF).getD k (by omega))) ?_
      simp only [Act.put, zq1, zq2, zq3]
      refine pl M18 (y_move (v := .int .i64 (j : Int)) rfl rfl rfl) ?_
      simp only [Act.put, zq1, zq2, zq3]
      refine pl M18 (y_int (r := .int .u8 (((l.getD k 0).toNat >>> j : Nat) : Int)) rfl rfl rfl rfl (shr_byte _ _ (by omega))) ?_
      simp only [Act.put, zq1, zq2, zq3]
      refine pl M18 (y_int (r := .int .u8 (((l.getD k 0).toNat >>> j % 2 : Nat) : Int)) rfl rfl rfl rfl (and_byte1 _ (by have := (l.getD k 0).toNat_lt; rw [Nat.shiftRight_eq_div_pow]; exact Nat.lt_of_le_of_lt (Nat.div_le_self _ _) this))) ?_
      simp only [Act.put, zq1, zq2, zq3]
      rcases Decidable.em ((((l.getD k 0).toNat >>> j % 2 : Nat) : Int) = 1) with h25 | h25
      · have hbit : (l.getD k 0).toNat >>> j % 2 = 1 := by omega
        have hml : (mixS (l.getD k 0) x.2 ((crashP D.pages ((D.q.zip l).take k)).getD x.1 []) j).length = 256 := length_mixS _ _ _ hxl hcur j (by omega)
        have hps2 : ∀ q ∈ (crashP D.pages ((D.q.zip l).take k)).set x.1 (mixS (l.getD k 0) x.2 ((crashP D.pages ((D.q.zip l).take k)).getD x.1 []) j), q.length = 256 := pages_set hps hml
        have hpl2 : ((crashP D.pages ((D.q.zip l).take k)).set x.1 (mixS (l.getD k 0) x.2 ((crashP D.pages ((D.q.zip l).take k)).getD x.1 []) j)).length = D.pages.length := by rw [List.length_set]; exact hpl
        have hpartl : ((x.2.drop (64 * j)).take 64).length = 64 := by rw [List.length_take, List.length_drop, hxl]; omega
        have hstep : ((crashP D.pages ((D.q.zip l).take k)).set x.1 (mixS (l.getD k 0) x.2 ((crashP D.pages ((D.q.zip l).take k)).getD x.1 []) j)).set x.1 (splice (((crashP D.pages ((D.q.zip l).take k)).set x.1 (mixS (l.getD k 0) x.2 ((crashP D.pages ((D.q.zip l).take k)).getD x.1 []) j)).getD x.1 []) (64 * j) ((x.2.drop (64 * j)).take 64)) = (crashP D.pages ((D.q.zip l).take k)).set x.1 (mixS (l.getD k 0) x.2 ((crashP D.pages ((D.q.zip l).take k)).getD x.1 []) (j + 1)) := by
          rw [getD_set _ _ _ _ (by rw [hpl]; exact hxp.1), List.set_set, mixS_succ]
          unfold mix1
          rw [if_pos hbit]
        refine pl M18 (y_eql (b := true) rfl rfl rfl rfl (decide_eq_true h25)) ?_
        simp only [Act.put, zq1, zq2, zq3]
        refine wpList_nil ?_
        refine hK24 _ _ ?_
        clear hK24
        refine wp_cond_true rfl ?_
        refine wp_seq_k (fun K26 hK26 => ?_)
        refine wp_region_lit ?_
        refine pl M18 (y_move (v := .int .i64 (j : Int)) rfl rfl rfl) ?_
        simp only [Act.put, zq1, zq2, zq3]
        refine pl M18 (y_mul (r := ((64 * j : Nat) : Int)) rfl rfl rfl rfl (by omega) (by omega)) ?_
        simp only [Act.put, zq1, zq2, zq3]
        refine pl M18 (y_move (v := .int .i64 (j : Int)) rfl rfl rfl) ?_
        simp only [Act.put, zq1, zq2, zq3]
        refine pl M18 (y_add (r := (j : Int) + 1) rfl rfl rfl rfl (rfl) (by omega)) ?_
        simp only [Act.put, zq1, zq2, zq3]
        refine pl M18 (y_mul (r := ((64 * j + 64 : Nat) : Int)) rfl rfl rfl rfl (by omega) (by omega)) ?_
        simp only [Act.put, zq1, zq2, zq3]
        refine pl M18 (y_assign (v := .int .i64 ((64 * j : Nat) : Int)) rfl rfl rfl) ?_
        simp only [Act.put, zq1, zq2, zq3]
        refine pl M18 (y_assign (v := .int .i64 ((64 * j + 64 : Nat) : Int)) rfl rfl rfl) ?_
        simp only [Act.put, zq1, zq2, zq3]
        refine wpList_nil ?_
        refine hK26 _ _ ?_
        clear hK26
        have M27 : Mem w _ w18.drew [blk gw 79 (wC x), blk p 57 (dC D pg mb (.slice (some ⟨gq, 0, none⟩) D.q.length cq)), blk pg 77 (pagesC ((crashP D.pages ((D.q.zip l).take k)).set x.1 (mixS (l.getD k 0) x.2 ((crashP D.pages ((D.q.zip l).take k)).getD x.1 []) j))), lst 79 257 (.slice (some ⟨gq, 0, none⟩) D.q.length cq) D.q.length (qC D.q), mapq mb D.q] := M18.drew
        clear M18
        refine wp_region_tail 14 (by kernel_rfl) (by kernel_rfl) ?_
        simp only [List.take_succ_cons, List.take_zero, List.drop_succ_cons, List.drop_zero]
        refine ps M27 (y_move (v := .pointer (some ⟨p, 0, none⟩)) rfl rfl rfl) ?_
        simp only [Act.put, zq1, zq2, zq3]
        refine ps M27 (y_nil rfl rfl rfl) ?_
        simp only [Act.put, zq1, zq2, zq3]
        refine ps M27 (y_fa (r := 4) rfl rfl rfl Try.underlying57 rfl Try.sizeOf51 rfl) ?_
        simp only [Act.put, zq1, zq2, zq3]
        refine ps M27 (y_load (v := .slice (some ⟨pg, 0, none⟩) D.pages.length D.pages.length) rfl rfl rfl Try.isAgg51 (fun W hW => hW.get 1 rfl) (rfl)) ?_
        simp only [Act.put, zq1, zq2, zq3]
        refine ps M27 (y_fa (r := 0) rfl rfl rfl Try.underlying79 rfl Try.sizeOf3 rfl) ?_
        simp only [Act.put, zq1, zq2, zq3]
        refine ps M27 (y_load (v := .int .i64 (x.1 : Int)) rfl rfl rfl Try.isAgg3 (fun W hW => hW.get 0 rfl) (rfl)) ?_
        simp only [Act.put, zq1, zq2, zq3]
        refine ps M27 (y_ias (r := 256 * x.1) rfl rfl rfl rfl Try.underlying51 Try.sizeOf77 (by omega) (by omega)) ?_
        simp only [Act.put, zq1, zq2, zq3]
        refine ps M27 (y_move (v := .int .i64 ((64 * j : Nat) : Int)) rfl rfl rfl) ?_
        simp only [Act.put, zq1, zq2, zq3]
        refine ps M27 (y_move (v := .int .i64 ((64 * j + 64 : Nat) : Int)) rfl rfl rfl) ?_
        simp only [Act.put, zq1, zq2, zq3]
        refine ps M27 (y_sla (l := 64 * j) (h := 64 * j + 64) (r := 256 * x.1 + 64 * j) (n' := 64) (c' := 256 - 64 * j) rfl rfl rfl rfl rfl Try.underlying77 Try.sizeOf5 (by exact ⟨⟨_, _, rfl, by omega, by omega⟩, ⟨_, _, rfl, by omega, by omega⟩⟩) (by split <;> omega) (by omega) (by omega)) ?_
        simp only [Act.put, zq1, zq2, zq3]
        refine ps M27 (y_fa (r := 1) rfl rfl rfl Try.underlying79 rfl Try.sizeOf77 rfl) ?_
        simp only [Act.put, zq1, zq2, zq3]
        refine ps M27 (y_move (v := .int .i64 ((64 * j : Nat) : Int)) rfl rfl rfl) ?_
        simp only [Act.put, zq1, zq2, zq3]
        refine ps M27 (y_move (v := .int .i64 ((64 * j + 64 : Nat) : Int)) rfl rfl rfl) ?_
        simp only [Act.put, zq1, zq2, zq3]
        refine ps M27 (y_sla (l := 64 * j) (h := 64 * j + 64) (r := 1 + 64 * j) (n' := 64) (c' := 256 - 64 * j) rfl rfl rfl rfl rfl Try.underlying77 Try.sizeOf5 (by exact ⟨⟨_, _, rfl, by omega, by omega⟩, ⟨_, _, rfl, by omega, by omega⟩⟩) (by split <;> omega) (by omega) (by omega)) ?_
        simp only [Act.put, zq1, zq2, zq3]
        refine wpStill_nil ?_
        refine pe rfl (fun K hK => ?_)
        refine e_copy M27 2 (l := ((x.2.drop (64 * j)).take 64)) rfl rfl Try.underlying23 Try.sizeOf5 rfl rfl rfl (by rw [hpartl]; rfl) (blk_row_mid (M27.get 0 rfl) (by rw [hpartl]; show ((.int .i64 (x.1 : Int) :: bvs x.2 : List Value).drop (1 + 64 * j)).take 64 = _; rw [Nat.add_comm 1, List.drop_succ_cons]; unfold bvs; rw [List.map_take, List.map_drop])) (by rw [pagesC_len hps2, hpl2, hpartl]; omega) ?_
        intro w28 M28
        replace M28 : Mem w (foots [disk D p pg mb (.slice (some ⟨gq, 0, none⟩) D.q.length cq)]) w28 [blk gw 79 (wC x), blk p 57 (dC D pg mb (.slice (some ⟨gq, 0, none⟩) D.q.length cq)), blk pg 77 (pagesC (((crashP D.pages ((D.q.zip l).take k)).set x.1 (mixS (l.getD k 0) x.2 ((crashP D.pages ((D.q.zip l).take k)).getD x.1 []) j)).set x.1 (splice (((crashP D.pages ((D.q.zip l).take k)).set x.1 (mixS (l.getD k 0) x.2 ((crashP D.pages ((D.q.zip l).take k)).getD x.1 []) j)).getD x.1 []) (64 * j) ((x.2.drop (64 * j)).take 64)))), lst 79 257 (.slice (some ⟨gq, 0, none⟩) D.q.length cq) D.q.length (qC D.q), mapq mb D.q] := by rw [page_part hps2 (by rw [hpl2]; exact hxp.1) (by rw [hpartl]; omega)] at M28; exact M28
        clear M27
        refine hK.out _ _ ?_
        clear hK K
        simp only [Act.put, zq1, zq2, zq3]
        refine wpList_nil ?_
        refine hK22 _ _ ?_
        clear hK22
        refine wp_region_lit ?_
        refine pl M28 (y_add (r := (j : Int) + 1) rfl rfl rfl rfl (rfl) (by omega)) ?_
        simp only [Act.put, zq1, zq2, zq3]
        refine pl M28 (y_move (v := .int .i64 ((j : Int) + 1)) rfl rfl rfl) ?_
        simp only [Act.put, zq1, zq2, zq3]
        refine wpList_nil ?_
        refine ⟨⟨j + 1, [.int .i64 (j : Int), .int .i64 ((64 * j : Nat) : Int), .int .i64 ((64 * j + 64 : Nat) : Int), .bool true, .int .i64 (j : Int), .slice (some ⟨fb, fo, none⟩) n c, .int .i64 (k : Int), .pointer (some ⟨fb, fo + k, none⟩), .int .u8 ((l.getD k 0).toNat : Int), .int .i64 (j : Int), .int .u8 (((l.getD k 0).toNat >>> j : Nat) : Int), .int .u8 (((l.getD k 0).toNat >>> j % 2 : Nat) : Int), .bool true, .int .i64 (j : Int), .int .i64 ((64 * j : Nat) : Int), .int .i64 (j : Int), .int .i64 ((j : Int) + 1), .int .i64 ((64 * j + 64 : Nat) : Int), .pointer (some ⟨p, 0, none⟩), .pointer (some ⟨p, 0, none⟩), .pointer (some ⟨p, 4, none⟩), .slice (some ⟨pg, 0, none⟩) D.pages.length D.pages.length, .pointer (some ⟨gw, 0, none⟩), .int .i64 (x.1 : Int), .pointer (some ⟨pg, 256 * x.1, none⟩), .int .i64 ((64 * j : Nat) : Int), .int .i64 ((64 * j + 64 : Nat) : Int), .slice (some ⟨pg, 256 * x.1 + 64 * j, none⟩) 64 (256 - 64 * j), .pointer (some ⟨gw, 1, none⟩), .int .i64 ((64 * j : Nat) : Int), .int .i64 ((64 * j + 64 : Nat) : Int), .slice (some ⟨gw, 1 + 64 * j, none⟩) 64 (256 - 64 * j), .int .i64 (((x.2.drop (64 * j)).take 64).length : Int), .int .i64 ((j : Int) + 1)], rfl, by omega, (show Mem w (foots [disk D p pg mb (.slice (some ⟨gq, 0, none⟩) D.q.length cq)]) w28 [blk gw 79 (wC x), blk p 57 (dC D pg mb (.slice (some ⟨gq, 0, none⟩) D.q.length cq)), blk pg 77 (pagesC ((crashP D.pages ((D.q.zip l).take k)).set x.1 (mixS (l.getD k 0) x.2 ((crashP D.pages ((D.q.zip l).take k)).getD x.1 []) (j + 1)))), lst 79 257 (.slice (some ⟨gq, 0, none⟩) D.q.length cq) D.q.length (qC D.q), mapq mb D.q] from by rw [← hstep]; exact M28)⟩, ?_⟩
        simp [intOf]; omega
      · have hstep : (crashP D.pages ((D.q.zip l).take k)).set x.1 (mixS (l.getD k 0) x.2 ((crashP D.pages ((D.q.zip l).take k)).getD x.1 []) j) = (crashP D.pages ((D.q.zip l).take k)).set x.1 (mixS (l.getD k 0) x.2 ((crashP D.pages ((D.q.zip l).take k)).getD x.1 []) (j + 1)) := by
          rw [mixS_succ]
          unfold mix1
          rw [if_neg (by omega)]
        refine pl M18 (y_eql (b := false) rfl rfl rfl rfl (decide_eq_false h25)) ?_
        simp only [Act.put, zq1, zq2, zq3]
        refine wpList_nil ?_
        refine hK24 _ _ ?_
        clear hK24
        refine wp_cond_false rfl ?_
        refine wp_skip ?_
        refine hK22 _ _ ?_
        clear hK22
        refine wp_region_lit ?_
        refine pl M18 (y_add (r := (j : Int) + 1) rfl rfl rfl rfl (rfl) (by omega)) ?_
        simp only [Act.put, zq1, zq2, zq3]
        refine pl M18 (y_move (v := .int .i64 ((j : Int) + 1)) rfl rfl rfl) ?_
        simp only [Act.put, zq1, zq2, zq3]
        refine wpList_nil ?_
        refine ⟨⟨j + 1, [.int .i64 (j : Int), (us16.getD 1 undef), (us16.getD 2 undef), .bool true, .int .i64 (j : Int), .slice (some ⟨fb, fo, none⟩) n c, .int .i64 (k : Int), .pointer (some ⟨fb, fo + k, none⟩), .int .u8 ((l.getD k 0).toNat : Int), .int .i64 (j : Int), .int .u8 (((l.getD k 0).toNat >>> j : Nat) : Int), .int .u8 (((l.getD k 0).toNat >>> j % 2 : Nat) : Int), .bool false, (us16.getD 13 undef), (us16.getD 14 undef), (us16.getD 15 undef), (us16.getD 16 undef), (us16.getD 17 undef), (us16.getD 18 undef), (us16.getD 19 undef), (us16.getD 20 undef), (us16.getD 21 undef), (us16.getD 22 undef), (us16.getD 23 undef), (us16.getD 24 undef), (us16.getD 25 undef), (us16.getD 26 undef), (us16.getD 27 undef), (us16.getD 28 undef), (us16.getD 29 undef), (us16.getD 30 undef), (us16.getD 31 undef), (us16.getD 32 undef), .int .i64 ((j : Int) + 1)], rfl, by omega, (show Mem w (foots [disk D p pg mb (.slice (some ⟨gq, 0, none⟩) D.q.length cq)]) w18 [blk gw 79 (wC x), blk p 57 (dC D pg mb (.slice (some ⟨gq, 0, none⟩) D.q.length cq)), blk pg 77 (pagesC ((crashP D.pages ((D.q.zip l).take k)).set x.1 (mixS (l.getD k 0) x.2 ((crashP D.pages ((D.q.zip l).take k)).getD x.1 []) (j + 1)))), lst 79 257 (.slice (some ⟨gq, 0, none⟩) D.q.length cq) D.q.length (qC D.q), mapq mb D.q] from by rw [← hstep]; exact M18)⟩, ?_⟩
        simp [intOf]; omega
    · have hj4 : (crashP D.pages ((D.q.zip l).take k)).set x.1 (mixS (l.getD k 0) x.2 ((crashP D.pages ((D.q.zip l).take k)).getD x.1 []) j) = (crashP D.pages ((D.q.zip l).take k)).set x.1 (mixS (l.getD k 0) x.2 ((crashP D.pages ((D.q.zip l).take k)).getD x.1 []) 4) := by rw [show j = 4 by omega]
      refine pl M18 (y_lss (b := false) rfl rfl rfl rfl (decide_eq_false h20)) ?_
      simp only [Act.put, zq1, zq2, zq3]
      refine wpList_nil ?_
      refine hK19 _ _ ?_
      clear hK19
      refine wp_seq_k (fun K29 hK29 => ?_)
      refine wp_cond_false rfl ?_
      refine wp_exit ?_
      refine hK11 _ _ ?_
      clear hK11
      refine wp_region_lit ?_
      refine pl M18 (y_add (r := (k : Int) + 1) rfl rfl rfl rfl (rfl) (by omega)) ?_
      simp only [Act.put, zq1, zq2, zq3]
      refine pl M18 (y_move (v := .int .i64 ((k : Int) + 1)) rfl rfl rfl) ?_
      simp only [Act.put, zq1, zq2, zq3]
      refine wpList_nil ?_
      refine ⟨⟨k + 1, [.int .i64 (k : Int), .pointer (some ⟨gw, 0, none⟩), (us16.getD 0 undef), (us16.getD 1 undef), (us16.getD 2 undef), .bool true, .int .i64 (k : Int), .pointer (some ⟨gq, 257 * k, none⟩), .agg ((wC x)).toArray, .int .i64 (j : Int), .bool false, (us16.getD 4 undef), (us16.getD 5 undef), (us16.getD 6 undef), (us16.getD 7 undef), (us16.getD 8 undef), (us16.getD 9 undef), (us16.getD 10 undef), (us16.getD 11 undef), (us16.getD 12 undef), (us16.getD 13 undef), (us16.getD 14 undef), (us16.getD 15 undef), (us16.getD 16 undef), (us16.getD 17 undef), (us16.getD 18 undef), (us16.getD 19 undef), (us16.getD 20 undef), (us16.getD 21 undef), (us16.getD 22 undef), (us16.getD 23 undef), (us16.getD 24 undef), (us16.getD 25 undef), (us16.getD 26 undef), (us16.getD 27 undef), (us16.getD 28 undef), (us16.getD 29 undef), (us16.getD 30 undef), (us16.getD 31 undef), (us16.getD 32 undef), (us16.getD 33 undef), .int .i64 ((k : Int) + 1)], rfl, by omega, (show Mem w (foots [disk D p pg mb (.slice (some ⟨gq, 0, none⟩) D.q.length cq)]) w18 [blk p 57 (dC D pg mb (.slice (some ⟨gq, 0, none⟩) D.q.length cq)), blk pg 77 (pagesC (crashP D.pages ((D.q.zip l).take (k + 1)))), lst 79 257 (.slice (some ⟨gq, 0, none⟩) D.q.length cq) D.q.length (qC D.q), mapq mb D.q] from by rw [crashP_take hz, ← hj4]; exact M18.arr [1, 2, 3, 4] (by decide))⟩, ?_⟩
      simp [intOf]; omega
  · obtain rfl : k = m := by omega
    have hta : (D.q.zip l).take k = D.q.zip l := List.take_of_length_le (by rw [List.length_zip, hr.1]; omega)
    rw [hta] at M7
    refine pl M7 (y_lss (b := false) rfl rfl rfl rfl (decide_eq_false h9)) ?_
    simp only [Act.put, zq1, zq2, zq3]
    refine wpList_nil ?_
    refine hK8 _ _ ?_
    clear hK8
    refine wp_seq_k (fun K30 hK30 => ?_)
    refine wp_cond_false rfl ?_
    refine wp_exit ?_
    refine hK3 _ _ ?_
    clear hK3
    refine wp_seq_k (fun K31 hK31 => ?_)
    refine wp_region_lit ?_
    refine pl M7 (y_move (v := .pointer (some ⟨p, 0, none⟩)) rfl rfl rfl) ?_
    simp only [Act.put, zq1, zq2, zq3]
    have M32 : Mem w (foots [disk D p pg mb (.slice (some ⟨gq, 0, none⟩) D.q.length cq)]) w7 [blk p 57 ([.int .i64 D.reads, .int .i64 D.writes, .int .i64 D.syncs, .int .i64 (D.q.length : Int), .slice (some ⟨pg, 0, none⟩) ((crashP D.pages (D.q.zip l)).length) ((crashP D.pages (D.q.zip l)).length), .slice (some ⟨gq, 0, none⟩) D.q.length cq, .map (some mb), .int .i64 D.armed, .bool D.dead, .int .i64 D.epoch]), blk pg 77 (pagesC (crashP D.pages (D.q.zip l))), lst 79 257 (.slice (some ⟨gq, 0, none⟩) D.q.length cq) D.q.length (qC D.q), mapq mb D.q] := by rw [crashP_len]; exact M7
    refine pe rfl (fun K hK => ?_)
    refine e_call 27 [.pointer (some ⟨p, 0, none⟩)] rfl rfl Try.call27 (close_any (Mem.here (L := [disk (({ D with pages := crashP D.pages (D.q.zip l) } : DV)) p pg mb (.slice (some ⟨gq, 0, none⟩) D.q.length cq)]) (R := []) (disk_close (D := ({ D with pages := crashP D.pages (D.q.zip l) } : DV)) (R := []) (crash_ok2 hok l) M32)) ) ?_
    rintro e w33 ⟨rfl, H33⟩
    have M33 : Mem w _ w33 [blk p 57 (dC ({ ({ D with pages := crashP D.pages (D.q.zip l) } : DV) with q := [] }) pg mb (.slice none 0 0)), blk pg 77 (pagesC ({ ({ D with pages := crashP D.pages (D.q.zip l) } : DV) with q := [] }).pages), lst 79 257 (.slice none 0 0) (({ ({ D with pages := crashP D.pages (D.q.zip l) } : DV) with q := [] }).q.length) (qC ({ ({ D with pages := crashP D.pages (D.q.zip l) } : DV) with q := [] }).q), mapq mb (({ ({ D with pages := crashP D.pages (D.q.zip l) } : DV) with q := [] }).q)] := (disk_open (Mem.frame (Pre := [disk (({ D with pages := crashP D.pages (D.q.zip l) } : DV)) p pg mb (.slice (some ⟨gq, 0, none⟩) D.q.length cq)]) (Post := [disk ({ ({ D with pages := crashP D.pages (D.q.zip l) } : DV) with q := [] }) p pg mb (.slice none 0 0)]) (R := []) (disk_close (D := ({ D with pages := crashP D.pages (D.q.zip l) } : DV)) (R := []) (crash_ok2 hok l) M32) H33)).2
    refine ⟨_, rfl, ?_⟩
    refine hK.out _ _ ?_
    clear hK K
    simp only [Act.put, zq1, zq2, zq3]
    refine wpList_nil ?_
    refine hK31 _ _ ?_
    clear hK31
    refine wp_seq_k (fun K34 hK34 => ?_)
    refine wp_region_lit ?_
    refine pl M33 (y_move (v := .pointer (some ⟨p, 0, none⟩)) rfl rfl rfl) ?_
    simp only [Act.put, zq1, zq2, zq3]
    refine pl M33 (y_move (v := .pointer (some ⟨p, 0, none⟩)) rfl rfl rfl) ?_
    simp only [Act.put, zq1, zq2, zq3]
    refine pl M33 (y_nil rfl rfl rfl) ?_
    simp only [Act.put, zq1, zq2, zq3]
    refine pl M33 (y_fa (r := 8) rfl rfl rfl Try.underlying57 rfl Try.sizeOf4 rfl) ?_
    simp only [Act.put, zq1, zq2, zq3]
    refine pe rfl (fun K hK => ?_)
    refine e_store M33 0 (v := .bool false) rfl rfl rfl rfl rfl rfl Try.sizeOf4 rfl (show (8 : Nat) < 10 by decide) ?_
    intro w35 (M35 : Mem w _ w35 [blk p 57 ([.int .i64 (({ ({ D with pages := crashP D.pages (D.q.zip l) } : DV) with q := [] }).reads), .int .i64 (({ ({ D with pages := crashP D.pages (D.q.zip l) } : DV) with q := [] }).writes), .int .i64 (({ ({ D with pages := crashP D.pages (D.q.zip l) } : DV) with q := [] }).syncs), .int .i64 (({ ({ D with pages := crashP D.pages (D.q.zip l) } : DV) with q := [] }).q.length : Int), .slice (some ⟨pg, 0, none⟩) (({ ({ D with pages := crashP D.pages (D.q.zip l) } : DV) with q := [] }).pages.length) (({ ({ D with pages := crashP D.pages (D.q.zip l) } : DV) with q := [] }).pages.length), .slice none 0 0, .map (some mb), .int .i64 (({ ({ D with pages := crashP D.pages (D.q.zip l) } : DV) with q := [] }).armed), .bool false, .int .i64 (({ ({ D with pages := crashP D.pages (D.q.zip l) } : DV) with q := [] }).epoch)]), blk pg 77 (pagesC ({ ({ D with pages := crashP D.pages (D.q.zip l) } : DV) with q := [] }).pages), lst 79 257 (.slice none 0 0) (({ ({ D with pages := crashP D.pages (D.q.zip l) } : DV) with q := [] }).q.length) (qC ({ ({ D with pages := crashP D.pages (D.q.zip l) } : DV) with q := [] }).q), mapq mb (({ ({ D with pages := crashP D.pages (D.q.zip l) } : DV) with q := [] }).q)])
    clear M33
    refine hK.out _ _ ?_
    clear hK K
    simp only [Act.put, zq1, zq2, zq3]
    refine pl M35 (y_nil rfl rfl rfl) ?_
    simp only [Act.put, zq1, zq2, zq3]
    refine pl M35 (y_fa (r := 7) rfl rfl rfl Try.underlying57 rfl Try.sizeOf3 rfl) ?_
    simp only [Act.put, zq1, zq2, zq3]
    refine pe rfl (fun K hK => ?_)
    refine e_store M35 0 (v := .int .i64 0) rfl rfl rfl rfl rfl rfl Try.sizeOf3 rfl (show (7 : Nat) < 10 by decide) ?_
    intro w36 (M36 : Mem w _ w36 [blk p 57 ([.int .i64 (({ ({ D with pages := crashP D.pages (D.q.zip l) } : DV) with q := [] }).reads), .int .i64 (({ ({ D with pages := crashP D.pages (D.q.zip l) } : DV) with q := [] }).writes), .int .i64 (({ ({ D with pages := crashP D.pages (D.q.zip l) } : DV) with q := [] }).syncs), .int .i64 (({ ({ D with pages := crashP D.pages (D.q.zip l) } : DV) with q := [] }).q.length : Int), .slice (some ⟨pg, 0, none⟩) (({ ({ D with pages := crashP D.pages (D.q.zip l) } : DV) with q := [] }).pages.length) (({ ({ D with pages := crashP D.pages (D.q.zip l) } : DV) with q := [] }).pages.length), .slice none 0 0, .map (some mb), .int .i64 0, .bool false, .int .i64 (({ ({ D with pages := crashP D.pages (D.q.zip l) } : DV) with q := [] }).epoch)]), blk pg 77 (pagesC ({ ({ D with pages := crashP D.pages (D.q.zip l) } : DV) with q := [] }).pages), lst 79 257 (.slice none 0 0) (({ ({ D with pages := crashP D.pages (D.q.zip l) } : DV) with q := [] }).q.length) (qC ({ ({ D with pages := crashP D.pages (D.q.zip l) } : DV) with q := [] }).q), mapq mb (({ ({ D with pages := crashP D.pages (D.q.zip l) } : DV) with q := [] }).q)])
    clear M35
    refine hK.out _ _ ?_
    clear hK K
    simp only [Act.put, zq1, zq2, zq3]
    refine wpList_nil ?_
    refine hK34 _ _ ?_
    clear hK34
    refine wp_seq_k (fun K37 hK37 => ?_)
    refine wp_region_lit ?_
    refine pl M36 (y_move (v := .pointer (some ⟨p, 0, none⟩)) rfl rfl rfl) ?_
    simp only [Act.put, zq1, zq2, zq3]
    refine pl M36 (y_nil rfl rfl rfl) ?_
    simp only [Act.put, zq1, zq2, zq3]
    refine pl M36 (y_fa (r := 9) rfl rfl rfl Try.underlying57 rfl Try.sizeOf3 rfl) ?_
    simp only [Act.put, zq1, zq2, zq3]
    refine pl M36 (y_load (v := .int .i64 (({ ({ D with pages := crashP D.pages (D.q.zip l) } : DV) with q := [] }).epoch)) rfl rfl rfl Try.isAgg3 (fun W hW => hW.get 0 rfl) (rfl)) ?_
    simp only [Act.put, zq1, zq2, zq3]
    refine pl M36 (y_addw rfl rfl rfl rfl) ?_
    simp only [Act.put, zq1, zq2, zq3]
    refine pl M36 (y_nil rfl rfl rfl) ?_
    simp only [Act.put, zq1, zq2, zq3]
    refine pl M36 (y_fa (r := 9) rfl rfl rfl Try.underlying57 rfl Try.sizeOf3 rfl) ?_
    simp only [Act.put, zq1, zq2, zq3]
    refine pe rfl (fun K hK => ?_)
    refine e_store M36 0 (v := .int .i64 (wrap64 (({ ({ D with pages := crashP D.pages (D.q.zip l) } : DV) with q := [] }).epoch + 1))) rfl rfl rfl rfl rfl rfl Try.sizeOf3 rfl (show (9 : Nat) < 10 by decide) ?_
    intro w38 (M38 : Mem w _ w38 [blk p 57 ([.int .i64 (({ ({ D with pages := crashP D.pages (D.q.zip l) } : DV) with q := [] }).reads), .int .i64 (({ ({ D with pages := crashP D.pages (D.q.zip l) } : DV) with q := [] }).writes), .int .i64 (({ ({ D with pages := crashP D.pages (D.q.zip l) } : DV) with q := [] }).syncs), .int .i64 (({ ({ D with pages := crashP D.pages (D.q.zip l) } : DV) with q := [] }).q.length : Int), .slice (some ⟨pg, 0, none⟩) (({ ({ D with pages := crashP D.pages (D.q.zip l) } : DV) with q := [] }).pages.length) (({ ({ D with pages := crashP D.pages (D.q.zip l) } : DV) with q := [] }).pages.length), .slice none 0 0, .map (some mb), .int .i64 0, .bool false, .int .i64 (wrap64 (({ ({ D with pages := crashP D.pages (D.q.zip l) } : DV) with q := [] }).epoch + 1))]), blk pg 77 (pagesC ({ ({ D with pages := crashP D.pages (D.q.zip l) } : DV) with q := [] }).pages), lst 79 257 (.slice none 0 0) (({ ({ D with pages := crashP D.pages (D.q.zip l) } : DV) with q := [] }).q.length) (qC ({ ({ D with pages := crashP D.pages (D.q.zip l) } : DV) with q := [] }).q), mapq mb (({ ({ D with pages := crashP D.pages (D.q.zip l) } : DV) with q := [] }).q)])
    clear M36
    refine hK.out _ _ ?_
    clear hK K
    simp only [Act.put, zq1, zq2, zq3]
    refine wpList_nil ?_
    refine hK37 _ _ ?_
    clear hK37
    refine wp_seq_k (fun K39 hK39 => ?_)
    refine wp_region_lit ?_
    refine pl M38 (y_move (v := .int .i64 (D.q.length : Int)) rfl rfl rfl) ?_
    simp only [Act.put, zq1, zq2, zq3]
    refine pl M38 (y_assign (v := .int .i64 (D.q.length : Int)) rfl rfl rfl) ?_
    simp only [Act.put, zq1, zq2, zq3]
    refine wpList_nil ?_
    refine hK39 _ _ ?_
    clear hK39
    refine wp_ret ?_
    try simp only [Exit.inBlock, Exit.then]
    refine bodyPost_ret (v := .int .i64 (D.q.length : Int)) (res1 rfl rfl) rfl ?_
    exact ⟨_, rfl, disk_close (D := crashD D l) (crash_ok hok l) M38⟩
theorem crash_any {D : DV} {p pg mb : Nat} {qv : Value} {w : World} (hM : Mem w (foots [disk D p pg mb qv]) w [disk D p pg mb qv]) (ao : Option Addr) (n c : Nat) (l : List UInt8) (hr : Row w ao n l) (hF : ∀ b o, ao = some ⟨b, o, none⟩ → 0 < n → b ∉ foots [disk D p pg mb qv]) (hnm : n ≤ 140737488355328) : Calls Try.prog 11 #[.pointer (some ⟨p, 0, none⟩), .slice ao n c] w fun e w' => ∃ qv', e = .returned (.int .i64 (D.q.length : Int)) ∧ Mem w (foots [disk D p pg mb qv]) w' [disk (crashD D l) p pg mb qv'] := by
  rcases lst_at ((disk_open hM).2.get 2 rfl) with ⟨hv, h0, _⟩ | ⟨g, cq, hv, hc, hm⟩
  · exact crash_nil hM ao n c l hnm hv (List.eq_nil_of_length_eq_zero h0)
  · by_cases hn : n = 0
    · exact crash_none hM ao n c l hnm g cq hv (by omega) hc hn (List.eq_nil_of_length_eq_zero (by rw [hr.1]; exact hn))
    · obtain ⟨fb, fo, rfl⟩ := hr.at0 (by omega)
      exact crash_some hM fb fo n c l hnm g cq hv (by omega) hc hr hF
end Go.Proofs.Ytdnahagibodnpaa

/- Pages as bytes: Unpack. -/
namespace Go.Proofs.Ytdnahagibodnpaa
set_option linter.unusedSectionVars false
open Go Go.RowKit
set_option linter.unusedVariables false
set_option linter.unusedSimpArgs false
theorem unpg_cases {page : Nat} {l : List UInt8} (hp : 2 ≤ page ∧ page < 4096) (hl : l.length = 256) :
    (wholeB l = false → unpgE page l = 52) ∧ (wholeB l = true → ¬ KindOk ((l.getD 0 0).toNat : Int) → unpgE page l = 50) ∧
    (wholeB l = true → KindOk ((l.getD 0 0).toNat : Int) → 246 < (l.getD 1 0).toNat → unpgE page l = 51) ∧
    (wholeB l = true → KindOk ((l.getD 0 0).toNat : Int) → ¬ 246 < (l.getD 1 0).toNat → ((decN ((l.drop 2).take 4) : Nat) : Int) ≠ page → unpgE page l = 54) ∧
    (wholeB l = true → KindOk ((l.getD 0 0).toNat : Int) → ¬ 246 < (l.getD 1 0).toNat → ((decN ((l.drop 2).take 4) : Nat) : Int) = page → allZ ((l.drop (6 + (l.getD 1 0).toNat)).take (246 - (l.getD 1 0).toNat)) = false → unpgE page l = 53) ∧
    (wholeB l = true → KindOk ((l.getD 0 0).toNat : Int) → ¬ 246 < (l.getD 1 0).toNat → ((decN ((l.drop 2).take 4) : Nat) : Int) = page → allZ ((l.drop (6 + (l.getD 1 0).toNat)).take (246 - (l.getD 1 0).toNat)) = true → unpgE page l = 0) := by
  have h1 : ¬ ¬ PlaceOk (page : Int) := fun h => h ⟨by omega, by omega⟩
  have h2 : ¬ (l.length ≠ 256) := fun h => h hl
  refine ⟨fun a => ?_, fun a b => ?_, fun a b c => ?_, fun a b c d => ?_, fun a b c d e => ?_, fun a b c d e => ?_⟩ <;> unfold unpgE <;> rw [if_neg h1, if_neg h2]
  · rw [if_pos a]
  · rw [if_neg (by rw [a]; decide), if_pos b]
  · rw [if_neg (by rw [a]; decide), if_neg (fun h => h b), if_pos c]
  · rw [if_neg (by rw [a]; decide), if_neg (fun h => h b), if_neg c, if_pos d]
  · rw [if_neg (by rw [a]; decide), if_neg (fun h => h b), if_neg c, if_neg (fun h => h d), if_pos e]
  · rw [if_neg (by rw [a]; decide), if_neg (fun h => h b), if_neg c, if_neg (fun h => h d), if_neg (by rw [e]; decide)]
set_option maxRecDepth 100000 in
set_option maxHeartbeats 4000000 in
theorem unpack_ok (page rb ro c : Nat) (l : List UInt8) (w : World) (hr : Row w (some ⟨rb, ro, none⟩) 256 l) (hp : 2 ≤ page ∧ page < 4096) (hc : 256 ≤ c) (hcm : c ≤ 9223372036854775807) : Calls Try.prog 29 #[.int .i64 (page : Int), .slice (some ⟨rb, ro, none⟩) 256 c] w fun e w' => ∃ v, e = .returned (.tuple #[.int .i64 (unpgK page l), v, .int .i64 (unpgE page l)]) ∧ Mem w [] w' [lst 5 1 v (unpgL page l).length (bvs (unpgL page l))] := by
  have M := Mem.nil w
  have hl := hr.1
  have hp1 := hp.1
  have hp2 := hp.2
  have hb1 := (l.getD 1 0).toNat_lt
  have hb0 := (l.getD 0 0).toNat_lt
  have hpl : 246 < (l.getD 1 0).toNat ∨ ((l.drop 6).take (l.getD 1 0).toNat).length = (l.getD 1 0).toNat := by rw [List.length_take, List.length_drop]; omega
  go_enter Try.func29, Try.ntmps29
  refine wp_seq_k (fun K1 hK1 => ?_)
  refine wp_region_lit ?_
  refine pl M (y_assign (v := .int .i64 0) rfl rfl rfl) ?_
  simp only [Act.put, zq1, zq2, zq3]
  refine pl M (y_assign (v := .slice none 0 0) rfl rfl rfl) ?_
  simp only [Act.put, zq1, zq2, zq3]
  refine pl M (y_assign (v := .int .i64 0) rfl rfl rfl) ?_
  simp only [Act.put, zq1, zq2, zq3]
  refine wpList_nil ?_
  refine hK1 _ _ ?_
  clear hK1
  refine wp_seq_k (fun K2 hK2 => ?_)
  refine wp_seq_k (fun K3 hK3 => ?_)
  refine wp_region_lit ?_
  refine pl M (y_move (v := .int .i64 (page : Int)) rfl rfl rfl) ?_
  simp only [Act.put, zq1, zq2, zq3]
  refine pe rfl (fun K hK => ?_)
  refine e_call 39 [.int .i64 (page : Int)] rfl rfl Try.call39 (place_any (page : Int) _) ?_
  rintro e w4 ⟨rfl, H4⟩
  have M4 : Mem w [] w4 [] := M.step H4
  rw [(decide_eq_true (show PlaceOk page from ⟨by omega, by omega⟩))]
  refine ⟨_, rfl, ?_⟩
  refine hK.out _ _ ?_
  clear hK K
  simp only [Act.put, zq1, zq2, zq3]
  refine pl M4 (y_not rfl rfl rfl rfl) ?_
  simp only [Act.put, zq1, zq2, zq3]
  refine wpList_nil ?_
  refine hK3 _ _ ?_
  clear hK3
  refine wp_cond_false rfl ?_
  refine wp_skip ?_
  refine hK2 _ _ ?_
  clear hK2
  refine wp_seq_k (fun K5 hK5 => ?_)
  refine wp_seq_k (fun K6 hK6 => ?_)
  refine wp_region_lit ?_
  refine pl M4 (y_move (v := .slice (some ⟨rb, ro, none⟩) 256 c) rfl rfl rfl) ?_
  simp only [Act.put, zq1, zq2, zq3]
  refine pl M4 (y_len rfl rfl rfl Try.underlying23) ?_
  simp only [Act.put, zq1, zq2, zq3]
  refine pl M4 (y_neq (b := false) rfl rfl rfl rfl (by rw [decide_eq_true (by omega)]; rfl)) ?_
  simp only [Act.put, zq1, zq2, zq3]
  refine wpList_nil ?_
  refine hK6 _ _ ?_
  clear hK6
  refine wp_cond_false rfl ?_
  refine wp_skip ?_
  refine hK5 _ _ ?_
  clear hK5
  refine wp_seq_k (fun K7 hK7 => ?_)
  refine wp_seq_k (fun K8 hK8 => ?_)
  refine wp_region_lit ?_
  refine pl M4 (y_move (v := .slice (some ⟨rb, ro, none⟩) 256 c) rfl rfl rfl) ?_
  simp only [Act.put, zq1, zq2, zq3]
  refine pe rfl (fun K hK => ?_)
  refine e_call 43 [.slice (some ⟨rb, ro, none⟩) 256 c] rfl rfl Try.call43 (whole_any (some ⟨rb, ro, none⟩) 256 c l _ (M4.row hr (by simp)) (by unfold maxLen; omega) hc (by unfold maxLen; omega)) ?_
  rintro e w9 ⟨rfl, H9⟩
  have M9 : Mem w [] w9 [] := M4.low H9
  rcases Bool.eq_false_or_eq_true (wholeB l) with h10 | h10
  · rw [h10]
    refine ⟨_, rfl, ?_⟩
    refine hK.out _ _ ?_
    clear hK K
    simp only [Act.put, zq1, zq2, zq3]
    refine pl M9 (y_not rfl rfl rfl rfl) ?_
    simp only [Act.put, zq1, zq2, zq3]
    refine wpList_nil ?_
    refine hK8 _ _ ?_
    clear hK8
    refine wp_cond_false rfl ?_
    refine wp_skip ?_
    refine hK7 _ _ ?_
    clear hK7
    refine wp_seq_k (fun K11 hK11 => ?_)
    have M12 : Mem w [] w9.drew [] := M9.drew
    clear M9
    refine wp_region_tail 9 (by kernel_rfl) (by kernel_rfl) ?_
    simp only [List.take_succ_cons, List.take_zero, List.drop_succ_cons, List.drop_zero]
    refine ps M12 (y_move (v := .slice (some ⟨rb, ro, none⟩) 256 c) rfl rfl rfl) ?_
    simp only [Act.put, zq1, zq2, zq3]
    refine ps M12 (y_ias (r := ro) rfl rfl rfl rfl Try.underlying23 Try.sizeOf5 (by omega) (by omega)) ?_
    simp only [Act.put, zq1, zq2, zq3]
    refine ps M12 (y_loadc (v := .int .u8 ((l.getD 0 0).toNat : Int)) rfl rfl rfl Try.isAgg5 (fun W hW => (hW.row hr (by simp)).getD 0 (by omega))) ?_
    simp only [Act.put, zq1, zq2, zq3]
    refine ps M12 (y_conv (r := ((l.getD 0 0).toNat : Int)) rfl rfl rfl Try.underlying5 Try.underlying3 (wrap64_of (by omega))) ?_
    simp only [Act.put, zq1, zq2, zq3]
    refine ps M12 (y_move (v := .slice (some ⟨rb, ro, none⟩) 256 c) rfl rfl rfl) ?_
    simp only [Act.put, zq1, zq2, zq3]
    refine ps M12 (y_ias (r := ro + 1) rfl rfl rfl rfl Try.underlying23 Try.sizeOf5 (by omega) (by omega)) ?_
    simp only [Act.put, zq1, zq2, zq3]
    refine ps M12 (y_loadc (v := .int .u8 ((l.getD 1 0).toNat : Int)) rfl rfl rfl Try.isAgg5 (fun W hW => (hW.row hr (by simp)).getD 1 (by omega))) ?_
    simp only [Act.put, zq1, zq2, zq3]
    refine ps M12 (y_conv (r := ((l.getD 1 0).toNat : Int)) rfl rfl rfl Try.underlying5 Try.underlying3 (wrap64_of (by omega))) ?_
    simp only [Act.put, zq1, zq2, zq3]
    refine ps M12 (y_assign (v := .int .i64 ((l.getD 0 0).toNat : Int)) rfl rfl rfl) ?_
    simp only [Act.put, zq1, zq2, zq3]
    refine wpStill_nil ?_
    refine pl M12 (y_assign (v := .int .i64 ((l.getD 1 0).toNat : Int)) rfl rfl rfl) ?_
    simp only [Act.put, zq1, zq2, zq3]
    refine wpList_nil ?_
    refine hK11 _ _ ?_
    clear hK11
    refine wp_seq_k (fun K13 hK13 => ?_)
    refine wp_block ?_
    refine wp_seq_k (fun K14 hK14 => ?_)
    refine wp_region_lit ?_
    refine pl M12 (y_move (v := .int .i64 ((l.getD 0 0).toNat : Int)) rfl rfl rfl) ?_
    simp only [Act.put, zq1, zq2, zq3]
    refine pe rfl (fun K hK => ?_)
    refine e_call 38 [.int .i64 ((l.getD 0 0).toNat : Int)] rfl rfl Try.call38 (kindOf_any ((l.getD 0 0).toNat : Int) _) ?_
    rintro e w15 ⟨rfl, H15⟩
    have M15 : Mem w [] w15 [] := M12.step H15
    rcases Bool.eq_false_or_eq_true (decide (KindOk ((l.getD 0 0).toNat : Int))) with h16 | h16
    · rw [h16]
      refine ⟨_, rfl, ?_⟩
      refine hK.out _ _ ?_
      clear hK K
      simp only [Act.put, zq1, zq2, zq3]
      refine pl M15 (y_not rfl rfl rfl rfl) ?_
      simp only [Act.put, zq1, zq2, zq3]
      refine pl M15 (y_assign (v := .bool false) rfl rfl rfl) ?_
      simp only [Act.put, zq1, zq2, zq3]
      refine wpList_nil ?_
      refine hK14 _ _ ?_
      clear hK14
      refine wp_cond_false rfl ?_
      refine wp_seq_k (fun K17 hK17 => ?_)
      refine wp_region_lit ?_
      refine pl M15 (y_move (v := .int .i64 ((l.getD 1 0).toNat : Int)) rfl rfl rfl) ?_
      simp only [Act.put, zq1, zq2, zq3]
      rcases Decidable.em ((246 : Int) < ((l.getD 1 0).toNat : Int)) with h18 | h18
      · refine pl M15 (y_gtr (b := true) rfl rfl rfl rfl (decide_eq_true h18)) ?_
        simp only [Act.put, zq1, zq2, zq3]
        refine pl M15 (y_assign (v := .bool true) rfl rfl rfl) ?_
        simp only [Act.put, zq1, zq2, zq3]
        refine wpList_nil ?_
        refine hK17 _ _ ?_
        clear hK17
        refine wp_cond_true rfl ?_
        refine wp_seq_k (fun K19 hK19 => ?_)
        refine wp_region_lit ?_
        refine pl M15 (y_assign (v := .int .i64 0) rfl rfl rfl) ?_
        simp only [Act.put, zq1, zq2, zq3]
        refine pl M15 (y_assign (v := .slice none 0 0) rfl rfl rfl) ?_
        simp only [Act.put, zq1, zq2, zq3]
        refine pl M15 (y_assign (v := .int .i64 51) rfl rfl rfl) ?_
        simp only [Act.put, zq1, zq2, zq3]
        refine wpList_nil ?_
        refine hK19 _ _ ?_
        clear hK19
        refine wp_ret ?_
        try simp only [Exit.inBlock, Exit.then]
        refine bodyPost_ret (v := .tuple #[.int .i64 0, .slice none 0 0, .int .i64 51]) (res3 rfl rfl rfl rfl) rfl ?_
        have N := (M15.nilst 5 1)
        have e1 : unpgE (page : Int) l = 51 := (unpg_cases hp hl).2.2.1 h10 (of_decide_eq_true h16) (by omega)
        obtain ⟨e2, e3⟩ := unpg_no e1 (by decide)
        rw [e1, e2, e3]
        exact ⟨_, rfl, N⟩
      · refine pl M15 (y_gtr (b := false) rfl rfl rfl rfl (decide_eq_false h18)) ?_
        simp only [Act.put, zq1, zq2, zq3]
        refine pl M15 (y_assign (v := .bool false) rfl rfl rfl) ?_
        simp only [Act.put, zq1, zq2, zq3]
        refine wpList_nil ?_
        refine hK17 _ _ ?_
        clear hK17
        refine wp_cond_false rfl ?_
        refine wp_seq_k (fun K20 hK20 => ?_)
        refine wp_region_lit ?_
        refine pl M15 (y_move (v := .slice (some ⟨rb, ro, none⟩) 256 c) rfl rfl rfl) ?_
        simp only [Act.put, zq1, zq2, zq3]
        refine pl M15 (y_sls (l := 2) (h := 256) (r := ro + 2) (n' := 254) (c' := c - 2) rfl rfl rfl rfl rfl Try.underlying23 Try.sizeOf5 (by exact ⟨rfl, ⟨_, _, rfl, by omega, by omega⟩⟩) (by split <;> omega) (by omega) (by omega)) ?_
        simp only [Act.put, zq1, zq2, zq3]
        refine pe rfl (fun K hK => ?_)
        refine e_call 44 [.slice (some ⟨rb, ro + 2, none⟩) 254 (c - 2), .int .i64 4] rfl rfl Try.call44 (get_any (some ⟨rb, ro + 2, none⟩) 254 (c - 2) (l.drop 2) 4 _ ((M15.row hr (by simp)).drop 2 (by omega)) (by omega) (by omega) (by unfold maxLen; omega)) ?_
        rintro e w21 ⟨rfl, H21⟩
        have M21 : Mem w [] w21 [] := M15.same H21
        refine ⟨_, rfl, ?_⟩
        refine hK.out _ _ ?_
        clear hK K
        simp only [Act.put, zq1, zq2, zq3]
        refine pl M21 (y_move (v := .int .i64 (page : Int)) rfl rfl rfl) ?_
        simp only [Act.put, zq1, zq2, zq3]
        rcases Decidable.em (((decN ((l.drop 2).take 4) : Nat) : Int) = (page : Int)) with h22 | h22
        · refine pl M21 (y_neq (b := false) rfl rfl rfl rfl (by rw [decide_eq_true h22]; rfl)) ?_
          simp only [Act.put, zq1, zq2, zq3]
          refine pl M21 (y_assign (v := .bool false) rfl rfl rfl) ?_
          simp only [Act.put, zq1, zq2, zq3]
          refine wpList_nil ?_
          refine hK20 _ _ ?_
          clear hK20
          refine wp_cond_false rfl ?_
          refine wp_seq_k (fun K23 hK23 => ?_)
          refine wp_region_lit ?_
          refine pl M21 (y_move (v := .slice (some ⟨rb, ro, none⟩) 256 c) rfl rfl rfl) ?_
          simp only [Act.put, zq1, zq2, zq3]
          refine pl M21 (y_move (v := .int .i64 ((l.getD 1 0).toNat : Int)) rfl rfl rfl) ?_
          simp only [Act.put, zq1, zq2, zq3]
          refine pl M21 (y_add (r := ((6 + (l.getD 1 0).toNat : Nat) : Int)) rfl rfl rfl rfl (by omega) (by omega)) ?_
          simp only [Act.put, zq1, zq2, zq3]
          refine pl M21 (y_sls (l := 6 + (l.getD 1 0).toNat) (h := 252) (r := ro + (6 + (l.getD 1 0).toNat)) (n' := 246 - (l.getD 1 0).toNat) (c' := c - (6 + (l.getD 1 0).toNat)) rfl rfl rfl rfl rfl Try.underlying23 Try.sizeOf5 (by exact ⟨⟨_, _, rfl, by omega, by omega⟩, ⟨_, _, rfl, by omega, by omega⟩⟩) (by split <;> omega) (by omega) (by omega)) ?_
          simp only [Act.put, zq1, zq2, zq3]
          refine pe rfl (fun K hK => ?_)
          refine e_call 45 [.slice (some ⟨rb, ro + (6 + (l.getD 1 0).toNat), none⟩) (246 - (l.getD 1 0).toNat) (c - (6 + (l.getD 1 0).toNat))] rfl rfl Try.call45 (allZero_any (some ⟨rb, ro + (6 + (l.getD 1 0).toNat), none⟩) (246 - (l.getD 1 0).toNat) (c - (6 + (l.getD 1 0).toNat)) ((l.drop (6 + (l.getD 1 0).toNat)).take (246 - (l.getD 1 0).toNat)) _ (((M21.row hr (by simp)).drop (6 + (l.getD 1 0).toNat) (by omega)).take (246 - (l.getD 1 0).toNat) (by omega)) (by unfold maxLen; omega)) ?_
          rintro e w24 ⟨rfl, H24⟩
          have M24 : Mem w [] w24 [] := M21.same H24
          rcases Bool.eq_false_or_eq_true (allZ ((l.drop (6 + (l.getD 1 0).toNat)).take (246 - (l.getD 1 0).toNat))) with h25 | h25
          · rw [h25]
            refine ⟨_, rfl, ?_⟩
            refine hK.out _ _ ?_
            clear hK K
            simp only [Act.put, zq1, zq2, zq3]
            refine pl M24 (y_not rfl rfl rfl rfl) ?_
            simp only [Act.put, zq1, zq2, zq3]
            refine pl M24 (y_assign (v := .bool false) rfl rfl rfl) ?_
            simp only [Act.put, zq1, zq2, zq3]
            refine wpList_nil ?_
            refine hK23 _ _ ?_
            clear hK23
            refine wp_cond_false rfl ?_
            refine wp_skip ?_
            refine hK13 _ _ ?_
            clear hK13
            refine wp_seq_k (fun K26 hK26 => ?_)
            refine wp_region_lit ?_
            refine pl M24 (y_move (v := .int .i64 ((l.getD 0 0).toNat : Int)) rfl rfl rfl) ?_
            simp only [Act.put, zq1, zq2, zq3]
            refine pl M24 (y_move (v := .slice (some ⟨rb, ro, none⟩) 256 c) rfl rfl rfl) ?_
            simp only [Act.put, zq1, zq2, zq3]
            refine pl M24 (y_move (v := .int .i64 ((l.getD 1 0).toNat : Int)) rfl rfl rfl) ?_
            simp only [Act.put, zq1, zq2, zq3]
            refine pl M24 (y_add (r := ((6 + (l.getD 1 0).toNat : Nat) : Int)) rfl rfl rfl rfl (by omega) (by omega)) ?_
            simp only [Act.put, zq1, zq2, zq3]
            refine pl M24 (y_sls (l := 6) (h := 6 + (l.getD 1 0).toNat) (r := ro + 6) (n' := (l.getD 1 0).toNat) (c' := c - 6) rfl rfl rfl rfl rfl Try.underlying23 Try.sizeOf5 (by exact ⟨⟨_, _, rfl, by omega, by omega⟩, ⟨_, _, rfl, by omega, by omega⟩⟩) (by split <;> omega) (by omega) (by omega)) ?_
            simp only [Act.put, zq1, zq2, zq3]
            have M27 : Mem w [] w24 [lst 5 1 (.slice none 0 0) 0 ([])] := M24.nilst 5 1
            refine pe rfl (fun K hK => ?_)
            refine e_append M27 0 bytesT (by decide) (news := bvs ((l.drop 6).take (l.getD 1 0).toNat)) rfl rfl rfl rfl (by rw [length_bvs, hpl.resolve_left (by omega), Nat.mul_one]) (by intro h; cases h) ((((M27.row hr (by simp)).drop 6 (by omega)).take (l.getD 1 0).toNat (by omega)).news) (bvs_oneCell _) (⟨by unfold maxLen; omega, by omega⟩) ?_
            intro v28 w28 M28
            replace M28 : Mem w [] w28 [lst 5 1 v28 ((l.getD 1 0).toNat) (bvs ((l.drop 6).take (l.getD 1 0).toNat))] := (by have h := M28; rw [Nat.zero_add] at h; exact h)
            clear M27
            obtain ⟨a28, c28, rfl⟩ := qv_at (M28.get 0 rfl)
            refine hK.out _ _ ?_
            clear hK K
            simp only [Act.put, zq1, zq2, zq3]
            refine pl M28 (y_assign (v := .int .i64 ((l.getD 0 0).toNat : Int)) rfl rfl rfl) ?_
            simp only [Act.put, zq1, zq2, zq3]
            refine pl M28 (y_assign (v := .slice a28 ((l.getD 1 0).toNat) c28) rfl rfl rfl) ?_
            simp only [Act.put, zq1, zq2, zq3]
            refine pl M28 (y_assign (v := .int .i64 0) rfl rfl rfl) ?_
            simp only [Act.put, zq1, zq2, zq3]
            refine wpList_nil ?_
            refine hK26 _ _ ?_
            clear hK26
            refine wp_ret ?_
            try simp only [Exit.inBlock, Exit.then]
            refine bodyPost_ret (v := .tuple #[.int .i64 ((l.getD 0 0).toNat : Int), .slice a28 ((l.getD 1 0).toNat) c28, .int .i64 0]) (res3 rfl rfl rfl rfl) rfl ?_
            have e1 : unpgE (page : Int) l = 0 := (unpg_cases hp hl).2.2.2.2.2 h10 (of_decide_eq_true h16) (by omega) h22 h25
            obtain ⟨e2, e3⟩ := unpg_yes e1
            rw [e1, e2, e3, hpl.resolve_left (by omega)]
            exact ⟨_, rfl, M28⟩
          · rw [h25]
            refine ⟨_, rfl, ?_⟩
            refine hK.out _ _ ?_
            clear hK K
            simp only [Act.put, zq1, zq2, zq3]
            refine pl M24 (y_not rfl rfl rfl rfl) ?_
            simp only [Act.put, zq1, zq2, zq3]
            refine pl M24 (y_assign (v := .bool true) rfl rfl rfl) ?_
            simp only [Act.put, zq1, zq2, zq3]
            refine wpList_nil ?_
            refine hK23 _ _ ?_
            clear hK23
            refine wp_cond_true rfl ?_
            refine wp_seq_k (fun K29 hK29 => ?_)
            refine wp_region_lit ?_
            refine pl M24 (y_assign (v := .int .i64 0) rfl rfl rfl) ?_
            simp only [Act.put, zq1, zq2, zq3]
            refine pl M24 (y_assign (v := .slice none 0 0) rfl rfl rfl) ?_
            simp only [Act.put, zq1, zq2, zq3]
            refine pl M24 (y_assign (v := .int .i64 53) rfl rfl rfl) ?_
            simp only [Act.put, zq1, zq2, zq3]
            refine wpList_nil ?_
            refine hK29 _ _ ?_
            clear hK29
            refine wp_ret ?_
            try simp only [Exit.inBlock, Exit.then]
            refine bodyPost_ret (v := .tuple #[.int .i64 0, .slice none 0 0, .int .i64 53]) (res3 rfl rfl rfl rfl) rfl ?_
            have N := (M24.nilst 5 1)
            have e1 : unpgE (page : Int) l = 53 := (unpg_cases hp hl).2.2.2.2.1 h10 (of_decide_eq_true h16) (by omega) h22 h25
            obtain ⟨e2, e3⟩ := unpg_no e1 (by decide)
            rw [e1, e2, e3]
            exact ⟨_, rfl, N⟩
        · refine pl M21 (y_neq (b := true) rfl rfl rfl rfl (by rw [decide_eq_false h22]; rfl)) ?_
          simp only [Act.put, zq1, zq2, zq3]
          refine pl M21 (y_assign (v := .bool true) rfl rfl rfl) ?_
          simp only [Act.put, zq1, zq2, zq3]
          refine wpList_nil ?_
          refine hK20 _ _ ?_
          clear hK20
          refine wp_cond_true rfl ?_
          refine wp_seq_k (fun K30 hK30 => ?_)
          refine wp_region_lit ?_
          refine pl M21 (y_assign (v := .int .i64 0) rfl rfl rfl) ?_
          simp only [Act.put, zq1, zq2, zq3]
          refine pl M21 (y_assign (v := .slice none 0 0) rfl rfl rfl) ?_
          simp only [Act.put, zq1, zq2, zq3]
          refine pl M21 (y_assign (v := .int .i64 54) rfl rfl rfl) ?_
          simp only [Act.put, zq1, zq2, zq3]
          refine wpList_nil ?_
          refine hK30 _ _ ?_
          clear hK30
          refine wp_ret ?_
          try simp only [Exit.inBlock, Exit.then]
          refine bodyPost_ret (v := .tuple #[.int .i64 0, .slice none 0 0, .int .i64 54]) (res3 rfl rfl rfl rfl) rfl ?_
          have N := (M21.nilst 5 1)
          have e1 : unpgE (page : Int) l = 54 := (unpg_cases hp hl).2.2.2.1 h10 (of_decide_eq_true h16) (by omega) h22
          obtain ⟨e2, e3⟩ := unpg_no e1 (by decide)
          rw [e1, e2, e3]
          exact ⟨_, rfl, N⟩
    · rw [h16]
      refine ⟨_, rfl, ?_⟩
      refine hK.out _ _ ?_
      clear hK K
      simp only [Act.put, zq1, zq2, zq3]
      refine pl M15 (y_not rfl rfl rfl rfl) ?_
      simp only [Act.put, zq1, zq2, zq3]
      refine pl M15 (y_assign (v := .bool true) rfl rfl rfl) ?_
      simp only [Act.put, zq1, zq2, zq3]
      refine wpList_nil ?_
      refine hK14 _ _ ?_
      clear hK14
      refine wp_cond_true rfl ?_
      refine wp_seq_k (fun K31 hK31 => ?_)
      refine wp_region_lit ?_
      refine pl M15 (y_assign (v := .int .i64 0) rfl rfl rfl) ?_
      simp only [Act.put, zq1, zq2, zq3]
      refine pl M15 (y_assign (v := .slice none 0 0) rfl rfl rfl) ?_
      simp only [Act.put, zq1, zq2, zq3]
      refine pl M15 (y_assign (v := .int .i64 50) rfl rfl rfl) ?_
      simp only [Act.put, zq1, zq2, zq3]
      refine wpList_nil ?_
      refine hK31 _ _ ?_
      clear hK31
      refine wp_ret ?_
      try simp only [Exit.inBlock, Exit.then]
      refine bodyPost_ret (v := .tuple #[.int .i64 0, .slice none 0 0, .int .i64 50]) (res3 rfl rfl rfl rfl) rfl ?_
      have N := (M15.nilst 5 1)
      have e1 : unpgE (page : Int) l = 50 := (unpg_cases hp hl).2.1 h10 (of_decide_eq_false h16)
      obtain ⟨e2, e3⟩ := unpg_no e1 (by decide)
      rw [e1, e2, e3]
      exact ⟨_, rfl, N⟩
  · rw [h10]
    refine ⟨_, rfl, ?_⟩
    refine hK.out _ _ ?_
    clear hK K
    simp only [Act.put, zq1, zq2, zq3]
    refine pl M9 (y_not rfl rfl rfl rfl) ?_
    simp only [Act.put, zq1, zq2, zq3]
    refine wpList_nil ?_
    refine hK8 _ _ ?_
    clear hK8
    refine wp_cond_true rfl ?_
    refine wp_seq_k (fun K32 hK32 => ?_)
    refine wp_region_lit ?_
    refine pl M9 (y_assign (v := .int .i64 0) rfl rfl rfl) ?_
    simp only [Act.put, zq1, zq2, zq3]
    refine pl M9 (y_assign (v := .slice none 0 0) rfl rfl rfl) ?_
    simp only [Act.put, zq1, zq2, zq3]
    refine pl M9 (y_assign (v := .int .i64 52) rfl rfl rfl) ?_
    simp only [Act.put, zq1, zq2, zq3]
    refine wpList_nil ?_
    refine hK32 _ _ ?_
    clear hK32
    refine wp_ret ?_
    try simp only [Exit.inBlock, Exit.then]
    refine bodyPost_ret (v := .tuple #[.int .i64 0, .slice none 0 0, .int .i64 52]) (res3 rfl rfl rfl rfl) rfl ?_
    have N := (M9.nilst 5 1)
    have e1 : unpgE (page : Int) l = 52 := (unpg_cases hp hl).1 h10
    obtain ⟨e2, e3⟩ := unpg_no e1 (by decide)
    rw [e1, e2, e3]
    exact ⟨_, rfl, N⟩
end Go.Proofs.Ytdnahagibodnpaa

/- Superblocks by ==. -/
namespace Go.Proofs.Ytdnahagibodnpaa.E
set_option linter.unusedSectionVars false
set_option linter.unusedSimpArgs false
open Go Go.RowKit
set_option linter.unusedVariables false
section
variable {P : Program}
def eqF (d : Nat) (xs ys : Array Value) : List (Bool × TypeId × Nat) → Sem Bool
  | [] => pure true
  | (u, t, o) :: fs =>
    if u = true then eqF d xs ys fs
    else do
      let a ← part t xs o
      let b ← part t ys o
      let r ← Op.equalIn d t a b
      if (!r) = true then pure false else eqF d xs ys fs
def fieldTr (f : Field) : Bool × TypeId × Nat := (decide (f.name = "_"), f.type, f.offset)
theorem eqFields_tr (d : Nat) (xs ys : Array Value) : ∀ (fs : List Field), Op.eqFields d xs ys fs = eqF d xs ys (fs.map fieldTr)
  | [] => rfl
  | f :: fs => by
    have ih := eqFields_tr d xs ys fs
    unfold Op.eqFields
    simp only [List.map_cons, fieldTr, eqF]
    rw [ih]
    by_cases h : f.name = "_"
    · rw [if_neg (by simpa using h), if_pos (by simpa using h)]
    · rw [if_pos h, if_neg (by simpa using h)]
theorem run_eqF_cons (W : World) {d : Nat} {xs ys : Array Value} {t o : Nat} {fs : List (Bool × TypeId × Nat)} {a b : Value} {r : Bool} (h1 : (part t xs o).run P W = .ok a W) (h2 : (part t ys o).run P W = .ok b W) (h3 : (Op.equalIn d t a b).run P W = .ok r W)
    {q : Bool} (h4 : (eqF d xs ys fs).run P W = .ok q W) : (eqF d xs ys ((false, t, o) :: fs)).run P W = .ok (r && q) W := by
  simp only [eqF, Bool.false_eq_true, if_false, Sem.run_bind, h1, h2, h3, Result.andThen_ok]
  cases r
  · simp
  · simpa using h4
end
end Go.Proofs.Ytdnahagibodnpaa.E
namespace Go.Proofs.Ytdnahagibodnpaa
open Go Go.RowKit
def eqS (x y : SupV) : Bool := (x.width == y.width) && ((x.gen == y.gen) && ((x.mark == y.mark) && ((x.head == y.head) && ((x.pages == y.pages) && true))))
theorem eqS_iff (x y : SupV) : eqS x y = true ↔ x = y := by
  constructor
  · intro h
    unfold eqS at h
    simp only [Bool.and_eq_true, beq_iff_eq, and_true] at h
    obtain ⟨h0, h1, h2, h3, h4⟩ := h
    cases x; cases y
    simp only at h0 h1 h2 h3 h4
    subst h0; subst h1; subst h2; subst h3; subst h4
    rfl
  · rintro rfl
    unfold eqS; simp
theorem sup_equal (x y : SupV) (W : World) : (Op.equalIn 10000 60 (.agg (supC x).toArray) (.agg (supC y).toArray)).run Try.prog W = .ok (eqS x y) W := by
  have hu : Try.prog.underlying 60 = some (.struct (Try.prog.fieldsOf 60)) := by kernel_rfl
  rw [run_equalIn_agg W 9999 _ _ _ hu (by kernel_rfl), E.eqFields_tr,
    show ((Try.prog.fieldsOf 60).toList.map E.fieldTr) = [(false, 3, 0), (false, 3, 1), (false, 3, 2), (false, 3, 3), (false, 3, 4)] by kernel_rfl]
  have pl : Try.prog.plainKey 3 = true := by kernel_rfl
  have I : ∀ (a b : Int), (Op.equalIn 9999 3 (.int .i64 a) (.int .i64 b)).run Try.prog W = .ok (a == b) W := fun a b => run_equalIn_int W 9998 3 .i64 .i64 a b Try.underlying3
  refine E.run_eqF_cons W (run_part_plain W pl (v := .int .i64 x.width) rfl) (run_part_plain W pl (v := .int .i64 y.width) rfl) (I _ _) ?_
  refine E.run_eqF_cons W (run_part_plain W pl (v := .int .i64 x.gen) rfl) (run_part_plain W pl (v := .int .i64 y.gen) rfl) (I _ _) ?_
  refine E.run_eqF_cons W (run_part_plain W pl (v := .int .i64 x.mark) rfl) (run_part_plain W pl (v := .int .i64 y.mark) rfl) (I _ _) ?_
  refine E.run_eqF_cons W (run_part_plain W pl (v := .int .i64 x.head) rfl) (run_part_plain W pl (v := .int .i64 y.head) rfl) (I _ _) ?_
  refine E.run_eqF_cons W (run_part_plain W pl (v := .int .i64 x.pages) rfl) (run_part_plain W pl (v := .int .i64 y.pages) rfl) (I _ _) ?_
  rfl
theorem equalIn_bytes {P : Program} {t e n : TypeId} {i : TypeInfo} (hu : P.underlying t = some (.array n e)) (hi : P.info? e = some i) (he : P.underlying e = some (.int .u8)) (hc : P.cellsOf e = 1) (d : Nat) (x y : List UInt8) (hx : x.length = n) (hy : y.length = n) (w : World) :
    (Op.equalIn (d + 2) t (.agg (bvs x).toArray) (.agg (bvs y).toArray)).run P w = .ok (eqB x y) w := by
  rw [run_equalIn_array w (d + 1) _ _ hu hi]
  unfold eqB
  rw [eqItems_bytes he hc d x y w _ (fun j hj => by rw [hx, hy]; simpa using hj)]
  congr 1
  rw [Bool.eq_iff_iff, List.all_eq_true]
  simp only [List.mem_range, decide_eq_true_eq]
  constructor
  · intro h
    refine List.ext_getElem? fun j => ?_
    rcases Nat.lt_or_ge j n with hj | hj
    · exact h j hj
    · rw [List.getElem?_eq_none (by omega), List.getElem?_eq_none (by omega)]
  · rintro rfl j _; rfl
end Go.Proofs.Ytdnahagibodnpaa

/- One cell loaded, in a region that draws its order. No program in sight. -/
namespace Go.Proofs.Ytdnahagibodnpaa
set_option linter.unusedSectionVars false
set_option linter.unusedSimpArgs false
open Go Go.RowKit
set_option linter.unusedVariables false
section
variable {P : Program} {S : World → Prop}
theorem run_loadVar_int {k : IntKind} {ty : TypeId} {p : Addr} {v : Value} (w : World) (hu : P.underlying ty = some (.int k)) (hc : w.cell? p = some v) : (loadVar ty p).run P w = .ok v w := by
  simp [loadVar, isAgg, run_underlying hu, hc, go_sem]
theorem held_load1 {o : Oper} {a : Act} {ops : Array Oper} (hw : Region.wanted o (yielded ops a.tmps) = true) (ty : TypeId) (x : Operand) (ho : o.op = .load ty x)
    (b off : Nat) (hx : a.eval x = .pointer (some ⟨b, off, none⟩)) (k : IntKind) (v : Value) (hS : ∀ w, S w → w.cell? ⟨b, off, none⟩ = some v) (hu : P.underlying ty = some (.int k)) :
    YieldsIf P ops S o v a :=
  .inl ⟨hw, fun w hw' => by
    unfold execOp
    simp only [ho, hx, Instr.loadAt, Instr.sureAddr, Sem.run_bind, Sem.run_pure, Result.andThen_ok, run_loadVar_int w hu (hS w hw')]⟩
end
end Go.Proofs.Ytdnahagibodnpaa
