/- Texts joined: SL4. -/
import Derived.Test.YtmmkgkbjneebkaaSF22
/- The law StoreForgets. -/
namespace Go.Proofs.Ytmmkgkbjneebkaa
set_option linter.unusedSectionVars false
open Go Go.RowKit
set_option linter.unusedVariables false
set_option linter.unusedSimpArgs false
theorem SInv.arm {D : DV} {V : FV} {C : CS} {pz : Pgs} (h : SInv D V C pz) {n : Int} (hn : n ≤ 9223372036854775807) : SInv (armD D n) V C pz :=
  ⟨h.inv.arm hn, h.nx, h.cl, h.kp, by have e : (armD D n).pages = D.pages := (by unfold armD; split <;> rfl); rw [e]; exact h.fit⟩
set_option maxRecDepth 100000 in
set_option maxHeartbeats 4000000 in
theorem forgets_walk (pages width room n : Int) (aa : Option Addr) (an ac : Nat) (ms : List MV) {w : World} (hlc : ListIn madeC 2 w aa an ms ∧ an ≤ ac) (hok : ∀ m ∈ ms, MadeIn w m) : Calls Try.prog 3 #[.int .i64 pages, .int .i64 width, .int .i64 room, .slice aa an ac, .int .i64 n] w fun e w' => e = .returned (.bool true) ∧ Mem w [] w' [] := by
  have M := Mem.nil w
  obtain ⟨hl, hc⟩ := hlc
  go_enter Try.func3, Try.ntmps3
  refine wp_seq_k (fun K1 hK1 => ?_)
  refine wp_region_lit ?_
  refine pl M (y_assign (v := .bool false) rfl rfl rfl) ?_
  simp only [Act.put, zq1, zq2, zq3]
  refine wpList_nil ?_
  refine hK1 _ _ ?_
  clear hK1
  refine wp_seq_k (fun K2 hK2 => ?_)
  refine wp_region_lit ?_
  refine pl M (y_move (v := .slice aa an ac) rfl rfl rfl) ?_
  simp only [Act.put, zq1, zq2, zq3]
  obtain ⟨ms2, hms2⟩ : ∃ x, x = ms.take 12 := ⟨_, rfl⟩
  have hcut := fun w => @cut_mades aa an ac ms 12 hl.1 hc w
  rw [← hms2] at hcut
  have hm12 : ms2.length ≤ 12 := by rw [hms2, List.length_take]; omega
  refine pe rfl (fun K hK => ?_)
  refine e_call 8 [.slice aa an ac, .int .i64 12] rfl rfl Try.call8 (hcut _) ?_
  rintro e w3 ⟨rfl, H3⟩
  have M3 : Mem w [] w3 [] := M.step H3
  refine ⟨_, rfl, ?_⟩
  refine hK.out _ _ ?_
  clear hK K
  simp only [Act.put, zq1, zq2, zq3]
  refine pl M3 (y_assign (v := .slice aa ms2.length ac) rfl rfl rfl) ?_
  simp only [Act.put, zq1, zq2, zq3]
  refine wpList_nil ?_
  refine hK2 _ _ ?_
  clear hK2
  refine wp_seq_k (fun K4 hK4 => ?_)
  refine wp_region_lit ?_
  refine pl M3 (y_move (v := .int .i64 pages) rfl rfl rfl) ?_
  simp only [Act.put, zq1, zq2, zq3]
  refine pl M3 (y_move (v := .slice aa ms2.length ac) rfl rfl rfl) ?_
  simp only [Act.put, zq1, zq2, zq3]
  refine pl M3 (y_len rfl rfl rfl Try.underlying22) ?_
  simp only [Act.put, zq1, zq2, zq3]
  refine pl M3 (y_add (r := 2 + (ms2.length : Int)) rfl rfl rfl rfl (rfl) (by omega)) ?_
  simp only [Act.put, zq1, zq2, zq3]
  obtain ⟨lo, hlo⟩ : ∃ lo : Nat, lo = max (2 + ms2.length) 3 := ⟨_, rfl⟩
  have hlo1 : 2 + ms2.length ≤ lo ∧ 3 ≤ lo ∧ lo ≤ 14 := by omega
  refine pl M3 (y_max (r := (lo : Int)) rfl rfl rfl rfl (by split <;> omega)) ?_
  simp only [Act.put, zq1, zq2, zq3]
  have hwN := whole_in pages (lo : Int) 60 (by omega)
  obtain ⟨N, hN⟩ : ∃ N : Nat, wholeN pages (lo : Int) 60 = (N : Int) := Int.eq_ofNat_of_zero_le (by omega)
  rw [hN] at hwN
  refine pe rfl (fun K hK => ?_)
  refine e_call 10 [.int .i64 pages, .int .i64 (lo : Int), .int .i64 60] rfl rfl Try.call10 ((hN ▸ nwhole_any pages (lo : Int) 60 (by omega) (by omega) (by decide))) ?_
  rintro e w5 ⟨rfl, H5⟩
  have M5 : Mem w [] w5 [] := M3.step H5
  refine ⟨_, rfl, ?_⟩
  refine hK.out _ _ ?_
  clear hK K
  simp only [Act.put, zq1, zq2, zq3]
  refine pl M5 (y_move (v := .int .i64 width) rfl rfl rfl) ?_
  simp only [Act.put, zq1, zq2, zq3]
  have hwd := whole_in width 1 32 (by decide)
  obtain ⟨wd, hwd2⟩ : ∃ wd, wholeN width 1 32 = wd := ⟨_, rfl⟩
  rw [hwd2] at hwd
  refine pe rfl (fun K hK => ?_)
  refine e_call 10 [.int .i64 width, .int .i64 1, .int .i64 32] rfl rfl Try.call10 ((hwd2 ▸ nwhole_any width 1 32 (by decide) (by decide) (by decide))) ?_
  rintro e w6 ⟨rfl, H6⟩
  have M6 : Mem w [] w6 [] := M5.step H6
  refine ⟨_, rfl, ?_⟩
  refine hK.out _ _ ?_
  clear hK K
  simp only [Act.put, zq1, zq2, zq3]
  refine pe rfl (fun K hK => ?_)
  refine e_call 9 [.int .i64 (N : Int), .int .i64 wd] rfl rfl Try.call9 (begun_any N wd ⟨by omega, by omega⟩ ⟨by omega, by omega⟩) ?_
  rintro e w7 ⟨p, pg, mb, qv1, E1, rfl, H7, hP1, hq1, hd1, ha1, hl1⟩
  have M7 : Mem w [] w7 [disk E1 p pg mb qv1] := M6.step H7
  refine ⟨_, rfl, ?_⟩
  refine hK.out _ _ ?_
  clear hK K
  simp only [Act.put, zq1, zq2, zq3]
  refine pl M7 (y_assign (v := .pointer (some ⟨p, 0, none⟩)) rfl rfl rfl) ?_
  simp only [Act.put, zq1, zq2, zq3]
  refine wpList_nil ?_
  refine hK4 _ _ ?_
  clear hK4
  refine wp_seq_k (fun K8 hK8 => ?_)
  refine wp_seq_k (fun K9 hK9 => ?_)
  refine wp_region_lit ?_
  refine pl M7 (y_move (v := .pointer (some ⟨p, 0, none⟩)) rfl rfl rfl) ?_
  simp only [Act.put, zq1, zq2, zq3]
  refine pl M7 (y_eqnil (r := false) rfl rfl rfl rfl Try.underlying24 rfl) ?_
  simp only [Act.put, zq1, zq2, zq3]
  refine pl M7 (y_move (v := .bool false) rfl rfl rfl) ?_
  simp only [Act.put, zq1, zq2, zq3]
  refine pe rfl (fun K hK => ?_)
  refine e_call 11 [] rfl rfl Try.call11 (known_any) ?_
  rintro e w10 ⟨rfl, H10⟩
  have M10 : Mem w [] w10 [disk E1 p pg mb qv1] := M7.step H10
  refine ⟨_, rfl, ?_⟩
  refine hK.out _ _ ?_
  clear hK K
  simp only [Act.put, zq1, zq2, zq3]
  refine pl M10 (y_not rfl rfl rfl rfl) ?_
  simp only [Act.put, zq1, zq2, zq3]
  refine pl M10 (y_pickF (v := .bool false) rfl rfl rfl rfl) ?_
  simp only [Act.put, zq1, zq2, zq3]
  refine wpList_nil ?_
  refine hK9 _ _ ?_
  clear hK9
  refine wp_cond_false rfl ?_
  refine wp_skip ?_
  refine hK8 _ _ ?_
  clear hK8
  refine wp_seq_k (fun K11 hK11 => ?_)
  refine wp_region_lit ?_
  refine pl M10 (y_move (v := .pointer (some ⟨p, 0, none⟩)) rfl rfl rfl) ?_
  simp only [Act.put, zq1, zq2, zq3]
  have hX12 : Mem w [] w10 ([disk E1 p pg mb qv1] ++ []) := M10.arr [0] (by decide)
  refine pe rfl (fun K hK => ?_)
  refine e_call 12 [.pointer (some ⟨p, 0, none⟩)] rfl rfl Try.call12 (open_fit (Mem.here hX12) hP1 hd1) ?_
  rintro e w12 ⟨f, E, m, rfl, H12, hI, hq2, hp2, ha2, he2⟩
  have M12 : Mem w [] w12 [disk E p pg mb qv1, blk f 117 (fC (⟨(secondS wd N), (secondS wd N).mark, m⟩ : FV) p)] := Mem.frame hX12 H12
  refine ⟨_, rfl, ?_⟩
  refine hK.out _ _ ?_
  clear hK K
  simp only [Act.put, zq1, zq2, zq3]
  refine pl M12 (y_move (v := .tuple #[.pointer (some ⟨f, 0, none⟩), .int .i64 0]) rfl rfl rfl) ?_
  simp only [Act.put, zq1, zq2, zq3]
  refine pl M12 (y_ext (v := .pointer (some ⟨f, 0, none⟩)) rfl rfl rfl rfl) ?_
  simp only [Act.put, zq1, zq2, zq3]
  refine pl M12 (y_ext (v := .int .i64 0) rfl rfl rfl rfl) ?_
  simp only [Act.put, zq1, zq2, zq3]
  refine pl M12 (y_assign (v := .pointer (some ⟨f, 0, none⟩)) rfl rfl rfl) ?_
  simp only [Act.put, zq1, zq2, zq3]
  refine pl M12 (y_assign (v := .int .i64 0) rfl rfl rfl) ?_
  simp only [Act.put, zq1, zq2, zq3]
  refine wpList_nil ?_
  refine hK11 _ _ ?_
  clear hK11
  refine wp_seq_k (fun K13 hK13 => ?_)
  refine wp_seq_k (fun K14 hK14 => ?_)
  refine wp_region_lit ?_
  refine pl M12 (y_move (v := .int .i64 0) rfl rfl rfl) ?_
  simp only [Act.put, zq1, zq2, zq3]
  refine pl M12 (y_neq (b := false) rfl rfl rfl rfl (by rw [decide_eq_true (by decide)]; rfl)) ?_
  simp only [Act.put, zq1, zq2, zq3]
  refine pl M12 (y_move (v := .bool false) rfl rfl rfl) ?_
  simp only [Act.put, zq1, zq2, zq3]
  refine pl M12 (y_move (v := .pointer (some ⟨f, 0, none⟩)) rfl rfl rfl) ?_
  simp only [Act.put, zq1, zq2, zq3]
  refine pl M12 (y_eqnil (r := false) rfl rfl rfl rfl Try.underlying28 rfl) ?_
  simp only [Act.put, zq1, zq2, zq3]
  refine pl M12 (y_pickF (v := .bool false) rfl rfl rfl rfl) ?_
  simp only [Act.put, zq1, zq2, zq3]
  refine wpList_nil ?_
  refine hK14 _ _ ?_
  clear hK14
  refine wp_cond_false rfl ?_
  refine wp_skip ?_
  refine hK13 _ _ ?_
  clear hK13
  refine wp_seq_k (fun K15 hK15 => ?_)
  refine wp_region_lit ?_
  refine pl M12 (y_move (v := .pointer (some ⟨f, 0, none⟩)) rfl rfl rfl) ?_
  simp only [Act.put, zq1, zq2, zq3]
  refine pl M12 (y_move (v := .int .i64 room) rfl rfl rfl) ?_
  simp only [Act.put, zq1, zq2, zq3]
  have hrm := whole_in room 0 4096 (by decide)
  obtain ⟨rm, hrm2⟩ : ∃ rm, wholeN room 0 4096 = rm := ⟨_, rfl⟩
  rw [hrm2] at hrm
  have hplE : E.pages.length = N := by rw [hp2]; exact hl1
  refine pe rfl (fun K hK => ?_)
  refine e_call 10 [.int .i64 room, .int .i64 0, .int .i64 4096] rfl rfl Try.call10 ((hrm2 ▸ nwhole_any room 0 4096 (by decide) (by decide) (by decide))) ?_
  rintro e w16 ⟨rfl, H16⟩
  have M16 : Mem w [] w16 [disk E p pg mb qv1, blk f 117 (fC (⟨(secondS wd N), (secondS wd N).mark, m⟩ : FV) p)] := M12.step H16
  refine ⟨_, rfl, ?_⟩
  refine hK.out _ _ ?_
  clear hK K
  simp only [Act.put, zq1, zq2, zq3]
  have hX17 : Mem w [] w16 ([disk E p pg mb qv1, blk f 117 (fC (⟨(secondS wd N), (secondS wd N).mark, m⟩ : FV) p)] ++ []) := M16.arr [0, 1] (by decide)
  have hCH17 := snew_fit (Mem.here hX17) hI rfl rm (⟨by omega, by omega⟩)
  refine pe rfl (fun K hK => ?_)
  refine e_call 13 [.pointer (some ⟨f, 0, none⟩), .int .i64 rm] rfl rfl Try.call13 (hCH17) ?_
  rintro e w17 ⟨s, X, rfl, hX0, hS0, H17⟩
  have M17 : Mem w [] w17 [disk E p pg mb qv1, blk f 117 (fC (⟨secondS wd N, (secondS wd N).mark, m⟩ : FV) p), sto (newC rm) ((⟨secondS wd N, (secondS wd N).mark, m⟩ : FV).s.mark) s f X] := Mem.frame hX17 H17
  refine ⟨_, rfl, ?_⟩
  refine hK.out _ _ ?_
  clear hK K
  simp only [Act.put, zq1, zq2, zq3]
  refine pl M17 (y_move (v := .tuple #[.pointer (some ⟨s, 0, none⟩), .int .i64 0]) rfl rfl rfl) ?_
  simp only [Act.put, zq1, zq2, zq3]
  refine pl M17 (y_ext (v := .pointer (some ⟨s, 0, none⟩)) rfl rfl rfl rfl) ?_
  simp only [Act.put, zq1, zq2, zq3]
  refine pl M17 (y_ext (v := .int .i64 0) rfl rfl rfl rfl) ?_
  simp only [Act.put, zq1, zq2, zq3]
  refine pl M17 (y_assign (v := .pointer (some ⟨s, 0, none⟩)) rfl rfl rfl) ?_
  simp only [Act.put, zq1, zq2, zq3]
  refine pl M17 (y_assign (v := .int .i64 0) rfl rfl rfl) ?_
  simp only [Act.put, zq1, zq2, zq3]
  refine wpList_nil ?_
  refine hK15 _ _ ?_
  clear hK15
  refine wp_seq_k (fun K18 hK18 => ?_)
  refine wp_seq_k (fun K19 hK19 => ?_)
  refine wp_region_lit ?_
  refine pl M17 (y_move (v := .int .i64 0) rfl rfl rfl) ?_
  simp only [Act.put, zq1, zq2, zq3]
  refine pl M17 (y_neq (b := false) rfl rfl rfl rfl (by rw [decide_eq_true (by decide)]; rfl)) ?_
  simp only [Act.put, zq1, zq2, zq3]
  refine pl M17 (y_move (v := .bool false) rfl rfl rfl) ?_
  simp only [Act.put, zq1, zq2, zq3]
  refine pl M17 (y_move (v := .pointer (some ⟨s, 0, none⟩)) rfl rfl rfl) ?_
  simp only [Act.put, zq1, zq2, zq3]
  refine pl M17 (y_eqnil (r := false) rfl rfl rfl rfl Try.underlying32 rfl) ?_
  simp only [Act.put, zq1, zq2, zq3]
  refine pl M17 (y_pickF (v := .bool false) rfl rfl rfl rfl) ?_
  simp only [Act.put, zq1, zq2, zq3]
  refine pl M17 (y_move (v := .bool false) rfl rfl rfl) ?_
  simp only [Act.put, zq1, zq2, zq3]
  refine pl M17 (y_move (v := .pointer (some ⟨s, 0, none⟩)) rfl rfl rfl) ?_
  simp only [Act.put, zq1, zq2, zq3]
  refine pl M17 (y_move (v := .slice aa ms2.length ac) rfl rfl rfl) ?_
  simp only [Act.put, zq1, zq2, zq3]
  have hfit : (⟨secondS wd N, (secondS wd N).mark, m⟩ : FV).s.mark + (((newC rm).kp.length : Nat) : Int) + (ms2.length : Int) ≤ (E.pages.length : Int) := by show (2 : Int) + ((0 : Nat) : Int) + _ ≤ _; rw [hplE]; omega
  have hX20 : Mem w [] w17 ([disk E p pg mb qv1, blk f 117 (fC (⟨secondS wd N, (secondS wd N).mark, m⟩ : FV) p), sto (newC rm) ((⟨secondS wd N, (secondS wd N).mark, m⟩ : FV).s.mark) s f X] ++ []) := M17.arr [0, 1, 2] (by decide)
  have hCH20 := stages_at (Mem.here hX20) hS0 ms2 aa ac (hms2 ▸ (mades_of (hX20.left) hl hok).take 12) 2 (by rfl) hfit (by rw [hX0]; omega)
  refine pe rfl (fun K hK => ?_)
  refine e_call 14 [.pointer (some ⟨s, 0, none⟩), .slice aa ms2.length ac, .int .i64 2] rfl rfl Try.call14 (hCH20) ?_
  rintro e w20 ⟨C2, X2, rfl, hS2, hk2, hx2, H20⟩
  have M20 : Mem w [] w20 [disk E p pg mb qv1, blk f 117 (fC (⟨secondS wd N, (secondS wd N).mark, m⟩ : FV) p), sto C2 ((⟨secondS wd N, (secondS wd N).mark, m⟩ : FV).s.mark) s f X2] := Mem.frame hX20 H20
  refine ⟨_, rfl, ?_⟩
  refine hK.out _ _ ?_
  clear hK K
  simp only [Act.put, zq1, zq2, zq3]
  have hkl : C2.kp.length = ms2.length := by have := congrArg List.length hk2; simp only [List.length_append, List.length_map] at this; rw [this]; show 0 + _ = _; omega
  refine pl M20 (y_not rfl rfl rfl rfl) ?_
  simp only [Act.put, zq1, zq2, zq3]
  refine pl M20 (y_pickF (v := .bool false) rfl rfl rfl rfl) ?_
  simp only [Act.put, zq1, zq2, zq3]
  refine pl M20 (y_move (v := .bool false) rfl rfl rfl) ?_
  simp only [Act.put, zq1, zq2, zq3]
  refine pl M20 (y_move (v := .pointer (some ⟨s, 0, none⟩)) rfl rfl rfl) ?_
  simp only [Act.put, zq1, zq2, zq3]
  refine pl M20 (y_move (v := .slice aa ms2.length ac) rfl rfl rfl) ?_
  simp only [Act.put, zq1, zq2, zq3]
  have hX21 : Mem w [] w20 ([disk E p pg mb qv1, blk f 117 (fC (⟨secondS wd N, (secondS wd N).mark, m⟩ : FV) p), sto C2 ((⟨secondS wd N, (secondS wd N).mark, m⟩ : FV).s.mark) s f X2] ++ []) := M20.arr [0, 1, 2] (by decide)
  have hCH21 := loads_at (Mem.here hX21) hS2 ms2 aa ac (hms2 ▸ (mades_of (hX21.left) hl hok).take 12) 2 2 (by rfl) ⟨by decide, by omega⟩ (fun i m hm => pg_staged hk2 hm (by show ((2 + i : Nat) : Int) = 2 + ((0 : Nat) : Int) + (i : Int); omega)) (by omega)
  refine pe rfl (fun K hK => ?_)
  refine e_call 15 [.pointer (some ⟨s, 0, none⟩), .slice aa ms2.length ac, .int .i64 2] rfl rfl Try.call15 (hCH21) ?_
  rintro e w21 ⟨r3, C3, X3, rfl, hS3, hk3, hx3, H21⟩
  have M21 : Mem w [] w21 [disk ({ E with reads := r3 } : DV) p pg mb qv1, blk f 117 (fC (⟨secondS wd N, (secondS wd N).mark, m⟩ : FV) p), sto C3 ((⟨secondS wd N, (secondS wd N).mark, m⟩ : FV).s.mark) s f X3] := Mem.frame hX21 H21
  refine ⟨_, rfl, ?_⟩
  refine hK.out _ _ ?_
  clear hK K
  simp only [Act.put, zq1, zq2, zq3]
  refine pl M21 (y_not rfl rfl rfl rfl) ?_
  simp only [Act.put, zq1, zq2, zq3]
  refine pl M21 (y_pickF (v := .bool false) rfl rfl rfl rfl) ?_
  simp only [Act.put, zq1, zq2, zq3]
  refine pl M21 (y_move (v := .bool false) rfl rfl rfl) ?_
  simp only [Act.put, zq1, zq2, zq3]
  refine pl M21 (y_move (v := .pointer (some ⟨f, 0, none⟩)) rfl rfl rfl) ?_
  simp only [Act.put, zq1, zq2, zq3]
  have hX22 : Mem w [] w21 ([disk ({ E with reads := r3 } : DV) p pg mb qv1, blk f 117 (fC (⟨secondS wd N, (secondS wd N).mark, m⟩ : FV) p)] ++ [sto C3 ((⟨secondS wd N, (secondS wd N).mark, m⟩ : FV).s.mark) s f X3]) := M21.arr [0, 1, 2] (by decide)
  refine pe rfl (fun K hK => ?_)
  refine e_call 16 [.pointer (some ⟨f, 0, none⟩)] rfl rfl Try.call16 (next_any (Mem.here hX22)) ?_
  rintro e w22 ⟨rfl, H22⟩
  have M22 : Mem w [] w22 [disk ({ E with reads := r3 } : DV) p pg mb qv1, blk f 117 (fC (⟨secondS wd N, (secondS wd N).mark, m⟩ : FV) p), sto C3 ((⟨secondS wd N, (secondS wd N).mark, m⟩ : FV).s.mark) s f X3] := Mem.frame hX22 H22
  refine ⟨_, rfl, ?_⟩
  refine hK.out _ _ ?_
  clear hK K
  simp only [Act.put, zq1, zq2, zq3]
  refine pl M22 (y_neq (b := false) rfl rfl rfl rfl (by rw [decide_eq_true (show (⟨secondS wd N, (secondS wd N).mark, m⟩ : FV).next = 2 from rfl)]; rfl)) ?_
  simp only [Act.put, zq1, zq2, zq3]
  refine pl M22 (y_pickF (v := .bool false) rfl rfl rfl rfl) ?_
  simp only [Act.put, zq1, zq2, zq3]
  refine wpList_nil ?_
  refine hK19 _ _ ?_
  clear hK19
  refine wp_cond_false rfl ?_
  refine wp_skip ?_
  refine hK18 _ _ ?_
  clear hK18
  refine wp_seq_k (fun K23 hK23 => ?_)
  refine wp_region_lit ?_
  refine pl M22 (y_move (v := .slice aa ms2.length ac) rfl rfl rfl) ?_
  simp only [Act.put, zq1, zq2, zq3]
  refine pl M22 (y_len rfl rfl rfl Try.underlying22) ?_
  simp only [Act.put, zq1, zq2, zq3]
  refine pl M22 (y_add (r := (ms2.length : Int) + 3) rfl rfl rfl rfl (rfl) (by omega)) ?_
  simp only [Act.put, zq1, zq2, zq3]
  refine pl M22 (y_assign (v := .int .i64 ((ms2.length : Int) + 3)) rfl rfl rfl) ?_
  simp only [Act.put, zq1, zq2, zq3]
  refine wpList_nil ?_
  refine hK23 _ _ ?_
  clear hK23
  refine wp_seq_k (fun K24 hK24 => ?_)
  refine wp_region_lit ?_
  refine pl M22 (y_move (v := .int .i64 n) rfl rfl rfl) ?_
  simp only [Act.put, zq1, zq2, zq3]
  refine pl M22 (y_move (v := .int .i64 ((ms2.length : Int) + 3)) rfl rfl rfl) ?_
  simp only [Act.put, zq1, zq2, zq3]
  refine pl M22 (y_add (r := (ms2.length : Int) + 3 + 1) rfl rfl rfl rfl (rfl) (by omega)) ?_
  simp only [Act.put, zq1, zq2, zq3]
  have hat := whole_in n 1 ((ms2.length : Int) + 3 + 1) (by omega)
  obtain ⟨at0, hat2⟩ : ∃ at0, wholeN n 1 ((ms2.length : Int) + 3 + 1) = at0 := ⟨_, rfl⟩
  rw [hat2] at hat
  refine pe rfl (fun K hK => ?_)
  refine e_call 10 [.int .i64 n, .int .i64 1, .int .i64 ((ms2.length : Int) + 3 + 1)] rfl rfl Try.call10 ((hat2 ▸ nwhole_any n 1 ((ms2.length : Int) + 3 + 1) (by decide) (by omega) (by omega))) ?_
  rintro e w25 ⟨rfl, H25⟩
  have M25 : Mem w [] w25 [disk ({ E with reads := r3 } : DV) p pg mb qv1, blk f 117 (fC (⟨secondS wd N, (secondS wd N).mark, m⟩ : FV) p), sto C3 ((⟨secondS wd N, (secondS wd N).mark, m⟩ : FV).s.mark) s f X3] := M22.step H25
  refine ⟨_, rfl, ?_⟩
  refine hK.out _ _ ?_
  clear hK K
  simp only [Act.put, zq1, zq2, zq3]
  refine pl M25 (y_assign (v := .int .i64 at0) rfl rfl rfl) ?_
  simp only [Act.put, zq1, zq2, zq3]
  refine wpList_nil ?_
  refine hK24 _ _ ?_
  clear hK24
  refine wp_seq_k (fun K26 hK26 => ?_)
  refine wp_region_lit ?_
  refine pl M25 (y_move (v := .pointer (some ⟨p, 0, none⟩)) rfl rfl rfl) ?_
  simp only [Act.put, zq1, zq2, zq3]
  refine pl M25 (y_move (v := .int .i64 at0) rfl rfl rfl) ?_
  simp only [Act.put, zq1, zq2, zq3]
  have hX27 : Mem w [] w25 ([disk ({ E with reads := r3 } : DV) p pg mb qv1] ++ [blk f 117 (fC (⟨secondS wd N, (secondS wd N).mark, m⟩ : FV) p), sto C3 ((⟨secondS wd N, (secondS wd N).mark, m⟩ : FV).s.mark) s f X3]) := M25.arr [0, 1, 2] (by decide)
  refine pe rfl (fun K hK => ?_)
  refine e_call 17 [.pointer (some ⟨p, 0, none⟩), .int .i64 at0] rfl rfl Try.call17 (arm_any (Mem.here hX27) at0 (by omega)) ?_
  rintro e w27 ⟨rfl, H27⟩
  have M27 : Mem w [] w27 [disk (armD { E with reads := r3 } at0) p pg mb qv1, blk f 117 (fC (⟨secondS wd N, (secondS wd N).mark, m⟩ : FV) p), sto C3 ((⟨secondS wd N, (secondS wd N).mark, m⟩ : FV).s.mark) s f X3] := Mem.frame hX27 H27
  refine ⟨_, rfl, ?_⟩
  refine hK.out _ _ ?_
  clear hK K
  simp only [Act.put, zq1, zq2, zq3]
  have hS4 : SInv (armD { E with reads := r3 } at0) (⟨secondS wd N, (secondS wd N).mark, m⟩ : FV) C3 [] := hS3.arm (by omega)
  have har : (armD { E with reads := r3 } at0).armed = at0 := by show (if _ then _ else _ : DV).armed = _; rw [if_neg (by rw [hS3.inv.pow]; decide)]; show max at0 0 = at0; omega
  have hkl3 : C3.kp.length = ms2.length := by rw [hk3]; exact hkl
  have hql4 : (armD { E with reads := r3 } at0).q.length ≤ 300000000000 := by
    have h9 : (armD { E with reads := r3 } at0).q = E.q := by show (if _ then _ else _ : DV).q = _; split <;> rfl
    rw [h9, hq2, hq1]; decide
  refine wpList_nil ?_
  refine hK26 _ _ ?_
  clear hK26
  refine wp_seq_k (fun K28 hK28 => ?_)
  refine wp_region_lit ?_
  refine pl M27 (y_move (v := .pointer (some ⟨s, 0, none⟩)) rfl rfl rfl) ?_
  simp only [Act.put, zq1, zq2, zq3]
  rcases Decidable.em ((ms2.length : Int) + 3 < at0) with hgo | hgo
  · have hX29 : Mem w [] w27 ([disk (armD { E with reads := r3 } at0) p pg mb qv1, blk f 117 (fC (⟨secondS wd N, (secondS wd N).mark, m⟩ : FV) p), sto C3 ((⟨secondS wd N, (secondS wd N).mark, m⟩ : FV).s.mark) s f X3] ++ []) := M27.arr [0, 1, 2] (by decide)
    have hCH29 := sflush_good (Mem.here hX29) hS4 0 (.inl rfl) (by show (1 : Int) < _; decide) (.inr (by rw [har, hkl3]; omega)) hql4
    refine pe rfl (fun K hK => ?_)
    refine e_call 18 [.pointer (some ⟨s, 0, none⟩), .int .i64 0] rfl rfl Try.call18 (hCH29) ?_
    rintro e w29 ⟨E6, qv6, C6, X6, rfl, hS6, hc6, hq6, hp6, ha6, hx6, H29⟩
    have M29 : Mem w [] w29 [disk E6 p pg mb qv6, blk f 117 (fC (⟨flushS (⟨secondS wd N, (secondS wd N).mark, m⟩ : FV) C3 0, (⟨secondS wd N, (secondS wd N).mark, m⟩ : FV).s.mark + (C3.kp.length : Int), (⟨secondS wd N, (secondS wd N).mark, m⟩ : FV).mine⟩ : FV) p), sto C6 ((⟨secondS wd N, (secondS wd N).mark, m⟩ : FV).s.mark + (C3.kp.length : Int)) s f X6] := Mem.frame hX29 H29
    refine ⟨_, rfl, ?_⟩
    refine hK.out _ _ ?_
    clear hK K
    simp only [Act.put, zq1, zq2, zq3]
    refine pl M29 (y_assign (v := .int .i64 0) rfl rfl rfl) ?_
    simp only [Act.put, zq1, zq2, zq3]
    refine wpList_nil ?_
    refine hK28 _ _ ?_
    clear hK28
    refine wp_seq_k (fun K30 hK30 => ?_)
    refine wp_seq_k (fun K31 hK31 => ?_)
    refine wp_region_lit ?_
    refine pl M29 (y_move (v := .int .i64 at0) rfl rfl rfl) ?_
    simp only [Act.put, zq1, zq2, zq3]
    refine pl M29 (y_move (v := .int .i64 ((ms2.length : Int) + 3)) rfl rfl rfl) ?_
    simp only [Act.put, zq1, zq2, zq3]
    refine pl M29 (y_gtr (b := true) rfl rfl rfl rfl (decide_eq_true hgo)) ?_
    simp only [Act.put, zq1, zq2, zq3]
    refine wpList_nil ?_
    refine hK31 _ _ ?_
    clear hK31
    refine wp_cond_true rfl ?_
    refine wp_seq_k (fun K32 hK32 => ?_)
    refine wp_region_lit ?_
    refine pl M29 (y_move (v := .int .i64 0) rfl rfl rfl) ?_
    simp only [Act.put, zq1, zq2, zq3]
    refine pl M29 (y_eql (b := true) rfl rfl rfl rfl (decide_eq_true (by decide))) ?_
    simp only [Act.put, zq1, zq2, zq3]
    refine pl M29 (y_move (v := .bool true) rfl rfl rfl) ?_
    simp only [Act.put, zq1, zq2, zq3]
    refine pl M29 (y_move (v := .pointer (some ⟨f, 0, none⟩)) rfl rfl rfl) ?_
    simp only [Act.put, zq1, zq2, zq3]
    have hX33 : Mem w [] w29 ([disk E6 p pg mb qv6, blk f 117 (fC (⟨flushS (⟨secondS wd N, (secondS wd N).mark, m⟩ : FV) C3 0, (⟨secondS wd N, (secondS wd N).mark, m⟩ : FV).s.mark + (C3.kp.length : Int), (⟨secondS wd N, (secondS wd N).mark, m⟩ : FV).mine⟩ : FV) p)] ++ [sto C6 ((⟨secondS wd N, (secondS wd N).mark, m⟩ : FV).s.mark + (C3.kp.length : Int)) s f X6]) := M29.arr [0, 1, 2] (by decide)
    refine pe rfl (fun K hK => ?_)
    refine e_call 16 [.pointer (some ⟨f, 0, none⟩)] rfl rfl Try.call16 (next_any (Mem.here hX33)) ?_
    rintro e w33 ⟨rfl, H33⟩
    have M33 : Mem w [] w33 [disk E6 p pg mb qv6, blk f 117 (fC (⟨flushS (⟨secondS wd N, (secondS wd N).mark, m⟩ : FV) C3 0, (⟨secondS wd N, (secondS wd N).mark, m⟩ : FV).s.mark + (C3.kp.length : Int), (⟨secondS wd N, (secondS wd N).mark, m⟩ : FV).mine⟩ : FV) p), sto C6 ((⟨secondS wd N, (secondS wd N).mark, m⟩ : FV).s.mark + (C3.kp.length : Int)) s f X6] := Mem.frame hX33 H33
    refine ⟨_, rfl, ?_⟩
    refine hK.out _ _ ?_
    clear hK K
    simp only [Act.put, zq1, zq2, zq3]
    refine pl M33 (y_move (v := .slice aa ms2.length ac) rfl rfl rfl) ?_
    simp only [Act.put, zq1, zq2, zq3]
    refine pl M33 (y_len rfl rfl rfl Try.underlying22) ?_
    simp only [Act.put, zq1, zq2, zq3]
    refine pl M33 (y_add (r := 2 + (ms2.length : Int)) rfl rfl rfl rfl (rfl) (by omega)) ?_
    simp only [Act.put, zq1, zq2, zq3]
    refine pl M33 (y_eql (b := true) rfl rfl rfl rfl (decide_eq_true (show (2 : Int) + (C3.kp.length : Int) = 2 + (ms2.length : Int) by rw [hkl3]))) ?_
    simp only [Act.put, zq1, zq2, zq3]
    refine pl M33 (y_pickT (v := .bool true) rfl rfl rfl rfl) ?_
    simp only [Act.put, zq1, zq2, zq3]
    refine pl M33 (y_move (v := .bool true) rfl rfl rfl) ?_
    simp only [Act.put, zq1, zq2, zq3]
    refine pl M33 (y_move (v := .pointer (some ⟨s, 0, none⟩)) rfl rfl rfl) ?_
    simp only [Act.put, zq1, zq2, zq3]
    have hX34 : Mem w [] w33 ([disk E6 p pg mb qv6, blk f 117 (fC (⟨flushS (⟨secondS wd N, (secondS wd N).mark, m⟩ : FV) C3 0, (⟨secondS wd N, (secondS wd N).mark, m⟩ : FV).s.mark + (C3.kp.length : Int), (⟨secondS wd N, (secondS wd N).mark, m⟩ : FV).mine⟩ : FV) p), sto C6 ((⟨secondS wd N, (secondS wd N).mark, m⟩ : FV).s.mark + (C3.kp.length : Int)) s f X6] ++ []) := M33.arr [0, 1, 2] (by decide)
    have hCH34 := (by have h := snext_any (V := (⟨flushS (⟨secondS wd N, (secondS wd N).mark, m⟩ : FV) C3 0, (⟨secondS wd N, (secondS wd N).mark, m⟩ : FV).s.mark + (C3.kp.length : Int), (⟨secondS wd N, (secondS wd N).mark, m⟩ : FV).mine⟩ : FV)) (C := C6) (X := X6) (Mem.here hX34); rw [hc6] at h; exact h)
    refine pe rfl (fun K hK => ?_)
    refine e_call 19 [.pointer (some ⟨s, 0, none⟩)] rfl rfl Try.call19 (hCH34) ?_
    rintro e w34 ⟨rfl, H34⟩
    have M34 : Mem w [] w34 [disk E6 p pg mb qv6, blk f 117 (fC (⟨flushS (⟨secondS wd N, (secondS wd N).mark, m⟩ : FV) C3 0, (⟨secondS wd N, (secondS wd N).mark, m⟩ : FV).s.mark + (C3.kp.length : Int), (⟨secondS wd N, (secondS wd N).mark, m⟩ : FV).mine⟩ : FV) p), sto C6 ((⟨secondS wd N, (secondS wd N).mark, m⟩ : FV).s.mark + (C3.kp.length : Int)) s f X6] := Mem.frame hX34 H34
    refine ⟨_, rfl, ?_⟩
    refine hK.out _ _ ?_
    clear hK K
    simp only [Act.put, zq1, zq2, zq3]
    refine pl M34 (y_move (v := .pointer (some ⟨f, 0, none⟩)) rfl rfl rfl) ?_
    simp only [Act.put, zq1, zq2, zq3]
    have hX35 : Mem w [] w34 ([disk E6 p pg mb qv6, blk f 117 (fC (⟨flushS (⟨secondS wd N, (secondS wd N).mark, m⟩ : FV) C3 0, (⟨secondS wd N, (secondS wd N).mark, m⟩ : FV).s.mark + (C3.kp.length : Int), (⟨secondS wd N, (secondS wd N).mark, m⟩ : FV).mine⟩ : FV) p)] ++ [sto C6 ((⟨secondS wd N, (secondS wd N).mark, m⟩ : FV).s.mark + (C3.kp.length : Int)) s f X6]) := M34.arr [0, 1, 2] (by decide)
    refine pe rfl (fun K hK => ?_)
    refine e_call 16 [.pointer (some ⟨f, 0, none⟩)] rfl rfl Try.call16 (next_any (Mem.here hX35)) ?_
    rintro e w35 ⟨rfl, H35⟩
    have M35 : Mem w [] w35 [disk E6 p pg mb qv6, blk f 117 (fC (⟨flushS (⟨secondS wd N, (secondS wd N).mark, m⟩ : FV) C3 0, (⟨secondS wd N, (secondS wd N).mark, m⟩ : FV).s.mark + (C3.kp.length : Int), (⟨secondS wd N, (secondS wd N).mark, m⟩ : FV).mine⟩ : FV) p), sto C6 ((⟨secondS wd N, (secondS wd N).mark, m⟩ : FV).s.mark + (C3.kp.length : Int)) s f X6] := Mem.frame hX35 H35
    refine ⟨_, rfl, ?_⟩
    refine hK.out _ _ ?_
    clear hK K
    simp only [Act.put, zq1, zq2, zq3]
    refine pl M35 (y_eql (b := true) rfl rfl rfl rfl (decide_eq_true (show (2 : Int) + (C3.kp.length : Int) + ((0 : Nat) : Int) = 2 + (C3.kp.length : Int) by omega))) ?_
    simp only [Act.put, zq1, zq2, zq3]
    refine pl M35 (y_pickT (v := .bool true) rfl rfl rfl rfl) ?_
    simp only [Act.put, zq1, zq2, zq3]
    refine pl M35 (y_move (v := .bool true) rfl rfl rfl) ?_
    simp only [Act.put, zq1, zq2, zq3]
    refine pl M35 (y_move (v := .pointer (some ⟨s, 0, none⟩)) rfl rfl rfl) ?_
    simp only [Act.put, zq1, zq2, zq3]
    have hX36 : Mem w [] w35 ([disk E6 p pg mb qv6, blk f 117 (fC (⟨flushS (⟨secondS wd N, (secondS wd N).mark, m⟩ : FV) C3 0, (⟨secondS wd N, (secondS wd N).mark, m⟩ : FV).s.mark + (C3.kp.length : Int), (⟨secondS wd N, (secondS wd N).mark, m⟩ : FV).mine⟩ : FV) p), sto C6 ((⟨secondS wd N, (secondS wd N).mark, m⟩ : FV).s.mark + (C3.kp.length : Int)) s f X6] ++ []) := M35.arr [0, 1, 2] (by decide)
    have hCH36 := (by have h := sstaged_any (V := (⟨flushS (⟨secondS wd N, (secondS wd N).mark, m⟩ : FV) C3 0, (⟨secondS wd N, (secondS wd N).mark, m⟩ : FV).s.mark + (C3.kp.length : Int), (⟨secondS wd N, (secondS wd N).mark, m⟩ : FV).mine⟩ : FV)) (C := C6) (X := X6) (Mem.here hX36); rw [hc6] at h; exact h)
    refine pe rfl (fun K hK => ?_)
    refine e_call 20 [.pointer (some ⟨s, 0, none⟩)] rfl rfl Try.call20 (hCH36) ?_
    rintro e w36 ⟨rfl, H36⟩
    have M36 : Mem w [] w36 [disk E6 p pg mb qv6, blk f 117 (fC (⟨flushS (⟨secondS wd N, (secondS wd N).mark, m⟩ : FV) C3 0, (⟨secondS wd N, (secondS wd N).mark, m⟩ : FV).s.mark + (C3.kp.length : Int), (⟨secondS wd N, (secondS wd N).mark, m⟩ : FV).mine⟩ : FV) p), sto C6 ((⟨secondS wd N, (secondS wd N).mark, m⟩ : FV).s.mark + (C3.kp.length : Int)) s f X6] := Mem.frame hX36 H36
    refine ⟨_, rfl, ?_⟩
    refine hK.out _ _ ?_
    clear hK K
    simp only [Act.put, zq1, zq2, zq3]
    refine pl M36 (y_eql (b := true) rfl rfl rfl rfl (decide_eq_true (show ((0 : Nat) : Int) = 0 by rfl))) ?_
    simp only [Act.put, zq1, zq2, zq3]
    refine pl M36 (y_pickT (v := .bool true) rfl rfl rfl rfl) ?_
    simp only [Act.put, zq1, zq2, zq3]
    refine pl M36 (y_assign (v := .bool true) rfl rfl rfl) ?_
    simp only [Act.put, zq1, zq2, zq3]
    refine wpList_nil ?_
    refine hK32 _ _ ?_
    clear hK32
    refine wp_ret ?_
    try simp only [Exit.inBlock, Exit.then]
    refine bodyPost_ret (v := .bool true) (res1 rfl rfl) rfl ?_
    exact ⟨rfl, M36.arr [] (by decide)⟩
  · have hX37 : Mem w [] w27 ([disk (armD { E with reads := r3 } at0) p pg mb qv1, blk f 117 (fC (⟨secondS wd N, (secondS wd N).mark, m⟩ : FV) p), sto C3 ((⟨secondS wd N, (secondS wd N).mark, m⟩ : FV).s.mark) s f X3] ++ []) := M27.arr [0, 1, 2] (by decide)
    have hCH37 := sflush_down (Mem.here hX37) hS4 0 (.inl rfl) (by show (1 : Int) < _; decide) (by rw [har, hkl3]; omega) hql4
    refine pe rfl (fun K hK => ?_)
    refine e_call 18 [.pointer (some ⟨s, 0, none⟩), .int .i64 0] rfl rfl Try.call18 (hCH37) ?_
    rintro e w37 ⟨E6, V6, qv6, X6, rfl, hf6, hv6, hn6, hd6, he6, hp6, hx6, H37⟩
    have M37 : Mem w [] w37 [disk E6 p pg mb qv6, blk f 117 (fC V6 p), sto C3 ((⟨secondS wd N, (secondS wd N).mark, m⟩ : FV).s.mark) s f X6] := Mem.frame hX37 H37
    refine ⟨_, rfl, ?_⟩
    refine hK.out _ _ ?_
    clear hK K
    simp only [Act.put, zq1, zq2, zq3]
    refine pl M37 (y_assign (v := .int .i64 2) rfl rfl rfl) ?_
    simp only [Act.put, zq1, zq2, zq3]
    refine wpList_nil ?_
    refine hK28 _ _ ?_
    clear hK28
    refine wp_seq_k (fun K38 hK38 => ?_)
    refine wp_seq_k (fun K39 hK39 => ?_)
    refine wp_region_lit ?_
    refine pl M37 (y_move (v := .int .i64 at0) rfl rfl rfl) ?_
    simp only [Act.put, zq1, zq2, zq3]
    refine pl M37 (y_move (v := .int .i64 ((ms2.length : Int) + 3)) rfl rfl rfl) ?_
    simp only [Act.put, zq1, zq2, zq3]
    refine pl M37 (y_gtr (b := false) rfl rfl rfl rfl (decide_eq_false hgo)) ?_
    simp only [Act.put, zq1, zq2, zq3]
    refine wpList_nil ?_
    refine hK39 _ _ ?_
    clear hK39
    refine wp_cond_false rfl ?_
    refine wp_skip ?_
    refine hK38 _ _ ?_
    clear hK38
    refine wp_seq_k (fun K40 hK40 => ?_)
    refine wp_region_lit ?_
    refine pl M37 (y_move (v := .int .i64 2) rfl rfl rfl) ?_
    simp only [Act.put, zq1, zq2, zq3]
    refine pl M37 (y_eql (b := true) rfl rfl rfl rfl (decide_eq_true (by decide))) ?_
    simp only [Act.put, zq1, zq2, zq3]
    refine pl M37 (y_move (v := .bool true) rfl rfl rfl) ?_
    simp only [Act.put, zq1, zq2, zq3]
    refine pl M37 (y_move (v := .pointer (some ⟨f, 0, none⟩)) rfl rfl rfl) ?_
    simp only [Act.put, zq1, zq2, zq3]
    have hX41 : Mem w [] w37 ([disk E6 p pg mb qv6, blk f 117 (fC V6 p)] ++ [sto C3 ((⟨secondS wd N, (secondS wd N).mark, m⟩ : FV).s.mark) s f X6]) := M37.arr [0, 1, 2] (by decide)
    refine pe rfl (fun K hK => ?_)
    refine e_call 16 [.pointer (some ⟨f, 0, none⟩)] rfl rfl Try.call16 (next_any (Mem.here hX41)) ?_
    rintro e w41 ⟨rfl, H41⟩
    have M41 : Mem w [] w41 [disk E6 p pg mb qv6, blk f 117 (fC V6 p), sto C3 ((⟨secondS wd N, (secondS wd N).mark, m⟩ : FV).s.mark) s f X6] := Mem.frame hX41 H41
    refine ⟨_, rfl, ?_⟩
    refine hK.out _ _ ?_
    clear hK K
    simp only [Act.put, zq1, zq2, zq3]
    refine pl M41 (y_eql (b := true) rfl rfl rfl rfl (decide_eq_true (hn6.trans rfl))) ?_
    simp only [Act.put, zq1, zq2, zq3]
    refine pl M41 (y_pickT (v := .bool true) rfl rfl rfl rfl) ?_
    simp only [Act.put, zq1, zq2, zq3]
    refine pl M41 (y_move (v := .bool true) rfl rfl rfl) ?_
    simp only [Act.put, zq1, zq2, zq3]
    refine pl M41 (y_move (v := .pointer (some ⟨f, 0, none⟩)) rfl rfl rfl) ?_
    simp only [Act.put, zq1, zq2, zq3]
    have hX42 : Mem w [] w41 ([disk E6 p pg mb qv6, blk f 117 (fC V6 p)] ++ [sto C3 ((⟨secondS wd N, (secondS wd N).mark, m⟩ : FV).s.mark) s f X6]) := M41.arr [0, 1, 2] (by decide)
    refine pe rfl (fun K hK => ?_)
    refine e_call 21 [.pointer (some ⟨f, 0, none⟩)] rfl rfl Try.call21 (super_any (Mem.here hX42)) ?_
    rintro e w42 ⟨rfl, H42⟩
    have M42 : Mem w [] w42 [disk E6 p pg mb qv6, blk f 117 (fC V6 p), sto C3 ((⟨secondS wd N, (secondS wd N).mark, m⟩ : FV).s.mark) s f X6] := Mem.frame hX42 H42
    refine ⟨_, rfl, ?_⟩
    refine hK.out _ _ ?_
    clear hK K
    simp only [Act.put, zq1, zq2, zq3]
    refine pl M42 (y_field1 (v := .int .i64 V6.s.mark) rfl rfl rfl Try.underlying40 rfl Try.isAgg3 rfl) ?_
    simp only [Act.put, zq1, zq2, zq3]
    refine pl M42 (y_eql (b := true) rfl rfl rfl rfl (decide_eq_true (by rw [hv6]; rfl))) ?_
    simp only [Act.put, zq1, zq2, zq3]
    refine pl M42 (y_pickT (v := .bool true) rfl rfl rfl rfl) ?_
    simp only [Act.put, zq1, zq2, zq3]
    refine pl M42 (y_move (v := .bool true) rfl rfl rfl) ?_
    simp only [Act.put, zq1, zq2, zq3]
    refine pl M42 (y_move (v := .pointer (some ⟨s, 0, none⟩)) rfl rfl rfl) ?_
    simp only [Act.put, zq1, zq2, zq3]
    have hX43 : Mem w [] w42 ([disk E6 p pg mb qv6, blk f 117 (fC V6 p), sto C3 ((⟨secondS wd N, (secondS wd N).mark, m⟩ : FV).s.mark) s f X6] ++ []) := M42.arr [0, 1, 2] (by decide)
    have hCH43 := (by have h := snext_any (V := V6) (C := C3) (X := X6) (by rw [show V6.s.mark = (⟨secondS wd N, (secondS wd N).mark, m⟩ : FV).s.mark by rw [hv6]]; exact (Mem.here hX43)); rw [hv6] at h; exact h)
    refine pe rfl (fun K hK => ?_)
    refine e_call 19 [.pointer (some ⟨s, 0, none⟩)] rfl rfl Try.call19 (hCH43) ?_
    rintro e w43 ⟨rfl, H43⟩
    have M43 : Mem w [] w43 [disk E6 p pg mb qv6, blk f 117 (fC V6 p), sto C3 ((⟨secondS wd N, (secondS wd N).mark, m⟩ : FV).s.mark) s f X6] := Mem.frame hX43 H43
    refine ⟨_, rfl, ?_⟩
    refine hK.out _ _ ?_
    clear hK K
    simp only [Act.put, zq1, zq2, zq3]
    refine pl M43 (y_move (v := .slice aa ms2.length ac) rfl rfl rfl) ?_
    simp only [Act.put, zq1, zq2, zq3]
    refine pl M43 (y_len rfl rfl rfl Try.underlying22) ?_
    simp only [Act.put, zq1, zq2, zq3]
    refine pl M43 (y_add (r := 2 + (ms2.length : Int)) rfl rfl rfl rfl (rfl) (by omega)) ?_
    simp only [Act.put, zq1, zq2, zq3]
    refine pl M43 (y_eql (b := true) rfl rfl rfl rfl (decide_eq_true (show (2 : Int) + (C3.kp.length : Int) = 2 + (ms2.length : Int) by rw [hkl3]))) ?_
    simp only [Act.put, zq1, zq2, zq3]
    refine pl M43 (y_pickT (v := .bool true) rfl rfl rfl rfl) ?_
    simp only [Act.put, zq1, zq2, zq3]
    refine pl M43 (y_move (v := .bool true) rfl rfl rfl) ?_
    simp only [Act.put, zq1, zq2, zq3]
    refine pl M43 (y_move (v := .pointer (some ⟨s, 0, none⟩)) rfl rfl rfl) ?_
    simp only [Act.put, zq1, zq2, zq3]
    have hX44 : Mem w [] w43 ([disk E6 p pg mb qv6, blk f 117 (fC V6 p), sto C3 ((⟨secondS wd N, (secondS wd N).mark, m⟩ : FV).s.mark) s f X6] ++ []) := M43.arr [0, 1, 2] (by decide)
    have hCH44 := (by have h := sstaged_any (V := V6) (C := C3) (X := X6) (by rw [show V6.s.mark = (⟨secondS wd N, (secondS wd N).mark, m⟩ : FV).s.mark by rw [hv6]]; exact (Mem.here hX44)); rw [hv6] at h; exact h)
    refine pe rfl (fun K hK => ?_)
    refine e_call 20 [.pointer (some ⟨s, 0, none⟩)] rfl rfl Try.call20 (hCH44) ?_
    rintro e w44 ⟨rfl, H44⟩
    have M44 : Mem w [] w44 [disk E6 p pg mb qv6, blk f 117 (fC V6 p), sto C3 ((⟨secondS wd N, (secondS wd N).mark, m⟩ : FV).s.mark) s f X6] := Mem.frame hX44 H44
    refine ⟨_, rfl, ?_⟩
    refine hK.out _ _ ?_
    clear hK K
    simp only [Act.put, zq1, zq2, zq3]
    refine pl M44 (y_move (v := .slice aa ms2.length ac) rfl rfl rfl) ?_
    simp only [Act.put, zq1, zq2, zq3]
    refine pl M44 (y_len rfl rfl rfl Try.underlying22) ?_
    simp only [Act.put, zq1, zq2, zq3]
    refine pl M44 (y_eql (b := true) rfl rfl rfl rfl (decide_eq_true (show (C3.kp.length : Int) = (ms2.length : Int) by rw [hkl3]))) ?_
    simp only [Act.put, zq1, zq2, zq3]
    refine pl M44 (y_pickT (v := .bool true) rfl rfl rfl rfl) ?_
    simp only [Act.put, zq1, zq2, zq3]
    refine pl M44 (y_assign (v := .bool true) rfl rfl rfl) ?_
    simp only [Act.put, zq1, zq2, zq3]
    refine wpList_nil ?_
    refine hK40 _ _ ?_
    clear hK40
    refine wp_ret ?_
    try simp only [Exit.inBlock, Exit.then]
    refine bodyPost_ret (v := .bool true) (res1 rfl rfl) rfl ?_
    exact ⟨rfl, M44.arr [] (by decide)⟩
theorem forgets_law (pages width room n : Int) (aa : Option Addr) (an ac : Nat) (ms : List MV) {w : World} (hlc : ListIn madeC 2 w aa an ms ∧ an ≤ ac) (hok : ∀ m ∈ ms, MadeIn w m) :
    Calls Try.prog 3 #[.int .i64 pages, .int .i64 width, .int .i64 room, .slice aa an ac, .int .i64 n] w fun e w' => e = .returned (.bool true) ∧ Below w.heap.size w w' :=
  (forgets_walk pages width room n aa an ac ms hlc hok).mono fun e w' h => ⟨h.1, h.2.below⟩
end Go.Proofs.Ytmmkgkbjneebkaa
