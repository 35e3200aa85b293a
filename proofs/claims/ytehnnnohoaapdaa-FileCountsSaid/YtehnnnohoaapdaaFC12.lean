/- Texts joined: File6, File7, FileP, FileQ. -/
import Derived.Test.YtehnnnohoaapdaaFC11
/- The file: Append. -/
namespace Go.Proofs.Ytehnnnohoaapdaa
set_option linter.unusedSectionVars false
open Go Go.RowKit
set_option linter.unusedVariables false
set_option linter.unusedSimpArgs false
theorem pack_okI (kind page : Int) (ao : Option Addr) (n c : Nat) (l : List UInt8) (w : World) (hr : Row w ao n l) (hk : 1 ≤ kind ∧ kind ≤ 3) (hp : 2 ≤ page ∧ page < 4096) (hl : l.length ≤ 246) :
    Calls Try.prog 50 #[.int .i64 kind, .int .i64 page, .slice ao n c] w fun e w' => ∃ g c', e = .returned (.tuple #[.slice (some ⟨g, 0, none⟩) 256 c', .int .i64 0]) ∧ Mem w [] w' [lst 5 1 (.slice (some ⟨g, 0, none⟩) 256 c') 256 (bvs (pageB kind.toNat page.toNat l))] := by
  obtain ⟨k, rfl⟩ := Int.eq_ofNat_of_zero_le (show 0 ≤ kind by omega)
  obtain ⟨p, rfl⟩ := Int.eq_ofNat_of_zero_le (show 0 ≤ page by omega)
  refine (pack_ok k p ao n c l w hr ⟨by omega, by omega⟩ ⟨by omega, by omega⟩ hl).mono ?_
  rintro e w' ⟨v, rfl, h⟩
  obtain ⟨g, c', rfl, _, _⟩ := lst_slice (h.get 0 rfl) (by decide)
  exact ⟨g, c', rfl, h⟩
def appE (D : DV) (V : FV) (kind : Int) (l : List UInt8) : Int := if liveE D V ≠ 0 then liveE D V else if kind < 1 ∨ 3 < kind then 50 else if 246 < l.length then 51 else if (D.pages.length : Int) ≤ V.next then 5 else writeE D V.next (pageB kind.toNat V.next.toNat l)
def appD (D : DV) (V : FV) (kind : Int) (l : List UInt8) : DV := if liveE D V ≠ 0 ∨ kind < 1 ∨ 3 < kind ∨ 246 < l.length ∨ (D.pages.length : Int) ≤ V.next then D else writeD D V.next (pageB kind.toNat V.next.toNat l)
def appN (D : DV) (V : FV) (kind : Int) (l : List UInt8) : Int := if appE D V kind l = 0 then V.next else 0
def appV (D : DV) (V : FV) (kind : Int) (l : List UInt8) : FV := if appE D V kind l = 0 then { V with next := V.next + 1 } else V
theorem app_no {D : DV} {V : FV} {kind e : Int} {l : List UInt8} (h : appE D V kind l = e) (he : e ≠ 0) : appN D V kind l = 0 ∧ appV D V kind l = V := by
  unfold appN appV
  rw [h, if_neg he, if_neg he]
  exact ⟨rfl, rfl⟩
theorem app_yes {D : DV} {V : FV} {kind : Int} {l : List UInt8} (h : appE D V kind l = 0) : appN D V kind l = V.next ∧ appV D V kind l = { V with next := V.next + 1 } := by
  unfold appN appV
  rw [if_pos h, if_pos h]
  exact ⟨rfl, rfl⟩
set_option maxRecDepth 100000 in
set_option maxHeartbeats 4000000 in
theorem app_dead {D : DV} {V : FV} {f p pg mb : Nat} {qv : Value} {w : World} (hM : Mem w (foots [disk D p pg mb qv, blk f 96 (fC V p)]) w [disk D p pg mb qv, blk f 96 (fC V p)]) (kind : Int) (ao : Option Addr) (n c : Nat) (l : List UInt8) (hr : Row w ao n l) (hF : ∀ b o, ao = some ⟨b, o, none⟩ → 0 < n → b ∉ foots [disk D p pg mb qv, blk f 96 (fC V p)]) (hL : liveE D V ≠ 0) : Calls Try.prog 26 #[.pointer (some ⟨f, 0, none⟩), .int .i64 kind, .slice ao n c] w fun e w' => ∃ qv', e = .returned (.tuple #[.int .i64 (appN D V kind l), .int .i64 (appE D V kind l)]) ∧ Mem w (foots [disk D p pg mb qv, blk f 96 (fC V p)]) w' [disk (appD D V kind l) p pg mb qv', blk f 96 (fC (appV D V kind l) p)] := by
  obtain ⟨hok, M⟩ := disk_open hM
  clear hM
  go_enter Try.func26, Try.ntmps26
  refine wp_seq_k (fun K1 hK1 => ?_)
  refine wp_region_lit ?_
  refine pl M (y_assign (v := .int .i64 0) rfl rfl rfl) ?_
  simp only [Act.put, zq1, zq2, zq3]
  refine pl M (y_assign (v := .int .i64 0) rfl rfl rfl) ?_
  simp only [Act.put, zq1, zq2, zq3]
  refine wpList_nil ?_
  refine hK1 _ _ ?_
  clear hK1
  refine wp_seq_k (fun K2 hK2 => ?_)
  refine wp_seq_k (fun K3 hK3 => ?_)
  refine wp_region_lit ?_
  refine pl M (y_move (v := .pointer (some ⟨f, 0, none⟩)) rfl rfl rfl) ?_
  simp only [Act.put, zq1, zq2, zq3]
  have M4 : Mem w _ w [blk p 60 (dC D pg mb qv), blk pg 92 (pagesC D.pages), lst 94 257 qv D.q.length (qC D.q), mapq mb D.q, blk f 96 (fC V p)] := M.arr [0, 1, 2, 3, 4] (by decide)
  clear M
  have hlv : Mem w _ w ([disk D p pg mb (qv), blk f 96 (fC V p)] ++ []) := disk_close hok M4
  refine pe rfl (fun K hK => ?_)
  refine e_call 21 [.pointer (some ⟨f, 0, none⟩)] rfl rfl Try.call21 (live_any (Mem.here (L := [disk D p pg mb (qv), blk f 96 (fC V p)]) (R := []) hlv)) ?_
  rintro e w5 ⟨rfl, H5⟩
  have M5 : Mem w _ w5 [blk p 60 (dC D pg mb qv), blk pg 92 (pagesC D.pages), lst 94 257 qv D.q.length (qC D.q), mapq mb D.q, blk f 96 (fC V p)] := (disk_open (R := [blk f 96 (fC V p)] ++ []) (Mem.frame (Pre := [disk D p pg mb (qv), blk f 96 (fC V p)]) (Post := [disk D p pg mb (qv), blk f 96 (fC V p)]) (R := []) hlv H5)).2
  refine ⟨_, rfl, ?_⟩
  refine hK.out _ _ ?_
  clear hK K
  simp only [Act.put, zq1, zq2, zq3]
  refine pl M5 (y_assign (v := .int .i64 (liveE D V)) rfl rfl rfl) ?_
  simp only [Act.put, zq1, zq2, zq3]
  refine wpList_nil ?_
  refine hK3 _ _ ?_
  clear hK3
  refine wp_seq_k (fun K6 hK6 => ?_)
  refine wp_region_lit ?_
  refine pl M5 (y_move (v := .int .i64 (liveE D V)) rfl rfl rfl) ?_
  simp only [Act.put, zq1, zq2, zq3]
  refine pl M5 (y_neq (b := true) rfl rfl rfl rfl (by rw [decide_eq_false hL]; rfl)) ?_
  simp only [Act.put, zq1, zq2, zq3]
  refine wpList_nil ?_
  refine hK6 _ _ ?_
  clear hK6
  refine wp_cond_true rfl ?_
  refine wp_seq_k (fun K7 hK7 => ?_)
  refine wp_region_lit ?_
  refine pl M5 (y_move (v := .int .i64 (liveE D V)) rfl rfl rfl) ?_
  simp only [Act.put, zq1, zq2, zq3]
  refine pl M5 (y_assign (v := .int .i64 0) rfl rfl rfl) ?_
  simp only [Act.put, zq1, zq2, zq3]
  refine pl M5 (y_assign (v := .int .i64 (liveE D V)) rfl rfl rfl) ?_
  simp only [Act.put, zq1, zq2, zq3]
  refine wpList_nil ?_
  refine hK7 _ _ ?_
  clear hK7
  refine wp_ret ?_
  try simp only [Exit.inBlock, Exit.then]
  refine bodyPost_ret (v := .tuple #[.int .i64 0, .int .i64 (liveE D V)]) (res2 rfl rfl rfl) rfl ?_
  have e1 : appE D V kind l = liveE D V := if_pos hL
  obtain ⟨e2, e3⟩ := app_no e1 hL
  have e4 : appD D V kind l = D := if_pos (Or.inl hL)
  rw [e1, e2, e3, e4]
  exact ⟨_, rfl, (disk_close (D := D) hok (M5.arr [0, 1, 2, 3, 4] (by decide)))⟩
set_option maxRecDepth 100000 in
set_option maxHeartbeats 4000000 in
theorem app_klow {D : DV} {V : FV} {f p pg mb : Nat} {qv : Value} {w : World} (hM : Mem w (foots [disk D p pg mb qv, blk f 96 (fC V p)]) w [disk D p pg mb qv, blk f 96 (fC V p)]) (kind : Int) (ao : Option Addr) (n c : Nat) (l : List UInt8) (hr : Row w ao n l) (hF : ∀ b o, ao = some ⟨b, o, none⟩ → 0 < n → b ∉ foots [disk D p pg mb qv, blk f 96 (fC V p)]) (hL : liveE D V = 0) (hk : kind < 1) : Calls Try.prog 26 #[.pointer (some ⟨f, 0, none⟩), .int .i64 kind, .slice ao n c] w fun e w' => ∃ qv', e = .returned (.tuple #[.int .i64 (appN D V kind l), .int .i64 (appE D V kind l)]) ∧ Mem w (foots [disk D p pg mb qv, blk f 96 (fC V p)]) w' [disk (appD D V kind l) p pg mb qv', blk f 96 (fC (appV D V kind l) p)] := by
  obtain ⟨hok, M⟩ := disk_open hM
  clear hM
  go_enter Try.func26, Try.ntmps26
  refine wp_seq_k (fun K1 hK1 => ?_)
  refine wp_region_lit ?_
  refine pl M (y_assign (v := .int .i64 0) rfl rfl rfl) ?_
  simp only [Act.put, zq1, zq2, zq3]
  refine pl M (y_assign (v := .int .i64 0) rfl rfl rfl) ?_
  simp only [Act.put, zq1, zq2, zq3]
  refine wpList_nil ?_
  refine hK1 _ _ ?_
  clear hK1
  refine wp_seq_k (fun K2 hK2 => ?_)
  refine wp_seq_k (fun K3 hK3 => ?_)
  refine wp_region_lit ?_
  refine pl M (y_move (v := .pointer (some ⟨f, 0, none⟩)) rfl rfl rfl) ?_
  simp only [Act.put, zq1, zq2, zq3]
  have M4 : Mem w _ w [blk p 60 (dC D pg mb qv), blk pg 92 (pagesC D.pages), lst 94 257 qv D.q.length (qC D.q), mapq mb D.q, blk f 96 (fC V p)] := M.arr [0, 1, 2, 3, 4] (by decide)
  clear M
  have hlv : Mem w _ w ([disk D p pg mb (qv), blk f 96 (fC V p)] ++ []) := disk_close hok M4
  refine pe rfl (fun K hK => ?_)
  refine e_call 21 [.pointer (some ⟨f, 0, none⟩)] rfl rfl Try.call21 (live_any (Mem.here (L := [disk D p pg mb (qv), blk f 96 (fC V p)]) (R := []) hlv)) ?_
  rintro e w5 ⟨rfl, H5⟩
  have M5 : Mem w _ w5 [blk p 60 (dC D pg mb qv), blk pg 92 (pagesC D.pages), lst 94 257 qv D.q.length (qC D.q), mapq mb D.q, blk f 96 (fC V p)] := (disk_open (R := [blk f 96 (fC V p)] ++ []) (Mem.frame (Pre := [disk D p pg mb (qv), blk f 96 (fC V p)]) (Post := [disk D p pg mb (qv), blk f 96 (fC V p)]) (R := []) hlv H5)).2
  refine ⟨_, rfl, ?_⟩
  refine hK.out _ _ ?_
  clear hK K
  simp only [Act.put, zq1, zq2, zq3]
  refine pl M5 (y_assign (v := .int .i64 (liveE D V)) rfl rfl rfl) ?_
  simp only [Act.put, zq1, zq2, zq3]
  refine wpList_nil ?_
  refine hK3 _ _ ?_
  clear hK3
  refine wp_seq_k (fun K6 hK6 => ?_)
  refine wp_region_lit ?_
  refine pl M5 (y_move (v := .int .i64 (liveE D V)) rfl rfl rfl) ?_
  simp only [Act.put, zq1, zq2, zq3]
  refine pl M5 (y_neq (b := false) rfl rfl rfl rfl (by rw [decide_eq_true hL]; rfl)) ?_
  simp only [Act.put, zq1, zq2, zq3]
  refine wpList_nil ?_
  refine hK6 _ _ ?_
  clear hK6
  refine wp_cond_false rfl ?_
  refine wp_skip ?_
  refine hK2 _ _ ?_
  clear hK2
  refine wp_seq_k (fun K7 hK7 => ?_)
  refine wp_block ?_
  refine wp_seq_k (fun K8 hK8 => ?_)
  refine wp_region_lit ?_
  refine pl M5 (y_move (v := .int .i64 kind) rfl rfl rfl) ?_
  simp only [Act.put, zq1, zq2, zq3]
  refine pl M5 (y_lss (b := true) rfl rfl rfl rfl (decide_eq_true hk)) ?_
  simp only [Act.put, zq1, zq2, zq3]
  refine pl M5 (y_move (v := .bool true) rfl rfl rfl) ?_
  simp only [Act.put, zq1, zq2, zq3]
  with_reducible refine pskip ?_ ?_
  · rfl
  simp only [Act.put, zq1, zq2, zq3]
  with_reducible refine pskip ?_ ?_
  · rfl
  simp only [Act.put, zq1, zq2, zq3]
  refine pl M5 (y_pickT (v := .bool true) rfl rfl rfl rfl) ?_
  simp only [Act.put, zq1, zq2, zq3]
  refine pl M5 (y_assign (v := .bool true) rfl rfl rfl) ?_
  simp only [Act.put, zq1, zq2, zq3]
  refine wpList_nil ?_
  refine hK8 _ _ ?_
  clear hK8
  refine wp_cond_true rfl ?_
  refine wp_seq_k (fun K9 hK9 => ?_)
  refine wp_region_lit ?_
  refine pl M5 (y_assign (v := .int .i64 0) rfl rfl rfl) ?_
  simp only [Act.put, zq1, zq2, zq3]
  refine pl M5 (y_assign (v := .int .i64 50) rfl rfl rfl) ?_
  simp only [Act.put, zq1, zq2, zq3]
  refine wpList_nil ?_
  refine hK9 _ _ ?_
  clear hK9
  refine wp_ret ?_
  try simp only [Exit.inBlock, Exit.then]
  refine bodyPost_ret (v := .tuple #[.int .i64 0, .int .i64 50]) (res2 rfl rfl rfl) rfl ?_
  have e1 : appE D V kind l = 50 := by unfold appE; rw [if_neg (fun h => h hL), if_pos (by omega)]
  obtain ⟨e2, e3⟩ := app_no e1 (by decide)
  have e4 : appD D V kind l = D := if_pos (by omega)
  rw [e1, e2, e3, e4]
  exact ⟨_, rfl, (disk_close (D := D) hok (M5.arr [0, 1, 2, 3, 4] (by decide)))⟩
set_option maxRecDepth 100000 in
set_option maxHeartbeats 4000000 in
theorem app_khigh {D : DV} {V : FV} {f p pg mb : Nat} {qv : Value} {w : World} (hM : Mem w (foots [disk D p pg mb qv, blk f 96 (fC V p)]) w [disk D p pg mb qv, blk f 96 (fC V p)]) (kind : Int) (ao : Option Addr) (n c : Nat) (l : List UInt8) (hr : Row w ao n l) (hF : ∀ b o, ao = some ⟨b, o, none⟩ → 0 < n → b ∉ foots [disk D p pg mb qv, blk f 96 (fC V p)]) (hL : liveE D V = 0) (hk : 3 < kind) : Calls Try.prog 26 #[.pointer (some ⟨f, 0, none⟩), .int .i64 kind, .slice ao n c] w fun e w' => ∃ qv', e = .returned (.tuple #[.int .i64 (appN D V kind l), .int .i64 (appE D V kind l)]) ∧ Mem w (foots [disk D p pg mb qv, blk f 96 (fC V p)]) w' [disk (appD D V kind l) p pg mb qv', blk f 96 (fC (appV D V kind l) p)] := by
  obtain ⟨hok, M⟩ := disk_open hM
  clear hM
  go_enter Try.func26, Try.ntmps26
  refine wp_seq_k (fun K1 hK1 => ?_)
  refine wp_region_lit ?_
  refine pl M (y_assign (v := .int .i64 0) rfl rfl rfl) ?_
  simp only [Act.put, zq1, zq2, zq3]
  refine pl M (y_assign (v := .int .i64 0) rfl rfl rfl) ?_
  simp only [Act.put, zq1, zq2, zq3]
  refine wpList_nil ?_
  refine hK1 _ _ ?_
  clear hK1
  refine wp_seq_k (fun K2 hK2 => ?_)
  refine wp_seq_k (fun K3 hK3 => ?_)
  refine wp_region_lit ?_
  refine pl M (y_move (v := .pointer (some ⟨f, 0, none⟩)) rfl rfl rfl) ?_
  simp only [Act.put, zq1, zq2, zq3]
  have M4 : Mem w _ w [blk p 60 (dC D pg mb qv), blk pg 92 (pagesC D.pages), lst 94 257 qv D.q.length (qC D.q), mapq mb D.q, blk f 96 (fC V p)] := M.arr [0, 1, 2, 3, 4] (by decide)
  clear M
  have hlv : Mem w _ w ([disk D p pg mb (qv), blk f 96 (fC V p)] ++ []) := disk_close hok M4
  refine pe rfl (fun K hK => ?_)
  refine e_call 21 [.pointer (some ⟨f, 0, none⟩)] rfl rfl Try.call21 (live_any (Mem.here (L := [disk D p pg mb (qv), blk f 96 (fC V p)]) (R := []) hlv)) ?_
  rintro e w5 ⟨rfl, H5⟩
  have M5 : Mem w _ w5 [blk p 60 (dC D pg mb qv), blk pg 92 (pagesC D.pages), lst 94 257 qv D.q.length (qC D.q), mapq mb D.q, blk f 96 (fC V p)] := (disk_open (R := [blk f 96 (fC V p)] ++ []) (Mem.frame (Pre := [disk D p pg mb (qv), blk f 96 (fC V p)]) (Post := [disk D p pg mb (qv), blk f 96 (fC V p)]) (R := []) hlv H5)).2
  refine ⟨_, rfl, ?_⟩
  refine hK.out _ _ ?_
  clear hK K
  simp only [Act.put, zq1, zq2, zq3]
  refine pl M5 (y_assign (v := .int .i64 (liveE D V)) rfl rfl rfl) ?_
  simp only [Act.put, zq1, zq2, zq3]
  refine wpList_nil ?_
  refine hK3 _ _ ?_
  clear hK3
  refine wp_seq_k (fun K6 hK6 => ?_)
  refine wp_region_lit ?_
  refine pl M5 (y_move (v := .int .i64 (liveE D V)) rfl rfl rfl) ?_
  simp only [Act.put, zq1, zq2, zq3]
  refine pl M5 (y_neq (b := false) rfl rfl rfl rfl (by rw [decide_eq_true hL]; rfl)) ?_
  simp only [Act.put, zq1, zq2, zq3]
  refine wpList_nil ?_
  refine hK6 _ _ ?_
  clear hK6
  refine wp_cond_false rfl ?_
  refine wp_skip ?_
  refine hK2 _ _ ?_
  clear hK2
  refine wp_seq_k (fun K7 hK7 => ?_)
  refine wp_block ?_
  refine wp_seq_k (fun K8 hK8 => ?_)
  refine wp_region_lit ?_
  refine pl M5 (y_move (v := .int .i64 kind) rfl rfl rfl) ?_
  simp only [Act.put, zq1, zq2, zq3]
  refine pl M5 (y_lss (b := false) rfl rfl rfl rfl (decide_eq_false (by omega))) ?_
  simp only [Act.put, zq1, zq2, zq3]
  refine pl M5 (y_move (v := .bool false) rfl rfl rfl) ?_
  simp only [Act.put, zq1, zq2, zq3]
  refine pl M5 (y_move (v := .int .i64 kind) rfl rfl rfl) ?_
  simp only [Act.put, zq1, zq2, zq3]
  refine pl M5 (y_gtr (b := true) rfl rfl rfl rfl (decide_eq_true hk)) ?_
  simp only [Act.put, zq1, zq2, zq3]
  refine pl M5 (y_pickF (v := .bool true) rfl rfl rfl rfl) ?_
  simp only [Act.put, zq1, zq2, zq3]
  refine pl M5 (y_assign (v := .bool true) rfl rfl rfl) ?_
  simp only [Act.put, zq1, zq2, zq3]
  refine wpList_nil ?_
  refine hK8 _ _ ?_
  clear hK8
  refine wp_cond_true rfl ?_
  refine wp_seq_k (fun K9 hK9 => ?_)
  refine wp_region_lit ?_
  refine pl M5 (y_assign (v := .int .i64 0) rfl rfl rfl) ?_
  simp only [Act.put, zq1, zq2, zq3]
  refine pl M5 (y_assign (v := .int .i64 50) rfl rfl rfl) ?_
  simp only [Act.put, zq1, zq2, zq3]
  refine wpList_nil ?_
  refine hK9 _ _ ?_
  clear hK9
  refine wp_ret ?_
  try simp only [Exit.inBlock, Exit.then]
  refine bodyPost_ret (v := .tuple #[.int .i64 0, .int .i64 50]) (res2 rfl rfl rfl) rfl ?_
  have e1 : appE D V kind l = 50 := by unfold appE; rw [if_neg (fun h => h hL), if_pos (by omega)]
  obtain ⟨e2, e3⟩ := app_no e1 (by decide)
  have e4 : appD D V kind l = D := if_pos (by omega)
  rw [e1, e2, e3, e4]
  exact ⟨_, rfl, (disk_close (D := D) hok (M5.arr [0, 1, 2, 3, 4] (by decide)))⟩
set_option maxRecDepth 100000 in
set_option maxHeartbeats 4000000 in
theorem app_long {D : DV} {V : FV} {f p pg mb : Nat} {qv : Value} {w : World} (hM : Mem w (foots [disk D p pg mb qv, blk f 96 (fC V p)]) w [disk D p pg mb qv, blk f 96 (fC V p)]) (kind : Int) (ao : Option Addr) (n c : Nat) (l : List UInt8) (hr : Row w ao n l) (hF : ∀ b o, ao = some ⟨b, o, none⟩ → 0 < n → b ∉ foots [disk D p pg mb qv, blk f 96 (fC V p)]) (hL : liveE D V = 0) (hk : 1 ≤ kind ∧ kind ≤ 3) (hn : 246 < n) : Calls Try.prog 26 #[.pointer (some ⟨f, 0, none⟩), .int .i64 kind, .slice ao n c] w fun e w' => ∃ qv', e = .returned (.tuple #[.int .i64 (appN D V kind l), .int .i64 (appE D V kind l)]) ∧ Mem w (foots [disk D p pg mb qv, blk f 96 (fC V p)]) w' [disk (appD D V kind l) p pg mb qv', blk f 96 (fC (appV D V kind l) p)] := by
  obtain ⟨hok, M⟩ := disk_open hM
  clear hM
  go_enter Try.func26, Try.ntmps26
  refine wp_seq_k (fun K1 hK1 => ?_)
  refine wp_region_lit ?_
  refine pl M (y_assign (v := .int .i64 0) rfl rfl rfl) ?_
  simp only [Act.put, zq1, zq2, zq3]
  refine pl M (y_assign (v := .int .i64 0) rfl rfl rfl) ?_
  simp only [Act.put, zq1, zq2, zq3]
  refine wpList_nil ?_
  refine hK1 _ _ ?_
  clear hK1
  refine wp_seq_k (fun K2 hK2 => ?_)
  refine wp_seq_k (fun K3 hK3 => ?_)
  refine wp_region_lit ?_
  refine pl M (y_move (v := .pointer (some ⟨f, 0, none⟩)) rfl rfl rfl) ?_
  simp only [Act.put, zq1, zq2, zq3]
  have M4 : Mem w _ w [blk p 60 (dC D pg mb qv), blk pg 92 (pagesC D.pages), lst 94 257 qv D.q.length (qC D.q), mapq mb D.q, blk f 96 (fC V p)] := M.arr [0, 1, 2, 3, 4] (by decide)
  clear M
  have hlv : Mem w _ w ([disk D p pg mb (qv), blk f 96 (fC V p)] ++ []) := disk_close hok M4
  refine pe rfl (fun K hK => ?_)
  refine e_call 21 [.pointer (some ⟨f, 0, none⟩)] rfl rfl Try.call21 (live_any (Mem.here (L := [disk D p pg mb (qv), blk f 96 (fC V p)]) (R := []) hlv)) ?_
  rintro e w5 ⟨rfl, H5⟩
  have M5 : Mem w _ w5 [blk p 60 (dC D pg mb qv), blk pg 92 (pagesC D.pages), lst 94 257 qv D.q.length (qC D.q), mapq mb D.q, blk f 96 (fC V p)] := (disk_open (R := [blk f 96 (fC V p)] ++ []) (Mem.frame (Pre := [disk D p pg mb (qv), blk f 96 (fC V p)]) (Post := [disk D p pg mb (qv), blk f 96 (fC V p)]) (R := []) hlv H5)).2
  refine ⟨_, rfl, ?_⟩
  refine hK.out _ _ ?_
  clear hK K
  simp only [Act.put, zq1, zq2, zq3]
  refine pl M5 (y_assign (v := .int .i64 (liveE D V)) rfl rfl rfl) ?_
  simp only [Act.put, zq1, zq2, zq3]
  refine wpList_nil ?_
  refine hK3 _ _ ?_
  clear hK3
  refine wp_seq_k (fun K6 hK6 => ?_)
  refine wp_region_lit ?_
  refine pl M5 (y_move (v := .int .i64 (liveE D V)) rfl rfl rfl) ?_
  simp only [Act.put, zq1, zq2, zq3]
  refine pl M5 (y_neq (b := false) rfl rfl rfl rfl (by rw [decide_eq_true hL]; rfl)) ?_
  simp only [Act.put, zq1, zq2, zq3]
  refine wpList_nil ?_
  refine hK6 _ _ ?_
  clear hK6
  refine wp_cond_false rfl ?_
  refine wp_skip ?_
  refine hK2 _ _ ?_
  clear hK2
  refine wp_seq_k (fun K7 hK7 => ?_)
  refine wp_block ?_
  refine wp_seq_k (fun K8 hK8 => ?_)
  refine wp_region_lit ?_
  refine pl M5 (y_move (v := .int .i64 kind) rfl rfl rfl) ?_
  simp only [Act.put, zq1, zq2, zq3]
  refine pl M5 (y_lss (b := false) rfl rfl rfl rfl (decide_eq_false (by omega))) ?_
  simp only [Act.put, zq1, zq2, zq3]
  refine pl M5 (y_move (v := .bool false) rfl rfl rfl) ?_
  simp only [Act.put, zq1, zq2, zq3]
  refine pl M5 (y_move (v := .int .i64 kind) rfl rfl rfl) ?_
  simp only [Act.put, zq1, zq2, zq3]
  refine pl M5 (y_gtr (b := false) rfl rfl rfl rfl (decide_eq_false (by omega))) ?_
  simp only [Act.put, zq1, zq2, zq3]
  refine pl M5 (y_pickF (v := .bool false) rfl rfl rfl rfl) ?_
  simp only [Act.put, zq1, zq2, zq3]
  refine pl M5 (y_assign (v := .bool false) rfl rfl rfl) ?_
  simp only [Act.put, zq1, zq2, zq3]
  refine wpList_nil ?_
  refine hK8 _ _ ?_
  clear hK8
  refine wp_cond_false rfl ?_
  refine wp_seq_k (fun K9 hK9 => ?_)
  refine wp_region_lit ?_
  refine pl M5 (y_move (v := .slice ao n c) rfl rfl rfl) ?_
  simp only [Act.put, zq1, zq2, zq3]
  refine pl M5 (y_len rfl rfl rfl Try.underlying22) ?_
  simp only [Act.put, zq1, zq2, zq3]
  refine pl M5 (y_gtr (b := true) rfl rfl rfl rfl (decide_eq_true (by omega))) ?_
  simp only [Act.put, zq1, zq2, zq3]
  refine pl M5 (y_assign (v := .bool true) rfl rfl rfl) ?_
  simp only [Act.put, zq1, zq2, zq3]
  refine wpList_nil ?_
  refine hK9 _ _ ?_
  clear hK9
  refine wp_cond_true rfl ?_
  refine wp_seq_k (fun K10 hK10 => ?_)
  refine wp_region_lit ?_
  refine pl M5 (y_assign (v := .int .i64 0) rfl rfl rfl) ?_
  simp only [Act.put, zq1, zq2, zq3]
  refine pl M5 (y_assign (v := .int .i64 51) rfl rfl rfl) ?_
  simp only [Act.put, zq1, zq2, zq3]
  refine wpList_nil ?_
  refine hK10 _ _ ?_
  clear hK10
  refine wp_ret ?_
  try simp only [Exit.inBlock, Exit.then]
  refine bodyPost_ret (v := .tuple #[.int .i64 0, .int .i64 51]) (res2 rfl rfl rfl) rfl ?_
  have e1 : appE D V kind l = 51 := by unfold appE; rw [if_neg (fun h => h hL), if_neg (by omega), if_pos (by rw [hr.1]; exact hn)]
  obtain ⟨e2, e3⟩ := app_no e1 (by decide)
  have e4 : appD D V kind l = D := if_pos (Or.inr (Or.inr (Or.inr (Or.inl (by rw [hr.1]; exact hn)))))
  rw [e1, e2, e3, e4]
  exact ⟨_, rfl, (disk_close (D := D) hok (M5.arr [0, 1, 2, 3, 4] (by decide)))⟩
set_option maxRecDepth 100000 in
set_option maxHeartbeats 4000000 in
theorem app_full {D : DV} {V : FV} {f p pg mb : Nat} {qv : Value} {w : World} (hM : Mem w (foots [disk D p pg mb qv, blk f 96 (fC V p)]) w [disk D p pg mb qv, blk f 96 (fC V p)]) (kind : Int) (ao : Option Addr) (n c : Nat) (l : List UInt8) (hr : Row w ao n l) (hF : ∀ b o, ao = some ⟨b, o, none⟩ → 0 < n → b ∉ foots [disk D p pg mb qv, blk f 96 (fC V p)]) (hL : liveE D V = 0) (hk : 1 ≤ kind ∧ kind ≤ 3) (hn : ¬ 246 < n) (hx : (D.pages.length : Int) ≤ V.next) : Calls Try.prog 26 #[.pointer (some ⟨f, 0, none⟩), .int .i64 kind, .slice ao n c] w fun e w' => ∃ qv', e = .returned (.tuple #[.int .i64 (appN D V kind l), .int .i64 (appE D V kind l)]) ∧ Mem w (foots [disk D p pg mb qv, blk f 96 (fC V p)]) w' [disk (appD D V kind l) p pg mb qv', blk f 96 (fC (appV D V kind l) p)] := by
  obtain ⟨hok, M⟩ := disk_open hM
  clear hM
  go_enter Try.func26, Try.ntmps26
  refine wp_seq_k (fun K1 hK1 => ?_)
  refine wp_region_lit ?_
  refine pl M (y_assign (v := .int .i64 0) rfl rfl rfl) ?_
  simp only [Act.put, zq1, zq2, zq3]
  refine pl M (y_assign (v := .int .i64 0) rfl rfl rfl) ?_
  simp only [Act.put, zq1, zq2, zq3]
  refine wpList_nil ?_
  refine hK1 _ _ ?_
  clear hK1
  refine wp_seq_k (fun K2 hK2 => ?_)
  refine wp_seq_k (fun K3 hK3 => ?_)
  refine wp_region_lit ?_
  refine pl M (y_move (v := .pointer (some ⟨f, 0, none⟩)) rfl rfl rfl) ?_
  simp only [Act.put, zq1, zq2, zq3]
  have M4 : Mem w _ w [blk p 60 (dC D pg mb qv), blk pg 92 (pagesC D.pages), lst 94 257 qv D.q.length (qC D.q), mapq mb D.q, blk f 96 (fC V p)] := M.arr [0, 1, 2, 3, 4] (by decide)
  clear M
  have hlv : Mem w _ w ([disk D p pg mb (qv), blk f 96 (fC V p)] ++ []) := disk_close hok M4
  refine pe rfl (fun K hK => ?_)
  refine e_call 21 [.pointer (some ⟨f, 0, none⟩)] rfl rfl Try.call21 (live_any (Mem.here (L := [disk D p pg mb (qv), blk f 96 (fC V p)]) (R := []) hlv)) ?_
  rintro e w5 ⟨rfl, H5⟩
  have M5 : Mem w _ w5 [blk p 60 (dC D pg mb qv), blk pg 92 (pagesC D.pages), lst 94 257 qv D.q.length (qC D.q), mapq mb D.q, blk f 96 (fC V p)] := (disk_open (R := [blk f 96 (fC V p)] ++ []) (Mem.frame (Pre := [disk D p pg mb (qv), blk f 96 (fC V p)]) (Post := [disk D p pg mb (qv), blk f 96 (fC V p)]) (R := []) hlv H5)).2
  refine ⟨_, rfl, ?_⟩
  refine hK.out _ _ ?_
  clear hK K
  simp only [Act.put, zq1, zq2, zq3]
  refine pl M5 (y_assign (v := .int .i64 (liveE D V)) rfl rfl rfl) ?_
  simp only [Act.put, zq1, zq2, zq3]
  refine wpList_nil ?_
  refine hK3 _ _ ?_
  clear hK3
  refine wp_seq_k (fun K6 hK6 => ?_)
  refine wp_region_lit ?_
  refine pl M5 (y_move (v := .int .i64 (liveE D V)) rfl rfl rfl) ?_
  simp only [Act.put, zq1, zq2, zq3]
  refine pl M5 (y_neq (b := false) rfl rfl rfl rfl (by rw [decide_eq_true hL]; rfl)) ?_
  simp only [Act.put, zq1, zq2, zq3]
  refine wpList_nil ?_
  refine hK6 _ _ ?_
  clear hK6
  refine wp_cond_false rfl ?_
  refine wp_skip ?_
  refine hK2 _ _ ?_
  clear hK2
  refine wp_seq_k (fun K7 hK7 => ?_)
  refine wp_block ?_
  refine wp_seq_k (fun K8 hK8 => ?_)
  refine wp_region_lit ?_
  refine pl M5 (y_move (v := .int .i64 kind) rfl rfl rfl) ?_
  simp only [Act.put, zq1, zq2, zq3]
  refine pl M5 (y_lss (b := false) rfl rfl rfl rfl (decide_eq_false (by omega))) ?_
  simp only [Act.put, zq1, zq2, zq3]
  refine pl M5 (y_move (v := .bool false) rfl rfl rfl) ?_
  simp only [Act.put, zq1, zq2, zq3]
  refine pl M5 (y_move (v := .int .i64 kind) rfl rfl rfl) ?_
  simp only [Act.put, zq1, zq2, zq3]
  refine pl M5 (y_gtr (b := false) rfl rfl rfl rfl (decide_eq_false (by omega))) ?_
  simp only [Act.put, zq1, zq2, zq3]
  refine pl M5 (y_pickF (v := .bool false) rfl rfl rfl rfl) ?_
  simp only [Act.put, zq1, zq2, zq3]
  refine pl M5 (y_assign (v := .bool false) rfl rfl rfl) ?_
  simp only [Act.put, zq1, zq2, zq3]
  refine wpList_nil ?_
  refine hK8 _ _ ?_
  clear hK8
  refine wp_cond_false rfl ?_
  refine wp_seq_k (fun K9 hK9 => ?_)
  refine wp_region_lit ?_
  refine pl M5 (y_move (v := .slice ao n c) rfl rfl rfl) ?_
  simp only [Act.put, zq1, zq2, zq3]
  refine pl M5 (y_len rfl rfl rfl Try.underlying22) ?_
  simp only [Act.put, zq1, zq2, zq3]
  refine pl M5 (y_gtr (b := false) rfl rfl rfl rfl (decide_eq_false (by omega))) ?_
  simp only [Act.put, zq1, zq2, zq3]
  refine pl M5 (y_assign (v := .bool false) rfl rfl rfl) ?_
  simp only [Act.put, zq1, zq2, zq3]
  refine wpList_nil ?_
  refine hK9 _ _ ?_
  clear hK9
  refine wp_cond_false rfl ?_
  refine wp_seq_k (fun K10 hK10 => ?_)
  have M11 := M5.drew
  refine held_begin (fun W => Mem w (foots [disk D p pg mb qv, blk f 96 (fC V p)]) W [blk f 96 (fC V p)]) (by kernel_rfl) (M11.arr [4] (by decide)) (fun hS => ?_)
  refine held_take 0 _ rfl (by kernel_rfl) (by kernel_rfl) (by kernel_rfl) (y_move (v := .pointer (some ⟨f, 0, none⟩)) rfl rfl rfl) hS ?_
  simp only [Act.put, zq1, zq2, zq3]
  refine held_take 1 _ rfl (by kernel_rfl) (by kernel_rfl) (by kernel_rfl) (y_nil rfl rfl rfl) hS ?_
  simp only [Act.put, zq1, zq2, zq3]
  refine held_take 2 _ rfl (by kernel_rfl) (by kernel_rfl) (by kernel_rfl) (y_fa (r := 6) rfl rfl rfl Try.underlying96 rfl Try.sizeOf3 rfl) hS ?_
  simp only [Act.put, zq1, zq2, zq3]
  refine held_take 3 _ rfl (by kernel_rfl) (by kernel_rfl) (by kernel_rfl) (y_load (v := .int .i64 V.next) rfl rfl rfl Try.isAgg3 (fun W hW => hW.get 0 rfl) (rfl)) hS ?_
  simp only [Act.put, zq1, zq2, zq3]
  refine held_take 4 _ rfl (by kernel_rfl) (by kernel_rfl) (by kernel_rfl) (y_move (v := .pointer (some ⟨f, 0, none⟩)) rfl rfl rfl) hS ?_
  simp only [Act.put, zq1, zq2, zq3]
  refine held_take 5 _ rfl (by kernel_rfl) (by kernel_rfl) (by kernel_rfl) (y_nil rfl rfl rfl) hS ?_
  simp only [Act.put, zq1, zq2, zq3]
  refine held_take 6 _ rfl (by kernel_rfl) (by kernel_rfl) (by kernel_rfl) (y_fa (r := 0) rfl rfl rfl Try.underlying96 rfl Try.sizeOf24 rfl) hS ?_
  simp only [Act.put, zq1, zq2, zq3]
  refine held_take 7 _ rfl (by kernel_rfl) (by kernel_rfl) (by kernel_rfl) (y_load (v := .pointer (some ⟨p, 0, none⟩)) rfl rfl rfl Try.isAgg24 (fun W hW => hW.get 0 rfl) (rfl)) hS ?_
  simp only [Act.put, zq1, zq2, zq3]
  refine held_step 8 (by kernel_rfl) rfl (by rfl) (fun K hK => ?_)
  refine e_call 24 [.pointer (some ⟨p, 0, none⟩)] rfl rfl Try.call24 (pages_any (Mem.here (L := [disk (D) p pg mb (qv)]) (R := [blk f 96 (fC V p)]) (disk_close (D := D) (R := [blk f 96 (fC V p)]) hok M11)) ) ?_
  rintro e w12 ⟨rfl, H12⟩
  have M12 : Mem w _ w12 [blk p 60 (dC D pg mb qv), blk pg 92 (pagesC D.pages), lst 94 257 qv D.q.length (qC D.q), mapq mb D.q, blk f 96 (fC V p)] := (disk_open (Mem.frame (Pre := [disk (D) p pg mb (qv)]) (Post := [disk (D) p pg mb (qv)]) (R := [blk f 96 (fC V p)]) (disk_close (D := D) (R := [blk f 96 (fC V p)]) hok M11) H12)).2
  refine ⟨_, rfl, ?_⟩
  refine hK.out _ _ (M12.arr [4] (by decide)) (fun hS => ?_)
  clear hK K
  simp only [Act.put, zq1, zq2, zq3]
  refine held_take 9 _ rfl (by kernel_rfl) (by kernel_rfl) (by kernel_rfl) (y_geq (b := true) rfl rfl rfl rfl (decide_eq_true hx)) hS ?_
  simp only [Act.put, zq1, zq2, zq3]
  refine held_take 10 _ rfl (by kernel_rfl) (by kernel_rfl) (by kernel_rfl) (y_assign (v := .bool true) rfl rfl rfl) hS ?_
  simp only [Act.put, zq1, zq2, zq3]
  refine held_done (by kernel_rfl) ?_ _
  refine hK10 _ _ ?_
  clear hK10
  refine wp_cond_true rfl ?_
  refine wp_seq_k (fun K13 hK13 => ?_)
  refine wp_region_lit ?_
  refine pl M12 (y_assign (v := .int .i64 0) rfl rfl rfl) ?_
  simp only [Act.put, zq1, zq2, zq3]
  refine pl M12 (y_assign (v := .int .i64 5) rfl rfl rfl) ?_
  simp only [Act.put, zq1, zq2, zq3]
  refine wpList_nil ?_
  refine hK13 _ _ ?_
  clear hK13
  refine wp_ret ?_
  try simp only [Exit.inBlock, Exit.then]
  refine bodyPost_ret (v := .tuple #[.int .i64 0, .int .i64 5]) (res2 rfl rfl rfl) rfl ?_
  have e1 : appE D V kind l = 5 := by unfold appE; rw [if_neg (fun h => h hL), if_neg (by omega), if_neg (by rw [hr.1]; exact hn), if_pos hx]
  obtain ⟨e2, e3⟩ := app_no e1 (by decide)
  have e4 : appD D V kind l = D := if_pos (Or.inr (Or.inr (Or.inr (Or.inr hx))))
  rw [e1, e2, e3, e4]
  exact ⟨_, rfl, (disk_close (D := D) hok (M12.arr [0, 1, 2, 3, 4] (by decide)))⟩
set_option maxRecDepth 100000 in
set_option maxHeartbeats 4000000 in
theorem app_ok {D : DV} {V : FV} {f p pg mb : Nat} {qv : Value} {w : World} (hM : Mem w (foots [disk D p pg mb qv, blk f 96 (fC V p)]) w [disk D p pg mb qv, blk f 96 (fC V p)]) (kind : Int) (ao : Option Addr) (n c : Nat) (l : List UInt8) (hr : Row w ao n l) (hF : ∀ b o, ao = some ⟨b, o, none⟩ → 0 < n → b ∉ foots [disk D p pg mb qv, blk f 96 (fC V p)]) (hL : liveE D V = 0) (hk : 1 ≤ kind ∧ kind ≤ 3) (hn : ¬ 246 < n) (hx : V.next < (D.pages.length : Int)) (hq : D.q.length ≤ 500000000000) (hV : FOk D V) : Calls Try.prog 26 #[.pointer (some ⟨f, 0, none⟩), .int .i64 kind, .slice ao n c] w fun e w' => ∃ qv', e = .returned (.tuple #[.int .i64 (appN D V kind l), .int .i64 (appE D V kind l)]) ∧ Mem w (foots [disk D p pg mb qv, blk f 96 (fC V p)]) w' [disk (appD D V kind l) p pg mb qv', blk f 96 (fC (appV D V kind l) p)] := by
  obtain ⟨hok, M⟩ := disk_open hM
  clear hM
  have hhi := hok.hi
  have hnl := hr.1
  have hlo := hV.lo
  go_enter Try.func26, Try.ntmps26
  refine wp_seq_k (fun K1 hK1 => ?_)
  refine wp_region_lit ?_
  refine pl M (y_assign (v := .int .i64 0) rfl rfl rfl) ?_
  simp only [Act.put, zq1, zq2, zq3]
  refine pl M (y_assign (v := .int .i64 0) rfl rfl rfl) ?_
  simp only [Act.put, zq1, zq2, zq3]
  refine wpList_nil ?_
  refine hK1 _ _ ?_
  clear hK1
  refine wp_seq_k (fun K2 hK2 => ?_)
  refine wp_seq_k (fun K3 hK3 => ?_)
  refine wp_region_lit ?_
  refine pl M (y_move (v := .pointer (some ⟨f, 0, none⟩)) rfl rfl rfl) ?_
  simp only [Act.put, zq1, zq2, zq3]
  have M4 : Mem w _ w [blk p 60 (dC D pg mb qv), blk pg 92 (pagesC D.pages), lst 94 257 qv D.q.length (qC D.q), mapq mb D.q, blk f 96 (fC V p)] := M.arr [0, 1, 2, 3, 4] (by decide)
  clear M
  have hlv : Mem w _ w ([disk D p pg mb (qv), blk f 96 (fC V p)] ++ []) := disk_close hok M4
  refine pe rfl (fun K hK => ?_)
  refine e_call 21 [.pointer (some ⟨f, 0, none⟩)] rfl rfl Try.call21 (live_any (Mem.here (L := [disk D p pg mb (qv), blk f 96 (fC V p)]) (R := []) hlv)) ?_
  rintro e w5 ⟨rfl, H5⟩
  have M5 : Mem w _ w5 [blk p 60 (dC D pg mb qv), blk pg 92 (pagesC D.pages), lst 94 257 qv D.q.length (qC D.q), mapq mb D.q, blk f 96 (fC V p)] := (disk_open (R := [blk f 96 (fC V p)] ++ []) (Mem.frame (Pre := [disk D p pg mb (qv), blk f 96 (fC V p)]) (Post := [disk D p pg mb (qv), blk f 96 (fC V p)]) (R := []) hlv H5)).2
  refine ⟨_, rfl, ?_⟩
  refine hK.out _ _ ?_
  clear hK K
  simp only [Act.put, zq1, zq2, zq3]
  refine pl M5 (y_assign (v := .int .i64 (liveE D V)) rfl rfl rfl) ?_
  simp only [Act.put, zq1, zq2, zq3]
  refine wpList_nil ?_
  refine hK3 _ _ ?_
  clear hK3
  refine wp_seq_k (fun K6 hK6 => ?_)
  refine wp_region_lit ?_
  refine pl M5 (y_move (v := .int .i64 (liveE D V)) rfl rfl rfl) ?_
  simp only [Act.put, zq1, zq2, zq3]
  refine pl M5 (y_neq (b := false) rfl rfl rfl rfl (by rw [decide_eq_true hL]; rfl)) ?_
  simp only [Act.put, zq1, zq2, zq3]
  refine wpList_nil ?_
  refine hK6 _ _ ?_
  clear hK6
  refine wp_cond_false rfl ?_
  refine wp_skip ?_
  refine hK2 _ _ ?_
  clear hK2
  refine wp_seq_k (fun K7 hK7 => ?_)
  refine wp_block ?_
  refine wp_seq_k (fun K8 hK8 => ?_)
  refine wp_region_lit ?_
  refine pl M5 (y_move (v := .int .i64 kind) rfl rfl rfl) ?_
  simp only [Act.put, zq1, zq2, zq3]
  refine pl M5 (y_lss (b := false) rfl rfl rfl rfl (decide_eq_false (by omega))) ?_
  simp only [Act.put, zq1, zq2, zq3]
  refine pl M5 (y_move (v := .bool false) rfl rfl rfl) ?_
  simp only [Act.put, zq1, zq2, zq3]
  refine pl M5 (y_move (v := .int .i64 kind) rfl rfl rfl) ?_
  simp only [Act.put, zq1, zq2, zq3]
  refine pl M5 (y_gtr (b := false) rfl rfl rfl rfl (decide_eq_false (by omega))) ?_
  simp only [Act.put, zq1, zq2, zq3]
  refine pl M5 (y_pickF (v := .bool false) rfl rfl rfl rfl) ?_
  simp only [Act.put, zq1, zq2, zq3]
  refine pl M5 (y_assign (v := .bool false) rfl rfl rfl) ?_
  simp only [Act.put, zq1, zq2, zq3]
  refine wpList_nil ?_
  refine hK8 _ _ ?_
  clear hK8
  refine wp_cond_false rfl ?_
  refine wp_seq_k (fun K9 hK9 => ?_)
  refine wp_region_lit ?_
  refine pl M5 (y_move (v := .slice ao n c) rfl rfl rfl) ?_
  simp only [Act.put, zq1, zq2, zq3]
  refine pl M5 (y_len rfl rfl rfl Try.underlying22) ?_
  simp only [Act.put, zq1, zq2, zq3]
  refine pl M5 (y_gtr (b := false) rfl rfl rfl rfl (decide_eq_false (by omega))) ?_
  simp only [Act.put, zq1, zq2, zq3]
  refine pl M5 (y_assign (v := .bool false) rfl rfl rfl) ?_
  simp only [Act.put, zq1, zq2, zq3]
  refine wpList_nil ?_
  refine hK9 _ _ ?_
  clear hK9
  refine wp_cond_false rfl ?_
  refine wp_seq_k (fun K10 hK10 => ?_)
  have M11 := M5.drew
  refine held_begin (fun W => Mem w (foots [disk D p pg mb qv, blk f 96 (fC V p)]) W [blk f 96 (fC V p)]) (by kernel_rfl) (M11.arr [4] (by decide)) (fun hS => ?_)
  refine held_take 0 _ rfl (by kernel_rfl) (by kernel_rfl) (by kernel_rfl) (y_move (v := .pointer (some ⟨f, 0, none⟩)) rfl rfl rfl) hS ?_
  simp only [Act.put, zq1, zq2, zq3]
  refine held_take 1 _ rfl (by kernel_rfl) (by kernel_rfl) (by kernel_rfl) (y_nil rfl rfl rfl) hS ?_
  simp only [Act.put, zq1, zq2, zq3]
  refine held_take 2 _ rfl (by kernel_rfl) (by kernel_rfl) (by kernel_rfl) (y_fa (r := 6) rfl rfl rfl Try.underlying96 rfl Try.sizeOf3 rfl) hS ?_
  simp only [Act.put, zq1, zq2, zq3]
  refine held_take 3 _ rfl (by kernel_rfl) (by kernel_rfl) (by kernel_rfl) (y_load (v := .int .i64 V.next) rfl rfl rfl Try.isAgg3 (fun W hW => hW.get 0 rfl) (rfl)) hS ?_
  simp only [Act.put, zq1, zq2, zq3]
  refine held_take 4 _ rfl (by kernel_rfl) (by kernel_rfl) (by kernel_rfl) (y_move (v := .pointer (some ⟨f, 0, none⟩)) rfl rfl rfl) hS ?_
  simp only [Act.put, zq1, zq2, zq3]
  refine held_take 5 _ rfl (by kernel_rfl) (by kernel_rfl) (by kernel_rfl) (y_nil rfl rfl rfl) hS ?_
  simp only [Act.put, zq1, zq2, zq3]
  refine held_take 6 _ rfl (by kernel_rfl) (by kernel_rfl) (by kernel_rfl) (y_fa (r := 0) rfl rfl rfl Try.underlying96 rfl Try.sizeOf24 rfl) hS ?_
  simp only [Act.put, zq1, zq2, zq3]
  refine held_take 7 _ rfl (by kernel_rfl) (by kernel_rfl) (by kernel_rfl) (y_load (v := .pointer (some ⟨p, 0, none⟩)) rfl rfl rfl Try.isAgg24 (fun W hW => hW.get 0 rfl) (rfl)) hS ?_
  simp only [Act.put, zq1, zq2, zq3]
  refine held_step 8 (by kernel_rfl) rfl (by rfl) (fun K hK => ?_)
  refine e_call 24 [.pointer (some ⟨p, 0, none⟩)] rfl rfl Try.call24 (pages_any (Mem.here (L := [disk (D) p pg mb (qv)]) (R := [blk f 96 (fC V p)]) (disk_close (D := D) (R := [blk f 96 (fC V p)]) hok M11)) ) ?_
  rintro e w12 ⟨rfl, H12⟩
  have M12 : Mem w _ w12 [blk p 60 (dC D pg mb qv), blk pg 92 (pagesC D.pages), lst 94 257 qv D.q.length (qC D.q), mapq mb D.q, blk f 96 (fC V p)] := (disk_open (Mem.frame (Pre := [disk (D) p pg mb (qv)]) (Post := [disk (D) p pg mb (qv)]) (R := [blk f 96 (fC V p)]) (disk_close (D := D) (R := [blk f 96 (fC V p)]) hok M11) H12)).2
  refine ⟨_, rfl, ?_⟩
  refine hK.out _ _ (M12.arr [4] (by decide)) (fun hS => ?_)
  clear hK K
  simp only [Act.put, zq1, zq2, zq3]
  refine held_take 9 _ rfl (by kernel_rfl) (by kernel_rfl) (by kernel_rfl) (y_geq (b := false) rfl rfl rfl rfl (decide_eq_false (by omega))) hS ?_
  simp only [Act.put, zq1, zq2, zq3]
  refine held_take 10 _ rfl (by kernel_rfl) (by kernel_rfl) (by kernel_rfl) (y_assign (v := .bool false) rfl rfl rfl) hS ?_
  simp only [Act.put, zq1, zq2, zq3]
  refine held_done (by kernel_rfl) ?_ _
  refine hK10 _ _ ?_
  clear hK10
  refine wp_cond_false rfl ?_
  refine wp_skip ?_
  refine hK7 _ _ ?_
  clear hK7
  refine wp_seq_k (fun K13 hK13 => ?_)
  refine wp_region_lit ?_
  refine pl M12 (y_move (v := .int .i64 kind) rfl rfl rfl) ?_
  simp only [Act.put, zq1, zq2, zq3]
  refine pl M12 (y_move (v := .pointer (some ⟨f, 0, none⟩)) rfl rfl rfl) ?_
  simp only [Act.put, zq1, zq2, zq3]
  refine pl M12 (y_nil rfl rfl rfl) ?_
  simp only [Act.put, zq1, zq2, zq3]
  refine pl M12 (y_fa (r := 6) rfl rfl rfl Try.underlying96 rfl Try.sizeOf3 rfl) ?_
  simp only [Act.put, zq1, zq2, zq3]
  refine pl M12 (y_load (v := .int .i64 V.next) rfl rfl rfl Try.isAgg3 (fun W hW => hW.get 4 rfl) (rfl)) ?_
  simp only [Act.put, zq1, zq2, zq3]
  refine pl M12 (y_move (v := .slice ao n c) rfl rfl rfl) ?_
  simp only [Act.put, zq1, zq2, zq3]
  refine pe rfl (fun K hK => ?_)
  refine e_call 50 [.int .i64 kind, .int .i64 V.next, .slice ao n c] rfl rfl Try.call50 (pack_okI kind V.next ao n c l _ (M12.row hr hF) hk ⟨by omega, by omega⟩ (by omega)) ?_
  rintro e w14 ⟨gp, cp, rfl, H⟩
  have M14 : Mem w _ w14 [lst 5 1 (.slice (some ⟨gp, 0, none⟩) 256 cp) 256 (bvs (pageB kind.toNat V.next.toNat l)), blk p 60 (dC D pg mb qv), blk pg 92 (pagesC D.pages), lst 94 257 qv D.q.length (qC D.q), mapq mb D.q, blk f 96 (fC V p)] := M12.step H
  refine ⟨_, rfl, ?_⟩
  refine hK.out _ _ ?_
  clear hK K
  simp only [Act.put, zq1, zq2, zq3]
  refine pl M14 (y_move (v := .tuple #[.slice (some ⟨gp, 0, none⟩) 256 cp, .int .i64 0]) rfl rfl rfl) ?_
  simp only [Act.put, zq1, zq2, zq3]
  refine pl M14 (y_ext (v := .slice (some ⟨gp, 0, none⟩) 256 cp) rfl rfl rfl rfl) ?_
  simp only [Act.put, zq1, zq2, zq3]
  refine pl M14 (y_ext (v := .int .i64 0) rfl rfl rfl rfl) ?_
  simp only [Act.put, zq1, zq2, zq3]
  refine pl M14 (y_assign (v := .slice (some ⟨gp, 0, none⟩) 256 cp) rfl rfl rfl) ?_
  simp only [Act.put, zq1, zq2, zq3]
  refine pl M14 (y_assign (v := .int .i64 0) rfl rfl rfl) ?_
  simp only [Act.put, zq1, zq2, zq3]
  refine wpList_nil ?_
  refine hK13 _ _ ?_
  clear hK13
  refine wp_seq_k (fun K15 hK15 => ?_)
  refine wp_seq_k (fun K16 hK16 => ?_)
  refine wp_region_lit ?_
  refine pl M14 (y_move (v := .int .i64 0) rfl rfl rfl) ?_
  simp only [Act.put, zq1, zq2, zq3]
  refine pl M14 (y_neq (b := false) rfl rfl rfl rfl (by rw [decide_eq_true rfl]; rfl)) ?_
  simp only [Act.put, zq1, zq2, zq3]
  refine wpList_nil ?_
  refine hK16 _ _ ?_
  clear hK16
  refine wp_cond_false rfl ?_
  refine wp_skip ?_
  refine hK15 _ _ ?_
  clear hK15
  refine wp_seq_k (fun K17 hK17 => ?_)
  refine wp_seq_k (fun K18 hK18 => ?_)
  have M19 := M14.drew
  refine held_begin (fun W => Mem w (foots [disk D p pg mb qv, blk f 96 (fC V p)]) W [blk f 96 (fC V p)]) (by kernel_rfl) (M19.arr [5] (by decide)) (fun hS => ?_)
  refine held_take 0 _ rfl (by kernel_rfl) (by kernel_rfl) (by kernel_rfl) (y_move (v := .pointer (some ⟨f, 0, none⟩)) rfl rfl rfl) hS ?_
  simp only [Act.put, zq1, zq2, zq3]
  refine held_take 1 _ rfl (by kernel_rfl) (by kernel_rfl) (by kernel_rfl) (y_nil rfl rfl rfl) hS ?_
  simp only [Act.put, zq1, zq2, zq3]
  refine held_take 2 _ rfl (by kernel_rfl) (by kernel_rfl) (by kernel_rfl) (y_fa (r := 0) rfl rfl rfl Try.underlying96 rfl Try.sizeOf24 rfl) hS ?_
  simp only [Act.put, zq1, zq2, zq3]
  refine held_take 3 _ rfl (by kernel_rfl) (by kernel_rfl) (by kernel_rfl) (y_load (v := .pointer (some ⟨p, 0, none⟩)) rfl rfl rfl Try.isAgg24 (fun W hW => hW.get 0 rfl) (rfl)) hS ?_
  simp only [Act.put, zq1, zq2, zq3]
  refine held_take 4 _ rfl (by kernel_rfl) (by kernel_rfl) (by kernel_rfl) (y_move (v := .pointer (some ⟨f, 0, none⟩)) rfl rfl rfl) hS ?_
  simp only [Act.put, zq1, zq2, zq3]
  refine held_take 5 _ rfl (by kernel_rfl) (by kernel_rfl) (by kernel_rfl) (y_nil rfl rfl rfl) hS ?_
  simp only [Act.put, zq1, zq2, zq3]
  refine held_take 6 _ rfl (by kernel_rfl) (by kernel_rfl) (by kernel_rfl) (y_fa (r := 6) rfl rfl rfl Try.underlying96 rfl Try.sizeOf3 rfl) hS ?_
  simp only [Act.put, zq1, zq2, zq3]
  refine held_take 7 _ rfl (by kernel_rfl) (by kernel_rfl) (by kernel_rfl) (y_load (v := .int .i64 V.next) rfl rfl rfl Try.isAgg3 (fun W hW => hW.get 0 rfl) (rfl)) hS ?_
  simp only [Act.put, zq1, zq2, zq3]
  refine held_take 8 _ rfl (by kernel_rfl) (by kernel_rfl) (by kernel_rfl) (y_move (v := .slice (some ⟨gp, 0, none⟩) 256 cp) rfl rfl rfl) hS ?_
  simp only [Act.put, zq1, zq2, zq3]
  have M20 : Mem w _ w14.drew [blk p 60 (dC D pg mb qv), blk pg 92 (pagesC D.pages), lst 94 257 qv D.q.length (qC D.q), mapq mb D.q, lst 5 1 (.slice (some ⟨gp, 0, none⟩) 256 cp) 256 (bvs (pageB kind.toNat V.next.toNat l)), blk f 96 (fC V p)] := M19.arr [1, 2, 3, 4, 0, 5] (by decide)
  clear M19
  refine held_step 9 (by kernel_rfl) rfl (by rfl) (fun K hK => ?_)
  have hnd : Mem w _ w14.drew [disk D p pg mb qv, lst 5 1 (.slice (some ⟨gp, 0, none⟩) 256 cp) 256 (bvs (pageB kind.toNat V.next.toNat l)), blk f 96 (fC V p)] := (disk_close (D := D) (R := [lst 5 1 (.slice (some ⟨gp, 0, none⟩) 256 cp) 256 (bvs (pageB kind.toNat V.next.toNat l)), blk f 96 (fC V p)]) hok M20)
  refine e_call 51 [.pointer (some ⟨p, 0, none⟩), .int .i64 V.next, .slice (some ⟨gp, 0, none⟩) 256 cp] rfl rfl Try.call51 (write_any (Mem.here (L := [disk D p pg mb (qv)]) (R := [lst 5 1 (.slice (some ⟨gp, 0, none⟩) 256 cp) 256 (bvs (pageB kind.toNat V.next.toNat l)), blk f 96 (fC V p)]) hnd) V.next (some ⟨gp, 0, none⟩) 256 cp (pageB kind.toNat V.next.toNat l) (lst_row (M20.get 4 rfl)) (fun b o e _ hb => by cases e; exact hnd.apart 0 1 (by decide) rfl rfl (by simp [foots] at hb; exact hb) (by simp [lst, obs, Value.ownBlock])) (by omega) hq) ?_
  rintro e w21 ⟨qv', rfl, H⟩
  have M21 : Mem w _ w21 [disk (writeD D V.next (pageB kind.toNat V.next.toNat l)) p pg mb qv', lst 5 1 (.slice (some ⟨gp, 0, none⟩) 256 cp) 256 (bvs (pageB kind.toNat V.next.toNat l)), blk f 96 (fC V p)] := Mem.frame (Pre := [disk D p pg mb (qv)]) (Post := [disk (writeD D V.next (pageB kind.toNat V.next.toNat l)) p pg mb qv']) (R := [lst 5 1 (.slice (some ⟨gp, 0, none⟩) 256 cp) 256 (bvs (pageB kind.toNat V.next.toNat l)), blk f 96 (fC V p)]) hnd H
  clear H hnd M20
  refine ⟨_, rfl, ?_⟩
  refine hK.out _ _ (M21.arr [2] (by decide)) (fun hS => ?_)
  clear hK K
  simp only [Act.put, zq1, zq2, zq3]
  refine held_take 10 _ rfl (by kernel_rfl) (by kernel_rfl) (by kernel_rfl) (y_assign (v := .int .i64 (writeE D V.next (pageB kind.toNat V.next.toNat l))) rfl rfl rfl) hS ?_
  simp only [Act.put, zq1, zq2, zq3]
  refine held_done (by kernel_rfl) ?_ _
  refine hK18 _ _ ?_
  clear hK18
  refine wp_seq_k (fun K22 hK22 => ?_)
  refine wp_region_lit ?_
  refine pl M21 (y_move (v := .int .i64 (writeE D V.next (pageB kind.toNat V.next.toNat l))) rfl rfl rfl) ?_
  simp only [Act.put, zq1, zq2, zq3]
  rcases Decidable.em (writeE D V.next (pageB kind.toNat V.next.toNat l) = 0) with h23 | h23
  · refine pl M21 (y_neq (b := false) rfl rfl rfl rfl (by rw [decide_eq_true h23]; rfl)) ?_
    simp only [Act.put, zq1, zq2, zq3]
    refine wpList_nil ?_
    refine hK22 _ _ ?_
    clear hK22
    refine wp_cond_false rfl ?_
    refine wp_skip ?_
    refine hK17 _ _ ?_
    clear hK17
    refine wp_seq_k (fun K24 hK24 => ?_)
    refine wp_region_lit ?_
    refine pl M21 (y_move (v := .pointer (some ⟨f, 0, none⟩)) rfl rfl rfl) ?_
    simp only [Act.put, zq1, zq2, zq3]
    refine pl M21 (y_nil rfl rfl rfl) ?_
    simp only [Act.put, zq1, zq2, zq3]
    refine pl M21 (y_fa (r := 6) rfl rfl rfl Try.underlying96 rfl Try.sizeOf3 rfl) ?_
    simp only [Act.put, zq1, zq2, zq3]
    refine pl M21 (y_load (v := .int .i64 V.next) rfl rfl rfl Try.isAgg3 (fun W hW => hW.get 2 rfl) (rfl)) ?_
    simp only [Act.put, zq1, zq2, zq3]
    refine pl M21 (y_add (r := V.next + 1) rfl rfl rfl rfl (rfl) (by omega)) ?_
    simp only [Act.put, zq1, zq2, zq3]
    refine pl M21 (y_nil rfl rfl rfl) ?_
    simp only [Act.put, zq1, zq2, zq3]
    refine pl M21 (y_fa (r := 6) rfl rfl rfl Try.underlying96 rfl Try.sizeOf3 rfl) ?_
    simp only [Act.put, zq1, zq2, zq3]
    refine pe rfl (fun K hK => ?_)
    refine e_store M21 2 (v := .int .i64 (V.next + 1)) rfl rfl rfl rfl rfl rfl Try.sizeOf3 rfl (show (6 : Nat) < 8 by decide) ?_
    intro w25 (M25 : Mem w _ w25 [disk (writeD D V.next (pageB kind.toNat V.next.toNat l)) p pg mb qv', lst 5 1 (.slice (some ⟨gp, 0, none⟩) 256 cp) 256 (bvs (pageB kind.toNat V.next.toNat l)), blk f 96 ([.pointer (some ⟨p, 0, none⟩), .int .i64 V.s.width, .int .i64 V.s.gen, .int .i64 V.s.mark, .int .i64 V.s.head, .int .i64 V.s.pages, .int .i64 (V.next + 1), .int .i64 V.mine])])
    clear M21
    refine hK.out _ _ ?_
    clear hK K
    simp only [Act.put, zq1, zq2, zq3]
    refine wpList_nil ?_
    refine hK24 _ _ ?_
    clear hK24
    refine wp_seq_k (fun K26 hK26 => ?_)
    refine wp_region_lit ?_
    refine pl M25 (y_move (v := .pointer (some ⟨f, 0, none⟩)) rfl rfl rfl) ?_
    simp only [Act.put, zq1, zq2, zq3]
    refine pl M25 (y_nil rfl rfl rfl) ?_
    simp only [Act.put, zq1, zq2, zq3]
    refine pl M25 (y_fa (r := 6) rfl rfl rfl Try.underlying96 rfl Try.sizeOf3 rfl) ?_
    simp only [Act.put, zq1, zq2, zq3]
    refine pl M25 (y_load (v := .int .i64 (V.next + 1)) rfl rfl rfl Try.isAgg3 (fun W hW => hW.get 2 rfl) (rfl)) ?_
    simp only [Act.put, zq1, zq2, zq3]
    refine pl M25 (y_sub (r := V.next) rfl rfl rfl rfl (by omega) (by omega)) ?_
    simp only [Act.put, zq1, zq2, zq3]
    refine pl M25 (y_assign (v := .int .i64 V.next) rfl rfl rfl) ?_
    simp only [Act.put, zq1, zq2, zq3]
    refine pl M25 (y_assign (v := .int .i64 0) rfl rfl rfl) ?_
    simp only [Act.put, zq1, zq2, zq3]
    refine wpList_nil ?_
    refine hK26 _ _ ?_
    clear hK26
    refine wp_ret ?_
    try simp only [Exit.inBlock, Exit.then]
    refine bodyPost_ret (v := .tuple #[.int .i64 V.next, .int .i64 0]) (res2 rfl rfl rfl) rfl ?_
    have e1 : appE D V kind l = writeE D V.next (pageB kind.toNat V.next.toNat l) := by unfold appE; rw [if_neg (fun h => h hL), if_neg (by omega), if_neg (by omega), if_neg (by omega)]
    have e4 : appD D V kind l = writeD D V.next (pageB kind.toNat V.next.toNat l) := if_neg (by omega)
    rw [h23] at e1
    obtain ⟨e2, e3⟩ := app_yes e1
    rw [e1, e2, e3, e4]
    exact ⟨_, rfl, M25.arr [0, 2] (by decide)⟩
  · refine pl M21 (y_neq (b := true) rfl rfl rfl rfl (by rw [decide_eq_false h23]; rfl)) ?_
    simp only [Act.put, zq1, zq2, zq3]
    refine wpList_nil ?_
    refine hK22 _ _ ?_
    clear hK22
    refine wp_cond_true rfl ?_
    refine wp_seq_k (fun K27 hK27 => ?_)
    refine wp_region_lit ?_
    refine pl M21 (y_move (v := .int .i64 (writeE D V.next (pageB kind.toNat V.next.toNat l))) rfl rfl rfl) ?_
    simp only [Act.put, zq1, zq2, zq3]
    refine pl M21 (y_assign (v := .int .i64 0) rfl rfl rfl) ?_
    simp only [Act.put, zq1, zq2, zq3]
    refine pl M21 (y_assign (v := .int .i64 (writeE D V.next (pageB kind.toNat V.next.toNat l))) rfl rfl rfl) ?_
    simp only [Act.put, zq1, zq2, zq3]
    refine wpList_nil ?_
    refine hK27 _ _ ?_
    clear hK27
    refine wp_ret ?_
    try simp only [Exit.inBlock, Exit.then]
    refine bodyPost_ret (v := .tuple #[.int .i64 0, .int .i64 (writeE D V.next (pageB kind.toNat V.next.toNat l))]) (res2 rfl rfl rfl) rfl ?_
    have e1 : appE D V kind l = writeE D V.next (pageB kind.toNat V.next.toNat l) := by unfold appE; rw [if_neg (fun h => h hL), if_neg (by omega), if_neg (by omega), if_neg (by omega)]
    have e4 : appD D V kind l = writeD D V.next (pageB kind.toNat V.next.toNat l) := if_neg (by omega)
    obtain ⟨e2, e3⟩ := app_no e1 h23
    rw [e1, e2, e3, e4]
    exact ⟨_, rfl, M21.arr [0, 2] (by decide)⟩
theorem app_any {D : DV} {V : FV} {f p pg mb : Nat} {qv : Value} {w : World} (hM : Mem w (foots [disk D p pg mb qv, blk f 96 (fC V p)]) w [disk D p pg mb qv, blk f 96 (fC V p)]) (kind : Int) (ao : Option Addr) (n c : Nat) (l : List UInt8) (hr : Row w ao n l) (hF : ∀ b o, ao = some ⟨b, o, none⟩ → 0 < n → b ∉ foots [disk D p pg mb qv, blk f 96 (fC V p)]) (hq : D.q.length ≤ 500000000000) (hV : FOk D V) : Calls Try.prog 26 #[.pointer (some ⟨f, 0, none⟩), .int .i64 kind, .slice ao n c] w fun e w' => ∃ qv', e = .returned (.tuple #[.int .i64 (appN D V kind l), .int .i64 (appE D V kind l)]) ∧ Mem w (foots [disk D p pg mb qv, blk f 96 (fC V p)]) w' [disk (appD D V kind l) p pg mb qv', blk f 96 (fC (appV D V kind l) p)] := by
  by_cases hL : liveE D V = 0
  · rcases Int.lt_or_le kind 1 with h1 | h1
    · exact app_klow hM kind ao n c l hr hF hL h1
    · rcases Int.lt_or_le 3 kind with h2 | h2
      · exact app_khigh hM kind ao n c l hr hF hL h2
      · by_cases hn : 246 < n
        · exact app_long hM kind ao n c l hr hF hL ⟨h1, h2⟩ hn
        · rcases Int.lt_or_le V.next (D.pages.length : Int) with h3 | h3
          · exact app_ok hM kind ao n c l hr hF hL ⟨h1, h2⟩ hn h3 hq hV
          · exact app_full hM kind ao n c l hr hF hL ⟨h1, h2⟩ hn h3
  · exact app_dead hM kind ao n c l hr hF hL
end Go.Proofs.Ytehnnnohoaapdaa

/- The file: Publish. -/
namespace Go.Proofs.Ytehnnnohoaapdaa
set_option linter.unusedSectionVars false
open Go Go.RowKit
set_option linter.unusedVariables false
set_option linter.unusedSimpArgs false
def pubS (V : FV) (head : Int) : SupV := (⟨V.s.width, V.s.gen + 1, V.next, head, V.s.pages⟩ : SupV)
def pubR (D : DV) (V : FV) (head : Int) : DV × Int := if liveE D V ≠ 0 then (D, liveE D V) else if head ≠ 0 ∧ (head < 2 ∨ V.next ≤ head) then (D, 41) else if 1099511627776 ≤ V.s.gen then (D, 5) else runS [yS, wS (pubS V head), yS] D
def pubV (D : DV) (V : FV) (head : Int) : FV := if (pubR D V head).2 = 0 then { V with s := pubS V head } else V
theorem pub_no {D : DV} {V : FV} {head e : Int} {D' : DV} (h : pubR D V head = (D', e)) (he : e ≠ 0) : pubV D V head = V := by
  unfold pubV
  rw [h, if_neg he]
theorem pub_validS {D : DV} {V : FV} {head : Int} (hV : FOk D V) (hg : V.s.gen < 1099511627776) (hh : head = 0 ∨ (2 ≤ head ∧ head < V.next)) : ValidS (pubS V head) :=
  ⟨hV.valid.1, hV.valid.2.1, by have := hV.valid.2.2.1; show 0 ≤ V.s.gen + 1; omega, by show V.s.gen + 1 ≤ _; omega, hV.valid.2.2.2.2.1, hV.valid.2.2.2.2.2.1, hV.lo, hV.hi, hh⟩
set_option maxRecDepth 100000 in
set_option maxHeartbeats 4000000 in
theorem pub_dead {D : DV} {V : FV} {f p pg mb : Nat} {qv : Value} {w : World} (hM : Mem w (foots [disk D p pg mb qv, blk f 96 (fC V p)]) w [disk D p pg mb qv, blk f 96 (fC V p)]) (head : Int) (hL : liveE D V ≠ 0) : Calls Try.prog 28 #[.pointer (some ⟨f, 0, none⟩), .int .i64 head] w fun e w' => ∃ qv', e = .returned (.int .i64 (pubR D V head).2) ∧ Mem w (foots [disk D p pg mb qv, blk f 96 (fC V p)]) w' [disk (pubR D V head).1 p pg mb qv', blk f 96 (fC (pubV D V head) p)] := by
  obtain ⟨hok, M⟩ := disk_open hM
  clear hM
  go_enter Try.func28, Try.ntmps28
  refine wp_seq_k (fun K1 hK1 => ?_)
  refine wp_region_lit ?_
  refine pl M (y_assign (v := .int .i64 0) rfl rfl rfl) ?_
  simp only [Act.put, zq1, zq2, zq3]
  refine wpList_nil ?_
  refine hK1 _ _ ?_
  clear hK1
  refine wp_seq_k (fun K2 hK2 => ?_)
  refine wp_seq_k (fun K3 hK3 => ?_)
  refine wp_region_lit ?_
  refine pl M (y_move (v := .pointer (some ⟨f, 0, none⟩)) rfl rfl rfl) ?_
  simp only [Act.put, zq1, zq2, zq3]
  have M4 : Mem w _ w [blk p 60 (dC D pg mb qv), blk pg 92 (pagesC D.pages), lst 94 257 qv D.q.length (qC D.q), mapq mb D.q, blk f 96 (fC V p)] := M.arr [0, 1, 2, 3, 4] (by decide)
  clear M
  have hlv : Mem w _ w ([disk D p pg mb (qv), blk f 96 (fC V p)] ++ []) := disk_close hok M4
  refine pe rfl (fun K hK => ?_)
  refine e_call 21 [.pointer (some ⟨f, 0, none⟩)] rfl rfl Try.call21 (live_any (Mem.here (L := [disk D p pg mb (qv), blk f 96 (fC V p)]) (R := []) hlv)) ?_
  rintro e w5 ⟨rfl, H5⟩
  have M5 : Mem w _ w5 [blk p 60 (dC D pg mb qv), blk pg 92 (pagesC D.pages), lst 94 257 qv D.q.length (qC D.q), mapq mb D.q, blk f 96 (fC V p)] := (disk_open (R := [blk f 96 (fC V p)] ++ []) (Mem.frame (Pre := [disk D p pg mb (qv), blk f 96 (fC V p)]) (Post := [disk D p pg mb (qv), blk f 96 (fC V p)]) (R := []) hlv H5)).2
  refine ⟨_, rfl, ?_⟩
  refine hK.out _ _ ?_
  clear hK K
  simp only [Act.put, zq1, zq2, zq3]
  refine pl M5 (y_assign (v := .int .i64 (liveE D V)) rfl rfl rfl) ?_
  simp only [Act.put, zq1, zq2, zq3]
  refine wpList_nil ?_
  refine hK3 _ _ ?_
  clear hK3
  refine wp_seq_k (fun K6 hK6 => ?_)
  refine wp_region_lit ?_
  refine pl M5 (y_move (v := .int .i64 (liveE D V)) rfl rfl rfl) ?_
  simp only [Act.put, zq1, zq2, zq3]
  refine pl M5 (y_neq (b := true) rfl rfl rfl rfl (by rw [decide_eq_false hL]; rfl)) ?_
  simp only [Act.put, zq1, zq2, zq3]
  refine wpList_nil ?_
  refine hK6 _ _ ?_
  clear hK6
  refine wp_cond_true rfl ?_
  refine wp_seq_k (fun K7 hK7 => ?_)
  refine wp_region_lit ?_
  refine pl M5 (y_move (v := .int .i64 (liveE D V)) rfl rfl rfl) ?_
  simp only [Act.put, zq1, zq2, zq3]
  refine pl M5 (y_assign (v := .int .i64 (liveE D V)) rfl rfl rfl) ?_
  simp only [Act.put, zq1, zq2, zq3]
  refine wpList_nil ?_
  refine hK7 _ _ ?_
  clear hK7
  refine wp_ret ?_
  try simp only [Exit.inBlock, Exit.then]
  refine bodyPost_ret (v := .int .i64 (liveE D V)) (res1 rfl rfl) rfl ?_
  have e1 : pubR D V head = (D, liveE D V) := if_pos hL
  have e2 := pub_no e1 hL
  rw [e2, e1]
  exact ⟨_, rfl, (disk_close (D := D) hok (M5.arr [0, 1, 2, 3, 4] (by decide)))⟩
set_option maxRecDepth 100000 in
set_option maxHeartbeats 4000000 in
theorem pub_low {D : DV} {V : FV} {f p pg mb : Nat} {qv : Value} {w : World} (hM : Mem w (foots [disk D p pg mb qv, blk f 96 (fC V p)]) w [disk D p pg mb qv, blk f 96 (fC V p)]) (head : Int) (hL : liveE D V = 0) (h0 : head ≠ 0) (h1 : head < 2) : Calls Try.prog 28 #[.pointer (some ⟨f, 0, none⟩), .int .i64 head] w fun e w' => ∃ qv', e = .returned (.int .i64 (pubR D V head).2) ∧ Mem w (foots [disk D p pg mb qv, blk f 96 (fC V p)]) w' [disk (pubR D V head).1 p pg mb qv', blk f 96 (fC (pubV D V head) p)] := by
  obtain ⟨hok, M⟩ := disk_open hM
  clear hM
  go_enter Try.func28, Try.ntmps28
  refine wp_seq_k (fun K1 hK1 => ?_)
  refine wp_region_lit ?_
  refine pl M (y_assign (v := .int .i64 0) rfl rfl rfl) ?_
  simp only [Act.put, zq1, zq2, zq3]
  refine wpList_nil ?_
  refine hK1 _ _ ?_
  clear hK1
  refine wp_seq_k (fun K2 hK2 => ?_)
  refine wp_seq_k (fun K3 hK3 => ?_)
  refine wp_region_lit ?_
  refine pl M (y_move (v := .pointer (some ⟨f, 0, none⟩)) rfl rfl rfl) ?_
  simp only [Act.put, zq1, zq2, zq3]
  have M4 : Mem w _ w [blk p 60 (dC D pg mb qv), blk pg 92 (pagesC D.pages), lst 94 257 qv D.q.length (qC D.q), mapq mb D.q, blk f 96 (fC V p)] := M.arr [0, 1, 2, 3, 4] (by decide)
  clear M
  have hlv : Mem w _ w ([disk D p pg mb (qv), blk f 96 (fC V p)] ++ []) := disk_close hok M4
  refine pe rfl (fun K hK => ?_)
  refine e_call 21 [.pointer (some ⟨f, 0, none⟩)] rfl rfl Try.call21 (live_any (Mem.here (L := [disk D p pg mb (qv), blk f 96 (fC V p)]) (R := []) hlv)) ?_
  rintro e w5 ⟨rfl, H5⟩
  have M5 : Mem w _ w5 [blk p 60 (dC D pg mb qv), blk pg 92 (pagesC D.pages), lst 94 257 qv D.q.length (qC D.q), mapq mb D.q, blk f 96 (fC V p)] := (disk_open (R := [blk f 96 (fC V p)] ++ []) (Mem.frame (Pre := [disk D p pg mb (qv), blk f 96 (fC V p)]) (Post := [disk D p pg mb (qv), blk f 96 (fC V p)]) (R := []) hlv H5)).2
  refine ⟨_, rfl, ?_⟩
  refine hK.out _ _ ?_
  clear hK K
  simp only [Act.put, zq1, zq2, zq3]
  refine pl M5 (y_assign (v := .int .i64 (liveE D V)) rfl rfl rfl) ?_
  simp only [Act.put, zq1, zq2, zq3]
  refine wpList_nil ?_
  refine hK3 _ _ ?_
  clear hK3
  refine wp_seq_k (fun K6 hK6 => ?_)
  refine wp_region_lit ?_
  refine pl M5 (y_move (v := .int .i64 (liveE D V)) rfl rfl rfl) ?_
  simp only [Act.put, zq1, zq2, zq3]
  refine pl M5 (y_neq (b := false) rfl rfl rfl rfl (by rw [decide_eq_true hL]; rfl)) ?_
  simp only [Act.put, zq1, zq2, zq3]
  refine wpList_nil ?_
  refine hK6 _ _ ?_
  clear hK6
  refine wp_cond_false rfl ?_
  refine wp_skip ?_
  refine hK2 _ _ ?_
  clear hK2
  refine wp_seq_k (fun K7 hK7 => ?_)
  refine wp_seq_k (fun K8 hK8 => ?_)
  refine wp_region_lit ?_
  refine pl M5 (y_move (v := .int .i64 head) rfl rfl rfl) ?_
  simp only [Act.put, zq1, zq2, zq3]
  refine pl M5 (y_neq (b := true) rfl rfl rfl rfl (by rw [decide_eq_false h0]; rfl)) ?_
  simp only [Act.put, zq1, zq2, zq3]
  refine pl M5 (y_move (v := .bool true) rfl rfl rfl) ?_
  simp only [Act.put, zq1, zq2, zq3]
  refine pl M5 (y_move (v := .int .i64 head) rfl rfl rfl) ?_
  simp only [Act.put, zq1, zq2, zq3]
  refine pl M5 (y_lss (b := true) rfl rfl rfl rfl (decide_eq_true h1)) ?_
  simp only [Act.put, zq1, zq2, zq3]
  refine pl M5 (y_move (v := .bool true) rfl rfl rfl) ?_
  simp only [Act.put, zq1, zq2, zq3]
  with_reducible refine pskip ?_ ?_
  · rfl
  simp only [Act.put, zq1, zq2, zq3]
  with_reducible refine pskip ?_ ?_
  · rfl
  simp only [Act.put, zq1, zq2, zq3]
  with_reducible refine pskip ?_ ?_
  · rfl
  simp only [Act.put, zq1, zq2, zq3]
  with_reducible refine pskip ?_ ?_
  · rfl
  simp only [Act.put, zq1, zq2, zq3]
  with_reducible refine pskip ?_ ?_
  · rfl
  simp only [Act.put, zq1, zq2, zq3]
  with_reducible refine pskip ?_ ?_
  · rfl
  simp only [Act.put, zq1, zq2, zq3]
  refine pl M5 (y_pickT (v := .bool true) rfl rfl rfl rfl) ?_
  simp only [Act.put, zq1, zq2, zq3]
  refine pl M5 (y_pickT (v := .bool true) rfl rfl rfl rfl) ?_
  simp only [Act.put, zq1, zq2, zq3]
  refine wpList_nil ?_
  refine hK8 _ _ ?_
  clear hK8
  refine wp_cond_true rfl ?_
  refine wp_seq_k (fun K9 hK9 => ?_)
  refine wp_region_lit ?_
  refine pl M5 (y_assign (v := .int .i64 41) rfl rfl rfl) ?_
  simp only [Act.put, zq1, zq2, zq3]
  refine wpList_nil ?_
  refine hK9 _ _ ?_
  clear hK9
  refine wp_ret ?_
  try simp only [Exit.inBlock, Exit.then]
  refine bodyPost_ret (v := .int .i64 41) (res1 rfl rfl) rfl ?_
  have e1 : pubR D V head = (D, 41) := by unfold pubR; rw [if_neg (fun h => h hL), if_pos (by omega)]
  have e2 := pub_no e1 (by decide)
  rw [e2, e1]
  exact ⟨_, rfl, (disk_close (D := D) hok (M5.arr [0, 1, 2, 3, 4] (by decide)))⟩
set_option maxRecDepth 100000 in
set_option maxHeartbeats 4000000 in
theorem pub_high {D : DV} {V : FV} {f p pg mb : Nat} {qv : Value} {w : World} (hM : Mem w (foots [disk D p pg mb qv, blk f 96 (fC V p)]) w [disk D p pg mb qv, blk f 96 (fC V p)]) (head : Int) (hL : liveE D V = 0) (h0 : head ≠ 0) (h1 : ¬ head < 2) (h2 : V.next ≤ head) : Calls Try.prog 28 #[.pointer (some ⟨f, 0, none⟩), .int .i64 head] w fun e w' => ∃ qv', e = .returned (.int .i64 (pubR D V head).2) ∧ Mem w (foots [disk D p pg mb qv, blk f 96 (fC V p)]) w' [disk (pubR D V head).1 p pg mb qv', blk f 96 (fC (pubV D V head) p)] := by
  obtain ⟨hok, M⟩ := disk_open hM
  clear hM
  go_enter Try.func28, Try.ntmps28
  refine wp_seq_k (fun K1 hK1 => ?_)
  refine wp_region_lit ?_
  refine pl M (y_assign (v := .int .i64 0) rfl rfl rfl) ?_
  simp only [Act.put, zq1, zq2, zq3]
  refine wpList_nil ?_
  refine hK1 _ _ ?_
  clear hK1
  refine wp_seq_k (fun K2 hK2 => ?_)
  refine wp_seq_k (fun K3 hK3 => ?_)
  refine wp_region_lit ?_
  refine pl M (y_move (v := .pointer (some ⟨f, 0, none⟩)) rfl rfl rfl) ?_
  simp only [Act.put, zq1, zq2, zq3]
  have M4 : Mem w _ w [blk p 60 (dC D pg mb qv), blk pg 92 (pagesC D.pages), lst 94 257 qv D.q.length (qC D.q), mapq mb D.q, blk f 96 (fC V p)] := M.arr [0, 1, 2, 3, 4] (by decide)
  clear M
  have hlv : Mem w _ w ([disk D p pg mb (qv), blk f 96 (fC V p)] ++ []) := disk_close hok M4
  refine pe rfl (fun K hK => ?_)
  refine e_call 21 [.pointer (some ⟨f, 0, none⟩)] rfl rfl Try.call21 (live_any (Mem.here (L := [disk D p pg mb (qv), blk f 96 (fC V p)]) (R := []) hlv)) ?_
  rintro e w5 ⟨rfl, H5⟩
  have M5 : Mem w _ w5 [blk p 60 (dC D pg mb qv), blk pg 92 (pagesC D.pages), lst 94 257 qv D.q.length (qC D.q), mapq mb D.q, blk f 96 (fC V p)] := (disk_open (R := [blk f 96 (fC V p)] ++ []) (Mem.frame (Pre := [disk D p pg mb (qv), blk f 96 (fC V p)]) (Post := [disk D p pg mb (qv), blk f 96 (fC V p)]) (R := []) hlv H5)).2
  refine ⟨_, rfl, ?_⟩
  refine hK.out _ _ ?_
  clear hK K
  simp only [Act.put, zq1, zq2, zq3]
  refine pl M5 (y_assign (v := .int .i64 (liveE D V)) rfl rfl rfl) ?_
  simp only [Act.put, zq1, zq2, zq3]
  refine wpList_nil ?_
  refine hK3 _ _ ?_
  clear hK3
  refine wp_seq_k (fun K6 hK6 => ?_)
  refine wp_region_lit ?_
  refine pl M5 (y_move (v := .int .i64 (liveE D V)) rfl rfl rfl) ?_
  simp only [Act.put, zq1, zq2, zq3]
  refine pl M5 (y_neq (b := false) rfl rfl rfl rfl (by rw [decide_eq_true hL]; rfl)) ?_
  simp only [Act.put, zq1, zq2, zq3]
  refine wpList_nil ?_
  refine hK6 _ _ ?_
  clear hK6
  refine wp_cond_false rfl ?_
  refine wp_skip ?_
  refine hK2 _ _ ?_
  clear hK2
  refine wp_seq_k (fun K7 hK7 => ?_)
  refine wp_seq_k (fun K8 hK8 => ?_)
  refine wp_region_lit ?_
  refine pl M5 (y_move (v := .int .i64 head) rfl rfl rfl) ?_
  simp only [Act.put, zq1, zq2, zq3]
  refine pl M5 (y_neq (b := true) rfl rfl rfl rfl (by rw [decide_eq_false h0]; rfl)) ?_
  simp only [Act.put, zq1, zq2, zq3]
  refine pl M5 (y_move (v := .bool true) rfl rfl rfl) ?_
  simp only [Act.put, zq1, zq2, zq3]
  refine pl M5 (y_move (v := .int .i64 head) rfl rfl rfl) ?_
  simp only [Act.put, zq1, zq2, zq3]
  refine pl M5 (y_lss (b := false) rfl rfl rfl rfl (decide_eq_false h1)) ?_
  simp only [Act.put, zq1, zq2, zq3]
  refine pl M5 (y_move (v := .bool false) rfl rfl rfl) ?_
  simp only [Act.put, zq1, zq2, zq3]
  refine pl M5 (y_move (v := .int .i64 head) rfl rfl rfl) ?_
  simp only [Act.put, zq1, zq2, zq3]
  refine pl M5 (y_move (v := .pointer (some ⟨f, 0, none⟩)) rfl rfl rfl) ?_
  simp only [Act.put, zq1, zq2, zq3]
  refine pl M5 (y_nil rfl rfl rfl) ?_
  simp only [Act.put, zq1, zq2, zq3]
  refine pl M5 (y_fa (r := 6) rfl rfl rfl Try.underlying96 rfl Try.sizeOf3 rfl) ?_
  simp only [Act.put, zq1, zq2, zq3]
  refine pl M5 (y_load (v := .int .i64 V.next) rfl rfl rfl Try.isAgg3 (fun W hW => hW.get 4 rfl) (rfl)) ?_
  simp only [Act.put, zq1, zq2, zq3]
  refine pl M5 (y_geq (b := true) rfl rfl rfl rfl (decide_eq_true h2)) ?_
  simp only [Act.put, zq1, zq2, zq3]
  refine pl M5 (y_pickF (v := .bool true) rfl rfl rfl rfl) ?_
  simp only [Act.put, zq1, zq2, zq3]
  refine pl M5 (y_pickT (v := .bool true) rfl rfl rfl rfl) ?_
  simp only [Act.put, zq1, zq2, zq3]
  refine wpList_nil ?_
  refine hK8 _ _ ?_
  clear hK8
  refine wp_cond_true rfl ?_
  refine wp_seq_k (fun K9 hK9 => ?_)
  refine wp_region_lit ?_
  refine pl M5 (y_assign (v := .int .i64 41) rfl rfl rfl) ?_
  simp only [Act.put, zq1, zq2, zq3]
  refine wpList_nil ?_
  refine hK9 _ _ ?_
  clear hK9
  refine wp_ret ?_
  try simp only [Exit.inBlock, Exit.then]
  refine bodyPost_ret (v := .int .i64 41) (res1 rfl rfl) rfl ?_
  have e1 : pubR D V head = (D, 41) := by unfold pubR; rw [if_neg (fun h => h hL), if_pos (by omega)]
  have e2 := pub_no e1 (by decide)
  rw [e2, e1]
  exact ⟨_, rfl, (disk_close (D := D) hok (M5.arr [0, 1, 2, 3, 4] (by decide)))⟩
set_option maxRecDepth 100000 in
set_option maxHeartbeats 4000000 in
theorem pub_full_z {D : DV} {V : FV} {f p pg mb : Nat} {qv : Value} {w : World} (hM : Mem w (foots [disk D p pg mb qv, blk f 96 (fC V p)]) w [disk D p pg mb qv, blk f 96 (fC V p)]) (head : Int) (hL : liveE D V = 0) (h0 : head = 0) (hg : 1099511627776 ≤ V.s.gen) : Calls Try.prog 28 #[.pointer (some ⟨f, 0, none⟩), .int .i64 head] w fun e w' => ∃ qv', e = .returned (.int .i64 (pubR D V head).2) ∧ Mem w (foots [disk D p pg mb qv, blk f 96 (fC V p)]) w' [disk (pubR D V head).1 p pg mb qv', blk f 96 (fC (pubV D V head) p)] := by
  obtain ⟨hok, M⟩ := disk_open hM
  clear hM
  go_enter Try.func28, Try.ntmps28
  refine wp_seq_k (fun K1 hK1 => ?_)
  refine wp_region_lit ?_
  refine pl M (y_assign (v := .int .i64 0) rfl rfl rfl) ?_
  simp only [Act.put, zq1, zq2, zq3]
  refine wpList_nil ?_
  refine hK1 _ _ ?_
  clear hK1
  refine wp_seq_k (fun K2 hK2 => ?_)
  refine wp_seq_k (fun K3 hK3 => ?_)
  refine wp_region_lit ?_
  refine pl M (y_move (v := .pointer (some ⟨f, 0, none⟩)) rfl rfl rfl) ?_
  simp only [Act.put, zq1, zq2, zq3]
  have M4 : Mem w _ w [blk p 60 (dC D pg mb qv), blk pg 92 (pagesC D.pages), lst 94 257 qv D.q.length (qC D.q), mapq mb D.q, blk f 96 (fC V p)] := M.arr [0, 1, 2, 3, 4] (by decide)
  clear M
  have hlv : Mem w _ w ([disk D p pg mb (qv), blk f 96 (fC V p)] ++ []) := disk_close hok M4
  refine pe rfl (fun K hK => ?_)
  refine e_call 21 [.pointer (some ⟨f, 0, none⟩)] rfl rfl Try.call21 (live_any (Mem.here (L := [disk D p pg mb (qv), blk f 96 (fC V p)]) (R := []) hlv)) ?_
  rintro e w5 ⟨rfl, H5⟩
  have M5 : Mem w _ w5 [blk p 60 (dC D pg mb qv), blk pg 92 (pagesC D.pages), lst 94 257 qv D.q.length (qC D.q), mapq mb D.q, blk f 96 (fC V p)] := (disk_open (R := [blk f 96 (fC V p)] ++ []) (Mem.frame (Pre := [disk D p pg mb (qv), blk f 96 (fC V p)]) (Post := [disk D p pg mb (qv), blk f 96 (fC V p)]) (R := []) hlv H5)).2
  refine ⟨_, rfl, ?_⟩
  refine hK.out _ _ ?_
  clear hK K
  simp only [Act.put, zq1, zq2, zq3]
  refine pl M5 (y_assign (v := .int .i64 (liveE D V)) rfl rfl rfl) ?_
  simp only [Act.put, zq1, zq2, zq3]
  refine wpList_nil ?_
  refine hK3 _ _ ?_
  clear hK3
  refine wp_seq_k (fun K6 hK6 => ?_)
  refine wp_region_lit ?_
  refine pl M5 (y_move (v := .int .i64 (liveE D V)) rfl rfl rfl) ?_
  simp only [Act.put, zq1, zq2, zq3]
  refine pl M5 (y_neq (b := false) rfl rfl rfl rfl (by rw [decide_eq_true hL]; rfl)) ?_
  simp only [Act.put, zq1, zq2, zq3]
  refine wpList_nil ?_
  refine hK6 _ _ ?_
  clear hK6
  refine wp_cond_false rfl ?_
  refine wp_skip ?_
  refine hK2 _ _ ?_
  clear hK2
  refine wp_seq_k (fun K7 hK7 => ?_)
  refine wp_seq_k (fun K8 hK8 => ?_)
  refine wp_region_lit ?_
  refine pl M5 (y_move (v := .int .i64 head) rfl rfl rfl) ?_
  simp only [Act.put, zq1, zq2, zq3]
  refine pl M5 (y_neq (b := false) rfl rfl rfl rfl (by rw [decide_eq_true h0]; rfl)) ?_
  simp only [Act.put, zq1, zq2, zq3]
  refine pl M5 (y_move (v := .bool false) rfl rfl rfl) ?_
  simp only [Act.put, zq1, zq2, zq3]
  with_reducible refine pskip ?_ ?_
  · rfl
  simp only [Act.put, zq1, zq2, zq3]
  with_reducible refine pskip ?_ ?_
  · rfl
  simp only [Act.put, zq1, zq2, zq3]
  with_reducible refine pskip ?_ ?_
  · rfl
  simp only [Act.put, zq1, zq2, zq3]
  with_reducible refine pskip ?_ ?_
  · rfl
  simp only [Act.put, zq1, zq2, zq3]
  with_reducible refine pskip ?_ ?_
  · rfl
  simp only [Act.put, zq1, zq2, zq3]
  with_reducible refine pskip ?_ ?_
  · rfl
  simp only [Act.put, zq1, zq2, zq3]
  with_reducible refine pskip ?_ ?_
  · rfl
  simp only [Act.put, zq1, zq2, zq3]
  with_reducible refine pskip ?_ ?_
  · rfl
  simp only [Act.put, zq1, zq2, zq3]
  with_reducible refine pskip ?_ ?_
  · rfl
  simp only [Act.put, zq1, zq2, zq3]
  with_reducible refine pskip ?_ ?_
  · rfl
  simp only [Act.put, zq1, zq2, zq3]
  refine pl M5 (y_pickF (v := .bool false) rfl rfl rfl rfl) ?_
  simp only [Act.put, zq1, zq2, zq3]
  refine wpList_nil ?_
  refine hK8 _ _ ?_
  clear hK8
  refine wp_cond_false rfl ?_
  refine wp_skip ?_
  refine hK7 _ _ ?_
  clear hK7
  refine wp_seq_k (fun K9 hK9 => ?_)
  refine wp_seq_k (fun K10 hK10 => ?_)
  refine wp_region_lit ?_
  refine pl M5 (y_move (v := .pointer (some ⟨f, 0, none⟩)) rfl rfl rfl) ?_
  simp only [Act.put, zq1, zq2, zq3]
  refine pl M5 (y_nil rfl rfl rfl) ?_
  simp only [Act.put, zq1, zq2, zq3]
  refine pl M5 (y_fa (r := 1) rfl rfl rfl Try.underlying96 rfl Try.sizeOf37 rfl) ?_
  simp only [Act.put, zq1, zq2, zq3]
  refine pl M5 (y_fa (r := 2) rfl rfl rfl Try.underlying37 rfl Try.sizeOf3 rfl) ?_
  simp only [Act.put, zq1, zq2, zq3]
  refine pl M5 (y_load (v := .int .i64 V.s.gen) rfl rfl rfl Try.isAgg3 (fun W hW => hW.get 4 rfl) (rfl)) ?_
  simp only [Act.put, zq1, zq2, zq3]
  refine pl M5 (y_geq (b := true) rfl rfl rfl rfl (decide_eq_true hg)) ?_
  simp only [Act.put, zq1, zq2, zq3]
  refine wpList_nil ?_
  refine hK10 _ _ ?_
  clear hK10
  refine wp_cond_true rfl ?_
  refine wp_seq_k (fun K11 hK11 => ?_)
  refine wp_region_lit ?_
  refine pl M5 (y_assign (v := .int .i64 5) rfl rfl rfl) ?_
  simp only [Act.put, zq1, zq2, zq3]
  refine wpList_nil ?_
  refine hK11 _ _ ?_
  clear hK11
  refine wp_ret ?_
  try simp only [Exit.inBlock, Exit.then]
  refine bodyPost_ret (v := .int .i64 5) (res1 rfl rfl) rfl ?_
  have e1 : pubR D V head = (D, 5) := by unfold pubR; rw [if_neg (fun h => h hL), if_neg (by omega), if_pos hg]
  have e2 := pub_no e1 (by decide)
  rw [e2, e1]
  exact ⟨_, rfl, (disk_close (D := D) hok (M5.arr [0, 1, 2, 3, 4] (by decide)))⟩
set_option maxRecDepth 100000 in
set_option maxHeartbeats 4000000 in
theorem pub_ok_z {D : DV} {V : FV} {f p pg mb : Nat} {qv : Value} {w : World} (hM : Mem w (foots [disk D p pg mb qv, blk f 96 (fC V p)]) w [disk D p pg mb qv, blk f 96 (fC V p)]) (head : Int) (hL : liveE D V = 0) (h0 : head = 0) (hg : ¬ 1099511627776 ≤ V.s.gen) (hq : D.q.length ≤ 400000000000) (hV : FOk D V) : Calls Try.prog 28 #[.pointer (some ⟨f, 0, none⟩), .int .i64 head] w fun e w' => ∃ qv', e = .returned (.int .i64 (pubR D V head).2) ∧ Mem w (foots [disk D p pg mb qv, blk f 96 (fC V p)]) w' [disk (pubR D V head).1 p pg mb qv', blk f 96 (fC (pubV D V head) p)] := by
  obtain ⟨hok, M⟩ := disk_open hM
  clear hM
  have hv1 : ValidS (pubS V head) := pub_validS hV (by omega) (by omega)
  have hgl := hV.valid.2.2.1
  go_enter Try.func28, Try.ntmps28
  refine wp_seq_k (fun K1 hK1 => ?_)
  refine wp_region_lit ?_
  refine pl M (y_assign (v := .int .i64 0) rfl rfl rfl) ?_
  simp only [Act.put, zq1, zq2, zq3]
  refine wpList_nil ?_
  refine hK1 _ _ ?_
  clear hK1
  refine wp_seq_k (fun K2 hK2 => ?_)
  refine wp_seq_k (fun K3 hK3 => ?_)
  refine wp_region_lit ?_
  refine pl M (y_move (v := .pointer (some ⟨f, 0, none⟩)) rfl rfl rfl) ?_
  simp only [Act.put, zq1, zq2, zq3]
  have M4 : Mem w _ w [blk p 60 (dC D pg mb qv), blk pg 92 (pagesC D.pages), lst 94 257 qv D.q.length (qC D.q), mapq mb D.q, blk f 96 (fC V p)] := M.arr [0, 1, 2, 3, 4] (by decide)
  clear M
  have hlv : Mem w _ w ([disk D p pg mb (qv), blk f 96 (fC V p)] ++ []) := disk_close hok M4
  refine pe rfl (fun K hK => ?_)
  refine e_call 21 [.pointer (some ⟨f, 0, none⟩)] rfl rfl Try.call21 (live_any (Mem.here (L := [disk D p pg mb (qv), blk f 96 (fC V p)]) (R := []) hlv)) ?_
  rintro e w5 ⟨rfl, H5⟩
  have M5 : Mem w _ w5 [blk p 60 (dC D pg mb qv), blk pg 92 (pagesC D.pages), lst 94 257 qv D.q.length (qC D.q), mapq mb D.q, blk f 96 (fC V p)] := (disk_open (R := [blk f 96 (fC V p)] ++ []) (Mem.frame (Pre := [disk D p pg mb (qv), blk f 96 (fC V p)]) (Post := [disk D p pg mb (qv), blk f 96 (fC V p)]) (R := []) hlv H5)).2
  refine ⟨_, rfl, ?_⟩
  refine hK.out _ _ ?_
  clear hK K
  simp only [Act.put, zq1, zq2, zq3]
  refine pl M5 (y_assign (v := .int .i64 (liveE D V)) rfl rfl rfl) ?_
  simp only [Act.put, zq1, zq2, zq3]
  refine wpList_nil ?_
  refine hK3 _ _ ?_
  clear hK3
  refine wp_seq_k (fun K6 hK6 => ?_)
  refine wp_region_lit ?_
  refine pl M5 (y_move (v := .int .i64 (liveE D V)) rfl rfl rfl) ?_
  simp only [Act.put, zq1, zq2, zq3]
  refine pl M5 (y_neq (b := false) rfl rfl rfl rfl (by rw [decide_eq_true hL]; rfl)) ?_
  simp only [Act.put, zq1, zq2, zq3]
  refine wpList_nil ?_
  refine hK6 _ _ ?_
  clear hK6
  refine wp_cond_false rfl ?_
  refine wp_skip ?_
  refine hK2 _ _ ?_
  clear hK2
  refine wp_seq_k (fun K7 hK7 => ?_)
  refine wp_seq_k (fun K8 hK8 => ?_)
  refine wp_region_lit ?_
  refine pl M5 (y_move (v := .int .i64 head) rfl rfl rfl) ?_
  simp only [Act.put, zq1, zq2, zq3]
  refine pl M5 (y_neq (b := false) rfl rfl rfl rfl (by rw [decide_eq_true h0]; rfl)) ?_
  simp only [Act.put, zq1, zq2, zq3]
  refine pl M5 (y_move (v := .bool false) rfl rfl rfl) ?_
  simp only [Act.put, zq1, zq2, zq3]
  with_reducible refine pskip ?_ ?_
  · rfl
  simp only [Act.put, zq1, zq2, zq3]
  with_reducible refine pskip ?_ ?_
  · rfl
  simp only [Act.put, zq1, zq2, zq3]
  with_reducible refine pskip ?_ ?_
  · rfl
  simp only [Act.put, zq1, zq2, zq3]
  with_reducible refine pskip ?_ ?_
  · rfl
  simp only [Act.put, zq1, zq2, zq3]
  with_reducible refine pskip ?_ ?_
  · rfl
  simp only [Act.put, zq1, zq2, zq3]
  with_reducible refine pskip ?_ ?_
  · rfl
  simp only [Act.put, zq1, zq2, zq3]
  with_reducible refine pskip ?_ ?_
  · rfl
  simp only [Act.put, zq1, zq2, zq3]
  with_reducible refine pskip ?_ ?_
  · rfl
  simp only [Act.put, zq1, zq2, zq3]
  with_reducible refine pskip ?_ ?_
  · rfl
  simp only [Act.put, zq1, zq2, zq3]
  with_reducible refine pskip ?_ ?_
  · rfl
  simp only [Act.put, zq1, zq2, zq3]
  refine pl M5 (y_pickF (v := .bool false) rfl rfl rfl rfl) ?_
  simp only [Act.put, zq1, zq2, zq3]
  refine wpList_nil ?_
  refine hK8 _ _ ?_
  clear hK8
  refine wp_cond_false rfl ?_
  refine wp_skip ?_
  refine hK7 _ _ ?_
  clear hK7
  refine wp_seq_k (fun K9 hK9 => ?_)
  refine wp_seq_k (fun K10 hK10 => ?_)
  refine wp_region_lit ?_
  refine pl M5 (y_move (v := .pointer (some ⟨f, 0, none⟩)) rfl rfl rfl) ?_
  simp only [Act.put, zq1, zq2, zq3]
  refine pl M5 (y_nil rfl rfl rfl) ?_
  simp only [Act.put, zq1, zq2, zq3]
  refine pl M5 (y_fa (r := 1) rfl rfl rfl Try.underlying96 rfl Try.sizeOf37 rfl) ?_
  simp only [Act.put, zq1, zq2, zq3]
  refine pl M5 (y_fa (r := 2) rfl rfl rfl Try.underlying37 rfl Try.sizeOf3 rfl) ?_
  simp only [Act.put, zq1, zq2, zq3]
  refine pl M5 (y_load (v := .int .i64 V.s.gen) rfl rfl rfl Try.isAgg3 (fun W hW => hW.get 4 rfl) (rfl)) ?_
  simp only [Act.put, zq1, zq2, zq3]
  refine pl M5 (y_geq (b := false) rfl rfl rfl rfl (decide_eq_false (by omega))) ?_
  simp only [Act.put, zq1, zq2, zq3]
  refine wpList_nil ?_
  refine hK10 _ _ ?_
  clear hK10
  refine wp_cond_false rfl ?_
  refine wp_skip ?_
  refine hK9 _ _ ?_
  clear hK9
  refine wp_seq_k (fun K11 hK11 => ?_)
  refine wp_region_lit ?_
  refine pl M5 (y_move (v := .pointer (some ⟨f, 0, none⟩)) rfl rfl rfl) ?_
  simp only [Act.put, zq1, zq2, zq3]
  refine pl M5 (y_nil rfl rfl rfl) ?_
  simp only [Act.put, zq1, zq2, zq3]
  refine pl M5 (y_fa (r := 1) rfl rfl rfl Try.underlying96 rfl Try.sizeOf37 rfl) ?_
  simp only [Act.put, zq1, zq2, zq3]
  refine pl M5 (y_loadb (cs := (supC V.s)) rfl rfl rfl Try.underlying37 rfl (size_sup _) (fun W hW => hW.get 4 rfl) (rfl)) ?_
  simp only [Act.put, zq1, zq2, zq3]
  refine pe rfl (fun K hK => ?_)
  refine e_alloc M5 (supC noSup) rfl zero_sup ?_
  intro g6 w12 (M12 : Mem w _ w12 [blk g6 37 (supC noSup), blk p 60 (dC D pg mb qv), blk pg 92 (pagesC D.pages), lst 94 257 qv D.q.length (qC D.q), mapq mb D.q, blk f 96 (fC V p)])
  clear M5
  refine hK.out _ _ ?_
  clear hK K
  simp only [Act.put, zq1, zq2, zq3]
  refine pe rfl (fun K hK => ?_)
  refine e_storew M12 0 (cs := (supC V.s)) rfl rfl rfl rfl (size_sup _) (sup_all _) rfl (rfl) ?_
  intro w13 (M13 : Mem w _ w13 [blk g6 37 (supC V.s), blk p 60 (dC D pg mb qv), blk pg 92 (pagesC D.pages), lst 94 257 qv D.q.length (qC D.q), mapq mb D.q, blk f 96 (fC V p)])
  clear M12
  refine hK.out _ _ ?_
  clear hK K
  simp only [Act.put, zq1, zq2, zq3]
  refine wpList_nil ?_
  refine hK11 _ _ ?_
  clear hK11
  refine wp_seq_k (fun K14 hK14 => ?_)
  refine wp_region_lit ?_
  refine pl M13 (y_fa (r := 1) rfl rfl rfl Try.underlying37 rfl Try.sizeOf3 rfl) ?_
  simp only [Act.put, zq1, zq2, zq3]
  refine pl M13 (y_load (v := .int .i64 V.s.gen) rfl rfl rfl Try.isAgg3 (fun W hW => hW.get 0 rfl) (rfl)) ?_
  simp only [Act.put, zq1, zq2, zq3]
  refine pl M13 (y_add (r := V.s.gen + 1) rfl rfl rfl rfl (rfl) (by omega)) ?_
  simp only [Act.put, zq1, zq2, zq3]
  refine pl M13 (y_fa (r := 1) rfl rfl rfl Try.underlying37 rfl Try.sizeOf3 rfl) ?_
  simp only [Act.put, zq1, zq2, zq3]
  refine pe rfl (fun K hK => ?_)
  refine e_store M13 0 (v := .int .i64 (V.s.gen + 1)) rfl rfl rfl rfl rfl rfl Try.sizeOf3 rfl (show (1 : Nat) < 5 by decide) ?_
  intro w15 (M15 : Mem w _ w15 [blk g6 37 ([.int .i64 V.s.width, .int .i64 (V.s.gen + 1), .int .i64 V.s.mark, .int .i64 V.s.head, .int .i64 V.s.pages]), blk p 60 (dC D pg mb qv), blk pg 92 (pagesC D.pages), lst 94 257 qv D.q.length (qC D.q), mapq mb D.q, blk f 96 (fC V p)])
  clear M13
  refine hK.out _ _ ?_
  clear hK K
  simp only [Act.put, zq1, zq2, zq3]
  refine wpList_nil ?_
  refine hK14 _ _ ?_
  clear hK14
  refine wp_seq_k (fun K16 hK16 => ?_)
  refine wp_region_lit ?_
  refine pl M15 (y_move (v := .pointer (some ⟨f, 0, none⟩)) rfl rfl rfl) ?_
  simp only [Act.put, zq1, zq2, zq3]
  refine pl M15 (y_nil rfl rfl rfl) ?_
  simp only [Act.put, zq1, zq2, zq3]
  refine pl M15 (y_fa (r := 6) rfl rfl rfl Try.underlying96 rfl Try.sizeOf3 rfl) ?_
  simp only [Act.put, zq1, zq2, zq3]
  refine pl M15 (y_load (v := .int .i64 V.next) rfl rfl rfl Try.isAgg3 (fun W hW => hW.get 5 rfl) (rfl)) ?_
  simp only [Act.put, zq1, zq2, zq3]
  refine pl M15 (y_move (v := .int .i64 head) rfl rfl rfl) ?_
  simp only [Act.put, zq1, zq2, zq3]
  refine pl M15 (y_fa (r := 2) rfl rfl rfl Try.underlying37 rfl Try.sizeOf3 rfl) ?_
  simp only [Act.put, zq1, zq2, zq3]
  refine pe rfl (fun K hK => ?_)
  refine e_store M15 0 (v := .int .i64 V.next) rfl rfl rfl rfl rfl rfl Try.sizeOf3 rfl (show (2 : Nat) < 5 by decide) ?_
  intro w17 (M17 : Mem w _ w17 [blk g6 37 ([.int .i64 V.s.width, .int .i64 (V.s.gen + 1), .int .i64 V.next, .int .i64 V.s.head, .int .i64 V.s.pages]), blk p 60 (dC D pg mb qv), blk pg 92 (pagesC D.pages), lst 94 257 qv D.q.length (qC D.q), mapq mb D.q, blk f 96 (fC V p)])
  clear M15
  refine hK.out _ _ ?_
  clear hK K
  simp only [Act.put, zq1, zq2, zq3]
  refine pl M17 (y_fa (r := 3) rfl rfl rfl Try.underlying37 rfl Try.sizeOf3 rfl) ?_
  simp only [Act.put, zq1, zq2, zq3]
  refine pe rfl (fun K hK => ?_)
  refine e_store M17 0 (v := .int .i64 head) rfl rfl rfl rfl rfl rfl Try.sizeOf3 rfl (show (3 : Nat) < 5 by decide) ?_
  intro w18 (M18 : Mem w _ w18 [blk g6 37 (supC (pubS V head)), blk p 60 (dC D pg mb qv), blk pg 92 (pagesC D.pages), lst 94 257 qv D.q.length (qC D.q), mapq mb D.q, blk f 96 (fC V p)])
  clear M17
  refine hK.out _ _ ?_
  clear hK K
  simp only [Act.put, zq1, zq2, zq3]
  refine wpList_nil ?_
  refine hK16 _ _ ?_
  clear hK16
  refine wp_seq_k (fun K19 hK19 => ?_)
  refine wp_seq_k (fun K20 hK20 => ?_)
  have M21 := M18.drew
  refine held_begin (fun W => Mem w (foots [disk D p pg mb qv, blk f 96 (fC V p)]) W [blk g6 37 (supC (pubS V head)), blk f 96 (fC V p)]) (by kernel_rfl) (M21.arr [0, 5] (by decide)) (fun hS => ?_)
  refine held_take 0 _ rfl (by kernel_rfl) (by kernel_rfl) (by kernel_rfl) (y_move (v := .pointer (some ⟨f, 0, none⟩)) rfl rfl rfl) hS ?_
  simp only [Act.put, zq1, zq2, zq3]
  refine held_take 1 _ rfl (by kernel_rfl) (by kernel_rfl) (by kernel_rfl) (y_nil rfl rfl rfl) hS ?_
  simp only [Act.put, zq1, zq2, zq3]
  refine held_take 2 _ rfl (by kernel_rfl) (by kernel_rfl) (by kernel_rfl) (y_fa (r := 0) rfl rfl rfl Try.underlying96 rfl Try.sizeOf24 rfl) hS ?_
  simp only [Act.put, zq1, zq2, zq3]
  refine held_take 3 _ rfl (by kernel_rfl) (by kernel_rfl) (by kernel_rfl) (y_load (v := .pointer (some ⟨p, 0, none⟩)) rfl rfl rfl Try.isAgg24 (fun W hW => hW.get 1 rfl) (rfl)) hS ?_
  simp only [Act.put, zq1, zq2, zq3]
  refine held_take 4 _ rfl (by kernel_rfl) (by kernel_rfl) (by kernel_rfl) (y_func (fv := [.pointer (some ⟨p, 0, none⟩)]) (cv := []) rfl rfl rfl rfl) hS ?_
  simp only [Act.put, zq1, zq2, zq3]
  refine held_take 5 _ rfl (by kernel_rfl) (by kernel_rfl) (by kernel_rfl) (y_move (v := .pointer (some ⟨f, 0, none⟩)) rfl rfl rfl) hS ?_
  simp only [Act.put, zq1, zq2, zq3]
  refine held_take 6 _ rfl (by kernel_rfl) (by kernel_rfl) (by kernel_rfl) (y_nil rfl rfl rfl) hS ?_
  simp only [Act.put, zq1, zq2, zq3]
  refine held_take 7 _ rfl (by kernel_rfl) (by kernel_rfl) (by kernel_rfl) (y_fa (r := 0) rfl rfl rfl Try.underlying96 rfl Try.sizeOf24 rfl) hS ?_
  simp only [Act.put, zq1, zq2, zq3]
  refine held_take 8 _ rfl (by kernel_rfl) (by kernel_rfl) (by kernel_rfl) (y_load (v := .pointer (some ⟨p, 0, none⟩)) rfl rfl rfl Try.isAgg24 (fun W hW => hW.get 1 rfl) (rfl)) hS ?_
  simp only [Act.put, zq1, zq2, zq3]
  refine held_take 9 _ rfl (by kernel_rfl) (by kernel_rfl) (by kernel_rfl) (y_loadb (cs := (supC (pubS V head))) rfl rfl rfl Try.underlying37 rfl (size_sup _) (fun W hW => hW.get 0 rfl) (List.take_of_length_le (Nat.le_refl _))) hS ?_
  simp only [Act.put, zq1, zq2, zq3]
  refine held_take 11 _ rfl (by kernel_rfl) (by kernel_rfl) (by kernel_rfl) (y_move (v := .pointer (some ⟨f, 0, none⟩)) rfl rfl rfl) hS ?_
  simp only [Act.put, zq1, zq2, zq3]
  refine held_take 12 _ rfl (by kernel_rfl) (by kernel_rfl) (by kernel_rfl) (y_nil rfl rfl rfl) hS ?_
  simp only [Act.put, zq1, zq2, zq3]
  refine held_take 13 _ rfl (by kernel_rfl) (by kernel_rfl) (by kernel_rfl) (y_fa (r := 0) rfl rfl rfl Try.underlying96 rfl Try.sizeOf24 rfl) hS ?_
  simp only [Act.put, zq1, zq2, zq3]
  refine held_take 14 _ rfl (by kernel_rfl) (by kernel_rfl) (by kernel_rfl) (y_load (v := .pointer (some ⟨p, 0, none⟩)) rfl rfl rfl Try.isAgg24 (fun W hW => hW.get 1 rfl) (rfl)) hS ?_
  simp only [Act.put, zq1, zq2, zq3]
  refine held_take 15 _ rfl (by kernel_rfl) (by kernel_rfl) (by kernel_rfl) (y_func (fv := [.pointer (some ⟨p, 0, none⟩)]) (cv := []) rfl rfl rfl rfl) hS ?_
  simp only [Act.put, zq1, zq2, zq3]
  refine held_step 10 (by kernel_rfl) rfl (by rfl) (fun K hK => ?_)
  refine e_call 45 [.pointer (some ⟨p, 0, none⟩), .agg ((supC (pubS V head))).toArray] rfl rfl Try.call45 (lay_any p (pubS V head) _) ?_
  rintro e w22 ⟨gs1, gd1, rfl, H⟩
  have M22 : Mem w _ w22 [blk gs1 37 (supC (pubS V head)), blk gd1 24 ([.pointer (some ⟨p, 0, none⟩)]), blk g6 37 (supC (pubS V head)), blk p 60 (dC D pg mb qv), blk pg 92 (pagesC D.pages), lst 94 257 qv D.q.length (qC D.q), mapq mb D.q, blk f 96 (fC V p)] := M21.step H
  refine ⟨_, rfl, ?_⟩
  refine hK.out _ _ (M22.arr [2, 7] (by decide)) (fun hS => ?_)
  clear hK K
  simp only [Act.put, zq1, zq2, zq3]
  refine held_step 16 (by kernel_rfl) rfl (by rfl) (fun K hK => ?_)
  refine e_bslice M22 ([.func (.func 46) #[.pointer (some ⟨p, 0, none⟩)] #[], .func (.func 61) #[] #[.pointer (some ⟨gs1, 0, none⟩), .pointer (some ⟨gd1, 0, none⟩)], .func (.func 46) #[.pointer (some ⟨p, 0, none⟩)] #[]]) (pv := [(0, .func (.func 46) #[.pointer (some ⟨p, 0, none⟩)] #[]), (1, .func (.func 61) #[] #[.pointer (some ⟨gs1, 0, none⟩), .pointer (some ⟨gd1, 0, none⟩)]), (2, .func (.func 46) #[.pointer (some ⟨p, 0, none⟩)] #[])]) rfl rfl Try.underlying114 Try.sizeOf90 Try.zeroValue90 (by decide) (by kernel_rfl) ?_
  intro g23 w24 (M24 : Mem w _ w24 [blk g23 90 ([.func (.func 46) #[.pointer (some ⟨p, 0, none⟩)] #[], .func (.func 61) #[] #[.pointer (some ⟨gs1, 0, none⟩), .pointer (some ⟨gd1, 0, none⟩)], .func (.func 46) #[.pointer (some ⟨p, 0, none⟩)] #[]]), blk gs1 37 (supC (pubS V head)), blk gd1 24 ([.pointer (some ⟨p, 0, none⟩)]), blk g6 37 (supC (pubS V head)), blk p 60 (dC D pg mb qv), blk pg 92 (pagesC D.pages), lst 94 257 qv D.q.length (qC D.q), mapq mb D.q, blk f 96 (fC V p)])
  clear M22
  refine hK.out _ _ (M24.arr [3, 8] (by decide)) (fun hS => ?_)
  clear hK K
  simp only [Act.put, zq1, zq2, zq3]
  have M25 : Mem w _ w24 [blk p 60 (dC D pg mb qv), blk pg 92 (pagesC D.pages), lst 94 257 qv D.q.length (qC D.q), mapq mb D.q, blk g23 90 ([.func (.func 46) #[.pointer (some ⟨p, 0, none⟩)] #[], .func (.func 61) #[] #[.pointer (some ⟨gs1, 0, none⟩), .pointer (some ⟨gd1, 0, none⟩)], .func (.func 46) #[.pointer (some ⟨p, 0, none⟩)] #[]]), blk gs1 37 (supC (pubS V head)), blk gd1 24 ([.pointer (some ⟨p, 0, none⟩)]), blk g6 37 (supC (pubS V head)), blk f 96 (fC V p)] := M24.arr [4, 5, 6, 7, 0, 1, 2, 3, 8] (by decide)
  clear M24
  refine held_step 17 (by kernel_rfl) rfl (by rfl) (fun K hK => ?_)
  have hino := fun (W0 : World) (qv0 : Value) (hM0 : Mem w (foots [disk D p pg mb qv, blk f 96 (fC V p)]) W0 (disk (D) p pg mb qv0 :: [blk g23 90 ([.func (.func 46) #[.pointer (some ⟨p, 0, none⟩)] #[], .func (.func 61) #[] #[.pointer (some ⟨gs1, 0, none⟩), .pointer (some ⟨gd1, 0, none⟩)], .func (.func 46) #[.pointer (some ⟨p, 0, none⟩)] #[]]), blk gs1 37 (supC (pubS V head)), blk gd1 24 ([.pointer (some ⟨p, 0, none⟩)]), blk g6 37 (supC (pubS V head)), blk f 96 (fC V p)])) => disk_steps (p := p) (pg := pg) (mb := mb) (gt := g23) (X := [blk g23 90 ([.func (.func 46) #[.pointer (some ⟨p, 0, none⟩)] #[], .func (.func 61) #[] #[.pointer (some ⟨gs1, 0, none⟩), .pointer (some ⟨gd1, 0, none⟩)], .func (.func 46) #[.pointer (some ⟨p, 0, none⟩)] #[]]), blk gs1 37 (supC (pubS V head)), blk gd1 24 ([.pointer (some ⟨p, 0, none⟩)]), blk g6 37 (supC (pubS V head)), blk f 96 (fC V p)]) [(⟨46, [.pointer (some ⟨p, 0, none⟩)], []⟩ : Stp), (⟨61, [], [.pointer (some ⟨gs1, 0, none⟩), .pointer (some ⟨gd1, 0, none⟩)]⟩ : Stp), (⟨46, [.pointer (some ⟨p, 0, none⟩)], []⟩ : Stp)] [yS, wS (pubS V head), yS] rfl (by simp)
    (fun W hX i x hx => by
      have hb : (blk g23 90 ([.func (.func 46) #[.pointer (some ⟨p, 0, none⟩)] #[], .func (.func 61) #[] #[.pointer (some ⟨gs1, 0, none⟩), .pointer (some ⟨gd1, 0, none⟩)], .func (.func 46) #[.pointer (some ⟨p, 0, none⟩)] #[]])).holds W := hX _ (List.mem_of_getElem? (i := 0) rfl)
      match i, hx with
      | 0, hx => cases hx; exact cell_of_blk hb rfl
      | 1, hx => cases hx; exact cell_of_blk hb rfl
      | 2, hx => cases hx; exact cell_of_blk hb rfl
      | i + 3, hx => simp at hx)
    (fun x hx ar w => by
      simp only [List.mem_cons, List.not_mem_nil, or_false] at hx
      rcases hx with rfl | rfl | rfl
      · exact Try.call46 ar w
      · exact Try.call61 ar w
      · exact Try.call46 ar w
      )
    (fun i x f hx hf E qvx W hE hM => by
    match i, hx, hf with
    | 0, hx, hf =>
      cases hx; cases hf; exact sync_each E qvx W hM
    | 1, hx, hf =>
      cases hx; cases hf
      have h2 : Mem w _ W (disk E p pg mb qvx :: blk gs1 37 (supC (pubS V head)) :: blk gd1 24 [.pointer (some ⟨p, 0, none⟩)] :: [blk g23 90 ([.func (.func 46) #[.pointer (some ⟨p, 0, none⟩)] #[], .func (.func 61) #[] #[.pointer (some ⟨gs1, 0, none⟩), .pointer (some ⟨gd1, 0, none⟩)], .func (.func 46) #[.pointer (some ⟨p, 0, none⟩)] #[]]), blk g6 37 (supC (pubS V head)), blk f 96 (fC V p)]) := hM.arr [0, 2, 3, 1, 4, 5] (by decide)
      refine (laid_each (X := [blk g23 90 ([.func (.func 46) #[.pointer (some ⟨p, 0, none⟩)] #[], .func (.func 61) #[] #[.pointer (some ⟨gs1, 0, none⟩), .pointer (some ⟨gd1, 0, none⟩)], .func (.func 46) #[.pointer (some ⟨p, 0, none⟩)] #[]]), blk g6 37 (supC (pubS V head)), blk f 96 (fC V p)]) hv1 E qvx W hE h2).mono ?_
      rintro e w' ⟨qv', rfl, h3⟩
      exact ⟨qv', rfl, h3.arr [0, 3, 1, 2, 4, 5] (by decide)⟩
    | 2, hx, hf =>
      cases hx; cases hf; exact sync_each E qvx W hM
    | i + 3, hx, hf => simp at hx)
    (fun f hf E => by
      simp only [List.mem_cons, List.not_mem_nil, or_false] at hf
      rcases hf with rfl | rfl | rfl
      · exact yS_q E
      · exact wS_q _ E
      · exact yS_q E
      ) (qv := qv0) hq hM0
  refine e_call 44 [.slice (some ⟨g23, 0, none⟩) 3 3] rfl rfl Try.call44 (hino _ _ (disk_close (D := D) (R := [blk g23 90 ([.func (.func 46) #[.pointer (some ⟨p, 0, none⟩)] #[], .func (.func 61) #[] #[.pointer (some ⟨gs1, 0, none⟩), .pointer (some ⟨gd1, 0, none⟩)], .func (.func 46) #[.pointer (some ⟨p, 0, none⟩)] #[]]), blk gs1 37 (supC (pubS V head)), blk gd1 24 ([.pointer (some ⟨p, 0, none⟩)]), blk g6 37 (supC (pubS V head)), blk f 96 (fC V p)]) hok M25)) ?_
  rintro e w26 ⟨qv', rfl, H⟩
  have M26 : Mem w _ w26 [disk (runS [yS, wS (pubS V head), yS] (D)).1 p pg mb qv', blk g23 90 ([.func (.func 46) #[.pointer (some ⟨p, 0, none⟩)] #[], .func (.func 61) #[] #[.pointer (some ⟨gs1, 0, none⟩), .pointer (some ⟨gd1, 0, none⟩)], .func (.func 46) #[.pointer (some ⟨p, 0, none⟩)] #[]]), blk gs1 37 (supC (pubS V head)), blk gd1 24 ([.pointer (some ⟨p, 0, none⟩)]), blk g6 37 (supC (pubS V head)), blk f 96 (fC V p)] := H
  clear H hino M25
  refine ⟨_, rfl, ?_⟩
  refine hK.out _ _ (M26.arr [4, 5] (by decide)) (fun hS => ?_)
  clear hK K
  simp only [Act.put, zq1, zq2, zq3]
  refine held_take 18 _ rfl (by kernel_rfl) (by kernel_rfl) (by kernel_rfl) (y_assign (v := .int .i64 ((runS [yS, wS (pubS V head), yS] (D)).2)) rfl rfl rfl) hS ?_
  simp only [Act.put, zq1, zq2, zq3]
  refine held_done (by kernel_rfl) ?_ _
  refine hK20 _ _ ?_
  clear hK20
  refine wp_seq_k (fun K27 hK27 => ?_)
  refine wp_region_lit ?_
  refine pl M26 (y_move (v := .int .i64 ((runS [yS, wS (pubS V head), yS] (D)).2)) rfl rfl rfl) ?_
  simp only [Act.put, zq1, zq2, zq3]
  rcases Decidable.em ((runS [yS, wS (pubS V head), yS] (D)).2 = 0) with h28 | h28
  · refine pl M26 (y_neq (b := false) rfl rfl rfl rfl (by rw [decide_eq_true h28]; rfl)) ?_
    simp only [Act.put, zq1, zq2, zq3]
    refine wpList_nil ?_
    refine hK27 _ _ ?_
    clear hK27
    refine wp_cond_false rfl ?_
    refine wp_skip ?_
    refine hK19 _ _ ?_
    clear hK19
    refine wp_seq_k (fun K29 hK29 => ?_)
    refine wp_region_lit ?_
    refine pl M26 (y_move (v := .pointer (some ⟨f, 0, none⟩)) rfl rfl rfl) ?_
    simp only [Act.put, zq1, zq2, zq3]
    refine pl M26 (y_loadb (cs := (supC (pubS V head))) rfl rfl rfl Try.underlying37 rfl (size_sup _) (fun W hW => hW.get 4 rfl) (List.take_of_length_le (Nat.le_refl _))) ?_
    simp only [Act.put, zq1, zq2, zq3]
    refine pl M26 (y_nil rfl rfl rfl) ?_
    simp only [Act.put, zq1, zq2, zq3]
    refine pl M26 (y_fa (r := 1) rfl rfl rfl Try.underlying96 rfl Try.sizeOf37 rfl) ?_
    simp only [Act.put, zq1, zq2, zq3]
    refine pe rfl (fun K hK => ?_)
    refine e_storer M26 5 (cs := (supC (pubS V head))) rfl rfl rfl rfl (size_sup _) (sup_all _) rfl (by show 1 + 5 ≤ 8; decide) ?_
    intro w30 M30
    replace M30 : Mem w (foots [disk D p pg mb qv, blk f 96 (fC V p)]) w30 [disk (runS [yS, wS (pubS V head), yS] (D)).1 p pg mb qv', blk g23 90 ([.func (.func 46) #[.pointer (some ⟨p, 0, none⟩)] #[], .func (.func 61) #[] #[.pointer (some ⟨gs1, 0, none⟩), .pointer (some ⟨gd1, 0, none⟩)], .func (.func 46) #[.pointer (some ⟨p, 0, none⟩)] #[]]), blk gs1 37 (supC (pubS V head)), blk gd1 24 ([.pointer (some ⟨p, 0, none⟩)]), blk g6 37 (supC (pubS V head)), blk f 96 (fC { V with s := pubS V head } p)] := M30
    clear M26
    refine hK.out _ _ ?_
    clear hK K
    simp only [Act.put, zq1, zq2, zq3]
    refine wpList_nil ?_
    refine hK29 _ _ ?_
    clear hK29
    refine wp_seq_k (fun K31 hK31 => ?_)
    refine wp_region_lit ?_
    refine pl M30 (y_assign (v := .int .i64 0) rfl rfl rfl) ?_
    simp only [Act.put, zq1, zq2, zq3]
    refine wpList_nil ?_
    refine hK31 _ _ ?_
    clear hK31
    refine wp_ret ?_
    try simp only [Exit.inBlock, Exit.then]
    refine bodyPost_ret (v := .int .i64 0) (res1 rfl rfl) rfl ?_
    have e1 : pubR D V head = runS [yS, wS (pubS V head), yS] D := by unfold pubR; rw [if_neg (fun h => h hL), if_neg (by omega), if_neg (by omega)]
    have e2 : pubV D V head = { V with s := pubS V head } := if_pos (by rw [e1]; exact h28)
    rw [e2, e1, h28]
    exact ⟨_, rfl, M30.arr [0, 5] (by decide)⟩
  · refine pl M26 (y_neq (b := true) rfl rfl rfl rfl (by rw [decide_eq_false h28]; rfl)) ?_
    simp only [Act.put, zq1, zq2, zq3]
    refine wpList_nil ?_
    refine hK27 _ _ ?_
    clear hK27
    refine wp_cond_true rfl ?_
    refine wp_seq_k (fun K32 hK32 => ?_)
    refine wp_region_lit ?_
    refine pl M26 (y_move (v := .int .i64 ((runS [yS, wS (pubS V head), yS] (D)).2)) rfl rfl rfl) ?_
    simp only [Act.put, zq1, zq2, zq3]
    refine pl M26 (y_assign (v := .int .i64 ((runS [yS, wS (pubS V head), yS] (D)).2)) rfl rfl rfl) ?_
    simp only [Act.put, zq1, zq2, zq3]
    refine wpList_nil ?_
    refine hK32 _ _ ?_
    clear hK32
    refine wp_ret ?_
    try simp only [Exit.inBlock, Exit.then]
    refine bodyPost_ret (v := .int .i64 ((runS [yS, wS (pubS V head), yS] (D)).2)) (res1 rfl rfl) rfl ?_
    have e1 : pubR D V head = runS [yS, wS (pubS V head), yS] D := by unfold pubR; rw [if_neg (fun h => h hL), if_neg (by omega), if_neg (by omega)]
    have e2 : pubV D V head = V := if_neg (by rw [e1]; exact h28)
    rw [e2, e1]
    exact ⟨_, rfl, M26.arr [0, 5] (by decide)⟩
set_option maxRecDepth 100000 in
set_option maxHeartbeats 4000000 in
theorem pub_full_h {D : DV} {V : FV} {f p pg mb : Nat} {qv : Value} {w : World} (hM : Mem w (foots [disk D p pg mb qv, blk f 96 (fC V p)]) w [disk D p pg mb qv, blk f 96 (fC V p)]) (head : Int) (hL : liveE D V = 0) (h0 : head ≠ 0) (h1 : ¬ head < 2) (h2 : ¬ V.next ≤ head) (hg : 1099511627776 ≤ V.s.gen) : Calls Try.prog 28 #[.pointer (some ⟨f, 0, none⟩), .int .i64 head] w fun e w' => ∃ qv', e = .returned (.int .i64 (pubR D V head).2) ∧ Mem w (foots [disk D p pg mb qv, blk f 96 (fC V p)]) w' [disk (pubR D V head).1 p pg mb qv', blk f 96 (fC (pubV D V head) p)] := by
  obtain ⟨hok, M⟩ := disk_open hM
  clear hM
  go_enter Try.func28, Try.ntmps28
  refine wp_seq_k (fun K1 hK1 => ?_)
  refine wp_region_lit ?_
  refine pl M (y_assign (v := .int .i64 0) rfl rfl rfl) ?_
  simp only [Act.put, zq1, zq2, zq3]
  refine wpList_nil ?_
  refine hK1 _ _ ?_
  clear hK1
  refine wp_seq_k (fun K2 hK2 => ?_)
  refine wp_seq_k (fun K3 hK3 => ?_)
  refine wp_region_lit ?_
  refine pl M (y_move (v := .pointer (some ⟨f, 0, none⟩)) rfl rfl rfl) ?_
  simp only [Act.put, zq1, zq2, zq3]
  have M4 : Mem w _ w [blk p 60 (dC D pg mb qv), blk pg 92 (pagesC D.pages), lst 94 257 qv D.q.length (qC D.q), mapq mb D.q, blk f 96 (fC V p)] := M.arr [0, 1, 2, 3, 4] (by decide)
  clear M
  have hlv : Mem w _ w ([disk D p pg mb (qv), blk f 96 (fC V p)] ++ []) := disk_close hok M4
  refine pe rfl (fun K hK => ?_)
  refine e_call 21 [.pointer (some ⟨f, 0, none⟩)] rfl rfl Try.call21 (live_any (Mem.here (L := [disk D p pg mb (qv), blk f 96 (fC V p)]) (R := []) hlv)) ?_
  rintro e w5 ⟨rfl, H5⟩
  have M5 : Mem w _ w5 [blk p 60 (dC D pg mb qv), blk pg 92 (pagesC D.pages), lst 94 257 qv D.q.length (qC D.q), mapq mb D.q, blk f 96 (fC V p)] := (disk_open (R := [blk f 96 (fC V p)] ++ []) (Mem.frame (Pre := [disk D p pg mb (qv), blk f 96 (fC V p)]) (Post := [disk D p pg mb (qv), blk f 96 (fC V p)]) (R := []) hlv H5)).2
  refine ⟨_, rfl, ?_⟩
  refine hK.out _ _ ?_
  clear hK K
  simp only [Act.put, zq1, zq2, zq3]
  refine pl M5 (y_assign (v := .int .i64 (liveE D V)) rfl rfl rfl) ?_
  simp only [Act.put, zq1, zq2, zq3]
  refine wpList_nil ?_
  refine hK3 _ _ ?_
  clear hK3
  refine wp_seq_k (fun K6 hK6 => ?_)
  refine wp_region_lit ?_
  refine pl M5 (y_move (v := .int .i64 (liveE D V)) rfl rfl rfl) ?_
  simp only [Act.put, zq1, zq2, zq3]
  refine pl M5 (y_neq (b := false) rfl rfl rfl rfl (by rw [decide_eq_true hL]; rfl)) ?_
  simp only [Act.put, zq1, zq2, zq3]
  refine wpList_nil ?_
  refine hK6 _ _ ?_
  clear hK6
  refine wp_cond_false rfl ?_
  refine wp_skip ?_
  refine hK2 _ _ ?_
  clear hK2
  refine wp_seq_k (fun K7 hK7 => ?_)
  refine wp_seq_k (fun K8 hK8 => ?_)
  refine wp_region_lit ?_
  refine pl M5 (y_move (v := .int .i64 head) rfl rfl rfl) ?_
  simp only [Act.put, zq1, zq2, zq3]
  refine pl M5 (y_neq (b := true) rfl rfl rfl rfl (by rw [decide_eq_false h0]; rfl)) ?_
  simp only [Act.put, zq1, zq2, zq3]
  refine pl M5 (y_move (v := .bool true) rfl rfl rfl) ?_
  simp only [Act.put, zq1, zq2, zq3]
  refine pl M5 (y_move (v := .int .i64 head) rfl rfl rfl) ?_
  simp only [Act.put, zq1, zq2, zq3]
  refine pl M5 (y_lss (b := false) rfl rfl rfl rfl (decide_eq_false h1)) ?_
  simp only [Act.put, zq1, zq2, zq3]
  refine pl M5 (y_move (v := .bool false) rfl rfl rfl) ?_
  simp only [Act.put, zq1, zq2, zq3]
  refine pl M5 (y_move (v := .int .i64 head) rfl rfl rfl) ?_
  simp only [Act.put, zq1, zq2, zq3]
  refine pl M5 (y_move (v := .pointer (some ⟨f, 0, none⟩)) rfl rfl rfl) ?_
  simp only [Act.put, zq1, zq2, zq3]
  refine pl M5 (y_nil rfl rfl rfl) ?_
  simp only [Act.put, zq1, zq2, zq3]
  refine pl M5 (y_fa (r := 6) rfl rfl rfl Try.underlying96 rfl Try.sizeOf3 rfl) ?_
  simp only [Act.put, zq1, zq2, zq3]
  refine pl M5 (y_load (v := .int .i64 V.next) rfl rfl rfl Try.isAgg3 (fun W hW => hW.get 4 rfl) (rfl)) ?_
  simp only [Act.put, zq1, zq2, zq3]
  refine pl M5 (y_geq (b := false) rfl rfl rfl rfl (decide_eq_false h2)) ?_
  simp only [Act.put, zq1, zq2, zq3]
  refine pl M5 (y_pickF (v := .bool false) rfl rfl rfl rfl) ?_
  simp only [Act.put, zq1, zq2, zq3]
  refine pl M5 (y_pickT (v := .bool false) rfl rfl rfl rfl) ?_
  simp only [Act.put, zq1, zq2, zq3]
  refine wpList_nil ?_
  refine hK8 _ _ ?_
  clear hK8
  refine wp_cond_false rfl ?_
  refine wp_skip ?_
  refine hK7 _ _ ?_
  clear hK7
  refine wp_seq_k (fun K9 hK9 => ?_)
  refine wp_seq_k (fun K10 hK10 => ?_)
  refine wp_region_lit ?_
  refine pl M5 (y_move (v := .pointer (some ⟨f, 0, none⟩)) rfl rfl rfl) ?_
  simp only [Act.put, zq1, zq2, zq3]
  refine pl M5 (y_nil rfl rfl rfl) ?_
  simp only [Act.put, zq1, zq2, zq3]
  refine pl M5 (y_fa (r := 1) rfl rfl rfl Try.underlying96 rfl Try.sizeOf37 rfl) ?_
  simp only [Act.put, zq1, zq2, zq3]
  refine pl M5 (y_fa (r := 2) rfl rfl rfl Try.underlying37 rfl Try.sizeOf3 rfl) ?_
  simp only [Act.put, zq1, zq2, zq3]
  refine pl M5 (y_load (v := .int .i64 V.s.gen) rfl rfl rfl Try.isAgg3 (fun W hW => hW.get 4 rfl) (rfl)) ?_
  simp only [Act.put, zq1, zq2, zq3]
  refine pl M5 (y_geq (b := true) rfl rfl rfl rfl (decide_eq_true hg)) ?_
  simp only [Act.put, zq1, zq2, zq3]
  refine wpList_nil ?_
  refine hK10 _ _ ?_
  clear hK10
  refine wp_cond_true rfl ?_
  refine wp_seq_k (fun K11 hK11 => ?_)
  refine wp_region_lit ?_
  refine pl M5 (y_assign (v := .int .i64 5) rfl rfl rfl) ?_
  simp only [Act.put, zq1, zq2, zq3]
  refine wpList_nil ?_
  refine hK11 _ _ ?_
  clear hK11
  refine wp_ret ?_
  try simp only [Exit.inBlock, Exit.then]
  refine bodyPost_ret (v := .int .i64 5) (res1 rfl rfl) rfl ?_
  have e1 : pubR D V head = (D, 5) := by unfold pubR; rw [if_neg (fun h => h hL), if_neg (by omega), if_pos hg]
  have e2 := pub_no e1 (by decide)
  rw [e2, e1]
  exact ⟨_, rfl, (disk_close (D := D) hok (M5.arr [0, 1, 2, 3, 4] (by decide)))⟩
set_option maxRecDepth 100000 in
set_option maxHeartbeats 4000000 in
theorem pub_ok_h {D : DV} {V : FV} {f p pg mb : Nat} {qv : Value} {w : World} (hM : Mem w (foots [disk D p pg mb qv, blk f 96 (fC V p)]) w [disk D p pg mb qv, blk f 96 (fC V p)]) (head : Int) (hL : liveE D V = 0) (h0 : head ≠ 0) (h1 : ¬ head < 2) (h2 : ¬ V.next ≤ head) (hg : ¬ 1099511627776 ≤ V.s.gen) (hq : D.q.length ≤ 400000000000) (hV : FOk D V) : Calls Try.prog 28 #[.pointer (some ⟨f, 0, none⟩), .int .i64 head] w fun e w' => ∃ qv', e = .returned (.int .i64 (pubR D V head).2) ∧ Mem w (foots [disk D p pg mb qv, blk f 96 (fC V p)]) w' [disk (pubR D V head).1 p pg mb qv', blk f 96 (fC (pubV D V head) p)] := by
  obtain ⟨hok, M⟩ := disk_open hM
  clear hM
  have hv1 : ValidS (pubS V head) := pub_validS hV (by omega) (by omega)
  have hgl := hV.valid.2.2.1
  go_enter Try.func28, Try.ntmps28
  refine wp_seq_k (fun K1 hK1 => ?_)
  refine wp_region_lit ?_
  refine pl M (y_assign (v := .int .i64 0) rfl rfl rfl) ?_
  simp only [Act.put, zq1, zq2, zq3]
  refine wpList_nil ?_
  refine hK1 _ _ ?_
  clear hK1
  refine wp_seq_k (fun K2 hK2 => ?_)
  refine wp_seq_k (fun K3 hK3 => ?_)
  refine wp_region_lit ?_
  refine pl M (y_move (v := .pointer (some ⟨f, 0, none⟩)) rfl rfl rfl) ?_
  simp only [Act.put, zq1, zq2, zq3]
  have M4 : Mem w _ w [blk p 60 (dC D pg mb qv), blk pg 92 (pagesC D.pages), lst 94 257 qv D.q.length (qC D.q), mapq mb D.q, blk f 96 (fC V p)] := M.arr [0, 1, 2, 3, 4] (by decide)
  clear M
  have hlv : Mem w _ w ([disk D p pg mb (qv), blk f 96 (fC V p)] ++ []) := disk_close hok M4
  refine pe rfl (fun K hK => ?_)
  refine e_call 21 [.pointer (some ⟨f, 0, none⟩)] rfl rfl Try.call21 (live_any (Mem.here (L := [disk D p pg mb (qv), blk f 96 (fC V p)]) (R := []) hlv)) ?_
  rintro e w5 ⟨rfl, H5⟩
  have M5 : Mem w _ w5 [blk p 60 (dC D pg mb qv), blk pg 92 (pagesC D.pages), lst 94 257 qv D.q.length (qC D.q), mapq mb D.q, blk f 96 (fC V p)] := (disk_open (R := [blk f 96 (fC V p)] ++ []) (Mem.frame (Pre := [disk D p pg mb (qv), blk f 96 (fC V p)]) (Post := [disk D p pg mb (qv), blk f 96 (fC V p)]) (R := []) hlv H5)).2
  refine ⟨_, rfl, ?_⟩
  refine hK.out _ _ ?_
  clear hK K
  simp only [Act.put, zq1, zq2, zq3]
  refine pl M5 (y_assign (v := .int .i64 (liveE D V)) rfl rfl rfl) ?_
  simp only [Act.put, zq1, zq2, zq3]
  refine wpList_nil ?_
  refine hK3 _ _ ?_
  clear hK3
  refine wp_seq_k (fun K6 hK6 => ?_)
  refine wp_region_lit ?_
  refine pl M5 (y_move (v := .int .i64 (liveE D V)) rfl rfl rfl) ?_
  simp only [Act.put, zq1, zq2, zq3]
  refine pl M5 (y_neq (b := false) rfl rfl rfl rfl (by rw [decide_eq_true hL]; rfl)) ?_
  simp only [Act.put, zq1, zq2, zq3]
  refine wpList_nil ?_
  refine hK6 _ _ ?_
  clear hK6
  refine wp_cond_false rfl ?_
  refine wp_skip ?_
  refine hK2 _ _ ?_
  clear hK2
  refine wp_seq_k (fun K7 hK7 => ?_)
  refine wp_seq_k (fun K8 hK8 => ?_)
  refine wp_region_lit ?_
  refine pl M5 (y_move (v := .int .i64 head) rfl rfl rfl) ?_
  simp only [Act.put, zq1, zq2, zq3]
  refine pl M5 (y_neq (b := true) rfl rfl rfl rfl (by rw [decide_eq_false h0]; rfl)) ?_
  simp only [Act.put, zq1, zq2, zq3]
  refine pl M5 (y_move (v := .bool true) rfl rfl rfl) ?_
  simp only [Act.put, zq1, zq2, zq3]
  refine pl M5 (y_move (v := .int .i64 head) rfl rfl rfl) ?_
  simp only [Act.put, zq1, zq2, zq3]
  refine pl M5 (y_lss (b := false) rfl rfl rfl rfl (decide_eq_false h1)) ?_
  simp only [Act.put, zq1, zq2, zq3]
  refine pl M5 (y_move (v := .bool false) rfl rfl rfl) ?_
  simp only [Act.put, zq1, zq2, zq3]
  refine pl M5 (y_move (v := .int .i64 head) rfl rfl rfl) ?_
  simp only [Act.put, zq1, zq2, zq3]
  refine pl M5 (y_move (v := .pointer (some ⟨f, 0, none⟩)) rfl rfl rfl) ?_
  simp only [Act.put, zq1, zq2, zq3]
  refine pl M5 (y_nil rfl rfl rfl) ?_
  simp only [Act.put, zq1, zq2, zq3]
  refine pl M5 (y_fa (r := 6) rfl rfl rfl Try.underlying96 rfl Try.sizeOf3 rfl) ?_
  simp only [Act.put, zq1, zq2, zq3]
  refine pl M5 (y_load (v := .int .i64 V.next) rfl rfl rfl Try.isAgg3 (fun W hW => hW.get 4 rfl) (rfl)) ?_
  simp only [Act.put, zq1, zq2, zq3]
  refine pl M5 (y_geq (b := false) rfl rfl rfl rfl (decide_eq_false h2)) ?_
  simp only [Act.put, zq1, zq2, zq3]
  refine pl M5 (y_pickF (v := .bool false) rfl rfl rfl rfl) ?_
  simp only [Act.put, zq1, zq2, zq3]
  refine pl M5 (y_pickT (v := .bool false) rfl rfl rfl rfl) ?_
  simp only [Act.put, zq1, zq2, zq3]
  refine wpList_nil ?_
  refine hK8 _ _ ?_
  clear hK8
  refine wp_cond_false rfl ?_
  refine wp_skip ?_
  refine hK7 _ _ ?_
  clear hK7
  refine wp_seq_k (fun K9 hK9 => ?_)
  refine wp_seq_k (fun K10 hK10 => ?_)
  refine wp_region_lit ?_
  refine pl M5 (y_move (v := .pointer (some ⟨f, 0, none⟩)) rfl rfl rfl) ?_
  simp only [Act.put, zq1, zq2, zq3]
  refine pl M5 (y_nil rfl rfl rfl) ?_
  simp only [Act.put, zq1, zq2, zq3]
  refine pl M5 (y_fa (r := 1) rfl rfl rfl Try.underlying96 rfl Try.sizeOf37 rfl) ?_
  simp only [Act.put, zq1, zq2, zq3]
  refine pl M5 (y_fa (r := 2) rfl rfl rfl Try.underlying37 rfl Try.sizeOf3 rfl) ?_
  simp only [Act.put, zq1, zq2, zq3]
  refine pl M5 (y_load (v := .int .i64 V.s.gen) rfl rfl rfl Try.isAgg3 (fun W hW => hW.get 4 rfl) (rfl)) ?_
  simp only [Act.put, zq1, zq2, zq3]
  refine pl M5 (y_geq (b := false) rfl rfl rfl rfl (decide_eq_false (by omega))) ?_
  simp only [Act.put, zq1, zq2, zq3]
  refine wpList_nil ?_
  refine hK10 _ _ ?_
  clear hK10
  refine wp_cond_false rfl ?_
  refine wp_skip ?_
  refine hK9 _ _ ?_
  clear hK9
  refine wp_seq_k (fun K11 hK11 => ?_)
  refine wp_region_lit ?_
  refine pl M5 (y_move (v := .pointer (some ⟨f, 0, none⟩)) rfl rfl rfl) ?_
  simp only [Act.put, zq1, zq2, zq3]
  refine pl M5 (y_nil rfl rfl rfl) ?_
  simp only [Act.put, zq1, zq2, zq3]
  refine pl M5 (y_fa (r := 1) rfl rfl rfl Try.underlying96 rfl Try.sizeOf37 rfl) ?_
  simp only [Act.put, zq1, zq2, zq3]
  refine pl M5 (y_loadb (cs := (supC V.s)) rfl rfl rfl Try.underlying37 rfl (size_sup _) (fun W hW => hW.get 4 rfl) (rfl)) ?_
  simp only [Act.put, zq1, zq2, zq3]
  refine pe rfl (fun K hK => ?_)
  refine e_alloc M5 (supC noSup) rfl zero_sup ?_
  intro g6 w12 (M12 : Mem w _ w12 [blk g6 37 (supC noSup), blk p 60 (dC D pg mb qv), blk pg 92 (pagesC D.pages), lst 94 257 qv D.q.length (qC D.q), mapq mb D.q, blk f 96 (fC V p)])
  clear M5
  refine hK.out _ _ ?_
  clear hK K
  simp only [Act.put, zq1, zq2, zq3]
  refine pe rfl (fun K hK => ?_)
  refine e_storew M12 0 (cs := (supC V.s)) rfl rfl rfl rfl (size_sup _) (sup_all _) rfl (rfl) ?_
  intro w13 (M13 : Mem w _ w13 [blk g6 37 (supC V.s), blk p 60 (dC D pg mb qv), blk pg 92 (pagesC D.pages), lst 94 257 qv D.q.length (qC D.q), mapq mb D.q, blk f 96 (fC V p)])
  clear M12
  refine hK.out _ _ ?_
  clear hK K
  simp only [Act.put, zq1, zq2, zq3]
  refine wpList_nil ?_
  refine hK11 _ _ ?_
  clear hK11
  refine wp_seq_k (fun K14 hK14 => ?_)
  refine wp_region_lit ?_
  refine pl M13 (y_fa (r := 1) rfl rfl rfl Try.underlying37 rfl Try.sizeOf3 rfl) ?_
  simp only [Act.put, zq1, zq2, zq3]
  refine pl M13 (y_load (v := .int .i64 V.s.gen) rfl rfl rfl Try.isAgg3 (fun W hW => hW.get 0 rfl) (rfl)) ?_
  simp only [Act.put, zq1, zq2, zq3]
  refine pl M13 (y_add (r := V.s.gen + 1) rfl rfl rfl rfl (rfl) (by omega)) ?_
  simp only [Act.put, zq1, zq2, zq3]
  refine pl M13 (y_fa (r := 1) rfl rfl rfl Try.underlying37 rfl Try.sizeOf3 rfl) ?_
  simp only [Act.put, zq1, zq2, zq3]
  refine pe rfl (fun K hK => ?_)
  refine e_store M13 0 (v := .int .i64 (V.s.gen + 1)) rfl rfl rfl rfl rfl rfl Try.sizeOf3 rfl (show (1 : Nat) < 5 by decide) ?_
  intro w15 (M15 : Mem w _ w15 [blk g6 37 ([.int .i64 V.s.width, .int .i64 (V.s.gen + 1), .int .i64 V.s.mark, .int .i64 V.s.head, .int .i64 V.s.pages]), blk p 60 (dC D pg mb qv), blk pg 92 (pagesC D.pages), lst 94 257 qv D.q.length (qC D.q), mapq mb D.q, blk f 96 (fC V p)])
  clear M13
  refine hK.out _ _ ?_
  clear hK K
  simp only [Act.put, zq1, zq2, zq3]
  refine wpList_nil ?_
  refine hK14 _ _ ?_
  clear hK14
  refine wp_seq_k (fun K16 hK16 => ?_)
  refine wp_region_lit ?_
  refine pl M15 (y_move (v := .pointer (some ⟨f, 0, none⟩)) rfl rfl rfl) ?_
  simp only [Act.put, zq1, zq2, zq3]
  refine pl M15 (y_nil rfl rfl rfl) ?_
  simp only [Act.put, zq1, zq2, zq3]
  refine pl M15 (y_fa (r := 6) rfl rfl rfl Try.underlying96 rfl Try.sizeOf3 rfl) ?_
  simp only [Act.put, zq1, zq2, zq3]
  refine pl M15 (y_load (v := .int .i64 V.next) rfl rfl rfl Try.isAgg3 (fun W hW => hW.get 5 rfl) (rfl)) ?_
  simp only [Act.put, zq1, zq2, zq3]
  refine pl M15 (y_move (v := .int .i64 head) rfl rfl rfl) ?_
  simp only [Act.put, zq1, zq2, zq3]
  refine pl M15 (y_fa (r := 2) rfl rfl rfl Try.underlying37 rfl Try.sizeOf3 rfl) ?_
  simp only [Act.put, zq1, zq2, zq3]
  refine pe rfl (fun K hK => ?_)
  refine e_store M15 0 (v := .int .i64 V.next) rfl rfl rfl rfl rfl rfl Try.sizeOf3 rfl (show (2 : Nat) < 5 by decide) ?_
  intro w17 (M17 : Mem w _ w17 [blk g6 37 ([.int .i64 V.s.width, .int .i64 (V.s.gen + 1), .int .i64 V.next, .int .i64 V.s.head, .int .i64 V.s.pages]), blk p 60 (dC D pg mb qv), blk pg 92 (pagesC D.pages), lst 94 257 qv D.q.length (qC D.q), mapq mb D.q, blk f 96 (fC V p)])
  clear M15
  refine hK.out _ _ ?_
  clear hK K
  simp only [Act.put, zq1, zq2, zq3]
  refine pl M17 (y_fa (r := 3) rfl rfl rfl Try.underlying37 rfl Try.sizeOf3 rfl) ?_
  simp only [Act.put, zq1, zq2, zq3]
  refine pe rfl (fun K hK => ?_)
  refine e_store M17 0 (v := .int .i64 head) rfl rfl rfl rfl rfl rfl Try.sizeOf3 rfl (show (3 : Nat) < 5 by decide) ?_
  intro w18 (M18 : Mem w _ w18 [blk g6 37 (supC (pubS V head)), blk p 60 (dC D pg mb qv), blk pg 92 (pagesC D.pages), lst 94 257 qv D.q.length (qC D.q), mapq mb D.q, blk f 96 (fC V p)])
  clear M17
  refine hK.out _ _ ?_
  clear hK K
  simp only [Act.put, zq1, zq2, zq3]
  refine wpList_nil ?_
  refine hK16 _ _ ?_
  clear hK16
  refine wp_seq_k (fun K19 hK19 => ?_)
  refine wp_seq_k (fun K20 hK20 => ?_)
  have M21 := M18.drew
  refine held_begin (fun W => Mem w (foots [disk D p pg mb qv, blk f 96 (fC V p)]) W [blk g6 37 (supC (pubS V head)), blk f 96 (fC V p)]) (by kernel_rfl) (M21.arr [0, 5] (by decide)) (fun hS => ?_)
  refine held_take 0 _ rfl (by kernel_rfl) (by kernel_rfl) (by kernel_rfl) (y_move (v := .pointer (some ⟨f, 0, none⟩)) rfl rfl rfl) hS ?_
  simp only [Act.put, zq1, zq2, zq3]
  refine held_take 1 _ rfl (by kernel_rfl) (by kernel_rfl) (by kernel_rfl) (y_nil rfl rfl rfl) hS ?_
  simp only [Act.put, zq1, zq2, zq3]
  refine held_take 2 _ rfl (by kernel_rfl) (by kernel_rfl) (by kernel_rfl) (y_fa (r := 0) rfl rfl rfl Try.underlying96 rfl Try.sizeOf24 rfl) hS ?_
  simp only [Act.put, zq1, zq2, zq3]
  refine held_take 3 _ rfl (by kernel_rfl) (by kernel_rfl) (by kernel_rfl) (y_load (v := .pointer (some ⟨p, 0, none⟩)) rfl rfl rfl Try.isAgg24 (fun W hW => hW.get 1 rfl) (rfl)) hS ?_
  simp only [Act.put, zq1, zq2, zq3]
  refine held_take 4 _ rfl (by kernel_rfl) (by kernel_rfl) (by kernel_rfl) (y_func (fv := [.pointer (some ⟨p, 0, none⟩)]) (cv := []) rfl rfl rfl rfl) hS ?_
  simp only [Act.put, zq1, zq2, zq3]
  refine held_take 5 _ rfl (by kernel_rfl) (by kernel_rfl) (by kernel_rfl) (y_move (v := .pointer (some ⟨f, 0, none⟩)) rfl rfl rfl) hS ?_
  simp only [Act.put, zq1, zq2, zq3]
  refine held_take 6 _ rfl (by kernel_rfl) (by kernel_rfl) (by kernel_rfl) (y_nil rfl rfl rfl) hS ?_
  simp only [Act.put, zq1, zq2, zq3]
  refine held_take 7 _ rfl (by kernel_rfl) (by kernel_rfl) (by kernel_rfl) (y_fa (r := 0) rfl rfl rfl Try.underlying96 rfl Try.sizeOf24 rfl) hS ?_
  simp only [Act.put, zq1, zq2, zq3]
  refine held_take 8 _ rfl (by kernel_rfl) (by kernel_rfl) (by kernel_rfl) (y_load (v := .pointer (some ⟨p, 0, none⟩)) rfl rfl rfl Try.isAgg24 (fun W hW => hW.get 1 rfl) (rfl)) hS ?_
  simp only [Act.put, zq1, zq2, zq3]
  refine held_take 9 _ rfl (by kernel_rfl) (by kernel_rfl) (by kernel_rfl) (y_loadb (cs := (supC (pubS V head))) rfl rfl rfl Try.underlying37 rfl (size_sup _) (fun W hW => hW.get 0 rfl) (List.take_of_length_le (Nat.le_refl _))) hS ?_
  simp only [Act.put, zq1, zq2, zq3]
  refine held_take 11 _ rfl (by kernel_rfl) (by kernel_rfl) (by kernel_rfl) (y_move (v := .pointer (some ⟨f, 0, none⟩)) rfl rfl rfl) hS ?_
  simp only [Act.put, zq1, zq2, zq3]
  refine held_take 12 _ rfl (by kernel_rfl) (by kernel_rfl) (by kernel_rfl) (y_nil rfl rfl rfl) hS ?_
  simp only [Act.put, zq1, zq2, zq3]
  refine held_take 13 _ rfl (by kernel_rfl) (by kernel_rfl) (by kernel_rfl) (y_fa (r := 0) rfl rfl rfl Try.underlying96 rfl Try.sizeOf24 rfl) hS ?_
  simp only [Act.put, zq1, zq2, zq3]
  refine held_take 14 _ rfl (by kernel_rfl) (by kernel_rfl) (by kernel_rfl) (y_load (v := .pointer (some ⟨p, 0, none⟩)) rfl rfl rfl Try.isAgg24 (fun W hW => hW.get 1 rfl) (rfl)) hS ?_
  simp only [Act.put, zq1, zq2, zq3]
  refine held_take 15 _ rfl (by kernel_rfl) (by kernel_rfl) (by kernel_rfl) (y_func (fv := [.pointer (some ⟨p, 0, none⟩)]) (cv := []) rfl rfl rfl rfl) hS ?_
  simp only [Act.put, zq1, zq2, zq3]
  refine held_step 10 (by kernel_rfl) rfl (by rfl) (fun K hK => ?_)
  refine e_call 45 [.pointer (some ⟨p, 0, none⟩), .agg ((supC (pubS V head))).toArray] rfl rfl Try.call45 (lay_any p (pubS V head) _) ?_
  rintro e w22 ⟨gs1, gd1, rfl, H⟩
  have M22 : Mem w _ w22 [blk gs1 37 (supC (pubS V head)), blk gd1 24 ([.pointer (some ⟨p, 0, none⟩)]), blk g6 37 (supC (pubS V head)), blk p 60 (dC D pg mb qv), blk pg 92 (pagesC D.pages), lst 94 257 qv D.q.length (qC D.q), mapq mb D.q, blk f 96 (fC V p)] := M21.step H
  refine ⟨_, rfl, ?_⟩
  refine hK.out _ _ (M22.arr [2, 7] (by decide)) (fun hS => ?_)
  clear hK K
  simp only [Act.put, zq1, zq2, zq3]
  refine held_step 16 (by kernel_rfl) rfl (by rfl) (fun K hK => ?_)
  refine e_bslice M22 ([.func (.func 46) #[.pointer (some ⟨p, 0, none⟩)] #[], .func (.func 61) #[] #[.pointer (some ⟨gs1, 0, none⟩), .pointer (some ⟨gd1, 0, none⟩)], .func (.func 46) #[.pointer (some ⟨p, 0, none⟩)] #[]]) (pv := [(0, .func (.func 46) #[.pointer (some ⟨p, 0, none⟩)] #[]), (1, .func (.func 61) #[] #[.pointer (some ⟨gs1, 0, none⟩), .pointer (some ⟨gd1, 0, none⟩)]), (2, .func (.func 46) #[.pointer (some ⟨p, 0, none⟩)] #[])]) rfl rfl Try.underlying114 Try.sizeOf90 Try.zeroValue90 (by decide) (by kernel_rfl) ?_
  intro g23 w24 (M24 : Mem w _ w24 [blk g23 90 ([.func (.func 46) #[.pointer (some ⟨p, 0, none⟩)] #[], .func (.func 61) #[] #[.pointer (some ⟨gs1, 0, none⟩), .pointer (some ⟨gd1, 0, none⟩)], .func (.func 46) #[.pointer (some ⟨p, 0, none⟩)] #[]]), blk gs1 37 (supC (pubS V head)), blk gd1 24 ([.pointer (some ⟨p, 0, none⟩)]), blk g6 37 (supC (pubS V head)), blk p 60 (dC D pg mb qv), blk pg 92 (pagesC D.pages), lst 94 257 qv D.q.length (qC D.q), mapq mb D.q, blk f 96 (fC V p)])
  clear M22
  refine hK.out _ _ (M24.arr [3, 8] (by decide)) (fun hS => ?_)
  clear hK K
  simp only [Act.put, zq1, zq2, zq3]
  have M25 : Mem w _ w24 [blk p 60 (dC D pg mb qv), blk pg 92 (pagesC D.pages), lst 94 257 qv D.q.length (qC D.q), mapq mb D.q, blk g23 90 ([.func (.func 46) #[.pointer (some ⟨p, 0, none⟩)] #[], .func (.func 61) #[] #[.pointer (some ⟨gs1, 0, none⟩), .pointer (some ⟨gd1, 0, none⟩)], .func (.func 46) #[.pointer (some ⟨p, 0, none⟩)] #[]]), blk gs1 37 (supC (pubS V head)), blk gd1 24 ([.pointer (some ⟨p, 0, none⟩)]), blk g6 37 (supC (pubS V head)), blk f 96 (fC V p)] := M24.arr [4, 5, 6, 7, 0, 1, 2, 3, 8] (by decide)
  clear M24
  refine held_step 17 (by kernel_rfl) rfl (by rfl) (fun K hK => ?_)
  have hino := fun (W0 : World) (qv0 : Value) (hM0 : Mem w (foots [disk D p pg mb qv, blk f 96 (fC V p)]) W0 (disk (D) p pg mb qv0 :: [blk g23 90 ([.func (.func 46) #[.pointer (some ⟨p, 0, none⟩)] #[], .func (.func 61) #[] #[.pointer (some ⟨gs1, 0, none⟩), .pointer (some ⟨gd1, 0, none⟩)], .func (.func 46) #[.pointer (some ⟨p, 0, none⟩)] #[]]), blk gs1 37 (supC (pubS V head)), blk gd1 24 ([.pointer (some ⟨p, 0, none⟩)]), blk g6 37 (supC (pubS V head)), blk f 96 (fC V p)])) => disk_steps (p := p) (pg := pg) (mb := mb) (gt := g23) (X := [blk g23 90 ([.func (.func 46) #[.pointer (some ⟨p, 0, none⟩)] #[], .func (.func 61) #[] #[.pointer (some ⟨gs1, 0, none⟩), .pointer (some ⟨gd1, 0, none⟩)], .func (.func 46) #[.pointer (some ⟨p, 0, none⟩)] #[]]), blk gs1 37 (supC (pubS V head)), blk gd1 24 ([.pointer (some ⟨p, 0, none⟩)]), blk g6 37 (supC (pubS V head)), blk f 96 (fC V p)]) [(⟨46, [.pointer (some ⟨p, 0, none⟩)], []⟩ : Stp), (⟨61, [], [.pointer (some ⟨gs1, 0, none⟩), .pointer (some ⟨gd1, 0, none⟩)]⟩ : Stp), (⟨46, [.pointer (some ⟨p, 0, none⟩)], []⟩ : Stp)] [yS, wS (pubS V head), yS] rfl (by simp)
    (fun W hX i x hx => by
      have hb : (blk g23 90 ([.func (.func 46) #[.pointer (some ⟨p, 0, none⟩)] #[], .func (.func 61) #[] #[.pointer (some ⟨gs1, 0, none⟩), .pointer (some ⟨gd1, 0, none⟩)], .func (.func 46) #[.pointer (some ⟨p, 0, none⟩)] #[]])).holds W := hX _ (List.mem_of_getElem? (i := 0) rfl)
      match i, hx with
      | 0, hx => cases hx; exact cell_of_blk hb rfl
      | 1, hx => cases hx; exact cell_of_blk hb rfl
      | 2, hx => cases hx; exact cell_of_blk hb rfl
      | i + 3, hx => simp at hx)
    (fun x hx ar w => by
      simp only [List.mem_cons, List.not_mem_nil, or_false] at hx
      rcases hx with rfl | rfl | rfl
      · exact Try.call46 ar w
      · exact Try.call61 ar w
      · exact Try.call46 ar w
      )
    (fun i x f hx hf E qvx W hE hM => by
    match i, hx, hf with
    | 0, hx, hf =>
      cases hx; cases hf; exact sync_each E qvx W hM
    | 1, hx, hf =>
      cases hx; cases hf
      have h2 : Mem w _ W (disk E p pg mb qvx :: blk gs1 37 (supC (pubS V head)) :: blk gd1 24 [.pointer (some ⟨p, 0, none⟩)] :: [blk g23 90 ([.func (.func 46) #[.pointer (some ⟨p, 0, none⟩)] #[], .func (.func 61) #[] #[.pointer (some ⟨gs1, 0, none⟩), .pointer (some ⟨gd1, 0, none⟩)], .func (.func 46) #[.pointer (some ⟨p, 0, none⟩)] #[]]), blk g6 37 (supC (pubS V head)), blk f 96 (fC V p)]) := hM.arr [0, 2, 3, 1, 4, 5] (by decide)
      refine (laid_each (X := [blk g23 90 ([.func (.func 46) #[.pointer (some ⟨p, 0, none⟩)] #[], .func (.func 61) #[] #[.pointer (some ⟨gs1, 0, none⟩), .pointer (some ⟨gd1, 0, none⟩)], .func (.func 46) #[.pointer (some ⟨p, 0, none⟩)] #[]]), blk g6 37 (supC (pubS V head)), blk f 96 (fC V p)]) hv1 E qvx W hE h2).mono ?_
      rintro e w' ⟨qv', rfl, h3⟩
      exact ⟨qv', rfl, h3.arr [0, 3, 1, 2, 4, 5] (by decide)⟩
    | 2, hx, hf =>
      cases hx; cases hf; exact sync_each E qvx W hM
    | i + 3, hx, hf => simp at hx)
    (fun f hf E => by
      simp only [List.mem_cons, List.not_mem_nil, or_false] at hf
      rcases hf with rfl | rfl | rfl
      · exact yS_q E
      · exact wS_q _ E
      · exact yS_q E
      ) (qv := qv0) hq hM0
  refine e_call 44 [.slice (some ⟨g23, 0, none⟩) 3 3] rfl rfl Try.call44 (hino _ _ (disk_close (D := D) (R := [blk g23 90 ([.func (.func 46) #[.pointer (some ⟨p, 0, none⟩)] #[], .func (.func 61) #[] #[.pointer (some ⟨gs1, 0, none⟩), .pointer (some ⟨gd1, 0, none⟩)], .func (.func 46) #[.pointer (some ⟨p, 0, none⟩)] #[]]), blk gs1 37 (supC (pubS V head)), blk gd1 24 ([.pointer (some ⟨p, 0, none⟩)]), blk g6 37 (supC (pubS V head)), blk f 96 (fC V p)]) hok M25)) ?_
  rintro e w26 ⟨qv', rfl, H⟩
  have M26 : Mem w _ w26 [disk (runS [yS, wS (pubS V head), yS] (D)).1 p pg mb qv', blk g23 90 ([.func (.func 46) #[.pointer (some ⟨p, 0, none⟩)] #[], .func (.func 61) #[] #[.pointer (some ⟨gs1, 0, none⟩), .pointer (some ⟨gd1, 0, none⟩)], .func (.func 46) #[.pointer (some ⟨p, 0, none⟩)] #[]]), blk gs1 37 (supC (pubS V head)), blk gd1 24 ([.pointer (some ⟨p, 0, none⟩)]), blk g6 37 (supC (pubS V head)), blk f 96 (fC V p)] := H
  clear H hino M25
  refine ⟨_, rfl, ?_⟩
  refine hK.out _ _ (M26.arr [4, 5] (by decide)) (fun hS => ?_)
  clear hK K
  simp only [Act.put, zq1, zq2, zq3]
  refine held_take 18 _ rfl (by kernel_rfl) (by kernel_rfl) (by kernel_rfl) (y_assign (v := .int .i64 ((runS [yS, wS (pubS V head), yS] (D)).2)) rfl rfl rfl) hS ?_
  simp only [Act.put, zq1, zq2, zq3]
  refine held_done (by kernel_rfl) ?_ _
  refine hK20 _ _ ?_
  clear hK20
  refine wp_seq_k (fun K27 hK27 => ?_)
  refine wp_region_lit ?_
  refine pl M26 (y_move (v := .int .i64 ((runS [yS, wS (pubS V head), yS] (D)).2)) rfl rfl rfl) ?_
  simp only [Act.put, zq1, zq2, zq3]
  rcases Decidable.em ((runS [yS, wS (pubS V head), yS] (D)).2 = 0) with h28 | h28
  · refine pl M26 (y_neq (b := false) rfl rfl rfl rfl (by rw [decide_eq_true h28]; rfl)) ?_
    simp only [Act.put, zq1, zq2, zq3]
    refine wpList_nil ?_
    refine hK27 _ _ ?_
    clear hK27
    refine wp_cond_false rfl ?_
    refine wp_skip ?_
    refine hK19 _ _ ?_
    clear hK19
    refine wp_seq_k (fun K29 hK29 => ?_)
    refine wp_region_lit ?_
    refine pl M26 (y_move (v := .pointer (some ⟨f, 0, none⟩)) rfl rfl rfl) ?_
    simp only [Act.put, zq1, zq2, zq3]
    refine pl M26 (y_loadb (cs := (supC (pubS V head))) rfl rfl rfl Try.underlying37 rfl (size_sup _) (fun W hW => hW.get 4 rfl) (List.take_of_length_le (Nat.le_refl _))) ?_
    simp only [Act.put, zq1, zq2, zq3]
    refine pl M26 (y_nil rfl rfl rfl) ?_
    simp only [Act.put, zq1, zq2, zq3]
    refine pl M26 (y_fa (r := 1) rfl rfl rfl Try.underlying96 rfl Try.sizeOf37 rfl) ?_
    simp only [Act.put, zq1, zq2, zq3]
    refine pe rfl (fun K hK => ?_)
    refine e_storer M26 5 (cs := (supC (pubS V head))) rfl rfl rfl rfl (size_sup _) (sup_all _) rfl (by show 1 + 5 ≤ 8; decide) ?_
    intro w30 M30
    replace M30 : Mem w (foots [disk D p pg mb qv, blk f 96 (fC V p)]) w30 [disk (runS [yS, wS (pubS V head), yS] (D)).1 p pg mb qv', blk g23 90 ([.func (.func 46) #[.pointer (some ⟨p, 0, none⟩)] #[], .func (.func 61) #[] #[.pointer (some ⟨gs1, 0, none⟩), .pointer (some ⟨gd1, 0, none⟩)], .func (.func 46) #[.pointer (some ⟨p, 0, none⟩)] #[]]), blk gs1 37 (supC (pubS V head)), blk gd1 24 ([.pointer (some ⟨p, 0, none⟩)]), blk g6 37 (supC (pubS V head)), blk f 96 (fC { V with s := pubS V head } p)] := M30
    clear M26
    refine hK.out _ _ ?_
    clear hK K
    simp only [Act.put, zq1, zq2, zq3]
    refine wpList_nil ?_
    refine hK29 _ _ ?_
    clear hK29
    refine wp_seq_k (fun K31 hK31 => ?_)
    refine wp_region_lit ?_
    refine pl M30 (y_assign (v := .int .i64 0) rfl rfl rfl) ?_
    simp only [Act.put, zq1, zq2, zq3]
    refine wpList_nil ?_
    refine hK31 _ _ ?_
    clear hK31
    refine wp_ret ?_
    try simp only [Exit.inBlock, Exit.then]
    refine bodyPost_ret (v := .int .i64 0) (res1 rfl rfl) rfl ?_
    have e1 : pubR D V head = runS [yS, wS (pubS V head), yS] D := by unfold pubR; rw [if_neg (fun h => h hL), if_neg (by omega), if_neg (by omega)]
    have e2 : pubV D V head = { V with s := pubS V head } := if_pos (by rw [e1]; exact h28)
    rw [e2, e1, h28]
    exact ⟨_, rfl, M30.arr [0, 5] (by decide)⟩
  · refine pl M26 (y_neq (b := true) rfl rfl rfl rfl (by rw [decide_eq_false h28]; rfl)) ?_
    simp only [Act.put, zq1, zq2, zq3]
    refine wpList_nil ?_
    refine hK27 _ _ ?_
    clear hK27
    refine wp_cond_true rfl ?_
    refine wp_seq_k (fun K32 hK32 => ?_)
    refine wp_region_lit ?_
    refine pl M26 (y_move (v := .int .i64 ((runS [yS, wS (pubS V head), yS] (D)).2)) rfl rfl rfl) ?_
    simp only [Act.put, zq1, zq2, zq3]
    refine pl M26 (y_assign (v := .int .i64 ((runS [yS, wS (pubS V head), yS] (D)).2)) rfl rfl rfl) ?_
    simp only [Act.put, zq1, zq2, zq3]
    refine wpList_nil ?_
    refine hK32 _ _ ?_
    clear hK32
    refine wp_ret ?_
    try simp only [Exit.inBlock, Exit.then]
    refine bodyPost_ret (v := .int .i64 ((runS [yS, wS (pubS V head), yS] (D)).2)) (res1 rfl rfl) rfl ?_
    have e1 : pubR D V head = runS [yS, wS (pubS V head), yS] D := by unfold pubR; rw [if_neg (fun h => h hL), if_neg (by omega), if_neg (by omega)]
    have e2 : pubV D V head = V := if_neg (by rw [e1]; exact h28)
    rw [e2, e1]
    exact ⟨_, rfl, M26.arr [0, 5] (by decide)⟩
theorem pub_any {D : DV} {V : FV} {f p pg mb : Nat} {qv : Value} {w : World} (hM : Mem w (foots [disk D p pg mb qv, blk f 96 (fC V p)]) w [disk D p pg mb qv, blk f 96 (fC V p)]) (head : Int) (hq : D.q.length ≤ 400000000000) (hV : FOk D V) : Calls Try.prog 28 #[.pointer (some ⟨f, 0, none⟩), .int .i64 head] w fun e w' => ∃ qv', e = .returned (.int .i64 (pubR D V head).2) ∧ Mem w (foots [disk D p pg mb qv, blk f 96 (fC V p)]) w' [disk (pubR D V head).1 p pg mb qv', blk f 96 (fC (pubV D V head) p)] := by
  by_cases hL : liveE D V = 0
  · by_cases h0 : head = 0
    · by_cases hg : 1099511627776 ≤ V.s.gen
      · exact pub_full_z hM head hL h0 hg
      · exact pub_ok_z hM head hL h0 hg hq hV
    · by_cases h1 : head < 2
      · exact pub_low hM head hL h0 h1
      · by_cases h2 : V.next ≤ head
        · exact pub_high hM head hL h0 h1 h2
        · by_cases hg : 1099511627776 ≤ V.s.gen
          · exact pub_full_h hM head hL h0 h1 h2 hg
          · exact pub_ok_h hM head hL h0 h1 h2 hg hq hV
  · exact pub_dead hM head hL
end Go.Proofs.Ytehnnnohoaapdaa

/- A page file over a disk, as values: what an open file and its disk are at any time, and what each act does with them. No program in sight. -/
namespace Go.Proofs.Ytehnnnohoaapdaa
set_option linter.unusedSectionVars false
set_option linter.unusedSimpArgs false
open Go Go.RowKit
set_option linter.unusedVariables false
abbrev Pgs := List (Nat × List UInt8)
def pgAt (ps : Pgs) (n : Nat) : Nat × List UInt8 := ps.getD (n - 2) (0, [])
def pgB (ps : Pgs) (n : Nat) : List UInt8 := pageB (pgAt ps n).1 n (pgAt ps n).2
def PageOk (x : Nat × List UInt8) : Prop := (1 ≤ x.1 ∧ x.1 ≤ 3) ∧ x.2.length ≤ 246
def putP (ps : Pgs) (n : Nat) (x : Nat × List UInt8) : Pgs := ps.take (n - 2) ++ [x]
theorem putP_at (ps : Pgs) (n : Nat) (x : Nat × List UInt8) (h : n - 2 ≤ ps.length) : pgAt (putP ps n x) n = x := by
  unfold pgAt putP
  rw [List.getD_eq_getElem?_getD, List.getElem?_append_right (by rw [List.length_take]; omega), List.length_take]
  rw [show n - 2 - min (n - 2) ps.length = 0 by omega]; rfl
theorem putP_low (ps : Pgs) (n m : Nat) (x : Nat × List UInt8) (h : n - 2 ≤ ps.length) (hm : m < n) (h2 : 2 ≤ m) : pgAt (putP ps n x) m = pgAt ps m := by
  unfold pgAt putP
  rw [List.getD_eq_getElem?_getD, List.getElem?_append_left (by rw [List.length_take]; omega), List.getElem?_take_of_lt (by omega), ← List.getD_eq_getElem?_getD]
theorem putP_len (ps : Pgs) (n : Nat) (x : Nat × List UInt8) (h : n - 2 ≤ ps.length) : (putP ps n x).length = n - 2 + 1 := by
  unfold putP
  rw [List.length_append, List.length_take]
  simp; omega
theorem putP_good (ps : Pgs) (n : Nat) (x : Nat × List UInt8) (hg : ∀ y ∈ ps, PageOk y) (hx : PageOk x) : ∀ y ∈ putP ps n x, PageOk y := by
  intro y hy
  rcases List.mem_append.1 hy with h | h
  · exact hg y (List.mem_of_mem_take h)
  · obtain rfl : y = x := by simpa using h
    exact hx
theorem pgAt_ok {ps : Pgs} {n : Nat} (hg : ∀ y ∈ ps, PageOk y) (h : n - 2 < ps.length) : PageOk (pgAt ps n) := by
  unfold pgAt
  rw [List.getD_eq_getElem?_getD, List.getElem?_eq_getElem h]
  exact hg _ (List.getElem_mem h)
def Follows (S P : SupV) : Prop := S = { P with gen := P.gen + 1, mark := S.mark, head := S.head } ∧ P.mark ≤ S.mark
theorem Follows.gen {S P : SupV} (h : Follows S P) : S.gen = P.gen + 1 := by rw [h.1]
theorem Follows.width {S P : SupV} (h : Follows S P) : S.width = P.width := by rw [h.1]
theorem Follows.pages {S P : SupV} (h : Follows S P) : S.pages = P.pages := by rw [h.1]
structure Plat (D : DV) (S : SupV) (ps : Pgs) : Prop where
  ok : DOk D
  val : ValidS S
  pages : S.pages = (D.pages.length : Int)
  prev : ∃ P, ValidS P ∧ Follows S P ∧ D.pg (S.gen % 2).toNat = superB S ∧ D.pg ((S.gen + 1) % 2).toNat = superB P
  len : S.mark - 2 ≤ (ps.length : Int)
  good : ∀ x ∈ ps, PageOk x
  dur : ∀ n : Nat, 2 ≤ n → (n : Int) < S.mark → D.pg n = pgB ps n
  que : ∀ x ∈ D.q, S.mark ≤ (x.1 : Int)
structure Inv (D : DV) (V : FV) (ps : Pgs) : Prop where
  plat : Plat D V.s ps
  live : D.epoch = V.mine
  pow : D.dead = false
  lo : V.s.mark ≤ V.next
  hi : V.next ≤ V.s.pages
  lenN : V.next - 2 ≤ (ps.length : Int)
  cur : ∀ n : Nat, 2 ≤ n → (n : Int) < V.next → D.cur n = pgB ps n
theorem curP_other (b : List UInt8) (p : Nat) : ∀ q : List Wr, (∀ x ∈ q, x.1 ≠ p) → curP b q p = b := by
  refine snocInd (fun _ => rfl) fun q x ih h => ?_
  rw [curP_snoc, if_neg (h x (by simp))]
  exact ih fun y hy => h y (List.mem_append_left _ hy)
theorem cur_other {D : DV} {p : Nat} (h : ∀ x ∈ D.q, x.1 ≠ p) : D.cur p = D.pg p := curP_other _ _ _ h
theorem Plat.mark2 {D : DV} {S : SupV} {ps : Pgs} (h : Plat D S ps) : 2 ≤ S.mark := h.val.2.2.2.2.2.2.1
theorem Plat.markp {D : DV} {S : SupV} {ps : Pgs} (h : Plat D S ps) : S.mark ≤ (D.pages.length : Int) := by have := h.val.2.2.2.2.2.2.2.1; have := h.pages; omega
theorem Plat.gen0 {D : DV} {S : SupV} {ps : Pgs} (h : Plat D S ps) : 1 ≤ S.gen := by
  obtain ⟨P, h1, h2, _⟩ := h.prev
  have := h2.gen; have := h1.2.2.1; omega
theorem Plat.slots {D : DV} {S : SupV} {ps : Pgs} (h : Plat D S ps) : D.cur 0 = D.pg 0 ∧ D.cur 1 = D.pg 1 := by
  have := h.mark2
  exact ⟨cur_other fun x hx e => by have := h.que x hx; omega, cur_other fun x hx e => by have := h.que x hx; omega⟩
theorem Plat.low {D : DV} {S : SupV} {ps : Pgs} (h : Plat D S ps) {n : Nat} (h1 : 2 ≤ n) (h2 : (n : Int) < S.mark) : D.cur n = pgB ps n := by
  rw [cur_other fun x hx e => by have := h.que x hx; omega]
  exact h.dur n h1 h2
theorem Inv.ok {D : DV} {V : FV} {ps : Pgs} (h : Inv D V ps) : DOk D := h.plat.ok
theorem Inv.fok {D : DV} {V : FV} {ps : Pgs} (h : Inv D V ps) : FOk D V := ⟨h.plat.val, h.plat.pages, by have := h.plat.mark2; have := h.lo; omega, h.hi, h.lo⟩
theorem Inv.isLive {D : DV} {V : FV} {ps : Pgs} (h : Inv D V ps) : liveE D V = 0 := by
  unfold liveE
  rw [if_neg (fun x => x h.live), h.pow]; rfl
theorem Inv.next2 {D : DV} {V : FV} {ps : Pgs} (h : Inv D V ps) : 2 ≤ V.next := by have := h.plat.mark2; have := h.lo; omega
theorem Inv.nextp {D : DV} {V : FV} {ps : Pgs} (h : Inv D V ps) : V.next ≤ (D.pages.length : Int) := by have := h.hi; have := h.plat.pages; omega
theorem choose_supers {A B S P : SupV} (hA : ValidS A) (hB : ValidS B) (h0 : A.gen % 2 = 0) (h1 : B.gen % 2 = 1) (hf : Follows S P) (h : (A = S ∧ B = P) ∨ (A = P ∧ B = S)) :
    chooseE (superB A) (superB B) = 0 ∧ chooseS (superB A) (superB B) = S := by
  have hg := hf.gen
  have hn : NewerOk A B ∧ overS A B = S := by
    rcases h with ⟨rfl, rfl⟩ | ⟨rfl, rfl⟩
    · have e1 : overS A B = A := if_neg (by omega)
      have e2 : underS A B = B := if_neg (by omega)
      refine ⟨⟨h0, h1, ?_, ?_⟩, e1⟩
      · rw [e1, e2]; exact hf.1
      · rw [e1, e2]; exact hf.2
    · have e1 : overS A B = B := if_pos (by omega)
      have e2 : underS A B = A := if_pos (by omega)
      refine ⟨⟨h0, h1, ?_, ?_⟩, e1⟩
      · rw [e1, e2]; exact hf.1
      · rw [e1, e2]; exact hf.2
  have hu := unpE_superB A hA
  have hv := unpE_superB B hB
  have c1 : chooseE (superB A) (superB B) = newerE (unpS (superB A)) (unpS (superB B)) := if_pos ⟨hu, hv⟩
  have c2 : chooseS (superB A) (superB B) = newerS (unpS (superB A)) (unpS (superB B)) := if_pos ⟨hu, hv⟩
  have c3 : newerE A B = 0 := if_pos hn.1
  have c4 : newerS A B = overS A B := if_pos hn.1
  rw [c1, c2, unpS_superB A hA, unpS_superB B hB, c3, c4]
  exact ⟨rfl, hn.2⟩
theorem Plat.choose {D : DV} {S : SupV} {ps : Pgs} (h : Plat D S ps) : chooseE (D.pg 0) (D.pg 1) = 0 ∧ chooseS (D.pg 0) (D.pg 1) = S := by
  obtain ⟨P, hP, hf, e1, e2⟩ := h.prev
  have hg := hf.gen
  have hS := h.val
  rcases Int.emod_two_eq S.gen with h2 | h2
  · rw [h2] at e1
    rw [show (S.gen + 1) % 2 = 1 by omega] at e2
    rw [show D.pg 0 = superB S from e1, show D.pg 1 = superB P from e2]
    exact choose_supers hS hP h2 (by omega) hf (.inl ⟨rfl, rfl⟩)
  · rw [h2] at e1
    rw [show (S.gen + 1) % 2 = 0 by omega] at e2
    rw [show D.pg 1 = superB S from e1, show D.pg 0 = superB P from e2]
    exact choose_supers hP hS (by omega) h2 hf (.inr ⟨rfl, rfl⟩)
def DV.cnt (D : DV) (r w s : Int) : DV := { D with reads := r, writes := w, syncs := s }
theorem Plat.of_eq {D E : DV} {S : SupV} {ps : Pgs} (h : Plat D S ps) (hE : DOk E) (hp : E.pages = D.pages) (hq : ∀ x ∈ E.q, S.mark ≤ (x.1 : Int)) : Plat E S ps := by
  have hg : ∀ n, E.pg n = D.pg n := fun n => by unfold DV.pg; rw [hp]
  refine ⟨hE, h.val, by rw [hp]; exact h.pages, ?_, h.len, h.good, fun n h1 h2 => by rw [hg]; exact h.dur n h1 h2, hq⟩
  obtain ⟨P, a, b, c, d⟩ := h.prev
  exact ⟨P, a, b, by rw [hg]; exact c, by rw [hg]; exact d⟩
theorem cur_of_eq {D E : DV} (hp : E.pages = D.pages) (hq : E.q = D.q) (n : Nat) : E.cur n = D.cur n := by unfold DV.cur DV.pg; rw [hp, hq]
theorem slotsD_same (D : DV) : (slotsD D).pages = D.pages ∧ (slotsD D).q = D.q ∧ (slotsD D).epoch = D.epoch ∧ (slotsD D).dead = D.dead ∧ (slotsD D).armed = D.armed ∧ (slotsD D).writes = D.writes ∧ (slotsD D).syncs = D.syncs := by
  unfold slotsD
  split
  · exact ⟨rfl, rfl, rfl, rfl, rfl, rfl, rfl⟩
  · refine ⟨?_, ?_, ?_, ?_, ?_, ?_, ?_⟩ <;> unfold readD <;> (repeat' split) <;> first | rfl | assumption
theorem Plat.open {D : DV} {S : SupV} {ps : Pgs} (h : Plat D S ps) (hd : D.dead = false) :
    openE D = 0 ∧ (openV D).s = S ∧ (openV D).next = S.mark ∧ Inv (openD D) (openV D) ps ∧ (openD D).q = D.q ∧ (openD D).pages = D.pages ∧ (openD D).armed = D.armed ∧ (openD D).epoch = wrap64 (D.epoch + 1) := by
  have hd' : ¬ D.dead = true := by rw [hd]; decide
  obtain ⟨c1, c2⟩ := h.choose
  obtain ⟨s1, s2⟩ := h.slots
  obtain ⟨f1, f2, f3, f4, f5, _, _⟩ := slotsD_same D
  have fok := (slotsD_facts D h.ok).2.2
  have e0 : slotsE D = 0 := by unfold slotsE; rw [if_neg hd', s1, s2, c1]
  have e1 : slotsS D = S := by unfold slotsS; rw [if_neg hd', s1, s2, c2]
  have e2 : openE D = 0 := by
    unfold openE
    rw [if_neg (fun x => x e0), e1, if_neg (fun x => x h.pages)]
  have e3 : openD D = claimD (slotsD D) := if_pos e2
  have hV : (openV D).s = S := e1
  have hN : (openV D).next = S.mark := by show (slotsS D).mark = _; rw [e1]
  have hp : (openD D).pages = D.pages := by rw [e3]; exact f1
  have hq : (openD D).q = D.q := by rw [e3]; exact f2
  have hP : Plat (openD D) S ps := h.of_eq (by rw [e3]; exact claim_ok fok) hp (by rw [hq]; exact h.que)
  refine ⟨e2, hV, hN, ⟨by rw [hV]; exact hP, by rw [e3]; rfl, ?_, ?_, ?_, ?_, ?_⟩, hq, hp, ?_, ?_⟩
  · rw [e3]; show (slotsD D).dead = false; rw [f4]; exact hd
  · rw [hV, hN]; exact Int.le_refl _
  · rw [hV, hN]; exact h.val.2.2.2.2.2.2.2.1
  · rw [hN]; exact h.len
  · intro n h1 h2
    rw [hN] at h2
    exact hP.low h1 h2
  · rw [e3]; exact f5
  · rw [e3]; show wrap64 ((slotsD D).epoch + 1) = _; rw [f3]
theorem crashP_other (n : Nat) : ∀ (z : List (Wr × UInt8)) (ps : List (List UInt8)), (∀ x ∈ z, x.1.1 ≠ n) → (crashP ps z).getD n [] = ps.getD n []
  | [], ps, _ => rfl
  | x :: z, ps, h => by
    have ih := crashP_other n z (ps.set x.1.1 (mixS x.2 x.1.2 (ps.getD x.1.1 []) 4)) fun y hy => h y (List.mem_cons_of_mem _ hy)
    have e : crashP ps (x :: z) = crashP (ps.set x.1.1 (mixS x.2 x.1.2 (ps.getD x.1.1 []) 4)) z := rfl
    rw [e, ih, List.getD_eq_getElem?_getD, List.getElem?_set_ne (h x (List.mem_cons_self ..)), ← List.getD_eq_getElem?_getD]
theorem crash_pg {D : DV} {n : Nat} (h : ∀ x ∈ D.q, x.1 ≠ n) (fates : List UInt8) : (crashD D fates).pg n = D.pg n :=
  crashP_other n _ _ fun x hx => h x.1 (List.of_mem_zip (a := x.1) (b := x.2) hx).1
theorem crash_len (D : DV) (fates : List UInt8) : (crashD D fates).pages.length = D.pages.length := crashP_len _ _
theorem Plat.crash {D : DV} {S : SupV} {ps : Pgs} (h : Plat D S ps) (fates : List UInt8) : Plat (crashD D fates) S ps := by
  have hm := h.mark2
  have hx : ∀ n : Nat, (n : Int) < S.mark → (crashD D fates).pg n = D.pg n := fun n hn => crash_pg (fun x hx e => by have := h.que x hx; omega) fates
  refine ⟨crash_ok h.ok fates, h.val, by rw [crash_len]; exact h.pages, ?_, h.len, h.good, fun n h1 h2 => by rw [hx n h2]; exact h.dur n h1 h2, fun x hx => by cases hx⟩
  obtain ⟨P, a, b, c, d⟩ := h.prev
  exact ⟨P, a, b, by rw [hx _ (by omega)]; exact c, by rw [hx _ (by omega)]; exact d⟩
theorem splice_id {α : Type} (l m : List α) (o : Nat) (h : m = (l.drop o).take m.length) : splice l o m = l := by
  unfold splice
  rw [h, List.length_take, List.length_drop]
  have e := List.take_append_drop o l
  have e2 := List.take_append_drop (min m.length (l.length - o)) (l.drop o)
  have e3 : (l.drop o).take m.length = (l.drop o).take (min m.length (l.length - o)) := by
    rw [List.take_eq_take_iff, List.length_drop]; omega
  rw [e3, ← List.drop_drop]
  rw [e2, e]
theorem mix1_same (fate : UInt8) (new old X : List UInt8) (j : Nat) (hX : X.drop 64 = new.drop 64) (hj : 1 ≤ j) : mix1 fate new X j = X := by
  unfold mix1
  split
  · have e : new.drop (64 * j) = X.drop (64 * j) := by
      rw [show 64 * j = 64 + (64 * j - 64) by omega, ← List.drop_drop, ← hX, List.drop_drop]
    refine splice_id _ _ _ ?_
    rw [e, List.length_take, List.take_eq_take_iff]; omega
  · rfl
theorem mixS_two (fate : UInt8) (new old : List UInt8) (hn : new.length = 256) (ho : old.length = 256) (h : old.drop 64 = new.drop 64) : mixS fate new old 4 = new ∨ mixS fate new old 4 = old := by
  have h0 : mix1 fate new old 0 = new ∨ mix1 fate new old 0 = old := by
    unfold mix1
    split
    · left
      unfold splice
      rw [List.length_take, List.length_drop, hn, List.take_zero, List.nil_append, show 64 * 0 = 0 from rfl, List.drop_zero, show 0 + min 64 (256 - 0) = 64 from rfl, h]
      exact List.take_append_drop 64 new
    · exact .inr rfl
  have e : mixS fate new old 4 = mix1 fate new (mix1 fate new (mix1 fate new (mix1 fate new old 0) 1) 2) 3 := rfl
  rw [e]
  rcases h0 with h0 | h0
  · rw [h0, mix1_same fate new old new 1 rfl (by decide), mix1_same fate new old new 2 rfl (by decide), mix1_same fate new old new 3 rfl (by decide)]
    exact .inl rfl
  · rw [h0, mix1_same fate new old old 1 h (by decide), mix1_same fate new old old 2 h (by decide), mix1_same fate new old old 3 h (by decide)]
    exact .inr rfl
theorem superB_tail (s : SupV) : (superB s).drop 64 = zerosB 192 := by
  unfold superB
  rw [List.drop_left' (by rw [length_sealB, length_headB])]
def Dead (D : DV) (S : SupV) (late : Option SupV) (ps : Pgs) : Prop := ∀ fates, ∃ S2, (S2 = S ∨ late = some S2) ∧ Plat (crashD D fates) S2 ps
theorem Plat.dead {D : DV} {S : SupV} {ps : Pgs} (h : Plat D S ps) (late : Option SupV) : Dead D S late ps := fun fates => ⟨S, .inl rfl, h.crash fates⟩
end Go.Proofs.Ytehnnnohoaapdaa

/- A page file as values: Append, Publish, Forget, Arm, a loss of power on the way. No program in sight. -/
namespace Go.Proofs.Ytehnnnohoaapdaa
set_option linter.unusedSectionVars false
set_option linter.unusedSimpArgs false
open Go Go.RowKit
set_option linter.unusedVariables false
theorem actD_pages (D : DV) : (actD D).pages = D.pages := by unfold actD; split <;> rfl
theorem actD_epoch (D : DV) : (actD D).epoch = D.epoch := by unfold actD; split <;> rfl
theorem actD_cnt (D : DV) : (actD D).reads = D.reads ∧ (actD D).writes = D.writes ∧ (actD D).syncs = D.syncs := by unfold actD; split <;> exact ⟨rfl, rfl, rfl⟩
theorem actD_ok {D : DV} (h : DOk D) : DOk (actD D) := by
  unfold actD
  split
  · exact h
  · have := h.arm
    exact ⟨h.lo, h.hi, h.len, h.qs, ⟨by show 0 ≤ D.armed - 1; omega, by show D.armed - 1 ≤ _; omega⟩, h.ep⟩
theorem actE_two (D : DV) : actE D = 0 ∨ actE D = 2 := by unfold actE; split <;> simp
theorem act_zero {D : DV} (h : actE D = 0) (hd : D.dead = false) : (actD D).dead = false := by
  unfold actE at h
  unfold actD
  split
  · exact hd
  · show decide (D.armed = 1) = false
    rw [decide_eq_false_iff_not]
    intro h1; rw [if_pos h1] at h; cases h
theorem act_dead {D : DV} (h : actE D = 2) : (actD D).dead = true := by
  unfold actE at h
  split at h
  · rename_i h1
    unfold actD
    rw [if_neg (by omega)]
    exact decide_eq_true h1
  · cases h
theorem act_arm0 {D : DV} (h : D.armed = 0) : actE D = 0 ∧ actD D = D := ⟨if_neg (by omega), if_pos h⟩
theorem write_alive {D : DV} (hd : D.dead = false) {p : Int} (hp : D.has p) {d : List UInt8} (hl : d.length = 256) : writeE D p d = actE D ∧ writeD D p d = actD (openW D p d) := by
  have hd' : ¬ D.dead = true := by rw [hd]; decide
  unfold writeE writeD
  rw [if_neg hd', if_pos hp, if_pos hl, if_neg hd', if_pos hp, if_pos hl]
  exact ⟨rfl, rfl⟩
theorem sync_alive {D : DV} (hd : D.dead = false) : syncE D = actE D ∧ syncD D = if actE D = 0 then flushD (actD D) else actD D := by
  have hd' : ¬ D.dead = true := by rw [hd]; decide
  unfold syncE syncD actE
  rw [if_neg hd', if_neg hd']
  refine ⟨rfl, ?_⟩
  by_cases h : D.armed = 1
  · rw [if_pos h, if_pos h]; rfl
  · rw [if_neg h, if_neg h]; rfl
theorem cur_open_ne {D : DV} {p : Int} {d : List UInt8} {n : Nat} (h : p.toNat ≠ n) : (openW D p d).cur n = D.cur n := by
  show curP _ (D.q ++ [(p.toNat, d)]) n = _
  rw [curP_snoc, if_neg h]; rfl
theorem cur_open_eq {D : DV} {p : Int} {d : List UInt8} {n : Nat} (h : p.toNat = n) : (openW D p d).cur n = d := by
  show curP _ (D.q ++ [(p.toNat, d)]) n = _
  rw [curP_snoc, if_pos h]
theorem open_ok {D : DV} (h : DOk D) {p : Int} (hp : D.has p) {d : List UInt8} (hl : d.length = 256) : DOk (openW D p d) :=
  ⟨h.lo, h.hi, h.len, fun x hx => by
    rcases List.mem_append.1 hx with hx | hx
    · exact h.qs x hx
    · obtain rfl : x = (p.toNat, d) := by simpa using hx
      exact ⟨by have := hp.1; have := hp.2; show p.toNat < D.pages.length; omega, hl⟩, h.arm, h.ep⟩
theorem applyQ_cur (n : Nat) : ∀ (q : List Wr) (ps : List (List UInt8)), n < ps.length → (applyQ ps q).getD n [] = curP (ps.getD n []) q n
  | [], ps, _ => rfl
  | x :: q, ps, h => by
    have e : applyQ ps (x :: q) = applyQ (ps.set x.1 x.2) q := rfl
    rw [e, applyQ_cur n q _ (by rw [List.length_set]; exact h)]
    have e2 : curP (ps.getD n []) (x :: q) n = curP (if x.1 = n then x.2 else ps.getD n []) q n := rfl
    rw [e2]
    congr 1
    by_cases hx : x.1 = n
    · subst hx
      rw [if_pos rfl, List.getD_eq_getElem?_getD, List.getElem?_set_self h]; rfl
    · rw [if_neg hx, List.getD_eq_getElem?_getD, List.getElem?_set_ne hx, ← List.getD_eq_getElem?_getD]
theorem flush_pg {D : DV} {n : Nat} (h : n < D.pages.length) : (flushD D).pg n = D.cur n := applyQ_cur n _ _ h
theorem Plat.book {D : DV} {S : SupV} {ps ps' : Pgs} (h : Plat D S ps) (he : ∀ n : Nat, 2 ≤ n → (n : Int) < S.mark → pgAt ps' n = pgAt ps n) (hl : S.mark - 2 ≤ (ps'.length : Int)) (hg : ∀ x ∈ ps', PageOk x) : Plat D S ps' :=
  ⟨h.ok, h.val, h.pages, h.prev, hl, hg, fun n h1 h2 => by rw [h.dur n h1 h2]; unfold pgB; rw [he n h1 h2], h.que⟩
theorem Inv.app {D : DV} {V : FV} {ps : Pgs} (h : Inv D V ps) {k : Nat} {l : List UInt8} (hx : PageOk (k, l)) (hn : V.next < (D.pages.length : Int)) :
    appE D V k l = actE D ∧ appD D V k l = actD (openW D V.next (pageB k V.next.toNat l)) ∧
    (actE D = 0 → Inv (appD D V k l) { V with next := V.next + 1 } (putP ps V.next.toNat (k, l))) ∧
    (actE D = 2 → (appD D V k l).dead = true ∧ (appD D V k l).epoch = V.mine ∧ Plat (appD D V k l) V.s ps) := by
  have hl := h.isLive
  have h2 := h.next2
  have hL : ¬ liveE D V ≠ 0 := fun x => x hl
  obtain ⟨⟨hk1, hk2⟩, hk3⟩ := hx
  have hk1 : 1 ≤ k := hk1
  have hk2 : k ≤ 3 := hk2
  have hk3 : l.length ≤ 246 := hk3
  have hB : (pageB k V.next.toNat l).length = 256 := length_pageB _ _ hk3
  have hh : D.has V.next := ⟨by omega, hn⟩
  obtain ⟨w1, w2⟩ := write_alive h.pow hh hB
  have e1 : appE D V k l = actE D := by
    unfold appE
    rw [if_neg hL, if_neg (by omega), if_neg (by omega), if_neg (by omega)]
    exact w1
  have e2 : appD D V k l = actD (openW D V.next (pageB k V.next.toNat l)) := by
    unfold appD
    rw [if_neg (by omega)]
    exact w2
  have hok : DOk (appD D V k l) := by rw [e2]; exact actD_ok (open_ok h.ok hh hB)
  have hp : (appD D V k l).pages = D.pages := by rw [e2, actD_pages]; rfl
  have hq : (appD D V k l).q = D.q ++ [(V.next.toNat, pageB k V.next.toNat l)] := by rw [e2, actD_q]; rfl
  have hlo := h.lo
  have hP : Plat (appD D V k l) V.s ps := h.plat.of_eq hok hp fun x hx => by
    rw [hq] at hx
    rcases List.mem_append.1 hx with hx | hx
    · exact h.plat.que x hx
    · obtain rfl : x = _ := by simpa using hx
      show V.s.mark ≤ (V.next.toNat : Int)
      omega
  have hlen := h.lenN
  have hm := h.plat.mark2
  refine ⟨e1, e2, fun h0 => ⟨?_, ?_, ?_, ?_, ?_, ?_, ?_⟩, fun h0 => ⟨?_, ?_, hP⟩⟩
  · refine hP.book (fun n h1 h2 => ?_) ?_ ?_
    · exact putP_low ps _ n _ (by omega) (by have : (n : Int) < V.s.mark := h2; omega) h1
    · rw [putP_len _ _ _ (by omega)]; show V.s.mark - 2 ≤ _; omega
    · exact putP_good _ _ _ h.plat.good ⟨⟨hk1, hk2⟩, hk3⟩
  · rw [e2, actD_epoch]; exact h.live
  · rw [e2]; exact act_zero (D := openW D V.next (pageB k V.next.toNat l)) h0 h.pow
  · show V.s.mark ≤ V.next + 1; omega
  · have := h.plat.pages; show V.next + 1 ≤ V.s.pages; omega
  · rw [putP_len _ _ _ (by omega)]; show V.next + 1 - 2 ≤ _; omega
  · intro n h1 h3
    have h3 : (n : Int) < V.next + 1 := h3
    have e3 : (appD D V k l).cur n = (openW D V.next (pageB k V.next.toNat l)).cur n := by rw [e2]; exact cur_of_eq (actD_pages _) (actD_q _) n
    rw [e3]
    by_cases hx : V.next.toNat = n
    · rw [cur_open_eq hx]
      unfold pgB
      rw [← hx, putP_at _ _ _ (by omega)]
    · rw [cur_open_ne hx, h.cur n h1 (by omega)]
      unfold pgB
      rw [putP_low _ _ _ _ (by omega) (by omega) h1]
  · rw [e2]; exact act_dead (D := openW D V.next (pageB k V.next.toNat l)) h0
  · rw [e2, actD_epoch]; exact h.live
theorem Inv.full {D : DV} {V : FV} {ps : Pgs} (h : Inv D V ps) {k : Nat} {l : List UInt8} (hx : PageOk (k, l)) (hn : V.next = (D.pages.length : Int)) :
    appE D V k l = 5 ∧ appD D V k l = D ∧ appN D V k l = 0 ∧ appV D V k l = V := by
  have hL : ¬ liveE D V ≠ 0 := fun x => x h.isLive
  obtain ⟨⟨hk1, hk2⟩, hk3⟩ := hx
  have hk1 : 1 ≤ k := hk1
  have hk2 : k ≤ 3 := hk2
  have hk3 : l.length ≤ 246 := hk3
  have e1 : appE D V k l = 5 := by
    unfold appE
    rw [if_neg hL, if_neg (by omega), if_neg (by omega), if_pos (by omega)]
  obtain ⟨e2, e3⟩ := app_no e1 (by decide)
  exact ⟨e1, if_pos (by omega), e2, e3⟩
theorem Inv.read {D : DV} {V : FV} {ps : Pgs} (h : Inv D V ps) {n : Nat} (h1 : 2 ≤ n) (h2 : (n : Int) < V.next) :
    fReadE D V n = 0 ∧ fReadK D V n = ((pgAt ps n).1 : Int) ∧ fReadL D V n = (pgAt ps n).2 ∧ PageOk (pgAt ps n) ∧ fReadD D V n = { D with reads := wrap64 (D.reads + 1) } := by
  have hL : ¬ liveE D V ≠ 0 := fun x => x h.isLive
  have hlen := h.lenN
  have hhi := h.ok.hi
  have hnp := h.nextp
  have hok : PageOk (pgAt ps n) := pgAt_ok h.plat.good (by omega)
  obtain ⟨u1, u2, u3⟩ := unpg_pageB (kind := (pgAt ps n).1) (page := n) (load := (pgAt ps n).2) hok.1 ⟨h1, by omega⟩ hok.2
  have hc : D.cur n = pageB (pgAt ps n).1 n (pgAt ps n).2 := h.cur n h1 h2
  have e1 : fReadE D V n = 0 := by
    unfold fReadE
    rw [if_neg hL, if_neg (by omega), Int.toNat_natCast, hc, if_neg (fun x => x u1)]
  obtain ⟨e2, e3⟩ := fRead_yes e1
  rw [Int.toNat_natCast, hc] at e2 e3
  refine ⟨e1, by rw [e2, u2], by rw [e3, u3], hok, ?_⟩
  unfold fReadD
  rw [if_neg (by omega)]
  unfold readD
  rw [if_neg (by rw [h.pow]; decide), if_pos ⟨by omega, by omega⟩]
theorem Inv.cnt {D : DV} {V : FV} {ps : Pgs} (h : Inv D V ps) (r w s : Int) : Inv (D.cnt r w s) V ps :=
  ⟨h.plat.of_eq ⟨h.ok.lo, h.ok.hi, h.ok.len, h.ok.qs, h.ok.arm, h.ok.ep⟩ rfl h.plat.que, h.live, h.pow, h.lo, h.hi, h.lenN, h.cur⟩
theorem Inv.forget {D : DV} {V : FV} {ps : Pgs} (h : Inv D V ps) : Inv D { V with next := V.s.mark } ps :=
  ⟨h.plat, h.live, h.pow, Int.le_refl _, h.plat.val.2.2.2.2.2.2.2.1, h.plat.len, fun n h1 h2 => h.plat.low h1 h2⟩
theorem Inv.arm {D : DV} {V : FV} {ps : Pgs} (h : Inv D V ps) {n : Int} (hn : n ≤ 9223372036854775807) : Inv (armD D n) V ps := by
  have e : armD D n = { D with armed := max n 0 } := if_neg (by rw [h.pow]; decide)
  rw [e]
  exact ⟨h.plat.of_eq (armD_ok h.ok hn) rfl h.plat.que, h.live, h.pow, h.lo, h.hi, h.lenN, h.cur⟩
def pubD1 (D : DV) : DV := flushD (actD D)
def pubD2 (D : DV) (S : SupV) : DV := actD (openW (pubD1 D) (S.gen % 2) (superB S))
def pubD3 (D : DV) (S : SupV) : DV := flushD (actD (pubD2 D S))
theorem flush_okD {D : DV} (h : DOk D) : DOk (flushD D) := flush_ok h _
theorem Inv.pub1 {D : DV} {V : FV} {ps : Pgs} (h : Inv D V ps) : Plat (pubD1 D) V.s ps ∧ (pubD1 D).q = [] ∧ (pubD1 D).pages.length = D.pages.length ∧ (pubD1 D).epoch = V.mine ∧ ∀ n : Nat, 2 ≤ n → (n : Int) < V.next → (pubD1 D).pg n = pgB ps n := by
  have hok : DOk (pubD1 D) := flush_okD (actD_ok h.ok)
  have hlen : (pubD1 D).pages.length = D.pages.length := by
    show (applyQ (actD D).pages (actD D).q).length = _
    rw [applyQ_len, actD_pages]
  have hpg : ∀ n, n < D.pages.length → (pubD1 D).pg n = D.cur n := fun n hn => by
    unfold pubD1
    rw [flush_pg (by rw [actD_pages]; exact hn)]
    exact cur_of_eq (actD_pages D) (actD_q D) n
  have hm := h.plat.mark2
  have hmp := h.plat.markp
  have hnp := h.nextp
  have hlo := h.ok.lo
  obtain ⟨s0, s1⟩ := h.plat.slots
  have hsl : ∀ n, n < 2 → (pubD1 D).pg n = D.pg n := fun n hn => by
    rw [hpg n (by omega)]
    exact cur_other fun x hx e => by have := h.plat.que x hx; omega
  refine ⟨⟨hok, h.plat.val, by rw [hlen]; exact h.plat.pages, ?_, h.plat.len, h.plat.good, fun n h1 h2 => ?_, fun x hx => by cases hx⟩, rfl, hlen, ?_, fun n h1 h2 => by rw [hpg n (by omega)]; exact h.cur n h1 h2⟩
  · obtain ⟨P, a, b, c, d⟩ := h.plat.prev
    exact ⟨P, a, b, by rw [hsl _ (by omega)]; exact c, by rw [hsl _ (by omega)]; exact d⟩
  · rw [hpg n (by omega)]
    exact h.plat.low h1 h2
  · show (actD D).epoch = _
    rw [actD_epoch]; exact h.live
theorem Plat.next {D E : DV} {S S' : SupV} {ps : Pgs} (h : Plat D S ps) (hf : Follows S' S) (hv : ValidS S') (hE : DOk E) (he : E.pages = D.pages.set (S'.gen % 2).toNat (superB S')) (hq : E.q = []) (hl : S'.mark - 2 ≤ (ps.length : Int)) (hd : ∀ n : Nat, 2 ≤ n → (n : Int) < S'.mark → D.pg n = pgB ps n) : Plat E S' ps := by
  have hlo := h.ok.lo
  have hg := hf.gen
  have h1 : ∀ n, n ≠ (S'.gen % 2).toNat → E.pg n = D.pg n := fun n hn => by
    unfold DV.pg
    rw [he, List.getD_eq_getElem?_getD, List.getElem?_set_ne (fun e => hn e.symm), ← List.getD_eq_getElem?_getD]
  have h2 : E.pg (S'.gen % 2).toNat = superB S' := by
    unfold DV.pg
    rw [he, List.getD_eq_getElem?_getD, List.getElem?_set_self (by omega)]; rfl
  obtain ⟨P, a, b, c, d⟩ := h.prev
  refine ⟨hE, hv, by rw [hf.pages, h.pages, he, List.length_set], ⟨S, h.val, hf, h2, ?_⟩, hl, h.good, fun n a1 a2 => by rw [h1 n (by omega)]; exact hd n a1 a2, fun x hx => by rw [hq] at hx; cases hx⟩
  rw [h1 _ (by omega), ← c]
  congr 1
  omega
theorem crash_one {D : DV} {p : Nat} {d : List UInt8} (hq : D.q = [(p, d)]) (fates : List UInt8) : (crashD D fates).pages = D.pages ∨ ∃ f, (crashD D fates).pages = D.pages.set p (mixS f d (D.pg p) 4) := by
  show crashP D.pages (D.q.zip fates) = _ ∨ ∃ f, crashP D.pages (D.q.zip fates) = _
  rw [hq]
  cases fates with
  | nil => exact .inl rfl
  | cons f fs => exact .inr ⟨f, rfl⟩
theorem set_same {D : DV} {p : Nat} {d : List UInt8} (h : D.pg p = d) (hp : p < D.pages.length) : D.pages.set p d = D.pages := by
  rw [← h]
  unfold DV.pg
  rw [List.getD_eq_getElem?_getD, List.getElem?_eq_getElem hp]
  exact List.set_getElem_self hp
theorem Inv.pub2 {D E : DV} {V : FV} {ps : Pgs} (h : Inv D V ps) {S : SupV} (hf : Follows S V.s) (hv : ValidS S) (hm : S.mark = V.next) (hE : DOk E) (hp : E.pages = (pubD1 D).pages) (hq : E.q = [((S.gen % 2).toNat, superB S)]) : Dead E V.s (some S) ps := by
  intro fates
  obtain ⟨a1, a2, a3, a4, a5⟩ := h.pub1
  have hlo := a1.ok.lo
  obtain ⟨P, b1, b2, b3, b4⟩ := a1.prev
  have hg := hf.gen
  have hgp : E.pg (S.gen % 2).toNat = superB P := by
    unfold DV.pg
    rw [hp, hg]; exact b4
  have hold : ∀ X : DV, DOk X → X.pages = E.pages → X.q = [] → Plat X V.s ps := fun X hX h1 h2 => a1.of_eq hX (by rw [h1, hp]) fun x hx => by rw [h2] at hx; cases hx
  rcases crash_one hq fates with hc | ⟨f, hc⟩
  · exact ⟨V.s, .inl rfl, hold _ (crash_ok hE fates) hc rfl⟩
  · rw [hgp] at hc
    rcases mixS_two f (superB S) (superB P) (length_superB _) (length_superB _) (by rw [superB_tail, superB_tail]) with hx | hx
    · rw [hx, hp] at hc
      refine ⟨S, .inr rfl, a1.next hf hv (crash_ok hE fates) hc rfl (by rw [hm]; exact h.lenN) fun n h1 h2 => a5 n h1 (by rw [← hm]; exact h2)⟩
    · rw [hx, set_same hgp (by rw [hp]; omega)] at hc
      exact ⟨V.s, .inl rfl, hold _ (crash_ok hE fates) hc rfl⟩
theorem pubD2_facts {D : DV} (h : DOk (pubD1 D)) (S : SupV) : (pubD2 D S).pages = (pubD1 D).pages ∧ (pubD2 D S).q = [((S.gen % 2).toNat, superB S)] ∧ (pubD2 D S).epoch = D.epoch ∧ DOk (pubD2 D S) := by
  have hlo := h.lo
  refine ⟨by unfold pubD2; rw [actD_pages]; rfl, by unfold pubD2; rw [actD_q]; rfl, by unfold pubD2; rw [actD_epoch]; show (actD D).epoch = _; rw [actD_epoch], ?_⟩
  unfold pubD2
  exact actD_ok (open_ok h ⟨by omega, by omega⟩ (length_superB _))
theorem Inv.pub {D : DV} {V : FV} {ps : Pgs} (h : Inv D V ps) {head : Int} (hh : head = 0 ∨ (2 ≤ head ∧ head < V.next)) (hg : V.s.gen < 1099511627776) :
    ((pubR D V head).2 = 0 ∧ pubR D V head = (pubD3 D (pubS V head), 0) ∧ Inv (pubR D V head).1 { V with s := pubS V head } ps ∧ (pubR D V head).1.q = []) ∨
    ((pubR D V head).2 = 2 ∧ D.armed ≠ 0 ∧ (pubR D V head).1.dead = true ∧ (pubR D V head).1.epoch = V.mine ∧ (pubR D V head).1.q.length ≤ D.q.length + 1 ∧ (pubR D V head).1.pages.length = D.pages.length ∧ DOk (pubR D V head).1 ∧ Dead (pubR D V head).1 V.s (some (pubS V head)) ps) := by
  have hL : ¬ liveE D V ≠ 0 := fun x => x h.isLive
  have hf : Follows (pubS V head) V.s := ⟨rfl, h.lo⟩
  have hv : ValidS (pubS V head) := pub_validS h.fok hg hh
  obtain ⟨a1, a2, a3, a4, a5⟩ := h.pub1
  have hR : pubR D V head = runS [yS, wS (pubS V head), yS] D := by
    unfold pubR
    rw [if_neg hL, if_neg (by omega), if_neg (by omega)]
  have y1 : yS D = if actE D = 0 then (pubD1 D, 0) else (actD D, 2) := by
    unfold yS
    obtain ⟨s1, s2⟩ := sync_alive h.pow
    rw [s1, s2]
    rcases actE_two D with e | e
    · rw [e, if_pos rfl, if_pos rfl]; rfl
    · rw [e, if_neg (by decide), if_neg (by decide)]
  have r0 : runS [yS, wS (pubS V head), yS] D = if actE D = 0 then (if (wS (pubS V head) (pubD1 D)).2 = 0 then runS [yS] (wS (pubS V head) (pubD1 D)).1 else wS (pubS V head) (pubD1 D)) else (actD D, 2) := by
    show (if (yS D).2 = 0 then _ else yS D) = _
    rw [y1]
    rcases actE_two D with e | e
    · rw [if_pos e, if_pos rfl, if_pos e]; rfl
    · have ne : ¬ actE D = 0 := by omega
      rw [if_neg ne, if_neg (show ¬ ((actD D, (2 : Int)).2 = 0) by show ¬ (2 : Int) = 0; decide), if_neg ne]
  rcases actE_two D with e1 | e1
  · have hd1 : (pubD1 D).dead = false := act_zero e1 h.pow
    have hh1 : (pubD1 D).has ((pubS V head).gen % 2) := by have := a1.ok.lo; exact ⟨by omega, by omega⟩
    obtain ⟨w1, w2⟩ := write_alive hd1 hh1 (length_superB (pubS V head))
    have hw : wS (pubS V head) (pubD1 D) = (pubD2 D (pubS V head), actE (pubD1 D)) := by
      unfold wS
      rw [w1, w2]; rfl
    rw [hw, if_pos e1] at r0
    obtain ⟨c1, c2, c3, c4⟩ := pubD2_facts a1.ok (pubS V head)
    rcases actE_two (pubD1 D) with e2 | e2
    · have hd2 : (pubD2 D (pubS V head)).dead = false := act_zero (D := openW (pubD1 D) ((pubS V head).gen % 2) (superB (pubS V head))) e2 hd1
      have y2 : yS (pubD2 D (pubS V head)) = if actE (pubD2 D (pubS V head)) = 0 then (pubD3 D (pubS V head), 0) else (actD (pubD2 D (pubS V head)), 2) := by
        unfold yS
        obtain ⟨s1, s2⟩ := sync_alive hd2
        rw [s1, s2]
        rcases actE_two (pubD2 D (pubS V head)) with e | e
        · rw [e, if_pos rfl, if_pos rfl]; rfl
        · rw [e, if_neg (by decide), if_neg (by decide)]
      have r1 : runS [yS] (pubD2 D (pubS V head)) = yS (pubD2 D (pubS V head)) := by
        show (if (yS (pubD2 D (pubS V head))).2 = 0 then ((yS (pubD2 D (pubS V head))).1, (0 : Int)) else yS (pubD2 D (pubS V head))) = _
        split
        · rename_i hz
          exact Prod.ext rfl hz.symm
        · rfl
      rw [if_pos e2] at r0
      have r2 : pubR D V head = yS (pubD2 D (pubS V head)) := by rw [hR, r0]; exact r1
      rcases actE_two (pubD2 D (pubS V head)) with e3 | e3
      · left
        rw [y2, if_pos e3] at r2
        have hok3 : DOk (pubD3 D (pubS V head)) := flush_okD (actD_ok c4)
        have hp3 : (pubD3 D (pubS V head)).pages = (pubD1 D).pages.set ((pubS V head).gen % 2).toNat (superB (pubS V head)) := by
          show applyQ (actD (pubD2 D (pubS V head))).pages (actD (pubD2 D (pubS V head))).q = _
          rw [actD_pages, actD_q, c1, c2]; rfl
        have hP3 : Plat (pubD3 D (pubS V head)) (pubS V head) ps := a1.next hf hv hok3 hp3 rfl h.lenN a5
        rw [r2]
        refine ⟨rfl, rfl, ⟨hP3, ?_, ?_, ?_, h.hi, h.lenN, ?_⟩, rfl⟩
        · show (actD (pubD2 D (pubS V head))).epoch = V.mine
          rw [actD_epoch, c3]; exact h.live
        · exact act_zero e3 hd2
        · exact Int.le_refl _
        · intro n h1 h2
          exact hP3.low h1 h2
      · right
        rw [y2, if_neg (by omega)] at r2
        rw [r2]
        refine ⟨rfl, ?_, act_dead e3, ?_, ?_, ?_, actD_ok c4, h.pub2 hf hv rfl (actD_ok c4) (by rw [actD_pages]; exact c1) (by rw [actD_q]; exact c2)⟩
        · intro h0
          have : (pubD2 D (pubS V head)).armed = 0 := by
            have q1 : (pubD1 D).armed = 0 := by show (actD D).armed = 0; rw [(act_arm0 h0).2]; exact h0
            show (actD _).armed = 0
            rw [(act_arm0 (D := openW (pubD1 D) ((pubS V head).gen % 2) (superB (pubS V head))) q1).2]; exact q1
          rw [(act_arm0 this).1] at e3; cases e3
        · show (actD (pubD2 D (pubS V head))).epoch = _
          rw [actD_epoch, c3]; exact h.live
        · show (actD (pubD2 D (pubS V head))).q.length ≤ _
          rw [actD_q, c2]; simp
        · show (actD (pubD2 D (pubS V head))).pages.length = _
          rw [actD_pages, c1, a3]
    · right
      rw [if_neg (by omega)] at r0
      rw [hR, r0]
      refine ⟨e2, ?_, act_dead (D := openW (pubD1 D) ((pubS V head).gen % 2) (superB (pubS V head))) e2, ?_, ?_, ?_, c4, h.pub2 hf hv rfl c4 c1 c2⟩
      · intro h0
        have : (pubD1 D).armed = 0 := by show (actD D).armed = 0; rw [(act_arm0 h0).2]; exact h0
        rw [(act_arm0 this).1] at e2; cases e2
      · rw [c3]; exact h.live
      · show (pubD2 D (pubS V head)).q.length ≤ _
        rw [c2]; simp
      · show (pubD2 D (pubS V head)).pages.length = _
        rw [c1, a3]
  · right
    rw [if_neg (by omega)] at r0
    rw [hR, r0]
    refine ⟨rfl, ?_, act_dead e1, ?_, ?_, ?_, actD_ok h.ok, (h.plat.of_eq (actD_ok h.ok) (actD_pages D) (by rw [actD_q]; exact h.plat.que)).dead _⟩
    · intro h0; rw [(act_arm0 h0).1] at e1; cases e1
    · show (actD D).epoch = _
      rw [actD_epoch]; exact h.live
    · show (actD D).q.length ≤ _
      rw [actD_q]; omega
    · show (actD D).pages.length = _
      rw [actD_pages]
end Go.Proofs.Ytehnnnohoaapdaa
