/- Texts joined: Law5, Law6, Law7, LawB. -/
import Derived.Test.YtehnnnohoaapdaaFC14
/- One act on the book: Append. -/
namespace Go.Proofs.Ytehnnnohoaapdaa
set_option linter.unusedSectionVars false
open Go Go.RowKit
set_option linter.unusedVariables false
set_option linter.unusedSimpArgs false
theorem Mem.off {w0 w : World} {F : List Nat} {L : List Asn} {ao : Option Addr} {n c : Nat} {l : List UInt8} (h : Mem w0 F w (bytesL (.slice ao n c) l :: L)) : ∀ {k : Nat} (b o : Nat), ao = some ⟨b, o, none⟩ → 0 < k → b ∉ foots L := by
  intro k b o e _ hb
  subst e
  have hn := h.nodup
  rw [foots_cons, List.nodup_append] at hn
  exact hn.2.2 b (by show b ∈ obs (Value.slice (some ⟨b, o, none⟩) n c); rw [mem_obs]; rfl) b hb rfl
theorem xapp_full {D : DV} {V : FV} {ps : Pgs} {f p pg mb : Nat} {qv : Value} {w : World} (hM : Mem w (foots [disk D p pg mb qv, blk f 96 (fC V p)]) w [disk D p pg mb qv, blk f 96 (fC V p)]) (h : Inv D V ps) (k : Nat) (ao : Option Addr) (n c : Nat) (l : List UInt8) (hx : PageOk (k, l)) (hr : Row w ao n l) (hF : ∀ b o, ao = some ⟨b, o, none⟩ → 0 < n → b ∉ foots [disk D p pg mb qv, blk f 96 (fC V p)]) (hq : D.q.length ≤ 400000000000) (hn : V.next = (D.pages.length : Int)) :
    Calls Try.prog 26 #[.pointer (some ⟨f, 0, none⟩), .int .i64 (k : Int), .slice ao n c] w fun e w' => ∃ qv', e = .returned (.tuple #[.int .i64 0, .int .i64 5]) ∧ Mem w (foots [disk D p pg mb qv, blk f 96 (fC V p)]) w' [disk D p pg mb qv', blk f 96 (fC V p)] := by
  obtain ⟨a1, a2, a3, a4⟩ := h.full hx hn
  have := app_any hM (k : Int) ao n c l hr hF (by omega) h.fok
  rw [a1, a2, a3, a4] at this
  exact this
theorem xapp_go {D : DV} {V : FV} {ps : Pgs} {f p pg mb : Nat} {qv : Value} {w : World} (hM : Mem w (foots [disk D p pg mb qv, blk f 96 (fC V p)]) w [disk D p pg mb qv, blk f 96 (fC V p)]) (h : Inv D V ps) (k : Nat) (ao : Option Addr) (n c : Nat) (l : List UInt8) (hx : PageOk (k, l)) (hr : Row w ao n l) (hF : ∀ b o, ao = some ⟨b, o, none⟩ → 0 < n → b ∉ foots [disk D p pg mb qv, blk f 96 (fC V p)]) (hq : D.q.length ≤ 400000000000) (hn : V.next < (D.pages.length : Int)) (m : Nat) (hm : V.next = ((m + 2 : Nat) : Int)) (h0 : actE D = 0) :
    Calls Try.prog 26 #[.pointer (some ⟨f, 0, none⟩), .int .i64 (k : Int), .slice ao n c] w fun e w' => ∃ E qv', e = .returned (.tuple #[.int .i64 ((m + 2 : Nat) : Int), .int .i64 0]) ∧ Mem w (foots [disk D p pg mb qv, blk f 96 (fC V p)]) w' [disk E p pg mb qv', blk f 96 (fC { V with next := V.next + 1 } p)] ∧ E = appD D V k l ∧ Inv E { V with next := V.next + 1 } (putP ps (m + 2) (k, l)) ∧ E.pages.length = D.pages.length := by
  obtain ⟨a1, a2, a3, a4⟩ := h.app hx hn
  have hA := a3 h0
  rw [h0] at a1
  obtain ⟨b1, b2⟩ := app_yes a1
  have := app_any hM (k : Int) ao n c l hr hF (by omega) h.fok
  rw [a1, b1, b2, hm] at this
  have e1 : V.next.toNat = m + 2 := by omega
  rw [e1] at hA
  refine this.mono ?_
  rintro e w' ⟨qv', rfl, h3⟩
  rw [← hm] at h3
  refine ⟨_, qv', rfl, h3, rfl, hA, ?_⟩
  rw [a2, actD_pages]; rfl
theorem xpub_go {D : DV} {V : FV} {ps : Pgs} {f p pg mb : Nat} {qv : Value} {w : World} (hM : Mem w (foots [disk D p pg mb qv, blk f 96 (fC V p)]) w [disk D p pg mb qv, blk f 96 (fC V p)]) (h : Inv D V ps) (head : Int) (hq : D.q.length ≤ 400000000000) (h0 : (pubR D V head).2 = 0) (hp : (pubR D V head).1.pages.length = D.pages.length) :
    Calls Try.prog 28 #[.pointer (some ⟨f, 0, none⟩), .int .i64 head] w fun e w' => ∃ E qv', e = .returned (.int .i64 0) ∧ Mem w (foots [disk D p pg mb qv, blk f 96 (fC V p)]) w' [disk E p pg mb qv', blk f 96 (fC { V with s := pubS V head } p)] ∧ E = (pubR D V head).1 ∧ E.pages.length = D.pages.length := by
  have := pub_any hM head hq h.fok
  have e1 : pubV D V head = { V with s := pubS V head } := if_pos h0
  rw [h0, e1] at this
  refine this.mono ?_
  rintro e w' ⟨qv', rfl, h3⟩
  exact ⟨_, qv', rfl, h3, rfl, hp⟩
end Go.Proofs.Ytehnnnohoaapdaa

/- One act on the book: Publish, Forget, Arm. -/
namespace Go.Proofs.Ytehnnnohoaapdaa
set_option linter.unusedSectionVars false
open Go Go.RowKit
set_option linter.unusedVariables false
set_option linter.unusedSimpArgs false
set_option maxRecDepth 100000 in
set_option maxHeartbeats 4000000 in
theorem act_pub_go_h {D : DV} {V : FV} {B : BV} {p pg mb f b : Nat} {qv : Value} {bx : BX} {w : World} (hM : Mem w (foots [disk D p pg mb qv, blk f 96 (fC V p), book B b bx]) w [disk D p pg mb qv, blk f 96 (fC V p), book B b bx]) (n : Int) (ao : Option Addr) (nn c : Nat) {ps : Pgs} (hI : Inv D V ps) (hg : V.s.gen = B.gen) (hgm : V.s.gen < 1099511627776) (hq : D.q.length ≤ 400000000000) (h1 : n % 2 = 1) (h2 : 2 < V.next) (h0 : (pubR D V (V.next - 1)).2 = 0) (hpp : (pubR D V (V.next - 1)).1.pages.length = D.pages.length) : Calls Try.prog 27 #[.pointer (some ⟨b, 0, none⟩), .pointer (some ⟨p, 0, none⟩), .pointer (some ⟨f, 0, none⟩), .agg ([.int .i64 2, .int .i64 n, .slice ao nn c]).toArray] w fun e w' => ∃ E qv' bx', e = .returned (.tuple #[.int .i64 0, .bool true]) ∧ Mem w (foots [disk D p pg mb qv, blk f 96 (fC V p), book B b bx]) w' [disk E p pg mb qv', blk f 96 (fC ({ V with s := pubS V (V.next - 1) } : FV) p), book ({ B with mark := V.next, head := V.next - 1, gen := B.gen + 1 } : BV) b bx'] ∧ E = (pubR D V (V.next - 1)).1 := by
  obtain ⟨lv, kv, vs⟩ := bx
  have M0 := book_open (hM.arr [2, 0, 1] (by decide))
  clear hM
  have M : Mem w _ w [disk D p pg mb qv, blk f 96 (fC V p), blk b 48 (bC B ⟨lv, kv, vs⟩), rows lv vs B.loads, lst 3 1 kv B.ps.length B.kinds] := M0.arr [3, 4, 0, 1, 2] (by decide)
  clear M0
  have hpg := hI.plat.pages
  have hg1 := hI.plat.gen0
  have hn2 := hI.next2
  have hnp := hI.nextp
  have hhi := hI.ok.hi
  go_enter Try.func27, Try.ntmps27
  refine wp_seq_k (fun K1 hK1 => ?_)
  refine wp_region_lit ?_
  refine pe rfl (fun K hK => ?_)
  refine e_box M ([.int .i64 2, .int .i64 n, .slice ao nn c]) rfl rfl ?_
  intro ga w2 (M2 : Mem w _ w2 [blk ga 50 ([.int .i64 2, .int .i64 n, .slice ao nn c]), disk D p pg mb qv, blk f 96 (fC V p), blk b 48 (bC B ⟨lv, kv, vs⟩), rows lv vs B.loads, lst 3 1 kv B.ps.length B.kinds])
  clear M
  refine hK.out _ _ ?_
  clear hK K
  simp only [Act.put, zq1, zq2, zq3]
  refine pl M2 (y_assign (v := .int .i64 0) rfl rfl rfl) ?_
  simp only [Act.put, zq1, zq2, zq3]
  refine pl M2 (y_assign (v := .bool false) rfl rfl rfl) ?_
  simp only [Act.put, zq1, zq2, zq3]
  refine wpList_nil ?_
  refine hK1 _ _ ?_
  clear hK1
  refine wp_seq_k (fun K3 hK3 => ?_)
  refine wp_region_lit ?_
  refine pl M2 (y_move (v := .pointer (some ⟨f, 0, none⟩)) rfl rfl rfl) ?_
  simp only [Act.put, zq1, zq2, zq3]
  have hX4 : Mem w _ w2 ([disk D p pg mb qv, blk f 96 (fC V p)] ++ [blk ga 50 ([.int .i64 2, .int .i64 n, .slice ao nn c]), blk b 48 (bC B ⟨lv, kv, vs⟩), rows lv vs B.loads, lst 3 1 kv B.ps.length B.kinds]) := M2.arr [1, 2, 0, 3, 4, 5] (by decide)
  refine pe rfl (fun K hK => ?_)
  refine e_call 20 [.pointer (some ⟨f, 0, none⟩)] rfl rfl Try.call20 (next_any (Mem.here hX4)) ?_
  rintro e w4 ⟨rfl, H4⟩
  have M4 : Mem w _ w4 [disk D p pg mb qv, blk f 96 (fC V p), blk ga 50 ([.int .i64 2, .int .i64 n, .slice ao nn c]), blk b 48 (bC B ⟨lv, kv, vs⟩), rows lv vs B.loads, lst 3 1 kv B.ps.length B.kinds] := Mem.frame hX4 H4
  refine ⟨_, rfl, ?_⟩
  refine hK.out _ _ ?_
  clear hK K
  simp only [Act.put, zq1, zq2, zq3]
  refine pl M4 (y_assign (v := .int .i64 V.next) rfl rfl rfl) ?_
  simp only [Act.put, zq1, zq2, zq3]
  refine wpList_nil ?_
  refine hK3 _ _ ?_
  clear hK3
  refine wp_seq_k (fun K5 hK5 => ?_)
  refine wp_seq_k (fun K6 hK6 => ?_)
  refine wp_region_lit ?_
  refine pl M4 (y_fa (r := 0) rfl rfl rfl Try.underlying50 rfl Try.sizeOf3 rfl) ?_
  simp only [Act.put, zq1, zq2, zq3]
  refine pl M4 (y_load (v := .int .i64 2) rfl rfl rfl Try.isAgg3 (fun W hW => hW.get 2 rfl) (rfl)) ?_
  simp only [Act.put, zq1, zq2, zq3]
  refine wpList_nil ?_
  refine hK6 _ _ ?_
  clear hK6
  refine wp_block ?_
  refine wp_seq_k (fun K7 hK7 => ?_)
  refine wp_region_lit ?_
  refine pl M4 (y_eql (b := false) rfl rfl rfl rfl (decide_eq_false (by decide))) ?_
  simp only [Act.put, zq1, zq2, zq3]
  refine pl M4 (y_assign (v := .bool false) rfl rfl rfl) ?_
  simp only [Act.put, zq1, zq2, zq3]
  refine wpList_nil ?_
  refine hK7 _ _ ?_
  clear hK7
  refine wp_cond_false rfl ?_
  refine wp_seq_k (fun K8 hK8 => ?_)
  refine wp_region_lit ?_
  refine pl M4 (y_eql (b := true) rfl rfl rfl rfl (decide_eq_true (by decide))) ?_
  simp only [Act.put, zq1, zq2, zq3]
  refine pl M4 (y_assign (v := .bool true) rfl rfl rfl) ?_
  simp only [Act.put, zq1, zq2, zq3]
  refine wpList_nil ?_
  refine hK8 _ _ ?_
  clear hK8
  refine wp_cond_true rfl ?_
  refine wp_seq_k (fun K9 hK9 => ?_)
  refine wp_region_lit ?_
  refine pl M4 (y_assign (v := .int .i64 0) rfl rfl rfl) ?_
  simp only [Act.put, zq1, zq2, zq3]
  refine wpList_nil ?_
  refine hK9 _ _ ?_
  clear hK9
  refine wp_seq_k (fun K10 hK10 => ?_)
  refine wp_seq_k (fun K11 hK11 => ?_)
  refine wp_region_lit ?_
  refine pl M4 (y_fa (r := 1) rfl rfl rfl Try.underlying50 rfl Try.sizeOf3 rfl) ?_
  simp only [Act.put, zq1, zq2, zq3]
  refine pl M4 (y_load (v := .int .i64 n) rfl rfl rfl Try.isAgg3 (fun W hW => hW.get 2 rfl) (rfl)) ?_
  simp only [Act.put, zq1, zq2, zq3]
  refine pe rfl (fun K hK => ?_)
  refine e_call 13 [.int .i64 n, .int .i64 2] rfl rfl Try.call13 (place3_any n 2 (by decide) (by decide) _) ?_
  rintro e w12 ⟨rfl, H12⟩
  have M12 : Mem w _ w12 [disk D p pg mb qv, blk f 96 (fC V p), blk ga 50 ([.int .i64 2, .int .i64 n, .slice ao nn c]), blk b 48 (bC B ⟨lv, kv, vs⟩), rows lv vs B.loads, lst 3 1 kv B.ps.length B.kinds] := M4.step H12
  refine ⟨_, rfl, ?_⟩
  refine hK.out _ _ ?_
  clear hK K
  simp only [Act.put, zq1, zq2, zq3]
  refine pl M12 (y_eql (b := true) rfl rfl rfl rfl (decide_eq_true h1)) ?_
  simp only [Act.put, zq1, zq2, zq3]
  refine pl M12 (y_move (v := .bool true) rfl rfl rfl) ?_
  simp only [Act.put, zq1, zq2, zq3]
  refine pl M12 (y_move (v := .int .i64 V.next) rfl rfl rfl) ?_
  simp only [Act.put, zq1, zq2, zq3]
  refine pl M12 (y_gtr (b := true) rfl rfl rfl rfl (decide_eq_true h2)) ?_
  simp only [Act.put, zq1, zq2, zq3]
  refine pl M12 (y_pickT (v := .bool true) rfl rfl rfl rfl) ?_
  simp only [Act.put, zq1, zq2, zq3]
  refine wpList_nil ?_
  refine hK11 _ _ ?_
  clear hK11
  refine wp_cond_true rfl ?_
  refine wp_region_lit ?_
  refine pl M12 (y_move (v := .int .i64 V.next) rfl rfl rfl) ?_
  simp only [Act.put, zq1, zq2, zq3]
  refine pl M12 (y_sub (r := V.next - 1) rfl rfl rfl rfl (rfl) (by omega)) ?_
  simp only [Act.put, zq1, zq2, zq3]
  refine pl M12 (y_assign (v := .int .i64 (V.next - 1)) rfl rfl rfl) ?_
  simp only [Act.put, zq1, zq2, zq3]
  refine wpList_nil ?_
  refine hK10 _ _ ?_
  clear hK10
  refine wp_seq_k (fun K13 hK13 => ?_)
  refine wp_region_lit ?_
  refine pl M12 (y_move (v := .pointer (some ⟨f, 0, none⟩)) rfl rfl rfl) ?_
  simp only [Act.put, zq1, zq2, zq3]
  refine pl M12 (y_move (v := .int .i64 (V.next - 1)) rfl rfl rfl) ?_
  simp only [Act.put, zq1, zq2, zq3]
  have hX14 : Mem w _ w12 ([disk D p pg mb qv, blk f 96 (fC V p)] ++ [blk ga 50 ([.int .i64 2, .int .i64 n, .slice ao nn c]), blk b 48 (bC B ⟨lv, kv, vs⟩), rows lv vs B.loads, lst 3 1 kv B.ps.length B.kinds]) := M12.arr [0, 1, 2, 3, 4, 5] (by decide)
  refine pe rfl (fun K hK => ?_)
  refine e_call 28 [.pointer (some ⟨f, 0, none⟩), .int .i64 (V.next - 1)] rfl rfl Try.call28 (xpub_go (Mem.here hX14) hI (V.next - 1) hq h0 hpp) ?_
  rintro e w14 ⟨E, qv', rfl, H14, hE, hpl⟩
  have M14 : Mem w _ w14 [disk E p pg mb qv', blk f 96 (fC ({ V with s := pubS V (V.next - 1) } : FV) p), blk ga 50 ([.int .i64 2, .int .i64 n, .slice ao nn c]), blk b 48 (bC B ⟨lv, kv, vs⟩), rows lv vs B.loads, lst 3 1 kv B.ps.length B.kinds] := Mem.frame hX14 H14
  have hcs : [.int .i64 V.s.width, .int .i64 (B.gen + 1), .int .i64 V.next, .int .i64 (V.next - 1), .int .i64 (E.pages.length : Int)] = supC (pubS V (V.next - 1)) := by rw [hpl, ← hg, ← hpg]; rfl
  refine ⟨_, rfl, ?_⟩
  refine hK.out _ _ ?_
  clear hK K
  simp only [Act.put, zq1, zq2, zq3]
  refine pl M14 (y_assign (v := .int .i64 0) rfl rfl rfl) ?_
  simp only [Act.put, zq1, zq2, zq3]
  refine wpList_nil ?_
  refine hK13 _ _ ?_
  clear hK13
  refine wp_seq_k (fun K15 hK15 => ?_)
  refine wp_seq_k (fun K16 hK16 => ?_)
  refine wp_region_lit ?_
  refine pl M14 (y_move (v := .int .i64 0) rfl rfl rfl) ?_
  simp only [Act.put, zq1, zq2, zq3]
  refine pl M14 (y_eql (b := true) rfl rfl rfl rfl (decide_eq_true (by decide))) ?_
  simp only [Act.put, zq1, zq2, zq3]
  refine wpList_nil ?_
  refine hK16 _ _ ?_
  clear hK16
  refine wp_cond_true rfl ?_
  refine wp_seq_k (fun K17 hK17 => ?_)
  refine wp_region_lit ?_
  refine pl M14 (y_move (v := .pointer (some ⟨b, 0, none⟩)) rfl rfl rfl) ?_
  simp only [Act.put, zq1, zq2, zq3]
  refine pl M14 (y_move (v := .pointer (some ⟨b, 0, none⟩)) rfl rfl rfl) ?_
  simp only [Act.put, zq1, zq2, zq3]
  refine pl M14 (y_move (v := .int .i64 V.next) rfl rfl rfl) ?_
  simp only [Act.put, zq1, zq2, zq3]
  refine pl M14 (y_move (v := .int .i64 (V.next - 1)) rfl rfl rfl) ?_
  simp only [Act.put, zq1, zq2, zq3]
  refine pl M14 (y_nil rfl rfl rfl) ?_
  simp only [Act.put, zq1, zq2, zq3]
  refine pl M14 (y_fa (r := 2) rfl rfl rfl Try.underlying48 rfl Try.sizeOf3 rfl) ?_
  simp only [Act.put, zq1, zq2, zq3]
  refine pe rfl (fun K hK => ?_)
  refine e_store M14 3 (v := .int .i64 V.next) rfl rfl rfl rfl rfl rfl Try.sizeOf3 rfl (show (2 : Nat) < 7 by decide) ?_
  intro w18 (M18 : Mem w _ w18 [disk E p pg mb qv', blk f 96 (fC ({ V with s := pubS V (V.next - 1) } : FV) p), blk ga 50 ([.int .i64 2, .int .i64 n, .slice ao nn c]), blk b 48 ([lv, kv, .int .i64 V.next, .int .i64 B.gen, .int .i64 B.head, .int .i64 B.inMark, .int .i64 B.inHead]), rows lv vs B.loads, lst 3 1 kv B.ps.length B.kinds])
  clear M14
  refine hK.out _ _ ?_
  clear hK K
  simp only [Act.put, zq1, zq2, zq3]
  refine pl M18 (y_nil rfl rfl rfl) ?_
  simp only [Act.put, zq1, zq2, zq3]
  refine pl M18 (y_fa (r := 4) rfl rfl rfl Try.underlying48 rfl Try.sizeOf3 rfl) ?_
  simp only [Act.put, zq1, zq2, zq3]
  refine pe rfl (fun K hK => ?_)
  refine e_store M18 3 (v := .int .i64 (V.next - 1)) rfl rfl rfl rfl rfl rfl Try.sizeOf3 rfl (show (4 : Nat) < 7 by decide) ?_
  intro w19 (M19 : Mem w _ w19 [disk E p pg mb qv', blk f 96 (fC ({ V with s := pubS V (V.next - 1) } : FV) p), blk ga 50 ([.int .i64 2, .int .i64 n, .slice ao nn c]), blk b 48 ([lv, kv, .int .i64 V.next, .int .i64 B.gen, .int .i64 (V.next - 1), .int .i64 B.inMark, .int .i64 B.inHead]), rows lv vs B.loads, lst 3 1 kv B.ps.length B.kinds])
  clear M18
  refine hK.out _ _ ?_
  clear hK K
  simp only [Act.put, zq1, zq2, zq3]
  refine wpList_nil ?_
  refine hK17 _ _ ?_
  clear hK17
  refine wp_seq_k (fun K20 hK20 => ?_)
  refine wp_region_lit ?_
  refine pl M19 (y_move (v := .pointer (some ⟨b, 0, none⟩)) rfl rfl rfl) ?_
  simp only [Act.put, zq1, zq2, zq3]
  refine pl M19 (y_nil rfl rfl rfl) ?_
  simp only [Act.put, zq1, zq2, zq3]
  refine pl M19 (y_fa (r := 3) rfl rfl rfl Try.underlying48 rfl Try.sizeOf3 rfl) ?_
  simp only [Act.put, zq1, zq2, zq3]
  refine pl M19 (y_load (v := .int .i64 B.gen) rfl rfl rfl Try.isAgg3 (fun W hW => hW.get 3 rfl) (rfl)) ?_
  simp only [Act.put, zq1, zq2, zq3]
  refine pl M19 (y_add (r := B.gen + 1) rfl rfl rfl rfl (rfl) (by omega)) ?_
  simp only [Act.put, zq1, zq2, zq3]
  refine pl M19 (y_nil rfl rfl rfl) ?_
  simp only [Act.put, zq1, zq2, zq3]
  refine pl M19 (y_fa (r := 3) rfl rfl rfl Try.underlying48 rfl Try.sizeOf3 rfl) ?_
  simp only [Act.put, zq1, zq2, zq3]
  refine pe rfl (fun K hK => ?_)
  refine e_store M19 3 (v := .int .i64 (B.gen + 1)) rfl rfl rfl rfl rfl rfl Try.sizeOf3 rfl (show (3 : Nat) < 7 by decide) ?_
  intro w21 (M21 : Mem w _ w21 [disk E p pg mb qv', blk f 96 (fC ({ V with s := pubS V (V.next - 1) } : FV) p), blk ga 50 ([.int .i64 2, .int .i64 n, .slice ao nn c]), blk b 48 ([lv, kv, .int .i64 V.next, .int .i64 (B.gen + 1), .int .i64 (V.next - 1), .int .i64 B.inMark, .int .i64 B.inHead]), rows lv vs B.loads, lst 3 1 kv B.ps.length B.kinds])
  clear M19
  refine hK.out _ _ ?_
  clear hK K
  simp only [Act.put, zq1, zq2, zq3]
  refine wpList_nil ?_
  refine hK20 _ _ ?_
  clear hK20
  refine wp_seq_k (fun K22 hK22 => ?_)
  have M23 := M21.drew
  refine held_begin (fun W => Mem w (foots [disk D p pg mb qv, blk f 96 (fC V p), book B b ⟨lv, kv, vs⟩]) W [blk b 48 ([lv, kv, .int .i64 V.next, .int .i64 (B.gen + 1), .int .i64 (V.next - 1), .int .i64 B.inMark, .int .i64 B.inHead])]) (by kernel_rfl) (M23.arr [3] (by decide)) (fun hS => ?_)
  refine held_take 0 _ rfl (by kernel_rfl) (by kernel_rfl) (by kernel_rfl) (y_move (v := .int .i64 0) rfl rfl rfl) hS ?_
  simp only [Act.put, zq1, zq2, zq3]
  refine held_take 1 _ rfl (by kernel_rfl) (by kernel_rfl) (by kernel_rfl) (y_move (v := .pointer (some ⟨f, 0, none⟩)) rfl rfl rfl) hS ?_
  simp only [Act.put, zq1, zq2, zq3]
  refine held_take 3 _ rfl (by kernel_rfl) (by kernel_rfl) (by kernel_rfl) (y_move (v := .pointer (some ⟨f, 0, none⟩)) rfl rfl rfl) hS ?_
  simp only [Act.put, zq1, zq2, zq3]
  refine held_take 6 _ rfl (by kernel_rfl) (by kernel_rfl) (by kernel_rfl) (y_move (v := .pointer (some ⟨b, 0, none⟩)) rfl rfl rfl) hS ?_
  simp only [Act.put, zq1, zq2, zq3]
  refine held_take 7 _ rfl (by kernel_rfl) (by kernel_rfl) (by kernel_rfl) (y_nil rfl rfl rfl) hS ?_
  simp only [Act.put, zq1, zq2, zq3]
  refine held_take 8 _ rfl (by kernel_rfl) (by kernel_rfl) (by kernel_rfl) (y_fa (r := 3) rfl rfl rfl Try.underlying48 rfl Try.sizeOf3 rfl) hS ?_
  simp only [Act.put, zq1, zq2, zq3]
  refine held_take 9 _ rfl (by kernel_rfl) (by kernel_rfl) (by kernel_rfl) (y_load (v := .int .i64 (B.gen + 1)) rfl rfl rfl Try.isAgg3 (fun W hW => hW.get 0 rfl) (rfl)) hS ?_
  simp only [Act.put, zq1, zq2, zq3]
  refine held_take 10 _ rfl (by kernel_rfl) (by kernel_rfl) (by kernel_rfl) (y_move (v := .int .i64 V.next) rfl rfl rfl) hS ?_
  simp only [Act.put, zq1, zq2, zq3]
  refine held_take 11 _ rfl (by kernel_rfl) (by kernel_rfl) (by kernel_rfl) (y_move (v := .int .i64 (V.next - 1)) rfl rfl rfl) hS ?_
  simp only [Act.put, zq1, zq2, zq3]
  refine held_take 12 _ rfl (by kernel_rfl) (by kernel_rfl) (by kernel_rfl) (y_move (v := .pointer (some ⟨p, 0, none⟩)) rfl rfl rfl) hS ?_
  simp only [Act.put, zq1, zq2, zq3]
  have hX24 : Mem w _ w21.drew ([disk E p pg mb qv', blk f 96 (fC ({ V with s := pubS V (V.next - 1) } : FV) p)] ++ [blk ga 50 ([.int .i64 2, .int .i64 n, .slice ao nn c]), blk b 48 ([lv, kv, .int .i64 V.next, .int .i64 (B.gen + 1), .int .i64 (V.next - 1), .int .i64 B.inMark, .int .i64 B.inHead]), rows lv vs B.loads, lst 3 1 kv B.ps.length B.kinds]) := M23.arr [0, 1, 2, 3, 4, 5] (by decide)
  refine held_step 2 (by kernel_rfl) rfl (by rfl) (fun K hK => ?_)
  refine e_call 19 [.pointer (some ⟨f, 0, none⟩)] rfl rfl Try.call19 (super_any (Mem.here hX24)) ?_
  rintro e w24 ⟨rfl, H24⟩
  have M24 : Mem w _ w24 [disk E p pg mb qv', blk f 96 (fC ({ V with s := pubS V (V.next - 1) } : FV) p), blk ga 50 ([.int .i64 2, .int .i64 n, .slice ao nn c]), blk b 48 ([lv, kv, .int .i64 V.next, .int .i64 (B.gen + 1), .int .i64 (V.next - 1), .int .i64 B.inMark, .int .i64 B.inHead]), rows lv vs B.loads, lst 3 1 kv B.ps.length B.kinds] := Mem.frame hX24 H24
  refine ⟨_, rfl, ?_⟩
  refine hK.out _ _ (M24.arr [3] (by decide)) (fun hS => ?_)
  clear hK K
  simp only [Act.put, zq1, zq2, zq3]
  have hX25 : Mem w _ w24 ([disk E p pg mb qv', blk f 96 (fC ({ V with s := pubS V (V.next - 1) } : FV) p)] ++ [blk ga 50 ([.int .i64 2, .int .i64 n, .slice ao nn c]), blk b 48 ([lv, kv, .int .i64 V.next, .int .i64 (B.gen + 1), .int .i64 (V.next - 1), .int .i64 B.inMark, .int .i64 B.inHead]), rows lv vs B.loads, lst 3 1 kv B.ps.length B.kinds]) := M24.arr [0, 1, 2, 3, 4, 5] (by decide)
  refine held_step 4 (by kernel_rfl) rfl (by rfl) (fun K hK => ?_)
  refine e_call 19 [.pointer (some ⟨f, 0, none⟩)] rfl rfl Try.call19 (super_any (Mem.here hX25)) ?_
  rintro e w25 ⟨rfl, H25⟩
  have M25 : Mem w _ w25 [disk E p pg mb qv', blk f 96 (fC ({ V with s := pubS V (V.next - 1) } : FV) p), blk ga 50 ([.int .i64 2, .int .i64 n, .slice ao nn c]), blk b 48 ([lv, kv, .int .i64 V.next, .int .i64 (B.gen + 1), .int .i64 (V.next - 1), .int .i64 B.inMark, .int .i64 B.inHead]), rows lv vs B.loads, lst 3 1 kv B.ps.length B.kinds] := Mem.frame hX25 H25
  refine ⟨_, rfl, ?_⟩
  refine hK.out _ _ (M25.arr [3] (by decide)) (fun hS => ?_)
  clear hK K
  simp only [Act.put, zq1, zq2, zq3]
  refine held_take 5 _ rfl (by kernel_rfl) (by kernel_rfl) (by kernel_rfl) (y_field1 (v := .int .i64 V.s.width) rfl rfl rfl Try.underlying37 rfl Try.isAgg3 rfl) hS ?_
  simp only [Act.put, zq1, zq2, zq3]
  have hX26 : Mem w _ w25 ([disk E p pg mb qv'] ++ [blk f 96 (fC ({ V with s := pubS V (V.next - 1) } : FV) p), blk ga 50 ([.int .i64 2, .int .i64 n, .slice ao nn c]), blk b 48 ([lv, kv, .int .i64 V.next, .int .i64 (B.gen + 1), .int .i64 (V.next - 1), .int .i64 B.inMark, .int .i64 B.inHead]), rows lv vs B.loads, lst 3 1 kv B.ps.length B.kinds]) := M25.arr [0, 1, 2, 3, 4, 5] (by decide)
  refine held_step 13 (by kernel_rfl) rfl (by rfl) (fun K hK => ?_)
  refine e_call 24 [.pointer (some ⟨p, 0, none⟩)] rfl rfl Try.call24 (pages_any (Mem.here hX26)) ?_
  rintro e w26 ⟨rfl, H26⟩
  have M26 : Mem w _ w26 [disk E p pg mb qv', blk f 96 (fC ({ V with s := pubS V (V.next - 1) } : FV) p), blk ga 50 ([.int .i64 2, .int .i64 n, .slice ao nn c]), blk b 48 ([lv, kv, .int .i64 V.next, .int .i64 (B.gen + 1), .int .i64 (V.next - 1), .int .i64 B.inMark, .int .i64 B.inHead]), rows lv vs B.loads, lst 3 1 kv B.ps.length B.kinds] := Mem.frame hX26 H26
  refine ⟨_, rfl, ?_⟩
  refine hK.out _ _ (M26.arr [3] (by decide)) (fun hS => ?_)
  clear hK K
  simp only [Act.put, zq1, zq2, zq3]
  refine held_take 14 _ rfl (by kernel_rfl) (by kernel_rfl) (by kernel_rfl) (y_build (ps := [(0, .tmp 127), (1, .tmp 131), (2, .tmp 132), (3, .tmp 133), (4, .tmp 135)]) (pv := [(0, .int .i64 V.s.width), (1, .int .i64 (B.gen + 1)), (2, .int .i64 V.next), (3, .int .i64 (V.next - 1)), (4, .int .i64 (E.pages.length : Int))]) (cs := [.int .i64 V.s.width, .int .i64 (B.gen + 1), .int .i64 V.next, .int .i64 (V.next - 1), .int .i64 (E.pages.length : Int)]) rfl rfl rfl (by kernel_rfl)) hS ?_
  simp only [Act.put, zq1, zq2, zq3]
  refine held_take 15 _ rfl (by kernel_rfl) (by kernel_rfl) (by kernel_rfl) (y_eqs (r := true) rfl rfl rfl rfl sup_guard (fun W => by rw [hcs]; exact sup_same _ W)) hS ?_
  simp only [Act.put, zq1, zq2, zq3]
  refine held_take 16 _ rfl (by kernel_rfl) (by kernel_rfl) (by kernel_rfl) (y_assign (v := .int .i64 0) rfl rfl rfl) hS ?_
  simp only [Act.put, zq1, zq2, zq3]
  refine held_take 17 _ rfl (by kernel_rfl) (by kernel_rfl) (by kernel_rfl) (y_assign (v := .bool true) rfl rfl rfl) hS ?_
  simp only [Act.put, zq1, zq2, zq3]
  refine held_done (by kernel_rfl) ?_ _
  refine hK22 _ _ ?_
  clear hK22
  refine wp_ret ?_
  try simp only [Exit.inBlock, Exit.then]
  refine bodyPost_ret (v := .tuple #[.int .i64 0, .bool true]) (res2 rfl rfl rfl) rfl ?_
  have N : Mem _ _ _ [book ({ B with mark := V.next, head := V.next - 1, gen := B.gen + 1 } : BV) b ⟨lv, kv, vs⟩, _, _] := book_close (M26.arr [3, 4, 5, 0, 1] (by decide))
  exact ⟨E, qv', ⟨lv, kv, vs⟩, rfl, N.arr [1, 2, 0] (by decide), hE⟩
set_option maxRecDepth 100000 in
set_option maxHeartbeats 4000000 in
theorem act_pub_go_z1 {D : DV} {V : FV} {B : BV} {p pg mb f b : Nat} {qv : Value} {bx : BX} {w : World} (hM : Mem w (foots [disk D p pg mb qv, blk f 96 (fC V p), book B b bx]) w [disk D p pg mb qv, blk f 96 (fC V p), book B b bx]) (n : Int) (ao : Option Addr) (nn c : Nat) {ps : Pgs} (hI : Inv D V ps) (hg : V.s.gen = B.gen) (hgm : V.s.gen < 1099511627776) (hq : D.q.length ≤ 400000000000) (h1 : n % 2 = 1) (h2 : ¬ 2 < V.next) (h0 : (pubR D V (0)).2 = 0) (hpp : (pubR D V (0)).1.pages.length = D.pages.length) : Calls Try.prog 27 #[.pointer (some ⟨b, 0, none⟩), .pointer (some ⟨p, 0, none⟩), .pointer (some ⟨f, 0, none⟩), .agg ([.int .i64 2, .int .i64 n, .slice ao nn c]).toArray] w fun e w' => ∃ E qv' bx', e = .returned (.tuple #[.int .i64 0, .bool true]) ∧ Mem w (foots [disk D p pg mb qv, blk f 96 (fC V p), book B b bx]) w' [disk E p pg mb qv', blk f 96 (fC ({ V with s := pubS V (0) } : FV) p), book ({ B with mark := V.next, head := 0, gen := B.gen + 1 } : BV) b bx'] ∧ E = (pubR D V (0)).1 := by
  obtain ⟨lv, kv, vs⟩ := bx
  have M0 := book_open (hM.arr [2, 0, 1] (by decide))
  clear hM
  have M : Mem w _ w [disk D p pg mb qv, blk f 96 (fC V p), blk b 48 (bC B ⟨lv, kv, vs⟩), rows lv vs B.loads, lst 3 1 kv B.ps.length B.kinds] := M0.arr [3, 4, 0, 1, 2] (by decide)
  clear M0
  have hpg := hI.plat.pages
  have hg1 := hI.plat.gen0
  have hn2 := hI.next2
  have hnp := hI.nextp
  have hhi := hI.ok.hi
  go_enter Try.func27, Try.ntmps27
  refine wp_seq_k (fun K1 hK1 => ?_)
  refine wp_region_lit ?_
  refine pe rfl (fun K hK => ?_)
  refine e_box M ([.int .i64 2, .int .i64 n, .slice ao nn c]) rfl rfl ?_
  intro ga w2 (M2 : Mem w _ w2 [blk ga 50 ([.int .i64 2, .int .i64 n, .slice ao nn c]), disk D p pg mb qv, blk f 96 (fC V p), blk b 48 (bC B ⟨lv, kv, vs⟩), rows lv vs B.loads, lst 3 1 kv B.ps.length B.kinds])
  clear M
  refine hK.out _ _ ?_
  clear hK K
  simp only [Act.put, zq1, zq2, zq3]
  refine pl M2 (y_assign (v := .int .i64 0) rfl rfl rfl) ?_
  simp only [Act.put, zq1, zq2, zq3]
  refine pl M2 (y_assign (v := .bool false) rfl rfl rfl) ?_
  simp only [Act.put, zq1, zq2, zq3]
  refine wpList_nil ?_
  refine hK1 _ _ ?_
  clear hK1
  refine wp_seq_k (fun K3 hK3 => ?_)
  refine wp_region_lit ?_
  refine pl M2 (y_move (v := .pointer (some ⟨f, 0, none⟩)) rfl rfl rfl) ?_
  simp only [Act.put, zq1, zq2, zq3]
  have hX4 : Mem w _ w2 ([disk D p pg mb qv, blk f 96 (fC V p)] ++ [blk ga 50 ([.int .i64 2, .int .i64 n, .slice ao nn c]), blk b 48 (bC B ⟨lv, kv, vs⟩), rows lv vs B.loads, lst 3 1 kv B.ps.length B.kinds]) := M2.arr [1, 2, 0, 3, 4, 5] (by decide)
  refine pe rfl (fun K hK => ?_)
  refine e_call 20 [.pointer (some ⟨f, 0, none⟩)] rfl rfl Try.call20 (next_any (Mem.here hX4)) ?_
  rintro e w4 ⟨rfl, H4⟩
  have M4 : Mem w _ w4 [disk D p pg mb qv, blk f 96 (fC V p), blk ga 50 ([.int .i64 2, .int .i64 n, .slice ao nn c]), blk b 48 (bC B ⟨lv, kv, vs⟩), rows lv vs B.loads, lst 3 1 kv B.ps.length B.kinds] := Mem.frame hX4 H4
  refine ⟨_, rfl, ?_⟩
  refine hK.out _ _ ?_
  clear hK K
  simp only [Act.put, zq1, zq2, zq3]
  refine pl M4 (y_assign (v := .int .i64 V.next) rfl rfl rfl) ?_
  simp only [Act.put, zq1, zq2, zq3]
  refine wpList_nil ?_
  refine hK3 _ _ ?_
  clear hK3
  refine wp_seq_k (fun K5 hK5 => ?_)
  refine wp_seq_k (fun K6 hK6 => ?_)
  refine wp_region_lit ?_
  refine pl M4 (y_fa (r := 0) rfl rfl rfl Try.underlying50 rfl Try.sizeOf3 rfl) ?_
  simp only [Act.put, zq1, zq2, zq3]
  refine pl M4 (y_load (v := .int .i64 2) rfl rfl rfl Try.isAgg3 (fun W hW => hW.get 2 rfl) (rfl)) ?_
  simp only [Act.put, zq1, zq2, zq3]
  refine wpList_nil ?_
  refine hK6 _ _ ?_
  clear hK6
  refine wp_block ?_
  refine wp_seq_k (fun K7 hK7 => ?_)
  refine wp_region_lit ?_
  refine pl M4 (y_eql (b := false) rfl rfl rfl rfl (decide_eq_false (by decide))) ?_
  simp only [Act.put, zq1, zq2, zq3]
  refine pl M4 (y_assign (v := .bool false) rfl rfl rfl) ?_
  simp only [Act.put, zq1, zq2, zq3]
  refine wpList_nil ?_
  refine hK7 _ _ ?_
  clear hK7
  refine wp_cond_false rfl ?_
  refine wp_seq_k (fun K8 hK8 => ?_)
  refine wp_region_lit ?_
  refine pl M4 (y_eql (b := true) rfl rfl rfl rfl (decide_eq_true (by decide))) ?_
  simp only [Act.put, zq1, zq2, zq3]
  refine pl M4 (y_assign (v := .bool true) rfl rfl rfl) ?_
  simp only [Act.put, zq1, zq2, zq3]
  refine wpList_nil ?_
  refine hK8 _ _ ?_
  clear hK8
  refine wp_cond_true rfl ?_
  refine wp_seq_k (fun K9 hK9 => ?_)
  refine wp_region_lit ?_
  refine pl M4 (y_assign (v := .int .i64 0) rfl rfl rfl) ?_
  simp only [Act.put, zq1, zq2, zq3]
  refine wpList_nil ?_
  refine hK9 _ _ ?_
  clear hK9
  refine wp_seq_k (fun K10 hK10 => ?_)
  refine wp_seq_k (fun K11 hK11 => ?_)
  refine wp_region_lit ?_
  refine pl M4 (y_fa (r := 1) rfl rfl rfl Try.underlying50 rfl Try.sizeOf3 rfl) ?_
  simp only [Act.put, zq1, zq2, zq3]
  refine pl M4 (y_load (v := .int .i64 n) rfl rfl rfl Try.isAgg3 (fun W hW => hW.get 2 rfl) (rfl)) ?_
  simp only [Act.put, zq1, zq2, zq3]
  refine pe rfl (fun K hK => ?_)
  refine e_call 13 [.int .i64 n, .int .i64 2] rfl rfl Try.call13 (place3_any n 2 (by decide) (by decide) _) ?_
  rintro e w12 ⟨rfl, H12⟩
  have M12 : Mem w _ w12 [disk D p pg mb qv, blk f 96 (fC V p), blk ga 50 ([.int .i64 2, .int .i64 n, .slice ao nn c]), blk b 48 (bC B ⟨lv, kv, vs⟩), rows lv vs B.loads, lst 3 1 kv B.ps.length B.kinds] := M4.step H12
  refine ⟨_, rfl, ?_⟩
  refine hK.out _ _ ?_
  clear hK K
  simp only [Act.put, zq1, zq2, zq3]
  refine pl M12 (y_eql (b := true) rfl rfl rfl rfl (decide_eq_true h1)) ?_
  simp only [Act.put, zq1, zq2, zq3]
  refine pl M12 (y_move (v := .bool true) rfl rfl rfl) ?_
  simp only [Act.put, zq1, zq2, zq3]
  refine pl M12 (y_move (v := .int .i64 V.next) rfl rfl rfl) ?_
  simp only [Act.put, zq1, zq2, zq3]
  refine pl M12 (y_gtr (b := false) rfl rfl rfl rfl (decide_eq_false h2)) ?_
  simp only [Act.put, zq1, zq2, zq3]
  refine pl M12 (y_pickT (v := .bool false) rfl rfl rfl rfl) ?_
  simp only [Act.put, zq1, zq2, zq3]
  refine wpList_nil ?_
  refine hK11 _ _ ?_
  clear hK11
  refine wp_cond_false rfl ?_
  refine wp_skip ?_
  refine hK10 _ _ ?_
  clear hK10
  refine wp_seq_k (fun K13 hK13 => ?_)
  refine wp_region_lit ?_
  refine pl M12 (y_move (v := .pointer (some ⟨f, 0, none⟩)) rfl rfl rfl) ?_
  simp only [Act.put, zq1, zq2, zq3]
  refine pl M12 (y_move (v := .int .i64 0) rfl rfl rfl) ?_
  simp only [Act.put, zq1, zq2, zq3]
  have hX14 : Mem w _ w12 ([disk D p pg mb qv, blk f 96 (fC V p)] ++ [blk ga 50 ([.int .i64 2, .int .i64 n, .slice ao nn c]), blk b 48 (bC B ⟨lv, kv, vs⟩), rows lv vs B.loads, lst 3 1 kv B.ps.length B.kinds]) := M12.arr [0, 1, 2, 3, 4, 5] (by decide)
  refine pe rfl (fun K hK => ?_)
  refine e_call 28 [.pointer (some ⟨f, 0, none⟩), .int .i64 0] rfl rfl Try.call28 (xpub_go (Mem.here hX14) hI (0) hq h0 hpp) ?_
  rintro e w14 ⟨E, qv', rfl, H14, hE, hpl⟩
  have M14 : Mem w _ w14 [disk E p pg mb qv', blk f 96 (fC ({ V with s := pubS V (0) } : FV) p), blk ga 50 ([.int .i64 2, .int .i64 n, .slice ao nn c]), blk b 48 (bC B ⟨lv, kv, vs⟩), rows lv vs B.loads, lst 3 1 kv B.ps.length B.kinds] := Mem.frame hX14 H14
  have hcs : [.int .i64 V.s.width, .int .i64 (B.gen + 1), .int .i64 V.next, .int .i64 (0), .int .i64 (E.pages.length : Int)] = supC (pubS V (0)) := by rw [hpl, ← hg, ← hpg]; rfl
  refine ⟨_, rfl, ?_⟩
  refine hK.out _ _ ?_
  clear hK K
  simp only [Act.put, zq1, zq2, zq3]
  refine pl M14 (y_assign (v := .int .i64 0) rfl rfl rfl) ?_
  simp only [Act.put, zq1, zq2, zq3]
  refine wpList_nil ?_
  refine hK13 _ _ ?_
  clear hK13
  refine wp_seq_k (fun K15 hK15 => ?_)
  refine wp_seq_k (fun K16 hK16 => ?_)
  refine wp_region_lit ?_
  refine pl M14 (y_move (v := .int .i64 0) rfl rfl rfl) ?_
  simp only [Act.put, zq1, zq2, zq3]
  refine pl M14 (y_eql (b := true) rfl rfl rfl rfl (decide_eq_true (by decide))) ?_
  simp only [Act.put, zq1, zq2, zq3]
  refine wpList_nil ?_
  refine hK16 _ _ ?_
  clear hK16
  refine wp_cond_true rfl ?_
  refine wp_seq_k (fun K17 hK17 => ?_)
  refine wp_region_lit ?_
  refine pl M14 (y_move (v := .pointer (some ⟨b, 0, none⟩)) rfl rfl rfl) ?_
  simp only [Act.put, zq1, zq2, zq3]
  refine pl M14 (y_move (v := .pointer (some ⟨b, 0, none⟩)) rfl rfl rfl) ?_
  simp only [Act.put, zq1, zq2, zq3]
  refine pl M14 (y_move (v := .int .i64 V.next) rfl rfl rfl) ?_
  simp only [Act.put, zq1, zq2, zq3]
  refine pl M14 (y_move (v := .int .i64 0) rfl rfl rfl) ?_
  simp only [Act.put, zq1, zq2, zq3]
  refine pl M14 (y_nil rfl rfl rfl) ?_
  simp only [Act.put, zq1, zq2, zq3]
  refine pl M14 (y_fa (r := 2) rfl rfl rfl Try.underlying48 rfl Try.sizeOf3 rfl) ?_
  simp only [Act.put, zq1, zq2, zq3]
  refine pe rfl (fun K hK => ?_)
  refine e_store M14 3 (v := .int .i64 V.next) rfl rfl rfl rfl rfl rfl Try.sizeOf3 rfl (show (2 : Nat) < 7 by decide) ?_
  intro w18 (M18 : Mem w _ w18 [disk E p pg mb qv', blk f 96 (fC ({ V with s := pubS V (0) } : FV) p), blk ga 50 ([.int .i64 2, .int .i64 n, .slice ao nn c]), blk b 48 ([lv, kv, .int .i64 V.next, .int .i64 B.gen, .int .i64 B.head, .int .i64 B.inMark, .int .i64 B.inHead]), rows lv vs B.loads, lst 3 1 kv B.ps.length B.kinds])
  clear M14
  refine hK.out _ _ ?_
  clear hK K
  simp only [Act.put, zq1, zq2, zq3]
  refine pl M18 (y_nil rfl rfl rfl) ?_
  simp only [Act.put, zq1, zq2, zq3]
  refine pl M18 (y_fa (r := 4) rfl rfl rfl Try.underlying48 rfl Try.sizeOf3 rfl) ?_
  simp only [Act.put, zq1, zq2, zq3]
  refine pe rfl (fun K hK => ?_)
  refine e_store M18 3 (v := .int .i64 0) rfl rfl rfl rfl rfl rfl Try.sizeOf3 rfl (show (4 : Nat) < 7 by decide) ?_
  intro w19 (M19 : Mem w _ w19 [disk E p pg mb qv', blk f 96 (fC ({ V with s := pubS V (0) } : FV) p), blk ga 50 ([.int .i64 2, .int .i64 n, .slice ao nn c]), blk b 48 ([lv, kv, .int .i64 V.next, .int .i64 B.gen, .int .i64 0, .int .i64 B.inMark, .int .i64 B.inHead]), rows lv vs B.loads, lst 3 1 kv B.ps.length B.kinds])
  clear M18
  refine hK.out _ _ ?_
  clear hK K
  simp only [Act.put, zq1, zq2, zq3]
  refine wpList_nil ?_
  refine hK17 _ _ ?_
  clear hK17
  refine wp_seq_k (fun K20 hK20 => ?_)
  refine wp_region_lit ?_
  refine pl M19 (y_move (v := .pointer (some ⟨b, 0, none⟩)) rfl rfl rfl) ?_
  simp only [Act.put, zq1, zq2, zq3]
  refine pl M19 (y_nil rfl rfl rfl) ?_
  simp only [Act.put, zq1, zq2, zq3]
  refine pl M19 (y_fa (r := 3) rfl rfl rfl Try.underlying48 rfl Try.sizeOf3 rfl) ?_
  simp only [Act.put, zq1, zq2, zq3]
  refine pl M19 (y_load (v := .int .i64 B.gen) rfl rfl rfl Try.isAgg3 (fun W hW => hW.get 3 rfl) (rfl)) ?_
  simp only [Act.put, zq1, zq2, zq3]
  refine pl M19 (y_add (r := B.gen + 1) rfl rfl rfl rfl (rfl) (by omega)) ?_
  simp only [Act.put, zq1, zq2, zq3]
  refine pl M19 (y_nil rfl rfl rfl) ?_
  simp only [Act.put, zq1, zq2, zq3]
  refine pl M19 (y_fa (r := 3) rfl rfl rfl Try.underlying48 rfl Try.sizeOf3 rfl) ?_
  simp only [Act.put, zq1, zq2, zq3]
  refine pe rfl (fun K hK => ?_)
  refine e_store M19 3 (v := .int .i64 (B.gen + 1)) rfl rfl rfl rfl rfl rfl Try.sizeOf3 rfl (show (3 : Nat) < 7 by decide) ?_
  intro w21 (M21 : Mem w _ w21 [disk E p pg mb qv', blk f 96 (fC ({ V with s := pubS V (0) } : FV) p), blk ga 50 ([.int .i64 2, .int .i64 n, .slice ao nn c]), blk b 48 ([lv, kv, .int .i64 V.next, .int .i64 (B.gen + 1), .int .i64 0, .int .i64 B.inMark, .int .i64 B.inHead]), rows lv vs B.loads, lst 3 1 kv B.ps.length B.kinds])
  clear M19
  refine hK.out _ _ ?_
  clear hK K
  simp only [Act.put, zq1, zq2, zq3]
  refine wpList_nil ?_
  refine hK20 _ _ ?_
  clear hK20
  refine wp_seq_k (fun K22 hK22 => ?_)
  have M23 := M21.drew
  refine held_begin (fun W => Mem w (foots [disk D p pg mb qv, blk f 96 (fC V p), book B b ⟨lv, kv, vs⟩]) W [blk b 48 ([lv, kv, .int .i64 V.next, .int .i64 (B.gen + 1), .int .i64 0, .int .i64 B.inMark, .int .i64 B.inHead])]) (by kernel_rfl) (M23.arr [3] (by decide)) (fun hS => ?_)
  refine held_take 0 _ rfl (by kernel_rfl) (by kernel_rfl) (by kernel_rfl) (y_move (v := .int .i64 0) rfl rfl rfl) hS ?_
  simp only [Act.put, zq1, zq2, zq3]
  refine held_take 1 _ rfl (by kernel_rfl) (by kernel_rfl) (by kernel_rfl) (y_move (v := .pointer (some ⟨f, 0, none⟩)) rfl rfl rfl) hS ?_
  simp only [Act.put, zq1, zq2, zq3]
  refine held_take 3 _ rfl (by kernel_rfl) (by kernel_rfl) (by kernel_rfl) (y_move (v := .pointer (some ⟨f, 0, none⟩)) rfl rfl rfl) hS ?_
  simp only [Act.put, zq1, zq2, zq3]
  refine held_take 6 _ rfl (by kernel_rfl) (by kernel_rfl) (by kernel_rfl) (y_move (v := .pointer (some ⟨b, 0, none⟩)) rfl rfl rfl) hS ?_
  simp only [Act.put, zq1, zq2, zq3]
  refine held_take 7 _ rfl (by kernel_rfl) (by kernel_rfl) (by kernel_rfl) (y_nil rfl rfl rfl) hS ?_
  simp only [Act.put, zq1, zq2, zq3]
  refine held_take 8 _ rfl (by kernel_rfl) (by kernel_rfl) (by kernel_rfl) (y_fa (r := 3) rfl rfl rfl Try.underlying48 rfl Try.sizeOf3 rfl) hS ?_
  simp only [Act.put, zq1, zq2, zq3]
  refine held_take 9 _ rfl (by kernel_rfl) (by kernel_rfl) (by kernel_rfl) (y_load (v := .int .i64 (B.gen + 1)) rfl rfl rfl Try.isAgg3 (fun W hW => hW.get 0 rfl) (rfl)) hS ?_
  simp only [Act.put, zq1, zq2, zq3]
  refine held_take 10 _ rfl (by kernel_rfl) (by kernel_rfl) (by kernel_rfl) (y_move (v := .int .i64 V.next) rfl rfl rfl) hS ?_
  simp only [Act.put, zq1, zq2, zq3]
  refine held_take 11 _ rfl (by kernel_rfl) (by kernel_rfl) (by kernel_rfl) (y_move (v := .int .i64 0) rfl rfl rfl) hS ?_
  simp only [Act.put, zq1, zq2, zq3]
  refine held_take 12 _ rfl (by kernel_rfl) (by kernel_rfl) (by kernel_rfl) (y_move (v := .pointer (some ⟨p, 0, none⟩)) rfl rfl rfl) hS ?_
  simp only [Act.put, zq1, zq2, zq3]
  have hX24 : Mem w _ w21.drew ([disk E p pg mb qv', blk f 96 (fC ({ V with s := pubS V (0) } : FV) p)] ++ [blk ga 50 ([.int .i64 2, .int .i64 n, .slice ao nn c]), blk b 48 ([lv, kv, .int .i64 V.next, .int .i64 (B.gen + 1), .int .i64 0, .int .i64 B.inMark, .int .i64 B.inHead]), rows lv vs B.loads, lst 3 1 kv B.ps.length B.kinds]) := M23.arr [0, 1, 2, 3, 4, 5] (by decide)
  refine held_step 2 (by kernel_rfl) rfl (by rfl) (fun K hK => ?_)
  refine e_call 19 [.pointer (some ⟨f, 0, none⟩)] rfl rfl Try.call19 (super_any (Mem.here hX24)) ?_
  rintro e w24 ⟨rfl, H24⟩
  have M24 : Mem w _ w24 [disk E p pg mb qv', blk f 96 (fC ({ V with s := pubS V (0) } : FV) p), blk ga 50 ([.int .i64 2, .int .i64 n, .slice ao nn c]), blk b 48 ([lv, kv, .int .i64 V.next, .int .i64 (B.gen + 1), .int .i64 0, .int .i64 B.inMark, .int .i64 B.inHead]), rows lv vs B.loads, lst 3 1 kv B.ps.length B.kinds] := Mem.frame hX24 H24
  refine ⟨_, rfl, ?_⟩
  refine hK.out _ _ (M24.arr [3] (by decide)) (fun hS => ?_)
  clear hK K
  simp only [Act.put, zq1, zq2, zq3]
  have hX25 : Mem w _ w24 ([disk E p pg mb qv', blk f 96 (fC ({ V with s := pubS V (0) } : FV) p)] ++ [blk ga 50 ([.int .i64 2, .int .i64 n, .slice ao nn c]), blk b 48 ([lv, kv, .int .i64 V.next, .int .i64 (B.gen + 1), .int .i64 0, .int .i64 B.inMark, .int .i64 B.inHead]), rows lv vs B.loads, lst 3 1 kv B.ps.length B.kinds]) := M24.arr [0, 1, 2, 3, 4, 5] (by decide)
  refine held_step 4 (by kernel_rfl) rfl (by rfl) (fun K hK => ?_)
  refine e_call 19 [.pointer (some ⟨f, 0, none⟩)] rfl rfl Try.call19 (super_any (Mem.here hX25)) ?_
  rintro e w25 ⟨rfl, H25⟩
  have M25 : Mem w _ w25 [disk E p pg mb qv', blk f 96 (fC ({ V with s := pubS V (0) } : FV) p), blk ga 50 ([.int .i64 2, .int .i64 n, .slice ao nn c]), blk b 48 ([lv, kv, .int .i64 V.next, .int .i64 (B.gen + 1), .int .i64 0, .int .i64 B.inMark, .int .i64 B.inHead]), rows lv vs B.loads, lst 3 1 kv B.ps.length B.kinds] := Mem.frame hX25 H25
  refine ⟨_, rfl, ?_⟩
  refine hK.out _ _ (M25.arr [3] (by decide)) (fun hS => ?_)
  clear hK K
  simp only [Act.put, zq1, zq2, zq3]
  refine held_take 5 _ rfl (by kernel_rfl) (by kernel_rfl) (by kernel_rfl) (y_field1 (v := .int .i64 V.s.width) rfl rfl rfl Try.underlying37 rfl Try.isAgg3 rfl) hS ?_
  simp only [Act.put, zq1, zq2, zq3]
  have hX26 : Mem w _ w25 ([disk E p pg mb qv'] ++ [blk f 96 (fC ({ V with s := pubS V (0) } : FV) p), blk ga 50 ([.int .i64 2, .int .i64 n, .slice ao nn c]), blk b 48 ([lv, kv, .int .i64 V.next, .int .i64 (B.gen + 1), .int .i64 0, .int .i64 B.inMark, .int .i64 B.inHead]), rows lv vs B.loads, lst 3 1 kv B.ps.length B.kinds]) := M25.arr [0, 1, 2, 3, 4, 5] (by decide)
  refine held_step 13 (by kernel_rfl) rfl (by rfl) (fun K hK => ?_)
  refine e_call 24 [.pointer (some ⟨p, 0, none⟩)] rfl rfl Try.call24 (pages_any (Mem.here hX26)) ?_
  rintro e w26 ⟨rfl, H26⟩
  have M26 : Mem w _ w26 [disk E p pg mb qv', blk f 96 (fC ({ V with s := pubS V (0) } : FV) p), blk ga 50 ([.int .i64 2, .int .i64 n, .slice ao nn c]), blk b 48 ([lv, kv, .int .i64 V.next, .int .i64 (B.gen + 1), .int .i64 0, .int .i64 B.inMark, .int .i64 B.inHead]), rows lv vs B.loads, lst 3 1 kv B.ps.length B.kinds] := Mem.frame hX26 H26
  refine ⟨_, rfl, ?_⟩
  refine hK.out _ _ (M26.arr [3] (by decide)) (fun hS => ?_)
  clear hK K
  simp only [Act.put, zq1, zq2, zq3]
  refine held_take 14 _ rfl (by kernel_rfl) (by kernel_rfl) (by kernel_rfl) (y_build (ps := [(0, .tmp 127), (1, .tmp 131), (2, .tmp 132), (3, .tmp 133), (4, .tmp 135)]) (pv := [(0, .int .i64 V.s.width), (1, .int .i64 (B.gen + 1)), (2, .int .i64 V.next), (3, .int .i64 0), (4, .int .i64 (E.pages.length : Int))]) (cs := [.int .i64 V.s.width, .int .i64 (B.gen + 1), .int .i64 V.next, .int .i64 (0), .int .i64 (E.pages.length : Int)]) rfl rfl rfl (by kernel_rfl)) hS ?_
  simp only [Act.put, zq1, zq2, zq3]
  refine held_take 15 _ rfl (by kernel_rfl) (by kernel_rfl) (by kernel_rfl) (y_eqs (r := true) rfl rfl rfl rfl sup_guard (fun W => by rw [hcs]; exact sup_same _ W)) hS ?_
  simp only [Act.put, zq1, zq2, zq3]
  refine held_take 16 _ rfl (by kernel_rfl) (by kernel_rfl) (by kernel_rfl) (y_assign (v := .int .i64 0) rfl rfl rfl) hS ?_
  simp only [Act.put, zq1, zq2, zq3]
  refine held_take 17 _ rfl (by kernel_rfl) (by kernel_rfl) (by kernel_rfl) (y_assign (v := .bool true) rfl rfl rfl) hS ?_
  simp only [Act.put, zq1, zq2, zq3]
  refine held_done (by kernel_rfl) ?_ _
  refine hK22 _ _ ?_
  clear hK22
  refine wp_ret ?_
  try simp only [Exit.inBlock, Exit.then]
  refine bodyPost_ret (v := .tuple #[.int .i64 0, .bool true]) (res2 rfl rfl rfl) rfl ?_
  have N : Mem _ _ _ [book ({ B with mark := V.next, head := 0, gen := B.gen + 1 } : BV) b ⟨lv, kv, vs⟩, _, _] := book_close (M26.arr [3, 4, 5, 0, 1] (by decide))
  exact ⟨E, qv', ⟨lv, kv, vs⟩, rfl, N.arr [1, 2, 0] (by decide), hE⟩
set_option maxRecDepth 100000 in
set_option maxHeartbeats 4000000 in
theorem act_pub_go_z2 {D : DV} {V : FV} {B : BV} {p pg mb f b : Nat} {qv : Value} {bx : BX} {w : World} (hM : Mem w (foots [disk D p pg mb qv, blk f 96 (fC V p), book B b bx]) w [disk D p pg mb qv, blk f 96 (fC V p), book B b bx]) (n : Int) (ao : Option Addr) (nn c : Nat) {ps : Pgs} (hI : Inv D V ps) (hg : V.s.gen = B.gen) (hgm : V.s.gen < 1099511627776) (hq : D.q.length ≤ 400000000000) (h1 : ¬ n % 2 = 1) (h0 : (pubR D V (0)).2 = 0) (hpp : (pubR D V (0)).1.pages.length = D.pages.length) : Calls Try.prog 27 #[.pointer (some ⟨b, 0, none⟩), .pointer (some ⟨p, 0, none⟩), .pointer (some ⟨f, 0, none⟩), .agg ([.int .i64 2, .int .i64 n, .slice ao nn c]).toArray] w fun e w' => ∃ E qv' bx', e = .returned (.tuple #[.int .i64 0, .bool true]) ∧ Mem w (foots [disk D p pg mb qv, blk f 96 (fC V p), book B b bx]) w' [disk E p pg mb qv', blk f 96 (fC ({ V with s := pubS V (0) } : FV) p), book ({ B with mark := V.next, head := 0, gen := B.gen + 1 } : BV) b bx'] ∧ E = (pubR D V (0)).1 := by
  obtain ⟨lv, kv, vs⟩ := bx
  have M0 := book_open (hM.arr [2, 0, 1] (by decide))
  clear hM
  have M : Mem w _ w [disk D p pg mb qv, blk f 96 (fC V p), blk b 48 (bC B ⟨lv, kv, vs⟩), rows lv vs B.loads, lst 3 1 kv B.ps.length B.kinds] := M0.arr [3, 4, 0, 1, 2] (by decide)
  clear M0
  have hpg := hI.plat.pages
  have hg1 := hI.plat.gen0
  have hn2 := hI.next2
  have hnp := hI.nextp
  have hhi := hI.ok.hi
  go_enter Try.func27, Try.ntmps27
  refine wp_seq_k (fun K1 hK1 => ?_)
  refine wp_region_lit ?_
  refine pe rfl (fun K hK => ?_)
  refine e_box M ([.int .i64 2, .int .i64 n, .slice ao nn c]) rfl rfl ?_
  intro ga w2 (M2 : Mem w _ w2 [blk ga 50 ([.int .i64 2, .int .i64 n, .slice ao nn c]), disk D p pg mb qv, blk f 96 (fC V p), blk b 48 (bC B ⟨lv, kv, vs⟩), rows lv vs B.loads, lst 3 1 kv B.ps.length B.kinds])
  clear M
  refine hK.out _ _ ?_
  clear hK K
  simp only [Act.put, zq1, zq2, zq3]
  refine pl M2 (y_assign (v := .int .i64 0) rfl rfl rfl) ?_
  simp only [Act.put, zq1, zq2, zq3]
  refine pl M2 (y_assign (v := .bool false) rfl rfl rfl) ?_
  simp only [Act.put, zq1, zq2, zq3]
  refine wpList_nil ?_
  refine hK1 _ _ ?_
  clear hK1
  refine wp_seq_k (fun K3 hK3 => ?_)
  refine wp_region_lit ?_
  refine pl M2 (y_move (v := .pointer (some ⟨f, 0, none⟩)) rfl rfl rfl) ?_
  simp only [Act.put, zq1, zq2, zq3]
  have hX4 : Mem w _ w2 ([disk D p pg mb qv, blk f 96 (fC V p)] ++ [blk ga 50 ([.int .i64 2, .int .i64 n, .slice ao nn c]), blk b 48 (bC B ⟨lv, kv, vs⟩), rows lv vs B.loads, lst 3 1 kv B.ps.length B.kinds]) := M2.arr [1, 2, 0, 3, 4, 5] (by decide)
  refine pe rfl (fun K hK => ?_)
  refine e_call 20 [.pointer (some ⟨f, 0, none⟩)] rfl rfl Try.call20 (next_any (Mem.here hX4)) ?_
  rintro e w4 ⟨rfl, H4⟩
  have M4 : Mem w _ w4 [disk D p pg mb qv, blk f 96 (fC V p), blk ga 50 ([.int .i64 2, .int .i64 n, .slice ao nn c]), blk b 48 (bC B ⟨lv, kv, vs⟩), rows lv vs B.loads, lst 3 1 kv B.ps.length B.kinds] := Mem.frame hX4 H4
  refine ⟨_, rfl, ?_⟩
  refine hK.out _ _ ?_
  clear hK K
  simp only [Act.put, zq1, zq2, zq3]
  refine pl M4 (y_assign (v := .int .i64 V.next) rfl rfl rfl) ?_
  simp only [Act.put, zq1, zq2, zq3]
  refine wpList_nil ?_
  refine hK3 _ _ ?_
  clear hK3
  refine wp_seq_k (fun K5 hK5 => ?_)
  refine wp_seq_k (fun K6 hK6 => ?_)
  refine wp_region_lit ?_
  refine pl M4 (y_fa (r := 0) rfl rfl rfl Try.underlying50 rfl Try.sizeOf3 rfl) ?_
  simp only [Act.put, zq1, zq2, zq3]
  refine pl M4 (y_load (v := .int .i64 2) rfl rfl rfl Try.isAgg3 (fun W hW => hW.get 2 rfl) (rfl)) ?_
  simp only [Act.put, zq1, zq2, zq3]
  refine wpList_nil ?_
  refine hK6 _ _ ?_
  clear hK6
  refine wp_block ?_
  refine wp_seq_k (fun K7 hK7 => ?_)
  refine wp_region_lit ?_
  refine pl M4 (y_eql (b := false) rfl rfl rfl rfl (decide_eq_false (by decide))) ?_
  simp only [Act.put, zq1, zq2, zq3]
  refine pl M4 (y_assign (v := .bool false) rfl rfl rfl) ?_
  simp only [Act.put, zq1, zq2, zq3]
  refine wpList_nil ?_
  refine hK7 _ _ ?_
  clear hK7
  refine wp_cond_false rfl ?_
  refine wp_seq_k (fun K8 hK8 => ?_)
  refine wp_region_lit ?_
  refine pl M4 (y_eql (b := true) rfl rfl rfl rfl (decide_eq_true (by decide))) ?_
  simp only [Act.put, zq1, zq2, zq3]
  refine pl M4 (y_assign (v := .bool true) rfl rfl rfl) ?_
  simp only [Act.put, zq1, zq2, zq3]
  refine wpList_nil ?_
  refine hK8 _ _ ?_
  clear hK8
  refine wp_cond_true rfl ?_
  refine wp_seq_k (fun K9 hK9 => ?_)
  refine wp_region_lit ?_
  refine pl M4 (y_assign (v := .int .i64 0) rfl rfl rfl) ?_
  simp only [Act.put, zq1, zq2, zq3]
  refine wpList_nil ?_
  refine hK9 _ _ ?_
  clear hK9
  refine wp_seq_k (fun K10 hK10 => ?_)
  refine wp_seq_k (fun K11 hK11 => ?_)
  refine wp_region_lit ?_
  refine pl M4 (y_fa (r := 1) rfl rfl rfl Try.underlying50 rfl Try.sizeOf3 rfl) ?_
  simp only [Act.put, zq1, zq2, zq3]
  refine pl M4 (y_load (v := .int .i64 n) rfl rfl rfl Try.isAgg3 (fun W hW => hW.get 2 rfl) (rfl)) ?_
  simp only [Act.put, zq1, zq2, zq3]
  refine pe rfl (fun K hK => ?_)
  refine e_call 13 [.int .i64 n, .int .i64 2] rfl rfl Try.call13 (place3_any n 2 (by decide) (by decide) _) ?_
  rintro e w12 ⟨rfl, H12⟩
  have M12 : Mem w _ w12 [disk D p pg mb qv, blk f 96 (fC V p), blk ga 50 ([.int .i64 2, .int .i64 n, .slice ao nn c]), blk b 48 (bC B ⟨lv, kv, vs⟩), rows lv vs B.loads, lst 3 1 kv B.ps.length B.kinds] := M4.step H12
  refine ⟨_, rfl, ?_⟩
  refine hK.out _ _ ?_
  clear hK K
  simp only [Act.put, zq1, zq2, zq3]
  refine pl M12 (y_eql (b := false) rfl rfl rfl rfl (decide_eq_false h1)) ?_
  simp only [Act.put, zq1, zq2, zq3]
  refine pl M12 (y_move (v := .bool false) rfl rfl rfl) ?_
  simp only [Act.put, zq1, zq2, zq3]
  with_reducible refine pskip ?_ ?_
  · rfl
  simp only [Act.put, zq1, zq2, zq3]
  with_reducible refine pskip ?_ ?_
  · rfl
  simp only [Act.put, zq1, zq2, zq3]
  refine pl M12 (y_pickF (v := .bool false) rfl rfl rfl rfl) ?_
  simp only [Act.put, zq1, zq2, zq3]
  refine wpList_nil ?_
  refine hK11 _ _ ?_
  clear hK11
  refine wp_cond_false rfl ?_
  refine wp_skip ?_
  refine hK10 _ _ ?_
  clear hK10
  refine wp_seq_k (fun K13 hK13 => ?_)
  refine wp_region_lit ?_
  refine pl M12 (y_move (v := .pointer (some ⟨f, 0, none⟩)) rfl rfl rfl) ?_
  simp only [Act.put, zq1, zq2, zq3]
  refine pl M12 (y_move (v := .int .i64 0) rfl rfl rfl) ?_
  simp only [Act.put, zq1, zq2, zq3]
  have hX14 : Mem w _ w12 ([disk D p pg mb qv, blk f 96 (fC V p)] ++ [blk ga 50 ([.int .i64 2, .int .i64 n, .slice ao nn c]), blk b 48 (bC B ⟨lv, kv, vs⟩), rows lv vs B.loads, lst 3 1 kv B.ps.length B.kinds]) := M12.arr [0, 1, 2, 3, 4, 5] (by decide)
  refine pe rfl (fun K hK => ?_)
  refine e_call 28 [.pointer (some ⟨f, 0, none⟩), .int .i64 0] rfl rfl Try.call28 (xpub_go (Mem.here hX14) hI (0) hq h0 hpp) ?_
  rintro e w14 ⟨E, qv', rfl, H14, hE, hpl⟩
  have M14 : Mem w _ w14 [disk E p pg mb qv', blk f 96 (fC ({ V with s := pubS V (0) } : FV) p), blk ga 50 ([.int .i64 2, .int .i64 n, .slice ao nn c]), blk b 48 (bC B ⟨lv, kv, vs⟩), rows lv vs B.loads, lst 3 1 kv B.ps.length B.kinds] := Mem.frame hX14 H14
  have hcs : [.int .i64 V.s.width, .int .i64 (B.gen + 1), .int .i64 V.next, .int .i64 (0), .int .i64 (E.pages.length : Int)] = supC (pubS V (0)) := by rw [hpl, ← hg, ← hpg]; rfl
  refine ⟨_, rfl, ?_⟩
  refine hK.out _ _ ?_
  clear hK K
  simp only [Act.put, zq1, zq2, zq3]
  refine pl M14 (y_assign (v := .int .i64 0) rfl rfl rfl) ?_
  simp only [Act.put, zq1, zq2, zq3]
  refine wpList_nil ?_
  refine hK13 _ _ ?_
  clear hK13
  refine wp_seq_k (fun K15 hK15 => ?_)
  refine wp_seq_k (fun K16 hK16 => ?_)
  refine wp_region_lit ?_
  refine pl M14 (y_move (v := .int .i64 0) rfl rfl rfl) ?_
  simp only [Act.put, zq1, zq2, zq3]
  refine pl M14 (y_eql (b := true) rfl rfl rfl rfl (decide_eq_true (by decide))) ?_
  simp only [Act.put, zq1, zq2, zq3]
  refine wpList_nil ?_
  refine hK16 _ _ ?_
  clear hK16
  refine wp_cond_true rfl ?_
  refine wp_seq_k (fun K17 hK17 => ?_)
  refine wp_region_lit ?_
  refine pl M14 (y_move (v := .pointer (some ⟨b, 0, none⟩)) rfl rfl rfl) ?_
  simp only [Act.put, zq1, zq2, zq3]
  refine pl M14 (y_move (v := .pointer (some ⟨b, 0, none⟩)) rfl rfl rfl) ?_
  simp only [Act.put, zq1, zq2, zq3]
  refine pl M14 (y_move (v := .int .i64 V.next) rfl rfl rfl) ?_
  simp only [Act.put, zq1, zq2, zq3]
  refine pl M14 (y_move (v := .int .i64 0) rfl rfl rfl) ?_
  simp only [Act.put, zq1, zq2, zq3]
  refine pl M14 (y_nil rfl rfl rfl) ?_
  simp only [Act.put, zq1, zq2, zq3]
  refine pl M14 (y_fa (r := 2) rfl rfl rfl Try.underlying48 rfl Try.sizeOf3 rfl) ?_
  simp only [Act.put, zq1, zq2, zq3]
  refine pe rfl (fun K hK => ?_)
  refine e_store M14 3 (v := .int .i64 V.next) rfl rfl rfl rfl rfl rfl Try.sizeOf3 rfl (show (2 : Nat) < 7 by decide) ?_
  intro w18 (M18 : Mem w _ w18 [disk E p pg mb qv', blk f 96 (fC ({ V with s := pubS V (0) } : FV) p), blk ga 50 ([.int .i64 2, .int .i64 n, .slice ao nn c]), blk b 48 ([lv, kv, .int .i64 V.next, .int .i64 B.gen, .int .i64 B.head, .int .i64 B.inMark, .int .i64 B.inHead]), rows lv vs B.loads, lst 3 1 kv B.ps.length B.kinds])
  clear M14
  refine hK.out _ _ ?_
  clear hK K
  simp only [Act.put, zq1, zq2, zq3]
  refine pl M18 (y_nil rfl rfl rfl) ?_
  simp only [Act.put, zq1, zq2, zq3]
  refine pl M18 (y_fa (r := 4) rfl rfl rfl Try.underlying48 rfl Try.sizeOf3 rfl) ?_
  simp only [Act.put, zq1, zq2, zq3]
  refine pe rfl (fun K hK => ?_)
  refine e_store M18 3 (v := .int .i64 0) rfl rfl rfl rfl rfl rfl Try.sizeOf3 rfl (show (4 : Nat) < 7 by decide) ?_
  intro w19 (M19 : Mem w _ w19 [disk E p pg mb qv', blk f 96 (fC ({ V with s := pubS V (0) } : FV) p), blk ga 50 ([.int .i64 2, .int .i64 n, .slice ao nn c]), blk b 48 ([lv, kv, .int .i64 V.next, .int .i64 B.gen, .int .i64 0, .int .i64 B.inMark, .int .i64 B.inHead]), rows lv vs B.loads, lst 3 1 kv B.ps.length B.kinds])
  clear M18
  refine hK.out _ _ ?_
  clear hK K
  simp only [Act.put, zq1, zq2, zq3]
  refine wpList_nil ?_
  refine hK17 _ _ ?_
  clear hK17
  refine wp_seq_k (fun K20 hK20 => ?_)
  refine wp_region_lit ?_
  refine pl M19 (y_move (v := .pointer (some ⟨b, 0, none⟩)) rfl rfl rfl) ?_
  simp only [Act.put, zq1, zq2, zq3]
  refine pl M19 (y_nil rfl rfl rfl) ?_
  simp only [Act.put, zq1, zq2, zq3]
  refine pl M19 (y_fa (r := 3) rfl rfl rfl Try.underlying48 rfl Try.sizeOf3 rfl) ?_
  simp only [Act.put, zq1, zq2, zq3]
  refine pl M19 (y_load (v := .int .i64 B.gen) rfl rfl rfl Try.isAgg3 (fun W hW => hW.get 3 rfl) (rfl)) ?_
  simp only [Act.put, zq1, zq2, zq3]
  refine pl M19 (y_add (r := B.gen + 1) rfl rfl rfl rfl (rfl) (by omega)) ?_
  simp only [Act.put, zq1, zq2, zq3]
  refine pl M19 (y_nil rfl rfl rfl) ?_
  simp only [Act.put, zq1, zq2, zq3]
  refine pl M19 (y_fa (r := 3) rfl rfl rfl Try.underlying48 rfl Try.sizeOf3 rfl) ?_
  simp only [Act.put, zq1, zq2, zq3]
  refine pe rfl (fun K hK => ?_)
  refine e_store M19 3 (v := .int .i64 (B.gen + 1)) rfl rfl rfl rfl rfl rfl Try.sizeOf3 rfl (show (3 : Nat) < 7 by decide) ?_
  intro w21 (M21 : Mem w _ w21 [disk E p pg mb qv', blk f 96 (fC ({ V with s := pubS V (0) } : FV) p), blk ga 50 ([.int .i64 2, .int .i64 n, .slice ao nn c]), blk b 48 ([lv, kv, .int .i64 V.next, .int .i64 (B.gen + 1), .int .i64 0, .int .i64 B.inMark, .int .i64 B.inHead]), rows lv vs B.loads, lst 3 1 kv B.ps.length B.kinds])
  clear M19
  refine hK.out _ _ ?_
  clear hK K
  simp only [Act.put, zq1, zq2, zq3]
  refine wpList_nil ?_
  refine hK20 _ _ ?_
  clear hK20
  refine wp_seq_k (fun K22 hK22 => ?_)
  have M23 := M21.drew
  refine held_begin (fun W => Mem w (foots [disk D p pg mb qv, blk f 96 (fC V p), book B b ⟨lv, kv, vs⟩]) W [blk b 48 ([lv, kv, .int .i64 V.next, .int .i64 (B.gen + 1), .int .i64 0, .int .i64 B.inMark, .int .i64 B.inHead])]) (by kernel_rfl) (M23.arr [3] (by decide)) (fun hS => ?_)
  refine held_take 0 _ rfl (by kernel_rfl) (by kernel_rfl) (by kernel_rfl) (y_move (v := .int .i64 0) rfl rfl rfl) hS ?_
  simp only [Act.put, zq1, zq2, zq3]
  refine held_take 1 _ rfl (by kernel_rfl) (by kernel_rfl) (by kernel_rfl) (y_move (v := .pointer (some ⟨f, 0, none⟩)) rfl rfl rfl) hS ?_
  simp only [Act.put, zq1, zq2, zq3]
  refine held_take 3 _ rfl (by kernel_rfl) (by kernel_rfl) (by kernel_rfl) (y_move (v := .pointer (some ⟨f, 0, none⟩)) rfl rfl rfl) hS ?_
  simp only [Act.put, zq1, zq2, zq3]
  refine held_take 6 _ rfl (by kernel_rfl) (by kernel_rfl) (by kernel_rfl) (y_move (v := .pointer (some ⟨b, 0, none⟩)) rfl rfl rfl) hS ?_
  simp only [Act.put, zq1, zq2, zq3]
  refine held_take 7 _ rfl (by kernel_rfl) (by kernel_rfl) (by kernel_rfl) (y_nil rfl rfl rfl) hS ?_
  simp only [Act.put, zq1, zq2, zq3]
  refine held_take 8 _ rfl (by kernel_rfl) (by kernel_rfl) (by kernel_rfl) (y_fa (r := 3) rfl rfl rfl Try.underlying48 rfl Try.sizeOf3 rfl) hS ?_
  simp only [Act.put, zq1, zq2, zq3]
  refine held_take 9 _ rfl (by kernel_rfl) (by kernel_rfl) (by kernel_rfl) (y_load (v := .int .i64 (B.gen + 1)) rfl rfl rfl Try.isAgg3 (fun W hW => hW.get 0 rfl) (rfl)) hS ?_
  simp only [Act.put, zq1, zq2, zq3]
  refine held_take 10 _ rfl (by kernel_rfl) (by kernel_rfl) (by kernel_rfl) (y_move (v := .int .i64 V.next) rfl rfl rfl) hS ?_
  simp only [Act.put, zq1, zq2, zq3]
  refine held_take 11 _ rfl (by kernel_rfl) (by kernel_rfl) (by kernel_rfl) (y_move (v := .int .i64 0) rfl rfl rfl) hS ?_
  simp only [Act.put, zq1, zq2, zq3]
  refine held_take 12 _ rfl (by kernel_rfl) (by kernel_rfl) (by kernel_rfl) (y_move (v := .pointer (some ⟨p, 0, none⟩)) rfl rfl rfl) hS ?_
  simp only [Act.put, zq1, zq2, zq3]
  have hX24 : Mem w _ w21.drew ([disk E p pg mb qv', blk f 96 (fC ({ V with s := pubS V (0) } : FV) p)] ++ [blk ga 50 ([.int .i64 2, .int .i64 n, .slice ao nn c]), blk b 48 ([lv, kv, .int .i64 V.next, .int .i64 (B.gen + 1), .int .i64 0, .int .i64 B.inMark, .int .i64 B.inHead]), rows lv vs B.loads, lst 3 1 kv B.ps.length B.kinds]) := M23.arr [0, 1, 2, 3, 4, 5] (by decide)
  refine held_step 2 (by kernel_rfl) rfl (by rfl) (fun K hK => ?_)
  refine e_call 19 [.pointer (some ⟨f, 0, none⟩)] rfl rfl Try.call19 (super_any (Mem.here hX24)) ?_
  rintro e w24 ⟨rfl, H24⟩
  have M24 : Mem w _ w24 [disk E p pg mb qv', blk f 96 (fC ({ V with s := pubS V (0) } : FV) p), blk ga 50 ([.int .i64 2, .int .i64 n, .slice ao nn c]), blk b 48 ([lv, kv, .int .i64 V.next, .int .i64 (B.gen + 1), .int .i64 0, .int .i64 B.inMark, .int .i64 B.inHead]), rows lv vs B.loads, lst 3 1 kv B.ps.length B.kinds] := Mem.frame hX24 H24
  refine ⟨_, rfl, ?_⟩
  refine hK.out _ _ (M24.arr [3] (by decide)) (fun hS => ?_)
  clear hK K
  simp only [Act.put, zq1, zq2, zq3]
  have hX25 : Mem w _ w24 ([disk E p pg mb qv', blk f 96 (fC ({ V with s := pubS V (0) } : FV) p)] ++ [blk ga 50 ([.int .i64 2, .int .i64 n, .slice ao nn c]), blk b 48 ([lv, kv, .int .i64 V.next, .int .i64 (B.gen + 1), .int .i64 0, .int .i64 B.inMark, .int .i64 B.inHead]), rows lv vs B.loads, lst 3 1 kv B.ps.length B.kinds]) := M24.arr [0, 1, 2, 3, 4, 5] (by decide)
  refine held_step 4 (by kernel_rfl) rfl (by rfl) (fun K hK => ?_)
  refine e_call 19 [.pointer (some ⟨f, 0, none⟩)] rfl rfl Try.call19 (super_any (Mem.here hX25)) ?_
  rintro e w25 ⟨rfl, H25⟩
  have M25 : Mem w _ w25 [disk E p pg mb qv', blk f 96 (fC ({ V with s := pubS V (0) } : FV) p), blk ga 50 ([.int .i64 2, .int .i64 n, .slice ao nn c]), blk b 48 ([lv, kv, .int .i64 V.next, .int .i64 (B.gen + 1), .int .i64 0, .int .i64 B.inMark, .int .i64 B.inHead]), rows lv vs B.loads, lst 3 1 kv B.ps.length B.kinds] := Mem.frame hX25 H25
  refine ⟨_, rfl, ?_⟩
  refine hK.out _ _ (M25.arr [3] (by decide)) (fun hS => ?_)
  clear hK K
  simp only [Act.put, zq1, zq2, zq3]
  refine held_take 5 _ rfl (by kernel_rfl) (by kernel_rfl) (by kernel_rfl) (y_field1 (v := .int .i64 V.s.width) rfl rfl rfl Try.underlying37 rfl Try.isAgg3 rfl) hS ?_
  simp only [Act.put, zq1, zq2, zq3]
  have hX26 : Mem w _ w25 ([disk E p pg mb qv'] ++ [blk f 96 (fC ({ V with s := pubS V (0) } : FV) p), blk ga 50 ([.int .i64 2, .int .i64 n, .slice ao nn c]), blk b 48 ([lv, kv, .int .i64 V.next, .int .i64 (B.gen + 1), .int .i64 0, .int .i64 B.inMark, .int .i64 B.inHead]), rows lv vs B.loads, lst 3 1 kv B.ps.length B.kinds]) := M25.arr [0, 1, 2, 3, 4, 5] (by decide)
  refine held_step 13 (by kernel_rfl) rfl (by rfl) (fun K hK => ?_)
  refine e_call 24 [.pointer (some ⟨p, 0, none⟩)] rfl rfl Try.call24 (pages_any (Mem.here hX26)) ?_
  rintro e w26 ⟨rfl, H26⟩
  have M26 : Mem w _ w26 [disk E p pg mb qv', blk f 96 (fC ({ V with s := pubS V (0) } : FV) p), blk ga 50 ([.int .i64 2, .int .i64 n, .slice ao nn c]), blk b 48 ([lv, kv, .int .i64 V.next, .int .i64 (B.gen + 1), .int .i64 0, .int .i64 B.inMark, .int .i64 B.inHead]), rows lv vs B.loads, lst 3 1 kv B.ps.length B.kinds] := Mem.frame hX26 H26
  refine ⟨_, rfl, ?_⟩
  refine hK.out _ _ (M26.arr [3] (by decide)) (fun hS => ?_)
  clear hK K
  simp only [Act.put, zq1, zq2, zq3]
  refine held_take 14 _ rfl (by kernel_rfl) (by kernel_rfl) (by kernel_rfl) (y_build (ps := [(0, .tmp 127), (1, .tmp 131), (2, .tmp 132), (3, .tmp 133), (4, .tmp 135)]) (pv := [(0, .int .i64 V.s.width), (1, .int .i64 (B.gen + 1)), (2, .int .i64 V.next), (3, .int .i64 0), (4, .int .i64 (E.pages.length : Int))]) (cs := [.int .i64 V.s.width, .int .i64 (B.gen + 1), .int .i64 V.next, .int .i64 (0), .int .i64 (E.pages.length : Int)]) rfl rfl rfl (by kernel_rfl)) hS ?_
  simp only [Act.put, zq1, zq2, zq3]
  refine held_take 15 _ rfl (by kernel_rfl) (by kernel_rfl) (by kernel_rfl) (y_eqs (r := true) rfl rfl rfl rfl sup_guard (fun W => by rw [hcs]; exact sup_same _ W)) hS ?_
  simp only [Act.put, zq1, zq2, zq3]
  refine held_take 16 _ rfl (by kernel_rfl) (by kernel_rfl) (by kernel_rfl) (y_assign (v := .int .i64 0) rfl rfl rfl) hS ?_
  simp only [Act.put, zq1, zq2, zq3]
  refine held_take 17 _ rfl (by kernel_rfl) (by kernel_rfl) (by kernel_rfl) (y_assign (v := .bool true) rfl rfl rfl) hS ?_
  simp only [Act.put, zq1, zq2, zq3]
  refine held_done (by kernel_rfl) ?_ _
  refine hK22 _ _ ?_
  clear hK22
  refine wp_ret ?_
  try simp only [Exit.inBlock, Exit.then]
  refine bodyPost_ret (v := .tuple #[.int .i64 0, .bool true]) (res2 rfl rfl rfl) rfl ?_
  have N : Mem _ _ _ [book ({ B with mark := V.next, head := 0, gen := B.gen + 1 } : BV) b ⟨lv, kv, vs⟩, _, _] := book_close (M26.arr [3, 4, 5, 0, 1] (by decide))
  exact ⟨E, qv', ⟨lv, kv, vs⟩, rfl, N.arr [1, 2, 0] (by decide), hE⟩
set_option maxRecDepth 100000 in
set_option maxHeartbeats 4000000 in
theorem act_forget {D : DV} {V : FV} {B : BV} {p pg mb f b : Nat} {qv : Value} {bx : BX} {w : World} (hM : Mem w (foots [disk D p pg mb qv, blk f 96 (fC V p), book B b bx]) w [disk D p pg mb qv, blk f 96 (fC V p), book B b bx]) (n : Int) (ao : Option Addr) (nn c : Nat) (hm : V.s.mark = B.mark) : Calls Try.prog 27 #[.pointer (some ⟨b, 0, none⟩), .pointer (some ⟨p, 0, none⟩), .pointer (some ⟨f, 0, none⟩), .agg ([.int .i64 3, .int .i64 n, .slice ao nn c]).toArray] w fun e w' => ∃ bx', e = .returned (.tuple #[.int .i64 0, .bool true]) ∧ Mem w (foots [disk D p pg mb qv, blk f 96 (fC V p), book B b bx]) w' [disk D p pg mb qv, blk f 96 (fC ({ V with next := V.s.mark } : FV) p), book B b bx'] := by
  obtain ⟨lv, kv, vs⟩ := bx
  have M0 := book_open (hM.arr [2, 0, 1] (by decide))
  clear hM
  have M : Mem w _ w [disk D p pg mb qv, blk f 96 (fC V p), blk b 48 (bC B ⟨lv, kv, vs⟩), rows lv vs B.loads, lst 3 1 kv B.ps.length B.kinds] := M0.arr [3, 4, 0, 1, 2] (by decide)
  clear M0
  go_enter Try.func27, Try.ntmps27
  refine wp_seq_k (fun K1 hK1 => ?_)
  refine wp_region_lit ?_
  refine pe rfl (fun K hK => ?_)
  refine e_box M ([.int .i64 3, .int .i64 n, .slice ao nn c]) rfl rfl ?_
  intro ga w2 (M2 : Mem w _ w2 [blk ga 50 ([.int .i64 3, .int .i64 n, .slice ao nn c]), disk D p pg mb qv, blk f 96 (fC V p), blk b 48 (bC B ⟨lv, kv, vs⟩), rows lv vs B.loads, lst 3 1 kv B.ps.length B.kinds])
  clear M
  refine hK.out _ _ ?_
  clear hK K
  simp only [Act.put, zq1, zq2, zq3]
  refine pl M2 (y_assign (v := .int .i64 0) rfl rfl rfl) ?_
  simp only [Act.put, zq1, zq2, zq3]
  refine pl M2 (y_assign (v := .bool false) rfl rfl rfl) ?_
  simp only [Act.put, zq1, zq2, zq3]
  refine wpList_nil ?_
  refine hK1 _ _ ?_
  clear hK1
  refine wp_seq_k (fun K3 hK3 => ?_)
  refine wp_region_lit ?_
  refine pl M2 (y_move (v := .pointer (some ⟨f, 0, none⟩)) rfl rfl rfl) ?_
  simp only [Act.put, zq1, zq2, zq3]
  have hX4 : Mem w _ w2 ([disk D p pg mb qv, blk f 96 (fC V p)] ++ [blk ga 50 ([.int .i64 3, .int .i64 n, .slice ao nn c]), blk b 48 (bC B ⟨lv, kv, vs⟩), rows lv vs B.loads, lst 3 1 kv B.ps.length B.kinds]) := M2.arr [1, 2, 0, 3, 4, 5] (by decide)
  refine pe rfl (fun K hK => ?_)
  refine e_call 20 [.pointer (some ⟨f, 0, none⟩)] rfl rfl Try.call20 (next_any (Mem.here hX4)) ?_
  rintro e w4 ⟨rfl, H4⟩
  have M4 : Mem w _ w4 [disk D p pg mb qv, blk f 96 (fC V p), blk ga 50 ([.int .i64 3, .int .i64 n, .slice ao nn c]), blk b 48 (bC B ⟨lv, kv, vs⟩), rows lv vs B.loads, lst 3 1 kv B.ps.length B.kinds] := Mem.frame hX4 H4
  refine ⟨_, rfl, ?_⟩
  refine hK.out _ _ ?_
  clear hK K
  simp only [Act.put, zq1, zq2, zq3]
  refine pl M4 (y_assign (v := .int .i64 V.next) rfl rfl rfl) ?_
  simp only [Act.put, zq1, zq2, zq3]
  refine wpList_nil ?_
  refine hK3 _ _ ?_
  clear hK3
  refine wp_seq_k (fun K5 hK5 => ?_)
  refine wp_seq_k (fun K6 hK6 => ?_)
  refine wp_region_lit ?_
  refine pl M4 (y_fa (r := 0) rfl rfl rfl Try.underlying50 rfl Try.sizeOf3 rfl) ?_
  simp only [Act.put, zq1, zq2, zq3]
  refine pl M4 (y_load (v := .int .i64 3) rfl rfl rfl Try.isAgg3 (fun W hW => hW.get 2 rfl) (rfl)) ?_
  simp only [Act.put, zq1, zq2, zq3]
  refine wpList_nil ?_
  refine hK6 _ _ ?_
  clear hK6
  refine wp_block ?_
  refine wp_seq_k (fun K7 hK7 => ?_)
  refine wp_region_lit ?_
  refine pl M4 (y_eql (b := false) rfl rfl rfl rfl (decide_eq_false (by decide))) ?_
  simp only [Act.put, zq1, zq2, zq3]
  refine pl M4 (y_assign (v := .bool false) rfl rfl rfl) ?_
  simp only [Act.put, zq1, zq2, zq3]
  refine wpList_nil ?_
  refine hK7 _ _ ?_
  clear hK7
  refine wp_cond_false rfl ?_
  refine wp_seq_k (fun K8 hK8 => ?_)
  refine wp_region_lit ?_
  refine pl M4 (y_eql (b := false) rfl rfl rfl rfl (decide_eq_false (by decide))) ?_
  simp only [Act.put, zq1, zq2, zq3]
  refine pl M4 (y_assign (v := .bool false) rfl rfl rfl) ?_
  simp only [Act.put, zq1, zq2, zq3]
  refine wpList_nil ?_
  refine hK8 _ _ ?_
  clear hK8
  refine wp_cond_false rfl ?_
  refine wp_seq_k (fun K9 hK9 => ?_)
  refine wp_region_lit ?_
  refine pl M4 (y_eql (b := true) rfl rfl rfl rfl (decide_eq_true (by decide))) ?_
  simp only [Act.put, zq1, zq2, zq3]
  refine pl M4 (y_assign (v := .bool true) rfl rfl rfl) ?_
  simp only [Act.put, zq1, zq2, zq3]
  refine wpList_nil ?_
  refine hK9 _ _ ?_
  clear hK9
  refine wp_cond_true rfl ?_
  refine wp_seq_k (fun K10 hK10 => ?_)
  refine wp_region_lit ?_
  refine pl M4 (y_move (v := .pointer (some ⟨f, 0, none⟩)) rfl rfl rfl) ?_
  simp only [Act.put, zq1, zq2, zq3]
  have hX11 : Mem w _ w4 ([disk D p pg mb qv, blk f 96 (fC V p)] ++ [blk ga 50 ([.int .i64 3, .int .i64 n, .slice ao nn c]), blk b 48 (bC B ⟨lv, kv, vs⟩), rows lv vs B.loads, lst 3 1 kv B.ps.length B.kinds]) := M4.arr [0, 1, 2, 3, 4, 5] (by decide)
  refine pe rfl (fun K hK => ?_)
  refine e_call 39 [.pointer (some ⟨f, 0, none⟩)] rfl rfl Try.call39 (forget_any (Mem.here hX11)) ?_
  rintro e w11 ⟨rfl, H11⟩
  have M11 : Mem w _ w11 [disk D p pg mb qv, blk f 96 (fC ({ V with next := V.s.mark } : FV) p), blk ga 50 ([.int .i64 3, .int .i64 n, .slice ao nn c]), blk b 48 (bC B ⟨lv, kv, vs⟩), rows lv vs B.loads, lst 3 1 kv B.ps.length B.kinds] := Mem.frame hX11 H11
  refine ⟨_, rfl, ?_⟩
  refine hK.out _ _ ?_
  clear hK K
  simp only [Act.put, zq1, zq2, zq3]
  refine wpList_nil ?_
  refine hK10 _ _ ?_
  clear hK10
  refine wp_seq_k (fun K12 hK12 => ?_)
  have M13 := M11.drew
  refine held_begin (fun W => Mem w (foots [disk D p pg mb qv, blk f 96 (fC V p), book B b ⟨lv, kv, vs⟩]) W [blk b 48 (bC B ⟨lv, kv, vs⟩)]) (by kernel_rfl) (M13.arr [3] (by decide)) (fun hS => ?_)
  refine held_take 0 _ rfl (by kernel_rfl) (by kernel_rfl) (by kernel_rfl) (y_move (v := .pointer (some ⟨f, 0, none⟩)) rfl rfl rfl) hS ?_
  simp only [Act.put, zq1, zq2, zq3]
  refine held_take 2 _ rfl (by kernel_rfl) (by kernel_rfl) (by kernel_rfl) (y_move (v := .pointer (some ⟨b, 0, none⟩)) rfl rfl rfl) hS ?_
  simp only [Act.put, zq1, zq2, zq3]
  refine held_take 3 _ rfl (by kernel_rfl) (by kernel_rfl) (by kernel_rfl) (y_nil rfl rfl rfl) hS ?_
  simp only [Act.put, zq1, zq2, zq3]
  refine held_take 4 _ rfl (by kernel_rfl) (by kernel_rfl) (by kernel_rfl) (y_fa (r := 2) rfl rfl rfl Try.underlying48 rfl Try.sizeOf3 rfl) hS ?_
  simp only [Act.put, zq1, zq2, zq3]
  refine held_take 5 _ rfl (by kernel_rfl) (by kernel_rfl) (by kernel_rfl) (y_load (v := .int .i64 B.mark) rfl rfl rfl Try.isAgg3 (fun W hW => hW.get 0 rfl) (rfl)) hS ?_
  simp only [Act.put, zq1, zq2, zq3]
  have hX14 : Mem w _ w11.drew ([disk D p pg mb qv, blk f 96 (fC ({ V with next := V.s.mark } : FV) p)] ++ [blk ga 50 ([.int .i64 3, .int .i64 n, .slice ao nn c]), blk b 48 (bC B ⟨lv, kv, vs⟩), rows lv vs B.loads, lst 3 1 kv B.ps.length B.kinds]) := M13.arr [0, 1, 2, 3, 4, 5] (by decide)
  refine held_step 1 (by kernel_rfl) rfl (by rfl) (fun K hK => ?_)
  refine e_call 20 [.pointer (some ⟨f, 0, none⟩)] rfl rfl Try.call20 (next_any (Mem.here hX14)) ?_
  rintro e w14 ⟨rfl, H14⟩
  have M14 : Mem w _ w14 [disk D p pg mb qv, blk f 96 (fC ({ V with next := V.s.mark } : FV) p), blk ga 50 ([.int .i64 3, .int .i64 n, .slice ao nn c]), blk b 48 (bC B ⟨lv, kv, vs⟩), rows lv vs B.loads, lst 3 1 kv B.ps.length B.kinds] := Mem.frame hX14 H14
  refine ⟨_, rfl, ?_⟩
  refine hK.out _ _ (M14.arr [3] (by decide)) (fun hS => ?_)
  clear hK K
  simp only [Act.put, zq1, zq2, zq3]
  refine held_take 6 _ rfl (by kernel_rfl) (by kernel_rfl) (by kernel_rfl) (y_eql (b := true) rfl rfl rfl rfl (decide_eq_true hm)) hS ?_
  simp only [Act.put, zq1, zq2, zq3]
  refine held_take 7 _ rfl (by kernel_rfl) (by kernel_rfl) (by kernel_rfl) (y_assign (v := .int .i64 0) rfl rfl rfl) hS ?_
  simp only [Act.put, zq1, zq2, zq3]
  refine held_take 8 _ rfl (by kernel_rfl) (by kernel_rfl) (by kernel_rfl) (y_assign (v := .bool true) rfl rfl rfl) hS ?_
  simp only [Act.put, zq1, zq2, zq3]
  refine held_done (by kernel_rfl) ?_ _
  refine hK12 _ _ ?_
  clear hK12
  refine wp_ret ?_
  try simp only [Exit.inBlock, Exit.then]
  refine bodyPost_ret (v := .tuple #[.int .i64 0, .bool true]) (res2 rfl rfl rfl) rfl ?_
  have N : Mem _ _ _ [book _ b ⟨lv, kv, vs⟩, _, _] := book_close (M14.arr [3, 4, 5, 0, 1] (by decide))
  exact ⟨⟨lv, kv, vs⟩, rfl, N.arr [1, 2, 0] (by decide)⟩
set_option maxRecDepth 100000 in
set_option maxHeartbeats 4000000 in
theorem act_other {D : DV} {V : FV} {B : BV} {p pg mb f b : Nat} {qv : Value} {bx : BX} {w : World} (hM : Mem w (foots [disk D p pg mb qv, blk f 96 (fC V p), book B b bx]) w [disk D p pg mb qv, blk f 96 (fC V p), book B b bx]) (kd n : Int) (ao : Option Addr) (nn c : Nat) (h1 : ¬ kd = 1) (h2 : ¬ kd = 2) (h3 : ¬ kd = 3) (h4 : ¬ kd = 4) : Calls Try.prog 27 #[.pointer (some ⟨b, 0, none⟩), .pointer (some ⟨p, 0, none⟩), .pointer (some ⟨f, 0, none⟩), .agg ([.int .i64 kd, .int .i64 n, .slice ao nn c]).toArray] w fun e w' => ∃ bx', e = .returned (.tuple #[.int .i64 0, .bool true]) ∧ Mem w (foots [disk D p pg mb qv, blk f 96 (fC V p), book B b bx]) w' [disk D p pg mb qv, blk f 96 (fC V p), book B b bx'] := by
  obtain ⟨lv, kv, vs⟩ := bx
  have M0 := book_open (hM.arr [2, 0, 1] (by decide))
  clear hM
  have M : Mem w _ w [disk D p pg mb qv, blk f 96 (fC V p), blk b 48 (bC B ⟨lv, kv, vs⟩), rows lv vs B.loads, lst 3 1 kv B.ps.length B.kinds] := M0.arr [3, 4, 0, 1, 2] (by decide)
  clear M0
  go_enter Try.func27, Try.ntmps27
  refine wp_seq_k (fun K1 hK1 => ?_)
  refine wp_region_lit ?_
  refine pe rfl (fun K hK => ?_)
  refine e_box M ([.int .i64 kd, .int .i64 n, .slice ao nn c]) rfl rfl ?_
  intro ga w2 (M2 : Mem w _ w2 [blk ga 50 ([.int .i64 kd, .int .i64 n, .slice ao nn c]), disk D p pg mb qv, blk f 96 (fC V p), blk b 48 (bC B ⟨lv, kv, vs⟩), rows lv vs B.loads, lst 3 1 kv B.ps.length B.kinds])
  clear M
  refine hK.out _ _ ?_
  clear hK K
  simp only [Act.put, zq1, zq2, zq3]
  refine pl M2 (y_assign (v := .int .i64 0) rfl rfl rfl) ?_
  simp only [Act.put, zq1, zq2, zq3]
  refine pl M2 (y_assign (v := .bool false) rfl rfl rfl) ?_
  simp only [Act.put, zq1, zq2, zq3]
  refine wpList_nil ?_
  refine hK1 _ _ ?_
  clear hK1
  refine wp_seq_k (fun K3 hK3 => ?_)
  refine wp_region_lit ?_
  refine pl M2 (y_move (v := .pointer (some ⟨f, 0, none⟩)) rfl rfl rfl) ?_
  simp only [Act.put, zq1, zq2, zq3]
  have hX4 : Mem w _ w2 ([disk D p pg mb qv, blk f 96 (fC V p)] ++ [blk ga 50 ([.int .i64 kd, .int .i64 n, .slice ao nn c]), blk b 48 (bC B ⟨lv, kv, vs⟩), rows lv vs B.loads, lst 3 1 kv B.ps.length B.kinds]) := M2.arr [1, 2, 0, 3, 4, 5] (by decide)
  refine pe rfl (fun K hK => ?_)
  refine e_call 20 [.pointer (some ⟨f, 0, none⟩)] rfl rfl Try.call20 (next_any (Mem.here hX4)) ?_
  rintro e w4 ⟨rfl, H4⟩
  have M4 : Mem w _ w4 [disk D p pg mb qv, blk f 96 (fC V p), blk ga 50 ([.int .i64 kd, .int .i64 n, .slice ao nn c]), blk b 48 (bC B ⟨lv, kv, vs⟩), rows lv vs B.loads, lst 3 1 kv B.ps.length B.kinds] := Mem.frame hX4 H4
  refine ⟨_, rfl, ?_⟩
  refine hK.out _ _ ?_
  clear hK K
  simp only [Act.put, zq1, zq2, zq3]
  refine pl M4 (y_assign (v := .int .i64 V.next) rfl rfl rfl) ?_
  simp only [Act.put, zq1, zq2, zq3]
  refine wpList_nil ?_
  refine hK3 _ _ ?_
  clear hK3
  refine wp_seq_k (fun K5 hK5 => ?_)
  refine wp_seq_k (fun K6 hK6 => ?_)
  refine wp_region_lit ?_
  refine pl M4 (y_fa (r := 0) rfl rfl rfl Try.underlying50 rfl Try.sizeOf3 rfl) ?_
  simp only [Act.put, zq1, zq2, zq3]
  refine pl M4 (y_load (v := .int .i64 kd) rfl rfl rfl Try.isAgg3 (fun W hW => hW.get 2 rfl) (rfl)) ?_
  simp only [Act.put, zq1, zq2, zq3]
  refine wpList_nil ?_
  refine hK6 _ _ ?_
  clear hK6
  refine wp_block ?_
  refine wp_seq_k (fun K7 hK7 => ?_)
  refine wp_region_lit ?_
  refine pl M4 (y_eql (b := false) rfl rfl rfl rfl (decide_eq_false h1)) ?_
  simp only [Act.put, zq1, zq2, zq3]
  refine pl M4 (y_assign (v := .bool false) rfl rfl rfl) ?_
  simp only [Act.put, zq1, zq2, zq3]
  refine wpList_nil ?_
  refine hK7 _ _ ?_
  clear hK7
  refine wp_cond_false rfl ?_
  refine wp_seq_k (fun K8 hK8 => ?_)
  refine wp_region_lit ?_
  refine pl M4 (y_eql (b := false) rfl rfl rfl rfl (decide_eq_false h2)) ?_
  simp only [Act.put, zq1, zq2, zq3]
  refine pl M4 (y_assign (v := .bool false) rfl rfl rfl) ?_
  simp only [Act.put, zq1, zq2, zq3]
  refine wpList_nil ?_
  refine hK8 _ _ ?_
  clear hK8
  refine wp_cond_false rfl ?_
  refine wp_seq_k (fun K9 hK9 => ?_)
  refine wp_region_lit ?_
  refine pl M4 (y_eql (b := false) rfl rfl rfl rfl (decide_eq_false h3)) ?_
  simp only [Act.put, zq1, zq2, zq3]
  refine pl M4 (y_assign (v := .bool false) rfl rfl rfl) ?_
  simp only [Act.put, zq1, zq2, zq3]
  refine wpList_nil ?_
  refine hK9 _ _ ?_
  clear hK9
  refine wp_cond_false rfl ?_
  refine wp_seq_k (fun K10 hK10 => ?_)
  refine wp_region_lit ?_
  refine pl M4 (y_eql (b := false) rfl rfl rfl rfl (decide_eq_false h4)) ?_
  simp only [Act.put, zq1, zq2, zq3]
  refine pl M4 (y_assign (v := .bool false) rfl rfl rfl) ?_
  simp only [Act.put, zq1, zq2, zq3]
  refine wpList_nil ?_
  refine hK10 _ _ ?_
  clear hK10
  refine wp_cond_false rfl ?_
  refine wp_skip ?_
  refine hK5 _ _ ?_
  clear hK5
  refine wp_seq_k (fun K11 hK11 => ?_)
  refine wp_region_lit ?_
  refine pl M4 (y_assign (v := .int .i64 0) rfl rfl rfl) ?_
  simp only [Act.put, zq1, zq2, zq3]
  refine pl M4 (y_assign (v := .bool true) rfl rfl rfl) ?_
  simp only [Act.put, zq1, zq2, zq3]
  refine wpList_nil ?_
  refine hK11 _ _ ?_
  clear hK11
  refine wp_ret ?_
  try simp only [Exit.inBlock, Exit.then]
  refine bodyPost_ret (v := .tuple #[.int .i64 0, .bool true]) (res2 rfl rfl rfl) rfl ?_
  have N : Mem _ _ _ [book _ b ⟨lv, kv, vs⟩, _, _] := book_close (M4.arr [3, 4, 5, 0, 1] (by decide))
  exact ⟨⟨lv, kv, vs⟩, rfl, N.arr [1, 2, 0] (by decide)⟩
end Go.Proofs.Ytehnnnohoaapdaa

/- Behind a loss of power. -/
namespace Go.Proofs.Ytehnnnohoaapdaa
set_option linter.unusedSectionVars false
open Go Go.RowKit
set_option linter.unusedVariables false
set_option linter.unusedSimpArgs false
end Go.Proofs.Ytehnnnohoaapdaa

/- One act on the book, whatever it is; and what stands behind a loss of power. -/
namespace Go.Proofs.Ytehnnnohoaapdaa
set_option linter.unusedSectionVars false
set_option linter.unusedSimpArgs false
open Go Go.RowKit
set_option linter.unusedVariables false
structure BInv (D : DV) (V : FV) (B : BV) : Prop where
  inv : Inv D V B.ps
  mark : V.s.mark = B.mark
  gen : V.s.gen = B.gen
  head : V.s.head = B.head
  inm : B.inMark = 0
  len : B.ps.length ≤ D.pages.length
structure Kept (D E : DV) (V V' : FV) (B B' : BV) : Prop where
  pages : E.pages.length = D.pages.length
  que : E.q.length ≤ D.q.length + 1
  width : V'.s.width = V.s.width
  gen : V'.s.gen ≤ V.s.gen + 1
  mark : B.mark ≤ B'.mark
  old : ∀ n : Nat, 2 ≤ n → (n : Int) < B.mark → pgAt B'.ps n = pgAt B.ps n
def DownB (D : DV) (S : SupV) (B : BV) : Prop :=
  ∃ late, Dead D S late B.ps ∧ S.mark = B.mark ∧ S.gen = B.gen ∧ S.head = B.head ∧ B.ps.length ≤ D.pages.length ∧
    ∀ S2, late = some S2 → 0 < B.inMark ∧ S2.mark = B.inMark ∧ S2.gen = B.gen + 1 ∧ S2.head = B.inHead ∧ S2.width = S.width ∧ S.mark ≤ S2.mark
def Out (D : DV) (V : FV) (B : BV) (kd er : Int) (E : DV) (V' : FV) (B' : BV) : Prop :=
  Kept D E V V' B B' ∧ ((er = 0 ∧ BInv E V' B' ∧ (kd ≠ 4 → D.armed = 0 → E.armed = 0)) ∨ (er = 2 ∧ D.armed ≠ 0 ∧ V' = V ∧ E.dead = true ∧ E.epoch = V.mine ∧ DownB E V.s B'))
theorem Kept.refl (D : DV) (V : FV) (B : BV) : Kept D D V V B B := ⟨rfl, Nat.le_succ _, rfl, by omega, Int.le_refl _, fun _ _ _ => rfl⟩
section
variable {D : DV} {V : FV} {B : BV} {p pg mb f b : Nat} {qv : Value} {bx : BX} {w : World}
end
end Go.Proofs.Ytehnnnohoaapdaa
