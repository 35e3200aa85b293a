/- Texts joined: Law5, Law6, Law7, LawB. -/
import Derived.Test.YtehnnnohoaapdaaFF15
/- One act on the book: Append. -/
namespace Go.Proofs.Ytehnnnohoaapdaa
set_option linter.unusedSectionVars false
open Go Go.RowKit
set_option linter.unusedVariables false
set_option linter.unusedSimpArgs false
theorem Mem.off {w0 w : World} {F : List Nat} {L : List Asn} {ao : Option Addr} {n c : Nat} {l : List UInt8} (h : Mem w0 F w (bytesL (.slice ao n c) l :: L)) : ∀ {k : Nat} (b o : Nat), ao = some ⟨b, o, none⟩ → 0 < k → b ∉ foots L := by
  intro k b o e _ hb
  subst e
  have hn := h.nodup
  rw [foots_cons, List.nodup_append] at hn
  exact hn.2.2 b (by show b ∈ obs (Value.slice (some ⟨b, o, none⟩) n c); rw [mem_obs]; rfl) b hb rfl
theorem Mem.old_off {w0 w : World} {F : List Nat} {L : List Asn} (h : Mem w0 F w L) {b : Nat} (hb : b < w0.heap.size) (hF : b ∉ F) : b ∉ foots L := fun hx => by
  rcases h.new b hx with h1 | h1
  · exact hF h1
  · omega
theorem xapp_full {D : DV} {V : FV} {ps : Pgs} {f p pg mb : Nat} {qv : Value} {w : World} (hM : Mem w (foots [disk D p pg mb qv, blk f 96 (fC V p)]) w [disk D p pg mb qv, blk f 96 (fC V p)]) (h : Inv D V ps) (k : Nat) (ao : Option Addr) (n c : Nat) (l : List UInt8) (hx : PageOk (k, l)) (hr : Row w ao n l) (hF : ∀ b o, ao = some ⟨b, o, none⟩ → 0 < n → b ∉ foots [disk D p pg mb qv, blk f 96 (fC V p)]) (hq : D.q.length ≤ 400000000000) (hn : V.next = (D.pages.length : Int)) :
    Calls Try.prog 26 #[.pointer (some ⟨f, 0, none⟩), .int .i64 (k : Int), .slice ao n c] w fun e w' => ∃ qv', e = .returned (.tuple #[.int .i64 0, .int .i64 5]) ∧ Mem w (foots [disk D p pg mb qv, blk f 96 (fC V p)]) w' [disk D p pg mb qv', blk f 96 (fC V p)] := by
  obtain ⟨a1, a2, a3, a4⟩ := h.full hx hn
  have := app_any hM (k : Int) ao n c l hr hF (by omega) h.fok
  rw [a1, a2, a3, a4] at this
  exact this
theorem xapp_go {D : DV} {V : FV} {ps : Pgs} {f p pg mb : Nat} {qv : Value} {w : World} (hM : Mem w (foots [disk D p pg mb qv, blk f 96 (fC V p)]) w [disk D p pg mb qv, blk f 96 (fC V p)]) (h : Inv D V ps) (k : Nat) (ao : Option Addr) (n c : Nat) (l : List UInt8) (hx : PageOk (k, l)) (hr : Row w ao n l) (hF : ∀ b o, ao = some ⟨b, o, none⟩ → 0 < n → b ∉ foots [disk D p pg mb qv, blk f 96 (fC V p)]) (hq : D.q.length ≤ 400000000000) (hn : V.next < (D.pages.length : Int)) (m : Nat) (hm : V.next = ((m + 2 : Nat) : Int)) (h0 : actE D = 0) :
    Calls Try.prog 26 #[.pointer (some ⟨f, 0, none⟩), .int .i64 (k : Int), .slice ao n c] w fun e w' => ∃ E qv', e = .returned (.tuple #[.int .i64 ((m + 2 : Nat) : Int), .int .i64 0]) ∧ Mem w (foots [disk D p pg mb qv, blk f 96 (fC V p)]) w' [disk E p pg mb qv', blk f 96 (fC { V with next := V.next + 1 } p)] ∧ E = appD D V k l ∧ Inv E { V with next := V.next + 1 } (putP ps (m + 2) (k, l)) ∧ E.pages.length = D.pages.length := by
  obtain ⟨a1, a2, a3, a4⟩ := h.app hx hn
  have hA := a3 h0
  rw [h0] at a1
  obtain ⟨b1, b2⟩ := app_yes a1
  have := app_any hM (k : Int) ao n c l hr hF (by omega) h.fok
  rw [a1, b1, b2, hm] at this
  have e1 : V.next.toNat = m + 2 := by omega
  rw [e1] at hA
  refine this.mono ?_
  rintro e w' ⟨qv', rfl, h3⟩
  rw [← hm] at h3
  refine ⟨_, qv', rfl, h3, rfl, hA, ?_⟩
  rw [a2, actD_pages]; rfl
theorem xapp_down {D : DV} {V : FV} {ps : Pgs} {f p pg mb : Nat} {qv : Value} {w : World} (hM : Mem w (foots [disk D p pg mb qv, blk f 96 (fC V p)]) w [disk D p pg mb qv, blk f 96 (fC V p)]) (h : Inv D V ps) (k : Nat) (ao : Option Addr) (n c : Nat) (l : List UInt8) (hx : PageOk (k, l)) (hr : Row w ao n l) (hF : ∀ b o, ao = some ⟨b, o, none⟩ → 0 < n → b ∉ foots [disk D p pg mb qv, blk f 96 (fC V p)]) (hq : D.q.length ≤ 400000000000) (hn : V.next < (D.pages.length : Int)) (h0 : actE D = 2) :
    Calls Try.prog 26 #[.pointer (some ⟨f, 0, none⟩), .int .i64 (k : Int), .slice ao n c] w fun e w' => ∃ E qv', e = .returned (.tuple #[.int .i64 0, .int .i64 2]) ∧ Mem w (foots [disk D p pg mb qv, blk f 96 (fC V p)]) w' [disk E p pg mb qv', blk f 96 (fC V p)] ∧ E = appD D V k l ∧ E.pages.length = D.pages.length := by
  obtain ⟨a1, a2, a3, a4⟩ := h.app hx hn
  rw [h0] at a1
  obtain ⟨b1, b2⟩ := app_no a1 (by decide)
  have := app_any hM (k : Int) ao n c l hr hF (by omega) h.fok
  rw [a1, b1, b2] at this
  refine this.mono ?_
  rintro e w' ⟨qv', rfl, h3⟩
  refine ⟨_, qv', rfl, h3, rfl, ?_⟩
  rw [a2, actD_pages]; rfl
theorem xpub_go {D : DV} {V : FV} {ps : Pgs} {f p pg mb : Nat} {qv : Value} {w : World} (hM : Mem w (foots [disk D p pg mb qv, blk f 96 (fC V p)]) w [disk D p pg mb qv, blk f 96 (fC V p)]) (h : Inv D V ps) (head : Int) (hq : D.q.length ≤ 400000000000) (h0 : (pubR D V head).2 = 0) (hp : (pubR D V head).1.pages.length = D.pages.length) :
    Calls Try.prog 28 #[.pointer (some ⟨f, 0, none⟩), .int .i64 head] w fun e w' => ∃ E qv', e = .returned (.int .i64 0) ∧ Mem w (foots [disk D p pg mb qv, blk f 96 (fC V p)]) w' [disk E p pg mb qv', blk f 96 (fC { V with s := pubS V head } p)] ∧ E = (pubR D V head).1 ∧ E.pages.length = D.pages.length := by
  have := pub_any hM head hq h.fok
  have e1 : pubV D V head = { V with s := pubS V head } := if_pos h0
  rw [h0, e1] at this
  refine this.mono ?_
  rintro e w' ⟨qv', rfl, h3⟩
  exact ⟨_, qv', rfl, h3, rfl, hp⟩
theorem xpub_down {D : DV} {V : FV} {ps : Pgs} {f p pg mb : Nat} {qv : Value} {w : World} (hM : Mem w (foots [disk D p pg mb qv, blk f 96 (fC V p)]) w [disk D p pg mb qv, blk f 96 (fC V p)]) (h : Inv D V ps) (head : Int) (hq : D.q.length ≤ 400000000000) (h0 : (pubR D V head).2 = 2) (hp : (pubR D V head).1.pages.length = D.pages.length) :
    Calls Try.prog 28 #[.pointer (some ⟨f, 0, none⟩), .int .i64 head] w fun e w' => ∃ E qv', e = .returned (.int .i64 2) ∧ Mem w (foots [disk D p pg mb qv, blk f 96 (fC V p)]) w' [disk E p pg mb qv', blk f 96 (fC V p)] ∧ E = (pubR D V head).1 ∧ E.pages.length = D.pages.length := by
  have := pub_any hM head hq h.fok
  have e1 : pubV D V head = V := if_neg (by rw [h0]; decide)
  rw [h0, e1] at this
  refine this.mono ?_
  rintro e w' ⟨qv', rfl, h3⟩
  exact ⟨_, qv', rfl, h3, rfl, hp⟩
set_option maxRecDepth 100000 in
set_option maxHeartbeats 4000000 in
theorem act_full {D : DV} {V : FV} {B : BV} {p pg mb f b : Nat} {qv : Value} {bx : BX} {w : World} (hM : Mem w (foots [disk D p pg mb qv, blk f 96 (fC V p), book B b bx]) w [disk D p pg mb qv, blk f 96 (fC V p), book B b bx]) (n : Int) (ao : Option Addr) (nn c : Nat) (l : List UInt8) (hr : Row w ao nn l) (hF : ∀ b₁ o, ao = some ⟨b₁, o, none⟩ → 0 < nn → b₁ ∉ foots [disk D p pg mb qv, blk f 96 (fC V p), book B b bx]) (hnn : nn ≤ 140737488351232) (hq : D.q.length ≤ 400000000000) (hI : Inv D V B.ps) (hf : V.next = (D.pages.length : Int)) : Calls Try.prog 27 #[.pointer (some ⟨b, 0, none⟩), .pointer (some ⟨p, 0, none⟩), .pointer (some ⟨f, 0, none⟩), .agg ([.int .i64 1, .int .i64 n, .slice ao nn c]).toArray] w fun e w' => ∃ qv' bx', e = .returned (.tuple #[.int .i64 0, .bool true]) ∧ Mem w (foots [disk D p pg mb qv, blk f 96 (fC V p), book B b bx]) w' [disk D p pg mb qv', blk f 96 (fC V p), book B b bx'] := by
  obtain ⟨lv, kv, vs⟩ := bx
  have M0 := book_open (hM.arr [2, 0, 1] (by decide))
  clear hM
  have M : Mem w _ w [disk D p pg mb qv, blk f 96 (fC V p), blk b 48 (bC B ⟨lv, kv, vs⟩), rows lv vs B.loads, lst 3 1 kv B.ps.length B.kinds] := M0.arr [3, 4, 0, 1, 2] (by decide)
  clear M0
  obtain ⟨k, hk⟩ : ∃ k : Nat, 1 + n % 3 = (k : Int) := Int.eq_ofNat_of_zero_le (by omega)
  have hnl := hr.1
  go_enter Try.func27, Try.ntmps27
  refine wp_seq_k (fun K1 hK1 => ?_)
  refine wp_region_lit ?_
  refine pe rfl (fun K hK => ?_)
  refine e_box M ([.int .i64 1, .int .i64 n, .slice ao nn c]) rfl rfl ?_
  intro ga w2 (M2 : Mem w _ w2 [blk ga 50 ([.int .i64 1, .int .i64 n, .slice ao nn c]), disk D p pg mb qv, blk f 96 (fC V p), blk b 48 (bC B ⟨lv, kv, vs⟩), rows lv vs B.loads, lst 3 1 kv B.ps.length B.kinds])
  clear M
  refine hK.out _ _ ?_
  clear hK K
  simp only [Act.put, z1, z2, z3]
  refine pl M2 (y_assign (v := .int .i64 0) rfl rfl rfl) ?_
  simp only [Act.put, z1, z2, z3]
  refine pl M2 (y_assign (v := .bool false) rfl rfl rfl) ?_
  simp only [Act.put, z1, z2, z3]
  refine wpList_nil ?_
  refine hK1 _ _ ?_
  clear hK1
  refine wp_seq_k (fun K3 hK3 => ?_)
  refine wp_region_lit ?_
  refine pl M2 (y_move (v := .pointer (some ⟨f, 0, none⟩)) rfl rfl rfl) ?_
  simp only [Act.put, z1, z2, z3]
  have hX4 : Mem w _ w2 ([disk D p pg mb qv, blk f 96 (fC V p)] ++ [blk ga 50 ([.int .i64 1, .int .i64 n, .slice ao nn c]), blk b 48 (bC B ⟨lv, kv, vs⟩), rows lv vs B.loads, lst 3 1 kv B.ps.length B.kinds]) := M2.arr [1, 2, 0, 3, 4, 5] (by decide)
  refine pe rfl (fun K hK => ?_)
  refine e_call 20 [.pointer (some ⟨f, 0, none⟩)] rfl rfl Try.call20 (next_any (Mem.here hX4)) ?_
  rintro e w4 ⟨rfl, H4⟩
  have M4 : Mem w _ w4 [disk D p pg mb qv, blk f 96 (fC V p), blk ga 50 ([.int .i64 1, .int .i64 n, .slice ao nn c]), blk b 48 (bC B ⟨lv, kv, vs⟩), rows lv vs B.loads, lst 3 1 kv B.ps.length B.kinds] := Mem.frame hX4 H4
  refine ⟨_, rfl, ?_⟩
  refine hK.out _ _ ?_
  clear hK K
  simp only [Act.put, z1, z2, z3]
  refine pl M4 (y_assign (v := .int .i64 V.next) rfl rfl rfl) ?_
  simp only [Act.put, z1, z2, z3]
  refine wpList_nil ?_
  refine hK3 _ _ ?_
  clear hK3
  refine wp_seq_k (fun K5 hK5 => ?_)
  refine wp_seq_k (fun K6 hK6 => ?_)
  refine wp_region_lit ?_
  refine pl M4 (y_fa (r := 0) rfl rfl rfl Try.underlying50 rfl Try.sizeOf3 rfl) ?_
  simp only [Act.put, z1, z2, z3]
  refine pl M4 (y_load (v := .int .i64 1) rfl rfl rfl Try.isAgg3 (fun W hW => hW.get 2 rfl) (rfl)) ?_
  simp only [Act.put, z1, z2, z3]
  refine wpList_nil ?_
  refine hK6 _ _ ?_
  clear hK6
  refine wp_block ?_
  refine wp_seq_k (fun K7 hK7 => ?_)
  refine wp_region_lit ?_
  refine pl M4 (y_eql (b := true) rfl rfl rfl rfl (decide_eq_true (by decide))) ?_
  simp only [Act.put, z1, z2, z3]
  refine pl M4 (y_assign (v := .bool true) rfl rfl rfl) ?_
  simp only [Act.put, z1, z2, z3]
  refine wpList_nil ?_
  refine hK7 _ _ ?_
  clear hK7
  refine wp_cond_true rfl ?_
  refine wp_seq_k (fun K8 hK8 => ?_)
  refine wp_region_lit ?_
  refine pl M4 (y_fa (r := 1) rfl rfl rfl Try.underlying50 rfl Try.sizeOf3 rfl) ?_
  simp only [Act.put, z1, z2, z3]
  refine pl M4 (y_load (v := .int .i64 n) rfl rfl rfl Try.isAgg3 (fun W hW => hW.get 2 rfl) (rfl)) ?_
  simp only [Act.put, z1, z2, z3]
  refine pe rfl (fun K hK => ?_)
  refine e_call 13 [.int .i64 n, .int .i64 3] rfl rfl Try.call13 (place3_any n 3 (by decide) (by decide) _) ?_
  rintro e w9 ⟨rfl, H9⟩
  have M9 : Mem w _ w9 [disk D p pg mb qv, blk f 96 (fC V p), blk ga 50 ([.int .i64 1, .int .i64 n, .slice ao nn c]), blk b 48 (bC B ⟨lv, kv, vs⟩), rows lv vs B.loads, lst 3 1 kv B.ps.length B.kinds] := M4.step H9
  refine ⟨_, rfl, ?_⟩
  refine hK.out _ _ ?_
  clear hK K
  simp only [Act.put, z1, z2, z3]
  refine pl M9 (y_add (r := (k : Int)) rfl rfl rfl rfl (hk) (by omega)) ?_
  simp only [Act.put, z1, z2, z3]
  refine pl M9 (y_assign (v := .int .i64 (k : Int)) rfl rfl rfl) ?_
  simp only [Act.put, z1, z2, z3]
  refine wpList_nil ?_
  refine hK8 _ _ ?_
  clear hK8
  refine wp_seq_k (fun K10 hK10 => ?_)
  refine wp_region_lit ?_
  refine pl M9 (y_fa (r := 2) rfl rfl rfl Try.underlying50 rfl Try.sizeOf22 rfl) ?_
  simp only [Act.put, z1, z2, z3]
  refine pl M9 (y_load (v := .slice ao nn c) rfl rfl rfl Try.isAgg22 (fun W hW => hW.get 2 rfl) (rfl)) ?_
  simp only [Act.put, z1, z2, z3]
  refine pe rfl (fun K hK => ?_)
  refine e_call 32 [.slice ao nn c] rfl rfl Try.call32 (copy_any ao nn c l _ (M9.row hr hF) (by omega)) ?_
  rintro e w11 ⟨a1, c1, rfl, H11⟩
  have M11 : Mem w _ w11 [bytesL (.slice a1 l.length c1) l, disk D p pg mb qv, blk f 96 (fC V p), blk ga 50 ([.int .i64 1, .int .i64 n, .slice ao nn c]), blk b 48 (bC B ⟨lv, kv, vs⟩), rows lv vs B.loads, lst 3 1 kv B.ps.length B.kinds] := M9.step H11
  refine ⟨_, rfl, ?_⟩
  refine hK.out _ _ ?_
  clear hK K
  simp only [Act.put, z1, z2, z3]
  refine pl M11 (y_assign (v := .slice a1 l.length c1) rfl rfl rfl) ?_
  simp only [Act.put, z1, z2, z3]
  refine wpList_nil ?_
  refine hK10 _ _ ?_
  clear hK10
  refine wp_seq_k (fun K12 hK12 => ?_)
  refine wp_seq_k (fun K13 hK13 => ?_)
  refine wp_region_lit ?_
  refine pl M11 (y_move (v := .slice a1 l.length c1) rfl rfl rfl) ?_
  simp only [Act.put, z1, z2, z3]
  refine pl M11 (y_len rfl rfl rfl Try.underlying22) ?_
  simp only [Act.put, z1, z2, z3]
  rcases Decidable.em ((246 : Int) < (l.length : Int)) with h14 | h14
  · refine pl M11 (y_gtr (b := true) rfl rfl rfl rfl (decide_eq_true h14)) ?_
    simp only [Act.put, z1, z2, z3]
    refine wpList_nil ?_
    refine hK13 _ _ ?_
    clear hK13
    refine wp_cond_true rfl ?_
    refine wp_region_lit ?_
    refine pl M11 (y_move (v := .slice a1 l.length c1) rfl rfl rfl) ?_
    simp only [Act.put, z1, z2, z3]
    have hcc : l.length ≤ c1 := bytesL_cap (M11.get 0 rfl)
    refine pl M11 (y_slt (h := 246) rfl rfl rfl rfl Try.underlying22 Try.sizeOf5 (by omega)) ?_
    simp only [Act.put, z1, z2, z3]
    have h246 : (l.take 246).length = 246 := by rw [List.length_take]; omega
    have M15 : Mem w (foots [disk D p pg mb qv, blk f 96 (fC V p), book B b ⟨lv, kv, vs⟩]) w11 [bytesL (.slice a1 (l.take 246).length c1) (l.take 246), disk D p pg mb qv, blk f 96 (fC V p), blk ga 50 ([.int .i64 1, .int .i64 n, .slice ao nn c]), blk b 48 (bC B ⟨lv, kv, vs⟩), rows lv vs B.loads, lst 3 1 kv B.ps.length B.kinds] := by
      rw [h246]
      have N := Mem.front M11 0 (m := 246) rfl (by omega)
      have e : (bvs l).take (246 * 1) = bvs (l.take 246) := by unfold bvs; rw [List.map_take]
      rw [e] at N
      unfold bytesL
      rw [h246]
      exact N
    clear M11
    refine pl M15 (y_assign (v := .slice a1 246 c1) rfl rfl rfl) ?_
    simp only [Act.put, z1, z2, z3]
    refine wpList_nil ?_
    refine hK12 _ _ ?_
    clear hK12
    refine wp_seq_k (fun K16 hK16 => ?_)
    refine wp_region_lit ?_
    refine pl M15 (y_move (v := .pointer (some ⟨f, 0, none⟩)) rfl rfl rfl) ?_
    simp only [Act.put, z1, z2, z3]
    refine pl M15 (y_move (v := .int .i64 (k : Int)) rfl rfl rfl) ?_
    simp only [Act.put, z1, z2, z3]
    refine pl M15 (y_move (v := .slice a1 246 c1) rfl rfl rfl) ?_
    simp only [Act.put, z1, z2, z3]
    have hxo : PageOk (k, (l.take 246)) := ⟨⟨by show 1 ≤ k; omega, by show k ≤ 3; omega⟩, by show (l.take 246).length ≤ 246; omega⟩
    have hX17 : Mem w _ w11 ([disk D p pg mb qv, blk f 96 (fC V p)] ++ [bytesL (.slice a1 (l.take 246).length c1) (l.take 246), blk ga 50 ([.int .i64 1, .int .i64 n, .slice ao nn c]), blk b 48 (bC B ⟨lv, kv, vs⟩), rows lv vs B.loads, lst 3 1 kv B.ps.length B.kinds]) := M15.arr [1, 2, 0, 3, 4, 5, 6] (by decide)
    refine pe rfl (fun K hK => ?_)
    refine e_call 26 [.pointer (some ⟨f, 0, none⟩), .int .i64 (k : Int), .slice a1 246 c1] rfl rfl Try.call26 (xapp_full (Mem.here hX17) hI k a1 246 c1 (l.take 246) hxo (by have N := bytesL_row (M15.get 0 rfl); rw [h246] at N; exact N) (Mem.off (L := [disk D p pg mb qv, blk f 96 (fC V p)]) (M15.arr [0, 1, 2] (by decide))) hq hf) ?_
    rintro e w17 ⟨qv', rfl, H17⟩
    have M17 : Mem w _ w17 [disk D p pg mb qv', blk f 96 (fC V p), bytesL (.slice a1 (l.take 246).length c1) (l.take 246), blk ga 50 ([.int .i64 1, .int .i64 n, .slice ao nn c]), blk b 48 (bC B ⟨lv, kv, vs⟩), rows lv vs B.loads, lst 3 1 kv B.ps.length B.kinds] := Mem.frame hX17 H17
    refine ⟨_, rfl, ?_⟩
    refine hK.out _ _ ?_
    clear hK K
    simp only [Act.put, z1, z2, z3]
    refine pl M17 (y_move (v := .tuple #[.int .i64 0, .int .i64 5]) rfl rfl rfl) ?_
    simp only [Act.put, z1, z2, z3]
    refine pl M17 (y_ext (v := .int .i64 0) rfl rfl rfl rfl) ?_
    simp only [Act.put, z1, z2, z3]
    refine pl M17 (y_ext (v := .int .i64 5) rfl rfl rfl rfl) ?_
    simp only [Act.put, z1, z2, z3]
    refine pl M17 (y_assign (v := .int .i64 0) rfl rfl rfl) ?_
    simp only [Act.put, z1, z2, z3]
    refine pl M17 (y_assign (v := .int .i64 5) rfl rfl rfl) ?_
    simp only [Act.put, z1, z2, z3]
    refine wpList_nil ?_
    refine hK16 _ _ ?_
    clear hK16
    refine wp_seq_k (fun K18 hK18 => ?_)
    refine wp_seq_k (fun K19 hK19 => ?_)
    refine wp_region_lit ?_
    refine pl M17 (y_move (v := .int .i64 V.next) rfl rfl rfl) ?_
    simp only [Act.put, z1, z2, z3]
    refine pl M17 (y_move (v := .pointer (some ⟨f, 0, none⟩)) rfl rfl rfl) ?_
    simp only [Act.put, z1, z2, z3]
    refine pl M17 (y_nil rfl rfl rfl) ?_
    simp only [Act.put, z1, z2, z3]
    refine pl M17 (y_fa (r := 0) rfl rfl rfl Try.underlying96 rfl Try.sizeOf24 rfl) ?_
    simp only [Act.put, z1, z2, z3]
    refine pl M17 (y_load (v := .pointer (some ⟨p, 0, none⟩)) rfl rfl rfl Try.isAgg24 (fun W hW => hW.get 1 rfl) (rfl)) ?_
    simp only [Act.put, z1, z2, z3]
    have hX20 : Mem w _ w17 ([disk D p pg mb qv'] ++ [blk f 96 (fC V p), bytesL (.slice a1 (l.take 246).length c1) (l.take 246), blk ga 50 ([.int .i64 1, .int .i64 n, .slice ao nn c]), blk b 48 (bC B ⟨lv, kv, vs⟩), rows lv vs B.loads, lst 3 1 kv B.ps.length B.kinds]) := M17.arr [0, 1, 2, 3, 4, 5, 6] (by decide)
    refine pe rfl (fun K hK => ?_)
    refine e_call 24 [.pointer (some ⟨p, 0, none⟩)] rfl rfl Try.call24 (pages_any (Mem.here hX20)) ?_
    rintro e w20 ⟨rfl, H20⟩
    have M20 : Mem w _ w20 [disk D p pg mb qv', blk f 96 (fC V p), bytesL (.slice a1 (l.take 246).length c1) (l.take 246), blk ga 50 ([.int .i64 1, .int .i64 n, .slice ao nn c]), blk b 48 (bC B ⟨lv, kv, vs⟩), rows lv vs B.loads, lst 3 1 kv B.ps.length B.kinds] := Mem.frame hX20 H20
    refine ⟨_, rfl, ?_⟩
    refine hK.out _ _ ?_
    clear hK K
    simp only [Act.put, z1, z2, z3]
    refine pl M20 (y_eql (b := true) rfl rfl rfl rfl (decide_eq_true hf)) ?_
    simp only [Act.put, z1, z2, z3]
    refine wpList_nil ?_
    refine hK19 _ _ ?_
    clear hK19
    refine wp_cond_true rfl ?_
    refine wp_seq_k (fun K21 hK21 => ?_)
    refine wp_region_lit ?_
    refine pl M20 (y_move (v := .int .i64 5) rfl rfl rfl) ?_
    simp only [Act.put, z1, z2, z3]
    refine pl M20 (y_eql (b := true) rfl rfl rfl rfl (decide_eq_true (by decide))) ?_
    simp only [Act.put, z1, z2, z3]
    refine pl M20 (y_move (v := .bool true) rfl rfl rfl) ?_
    simp only [Act.put, z1, z2, z3]
    refine pl M20 (y_move (v := .int .i64 0) rfl rfl rfl) ?_
    simp only [Act.put, z1, z2, z3]
    refine pl M20 (y_eql (b := true) rfl rfl rfl rfl (decide_eq_true (by decide))) ?_
    simp only [Act.put, z1, z2, z3]
    refine pl M20 (y_pickT (v := .bool true) rfl rfl rfl rfl) ?_
    simp only [Act.put, z1, z2, z3]
    refine pl M20 (y_assign (v := .int .i64 0) rfl rfl rfl) ?_
    simp only [Act.put, z1, z2, z3]
    refine pl M20 (y_assign (v := .bool true) rfl rfl rfl) ?_
    simp only [Act.put, z1, z2, z3]
    refine wpList_nil ?_
    refine hK21 _ _ ?_
    clear hK21
    refine wp_ret ?_
    try simp only [Exit.inBlock, Exit.then]
    refine bodyPost_ret (v := .tuple #[.int .i64 0, .bool true]) (res2 rfl rfl rfl) rfl ?_
    have N : Mem _ _ _ [book _ b ⟨lv, kv, vs⟩, _, _] := book_close (M20.arr [4, 5, 6, 0, 1] (by decide))
    exact ⟨qv', ⟨lv, kv, vs⟩, rfl, N.arr [1, 2, 0] (by decide)⟩
  · refine pl M11 (y_gtr (b := false) rfl rfl rfl rfl (decide_eq_false h14)) ?_
    simp only [Act.put, z1, z2, z3]
    refine wpList_nil ?_
    refine hK13 _ _ ?_
    clear hK13
    refine wp_cond_false rfl ?_
    refine wp_skip ?_
    refine hK12 _ _ ?_
    clear hK12
    refine wp_seq_k (fun K22 hK22 => ?_)
    refine wp_region_lit ?_
    refine pl M11 (y_move (v := .pointer (some ⟨f, 0, none⟩)) rfl rfl rfl) ?_
    simp only [Act.put, z1, z2, z3]
    refine pl M11 (y_move (v := .int .i64 (k : Int)) rfl rfl rfl) ?_
    simp only [Act.put, z1, z2, z3]
    refine pl M11 (y_move (v := .slice a1 l.length c1) rfl rfl rfl) ?_
    simp only [Act.put, z1, z2, z3]
    have hxo : PageOk (k, l) := ⟨⟨by show 1 ≤ k; omega, by show k ≤ 3; omega⟩, by show l.length ≤ 246; omega⟩
    have hX23 : Mem w _ w11 ([disk D p pg mb qv, blk f 96 (fC V p)] ++ [bytesL (.slice a1 l.length c1) l, blk ga 50 ([.int .i64 1, .int .i64 n, .slice ao nn c]), blk b 48 (bC B ⟨lv, kv, vs⟩), rows lv vs B.loads, lst 3 1 kv B.ps.length B.kinds]) := M11.arr [1, 2, 0, 3, 4, 5, 6] (by decide)
    refine pe rfl (fun K hK => ?_)
    refine e_call 26 [.pointer (some ⟨f, 0, none⟩), .int .i64 (k : Int), .slice a1 l.length c1] rfl rfl Try.call26 (xapp_full (Mem.here hX23) hI k a1 l.length c1 l hxo (by have N := bytesL_row (M11.get 0 rfl); exact N) (Mem.off (L := [disk D p pg mb qv, blk f 96 (fC V p)]) (M11.arr [0, 1, 2] (by decide))) hq hf) ?_
    rintro e w23 ⟨qv', rfl, H23⟩
    have M23 : Mem w _ w23 [disk D p pg mb qv', blk f 96 (fC V p), bytesL (.slice a1 l.length c1) l, blk ga 50 ([.int .i64 1, .int .i64 n, .slice ao nn c]), blk b 48 (bC B ⟨lv, kv, vs⟩), rows lv vs B.loads, lst 3 1 kv B.ps.length B.kinds] := Mem.frame hX23 H23
    refine ⟨_, rfl, ?_⟩
    refine hK.out _ _ ?_
    clear hK K
    simp only [Act.put, z1, z2, z3]
    refine pl M23 (y_move (v := .tuple #[.int .i64 0, .int .i64 5]) rfl rfl rfl) ?_
    simp only [Act.put, z1, z2, z3]
    refine pl M23 (y_ext (v := .int .i64 0) rfl rfl rfl rfl) ?_
    simp only [Act.put, z1, z2, z3]
    refine pl M23 (y_ext (v := .int .i64 5) rfl rfl rfl rfl) ?_
    simp only [Act.put, z1, z2, z3]
    refine pl M23 (y_assign (v := .int .i64 0) rfl rfl rfl) ?_
    simp only [Act.put, z1, z2, z3]
    refine pl M23 (y_assign (v := .int .i64 5) rfl rfl rfl) ?_
    simp only [Act.put, z1, z2, z3]
    refine wpList_nil ?_
    refine hK22 _ _ ?_
    clear hK22
    refine wp_seq_k (fun K24 hK24 => ?_)
    refine wp_seq_k (fun K25 hK25 => ?_)
    refine wp_region_lit ?_
    refine pl M23 (y_move (v := .int .i64 V.next) rfl rfl rfl) ?_
    simp only [Act.put, z1, z2, z3]
    refine pl M23 (y_move (v := .pointer (some ⟨f, 0, none⟩)) rfl rfl rfl) ?_
    simp only [Act.put, z1, z2, z3]
    refine pl M23 (y_nil rfl rfl rfl) ?_
    simp only [Act.put, z1, z2, z3]
    refine pl M23 (y_fa (r := 0) rfl rfl rfl Try.underlying96 rfl Try.sizeOf24 rfl) ?_
    simp only [Act.put, z1, z2, z3]
    refine pl M23 (y_load (v := .pointer (some ⟨p, 0, none⟩)) rfl rfl rfl Try.isAgg24 (fun W hW => hW.get 1 rfl) (rfl)) ?_
    simp only [Act.put, z1, z2, z3]
    have hX26 : Mem w _ w23 ([disk D p pg mb qv'] ++ [blk f 96 (fC V p), bytesL (.slice a1 l.length c1) l, blk ga 50 ([.int .i64 1, .int .i64 n, .slice ao nn c]), blk b 48 (bC B ⟨lv, kv, vs⟩), rows lv vs B.loads, lst 3 1 kv B.ps.length B.kinds]) := M23.arr [0, 1, 2, 3, 4, 5, 6] (by decide)
    refine pe rfl (fun K hK => ?_)
    refine e_call 24 [.pointer (some ⟨p, 0, none⟩)] rfl rfl Try.call24 (pages_any (Mem.here hX26)) ?_
    rintro e w26 ⟨rfl, H26⟩
    have M26 : Mem w _ w26 [disk D p pg mb qv', blk f 96 (fC V p), bytesL (.slice a1 l.length c1) l, blk ga 50 ([.int .i64 1, .int .i64 n, .slice ao nn c]), blk b 48 (bC B ⟨lv, kv, vs⟩), rows lv vs B.loads, lst 3 1 kv B.ps.length B.kinds] := Mem.frame hX26 H26
    refine ⟨_, rfl, ?_⟩
    refine hK.out _ _ ?_
    clear hK K
    simp only [Act.put, z1, z2, z3]
    refine pl M26 (y_eql (b := true) rfl rfl rfl rfl (decide_eq_true hf)) ?_
    simp only [Act.put, z1, z2, z3]
    refine wpList_nil ?_
    refine hK25 _ _ ?_
    clear hK25
    refine wp_cond_true rfl ?_
    refine wp_seq_k (fun K27 hK27 => ?_)
    refine wp_region_lit ?_
    refine pl M26 (y_move (v := .int .i64 5) rfl rfl rfl) ?_
    simp only [Act.put, z1, z2, z3]
    refine pl M26 (y_eql (b := true) rfl rfl rfl rfl (decide_eq_true (by decide))) ?_
    simp only [Act.put, z1, z2, z3]
    refine pl M26 (y_move (v := .bool true) rfl rfl rfl) ?_
    simp only [Act.put, z1, z2, z3]
    refine pl M26 (y_move (v := .int .i64 0) rfl rfl rfl) ?_
    simp only [Act.put, z1, z2, z3]
    refine pl M26 (y_eql (b := true) rfl rfl rfl rfl (decide_eq_true (by decide))) ?_
    simp only [Act.put, z1, z2, z3]
    refine pl M26 (y_pickT (v := .bool true) rfl rfl rfl rfl) ?_
    simp only [Act.put, z1, z2, z3]
    refine pl M26 (y_assign (v := .int .i64 0) rfl rfl rfl) ?_
    simp only [Act.put, z1, z2, z3]
    refine pl M26 (y_assign (v := .bool true) rfl rfl rfl) ?_
    simp only [Act.put, z1, z2, z3]
    refine wpList_nil ?_
    refine hK27 _ _ ?_
    clear hK27
    refine wp_ret ?_
    try simp only [Exit.inBlock, Exit.then]
    refine bodyPost_ret (v := .tuple #[.int .i64 0, .bool true]) (res2 rfl rfl rfl) rfl ?_
    have N : Mem _ _ _ [book _ b ⟨lv, kv, vs⟩, _, _] := book_close (M26.arr [4, 5, 6, 0, 1] (by decide))
    exact ⟨qv', ⟨lv, kv, vs⟩, rfl, N.arr [1, 2, 0] (by decide)⟩
set_option maxRecDepth 100000 in
set_option maxHeartbeats 4000000 in
theorem act_go {D : DV} {V : FV} {B : BV} {p pg mb f b : Nat} {qv : Value} {bx : BX} {w : World} (hM : Mem w (foots [disk D p pg mb qv, blk f 96 (fC V p), book B b bx]) w [disk D p pg mb qv, blk f 96 (fC V p), book B b bx]) (n : Int) (ao : Option Addr) (nn c : Nat) (l : List UInt8) (hr : Row w ao nn l) (hF : ∀ b₁ o, ao = some ⟨b₁, o, none⟩ → 0 < nn → b₁ ∉ foots [disk D p pg mb qv, blk f 96 (fC V p), book B b bx]) (hnn : nn ≤ 140737488351232) (hq : D.q.length ≤ 400000000000) (hI : Inv D V B.ps) (hpsl : B.ps.length ≤ D.pages.length) (hf : V.next < (D.pages.length : Int)) (m : Nat) (hm : V.next = ((m + 2 : Nat) : Int)) (h0 : actE D = 0) : Calls Try.prog 27 #[.pointer (some ⟨b, 0, none⟩), .pointer (some ⟨p, 0, none⟩), .pointer (some ⟨f, 0, none⟩), .agg ([.int .i64 1, .int .i64 n, .slice ao nn c]).toArray] w fun e w' => ∃ E r x qv' bx', e = .returned (.tuple #[.int .i64 0, .bool true]) ∧ Mem w (foots [disk D p pg mb qv, blk f 96 (fC V p), book B b bx]) w' [disk (DV.rd E r) p pg mb qv', blk f 96 (fC ({ V with next := V.next + 1 } : FV) p), book ({ B with ps := putP B.ps (m + 2) x } : BV) b bx'] ∧ PageOk x ∧ E = appD D V x.1 x.2 ∧ Inv E { V with next := V.next + 1 } (putP B.ps (m + 2) x) := by
  obtain ⟨lv, kv, vs⟩ := bx
  have M0 := book_open (hM.arr [2, 0, 1] (by decide))
  clear hM
  have M : Mem w _ w [disk D p pg mb qv, blk f 96 (fC V p), blk b 48 (bC B ⟨lv, kv, vs⟩), rows lv vs B.loads, lst 3 1 kv B.ps.length B.kinds] := M0.arr [3, 4, 0, 1, 2] (by decide)
  clear M0
  obtain ⟨k, hk⟩ : ∃ k : Nat, 1 + n % 3 = (k : Int) := Int.eq_ofNat_of_zero_le (by omega)
  have hnl := hr.1
  have hlenN := hI.lenN
  have hhi := hI.ok.hi
  go_enter Try.func27, Try.ntmps27
  refine wp_seq_k (fun K1 hK1 => ?_)
  refine wp_region_lit ?_
  refine pe rfl (fun K hK => ?_)
  refine e_box M ([.int .i64 1, .int .i64 n, .slice ao nn c]) rfl rfl ?_
  intro ga w2 (M2 : Mem w _ w2 [blk ga 50 ([.int .i64 1, .int .i64 n, .slice ao nn c]), disk D p pg mb qv, blk f 96 (fC V p), blk b 48 (bC B ⟨lv, kv, vs⟩), rows lv vs B.loads, lst 3 1 kv B.ps.length B.kinds])
  clear M
  refine hK.out _ _ ?_
  clear hK K
  simp only [Act.put, z1, z2, z3]
  refine pl M2 (y_assign (v := .int .i64 0) rfl rfl rfl) ?_
  simp only [Act.put, z1, z2, z3]
  refine pl M2 (y_assign (v := .bool false) rfl rfl rfl) ?_
  simp only [Act.put, z1, z2, z3]
  refine wpList_nil ?_
  refine hK1 _ _ ?_
  clear hK1
  refine wp_seq_k (fun K3 hK3 => ?_)
  refine wp_region_lit ?_
  refine pl M2 (y_move (v := .pointer (some ⟨f, 0, none⟩)) rfl rfl rfl) ?_
  simp only [Act.put, z1, z2, z3]
  have hX4 : Mem w _ w2 ([disk D p pg mb qv, blk f 96 (fC V p)] ++ [blk ga 50 ([.int .i64 1, .int .i64 n, .slice ao nn c]), blk b 48 (bC B ⟨lv, kv, vs⟩), rows lv vs B.loads, lst 3 1 kv B.ps.length B.kinds]) := M2.arr [1, 2, 0, 3, 4, 5] (by decide)
  refine pe rfl (fun K hK => ?_)
  refine e_call 20 [.pointer (some ⟨f, 0, none⟩)] rfl rfl Try.call20 (next_any (Mem.here hX4)) ?_
  rintro e w4 ⟨rfl, H4⟩
  have M4 : Mem w _ w4 [disk D p pg mb qv, blk f 96 (fC V p), blk ga 50 ([.int .i64 1, .int .i64 n, .slice ao nn c]), blk b 48 (bC B ⟨lv, kv, vs⟩), rows lv vs B.loads, lst 3 1 kv B.ps.length B.kinds] := Mem.frame hX4 H4
  refine ⟨_, rfl, ?_⟩
  refine hK.out _ _ ?_
  clear hK K
  simp only [Act.put, z1, z2, z3]
  refine pl M4 (y_assign (v := .int .i64 V.next) rfl rfl rfl) ?_
  simp only [Act.put, z1, z2, z3]
  refine wpList_nil ?_
  refine hK3 _ _ ?_
  clear hK3
  refine wp_seq_k (fun K5 hK5 => ?_)
  refine wp_seq_k (fun K6 hK6 => ?_)
  refine wp_region_lit ?_
  refine pl M4 (y_fa (r := 0) rfl rfl rfl Try.underlying50 rfl Try.sizeOf3 rfl) ?_
  simp only [Act.put, z1, z2, z3]
  refine pl M4 (y_load (v := .int .i64 1) rfl rfl rfl Try.isAgg3 (fun W hW => hW.get 2 rfl) (rfl)) ?_
  simp only [Act.put, z1, z2, z3]
  refine wpList_nil ?_
  refine hK6 _ _ ?_
  clear hK6
  refine wp_block ?_
  refine wp_seq_k (fun K7 hK7 => ?_)
  refine wp_region_lit ?_
  refine pl M4 (y_eql (b := true) rfl rfl rfl rfl (decide_eq_true (by decide))) ?_
  simp only [Act.put, z1, z2, z3]
  refine pl M4 (y_assign (v := .bool true) rfl rfl rfl) ?_
  simp only [Act.put, z1, z2, z3]
  refine wpList_nil ?_
  refine hK7 _ _ ?_
  clear hK7
  refine wp_cond_true rfl ?_
  refine wp_seq_k (fun K8 hK8 => ?_)
  refine wp_region_lit ?_
  refine pl M4 (y_fa (r := 1) rfl rfl rfl Try.underlying50 rfl Try.sizeOf3 rfl) ?_
  simp only [Act.put, z1, z2, z3]
  refine pl M4 (y_load (v := .int .i64 n) rfl rfl rfl Try.isAgg3 (fun W hW => hW.get 2 rfl) (rfl)) ?_
  simp only [Act.put, z1, z2, z3]
  refine pe rfl (fun K hK => ?_)
  refine e_call 13 [.int .i64 n, .int .i64 3] rfl rfl Try.call13 (place3_any n 3 (by decide) (by decide) _) ?_
  rintro e w9 ⟨rfl, H9⟩
  have M9 : Mem w _ w9 [disk D p pg mb qv, blk f 96 (fC V p), blk ga 50 ([.int .i64 1, .int .i64 n, .slice ao nn c]), blk b 48 (bC B ⟨lv, kv, vs⟩), rows lv vs B.loads, lst 3 1 kv B.ps.length B.kinds] := M4.step H9
  refine ⟨_, rfl, ?_⟩
  refine hK.out _ _ ?_
  clear hK K
  simp only [Act.put, z1, z2, z3]
  refine pl M9 (y_add (r := (k : Int)) rfl rfl rfl rfl (hk) (by omega)) ?_
  simp only [Act.put, z1, z2, z3]
  refine pl M9 (y_assign (v := .int .i64 (k : Int)) rfl rfl rfl) ?_
  simp only [Act.put, z1, z2, z3]
  refine wpList_nil ?_
  refine hK8 _ _ ?_
  clear hK8
  refine wp_seq_k (fun K10 hK10 => ?_)
  refine wp_region_lit ?_
  refine pl M9 (y_fa (r := 2) rfl rfl rfl Try.underlying50 rfl Try.sizeOf22 rfl) ?_
  simp only [Act.put, z1, z2, z3]
  refine pl M9 (y_load (v := .slice ao nn c) rfl rfl rfl Try.isAgg22 (fun W hW => hW.get 2 rfl) (rfl)) ?_
  simp only [Act.put, z1, z2, z3]
  refine pe rfl (fun K hK => ?_)
  refine e_call 32 [.slice ao nn c] rfl rfl Try.call32 (copy_any ao nn c l _ (M9.row hr hF) (by omega)) ?_
  rintro e w11 ⟨a1, c1, rfl, H11⟩
  have M11 : Mem w _ w11 [bytesL (.slice a1 l.length c1) l, disk D p pg mb qv, blk f 96 (fC V p), blk ga 50 ([.int .i64 1, .int .i64 n, .slice ao nn c]), blk b 48 (bC B ⟨lv, kv, vs⟩), rows lv vs B.loads, lst 3 1 kv B.ps.length B.kinds] := M9.step H11
  refine ⟨_, rfl, ?_⟩
  refine hK.out _ _ ?_
  clear hK K
  simp only [Act.put, z1, z2, z3]
  refine pl M11 (y_assign (v := .slice a1 l.length c1) rfl rfl rfl) ?_
  simp only [Act.put, z1, z2, z3]
  refine wpList_nil ?_
  refine hK10 _ _ ?_
  clear hK10
  refine wp_seq_k (fun K12 hK12 => ?_)
  refine wp_seq_k (fun K13 hK13 => ?_)
  refine wp_region_lit ?_
  refine pl M11 (y_move (v := .slice a1 l.length c1) rfl rfl rfl) ?_
  simp only [Act.put, z1, z2, z3]
  refine pl M11 (y_len rfl rfl rfl Try.underlying22) ?_
  simp only [Act.put, z1, z2, z3]
  rcases Decidable.em ((246 : Int) < (l.length : Int)) with h14 | h14
  · refine pl M11 (y_gtr (b := true) rfl rfl rfl rfl (decide_eq_true h14)) ?_
    simp only [Act.put, z1, z2, z3]
    refine wpList_nil ?_
    refine hK13 _ _ ?_
    clear hK13
    refine wp_cond_true rfl ?_
    refine wp_region_lit ?_
    refine pl M11 (y_move (v := .slice a1 l.length c1) rfl rfl rfl) ?_
    simp only [Act.put, z1, z2, z3]
    have hcc : l.length ≤ c1 := bytesL_cap (M11.get 0 rfl)
    refine pl M11 (y_slt (h := 246) rfl rfl rfl rfl Try.underlying22 Try.sizeOf5 (by omega)) ?_
    simp only [Act.put, z1, z2, z3]
    have h246 : (l.take 246).length = 246 := by rw [List.length_take]; omega
    have M15 : Mem w (foots [disk D p pg mb qv, blk f 96 (fC V p), book B b ⟨lv, kv, vs⟩]) w11 [bytesL (.slice a1 (l.take 246).length c1) (l.take 246), disk D p pg mb qv, blk f 96 (fC V p), blk ga 50 ([.int .i64 1, .int .i64 n, .slice ao nn c]), blk b 48 (bC B ⟨lv, kv, vs⟩), rows lv vs B.loads, lst 3 1 kv B.ps.length B.kinds] := by
      rw [h246]
      have N := Mem.front M11 0 (m := 246) rfl (by omega)
      have e : (bvs l).take (246 * 1) = bvs (l.take 246) := by unfold bvs; rw [List.map_take]
      rw [e] at N
      unfold bytesL
      rw [h246]
      exact N
    clear M11
    refine pl M15 (y_assign (v := .slice a1 246 c1) rfl rfl rfl) ?_
    simp only [Act.put, z1, z2, z3]
    refine wpList_nil ?_
    refine hK12 _ _ ?_
    clear hK12
    refine wp_seq_k (fun K16 hK16 => ?_)
    refine wp_region_lit ?_
    refine pl M15 (y_move (v := .pointer (some ⟨f, 0, none⟩)) rfl rfl rfl) ?_
    simp only [Act.put, z1, z2, z3]
    refine pl M15 (y_move (v := .int .i64 (k : Int)) rfl rfl rfl) ?_
    simp only [Act.put, z1, z2, z3]
    refine pl M15 (y_move (v := .slice a1 246 c1) rfl rfl rfl) ?_
    simp only [Act.put, z1, z2, z3]
    have hxo : PageOk (k, (l.take 246)) := ⟨⟨by show 1 ≤ k; omega, by show k ≤ 3; omega⟩, by show (l.take 246).length ≤ 246; omega⟩
    have hX17 : Mem w _ w11 ([disk D p pg mb qv, blk f 96 (fC V p)] ++ [bytesL (.slice a1 (l.take 246).length c1) (l.take 246), blk ga 50 ([.int .i64 1, .int .i64 n, .slice ao nn c]), blk b 48 (bC B ⟨lv, kv, vs⟩), rows lv vs B.loads, lst 3 1 kv B.ps.length B.kinds]) := M15.arr [1, 2, 0, 3, 4, 5, 6] (by decide)
    refine pe rfl (fun K hK => ?_)
    refine e_call 26 [.pointer (some ⟨f, 0, none⟩), .int .i64 (k : Int), .slice a1 246 c1] rfl rfl Try.call26 (xapp_go (Mem.here hX17) hI k a1 246 c1 (l.take 246) hxo (by have N := bytesL_row (M15.get 0 rfl); rw [h246] at N; exact N) (Mem.off (L := [disk D p pg mb qv, blk f 96 (fC V p)]) (M15.arr [0, 1, 2] (by decide))) hq hf m hm h0) ?_
    rintro e w17 ⟨E, qv', rfl, H17, hE, hI2, hpl⟩
    have M17 : Mem w _ w17 [disk E p pg mb qv', blk f 96 (fC ({ V with next := V.next + 1 } : FV) p), bytesL (.slice a1 (l.take 246).length c1) (l.take 246), blk ga 50 ([.int .i64 1, .int .i64 n, .slice ao nn c]), blk b 48 (bC B ⟨lv, kv, vs⟩), rows lv vs B.loads, lst 3 1 kv B.ps.length B.kinds] := Mem.frame hX17 H17
    refine ⟨_, rfl, ?_⟩
    refine hK.out _ _ ?_
    clear hK K
    simp only [Act.put, z1, z2, z3]
    refine pl M17 (y_move (v := .tuple #[.int .i64 ((m + 2 : Nat) : Int), .int .i64 0]) rfl rfl rfl) ?_
    simp only [Act.put, z1, z2, z3]
    refine pl M17 (y_ext (v := .int .i64 ((m + 2 : Nat) : Int)) rfl rfl rfl rfl) ?_
    simp only [Act.put, z1, z2, z3]
    refine pl M17 (y_ext (v := .int .i64 0) rfl rfl rfl rfl) ?_
    simp only [Act.put, z1, z2, z3]
    refine pl M17 (y_assign (v := .int .i64 ((m + 2 : Nat) : Int)) rfl rfl rfl) ?_
    simp only [Act.put, z1, z2, z3]
    refine pl M17 (y_assign (v := .int .i64 0) rfl rfl rfl) ?_
    simp only [Act.put, z1, z2, z3]
    refine wpList_nil ?_
    refine hK16 _ _ ?_
    clear hK16
    refine wp_seq_k (fun K18 hK18 => ?_)
    refine wp_seq_k (fun K19 hK19 => ?_)
    refine wp_region_lit ?_
    refine pl M17 (y_move (v := .int .i64 V.next) rfl rfl rfl) ?_
    simp only [Act.put, z1, z2, z3]
    refine pl M17 (y_move (v := .pointer (some ⟨f, 0, none⟩)) rfl rfl rfl) ?_
    simp only [Act.put, z1, z2, z3]
    refine pl M17 (y_nil rfl rfl rfl) ?_
    simp only [Act.put, z1, z2, z3]
    refine pl M17 (y_fa (r := 0) rfl rfl rfl Try.underlying96 rfl Try.sizeOf24 rfl) ?_
    simp only [Act.put, z1, z2, z3]
    refine pl M17 (y_load (v := .pointer (some ⟨p, 0, none⟩)) rfl rfl rfl Try.isAgg24 (fun W hW => hW.get 1 rfl) (rfl)) ?_
    simp only [Act.put, z1, z2, z3]
    have hX20 : Mem w _ w17 ([disk E p pg mb qv'] ++ [blk f 96 (fC ({ V with next := V.next + 1 } : FV) p), bytesL (.slice a1 (l.take 246).length c1) (l.take 246), blk ga 50 ([.int .i64 1, .int .i64 n, .slice ao nn c]), blk b 48 (bC B ⟨lv, kv, vs⟩), rows lv vs B.loads, lst 3 1 kv B.ps.length B.kinds]) := M17.arr [0, 1, 2, 3, 4, 5, 6] (by decide)
    refine pe rfl (fun K hK => ?_)
    refine e_call 24 [.pointer (some ⟨p, 0, none⟩)] rfl rfl Try.call24 (pages_any (Mem.here hX20)) ?_
    rintro e w20 ⟨rfl, H20⟩
    have M20 : Mem w _ w20 [disk E p pg mb qv', blk f 96 (fC ({ V with next := V.next + 1 } : FV) p), bytesL (.slice a1 (l.take 246).length c1) (l.take 246), blk ga 50 ([.int .i64 1, .int .i64 n, .slice ao nn c]), blk b 48 (bC B ⟨lv, kv, vs⟩), rows lv vs B.loads, lst 3 1 kv B.ps.length B.kinds] := Mem.frame hX20 H20
    refine ⟨_, rfl, ?_⟩
    refine hK.out _ _ ?_
    clear hK K
    simp only [Act.put, z1, z2, z3]
    refine pl M20 (y_eql (b := false) rfl rfl rfl rfl (decide_eq_false (by rw [hpl]; omega))) ?_
    simp only [Act.put, z1, z2, z3]
    refine wpList_nil ?_
    refine hK19 _ _ ?_
    clear hK19
    refine wp_cond_false rfl ?_
    refine wp_skip ?_
    refine hK18 _ _ ?_
    clear hK18
    refine wp_seq_k (fun K21 hK21 => ?_)
    refine wp_seq_k (fun K22 hK22 => ?_)
    refine wp_region_lit ?_
    refine pl M20 (y_move (v := .int .i64 0) rfl rfl rfl) ?_
    simp only [Act.put, z1, z2, z3]
    refine pl M20 (y_eql (b := true) rfl rfl rfl rfl (decide_eq_true (by decide))) ?_
    simp only [Act.put, z1, z2, z3]
    refine wpList_nil ?_
    refine hK22 _ _ ?_
    clear hK22
    refine wp_cond_true rfl ?_
    refine wp_seq_k (fun K23 hK23 => ?_)
    refine wp_seq_k (fun K24 hK24 => ?_)
    refine wp_region_lit ?_
    refine pl M20 (y_move (v := .int .i64 ((m + 2 : Nat) : Int)) rfl rfl rfl) ?_
    simp only [Act.put, z1, z2, z3]
    refine pl M20 (y_move (v := .int .i64 V.next) rfl rfl rfl) ?_
    simp only [Act.put, z1, z2, z3]
    refine pl M20 (y_neq (b := false) rfl rfl rfl rfl (by rw [decide_eq_true hm.symm]; rfl)) ?_
    simp only [Act.put, z1, z2, z3]
    refine pl M20 (y_move (v := .bool false) rfl rfl rfl) ?_
    simp only [Act.put, z1, z2, z3]
    refine pl M20 (y_move (v := .pointer (some ⟨f, 0, none⟩)) rfl rfl rfl) ?_
    simp only [Act.put, z1, z2, z3]
    have hX25 : Mem w _ w20 ([disk E p pg mb qv', blk f 96 (fC ({ V with next := V.next + 1 } : FV) p)] ++ [bytesL (.slice a1 (l.take 246).length c1) (l.take 246), blk ga 50 ([.int .i64 1, .int .i64 n, .slice ao nn c]), blk b 48 (bC B ⟨lv, kv, vs⟩), rows lv vs B.loads, lst 3 1 kv B.ps.length B.kinds]) := M20.arr [0, 1, 2, 3, 4, 5, 6] (by decide)
    refine pe rfl (fun K hK => ?_)
    refine e_call 20 [.pointer (some ⟨f, 0, none⟩)] rfl rfl Try.call20 (next_any (Mem.here hX25)) ?_
    rintro e w25 ⟨rfl, H25⟩
    have M25 : Mem w _ w25 [disk E p pg mb qv', blk f 96 (fC ({ V with next := V.next + 1 } : FV) p), bytesL (.slice a1 (l.take 246).length c1) (l.take 246), blk ga 50 ([.int .i64 1, .int .i64 n, .slice ao nn c]), blk b 48 (bC B ⟨lv, kv, vs⟩), rows lv vs B.loads, lst 3 1 kv B.ps.length B.kinds] := Mem.frame hX25 H25
    refine ⟨_, rfl, ?_⟩
    refine hK.out _ _ ?_
    clear hK K
    simp only [Act.put, z1, z2, z3]
    refine pl M25 (y_move (v := .int .i64 V.next) rfl rfl rfl) ?_
    simp only [Act.put, z1, z2, z3]
    refine pl M25 (y_add (r := V.next + 1) rfl rfl rfl rfl (rfl) (by omega)) ?_
    simp only [Act.put, z1, z2, z3]
    refine pl M25 (y_neq (b := false) rfl rfl rfl rfl (by rw [decide_eq_true rfl]; rfl)) ?_
    simp only [Act.put, z1, z2, z3]
    refine pl M25 (y_pickF (v := .bool false) rfl rfl rfl rfl) ?_
    simp only [Act.put, z1, z2, z3]
    refine wpList_nil ?_
    refine hK24 _ _ ?_
    clear hK24
    refine wp_cond_false rfl ?_
    refine wp_skip ?_
    refine hK23 _ _ ?_
    clear hK23
    refine wp_seq_k (fun K26 hK26 => ?_)
    refine wp_region_lit ?_
    refine pl M25 (y_move (v := .int .i64 0) rfl rfl rfl) ?_
    simp only [Act.put, z1, z2, z3]
    refine pl M25 (y_move (v := .pointer (some ⟨b, 0, none⟩)) rfl rfl rfl) ?_
    simp only [Act.put, z1, z2, z3]
    refine pl M25 (y_move (v := .int .i64 ((m + 2 : Nat) : Int)) rfl rfl rfl) ?_
    simp only [Act.put, z1, z2, z3]
    refine pl M25 (y_move (v := .int .i64 (k : Int)) rfl rfl rfl) ?_
    simp only [Act.put, z1, z2, z3]
    refine pl M25 (y_move (v := .slice a1 246 c1) rfl rfl rfl) ?_
    simp only [Act.put, z1, z2, z3]
    have M27 : Mem w _ w25 [book B b (⟨lv, kv, vs⟩), disk E p pg mb qv', blk f 96 (fC ({ V with next := V.next + 1 } : FV) p), bytesL (.slice a1 (l.take 246).length c1) (l.take 246), blk ga 50 ([.int .i64 1, .int .i64 n, .slice ao nn c])] := book_close (M25.arr [4, 5, 6, 0, 1, 2, 3] (by decide))
    clear M25
    have hX28 : Mem w _ w25 ([book B b (⟨lv, kv, vs⟩)] ++ [disk E p pg mb qv', blk f 96 (fC ({ V with next := V.next + 1 } : FV) p), bytesL (.slice a1 (l.take 246).length c1) (l.take 246), blk ga 50 ([.int .i64 1, .int .i64 n, .slice ao nn c])]) := M27.arr [0, 1, 2, 3, 4] (by decide)
    refine pe rfl (fun K hK => ?_)
    refine e_call 52 [.pointer (some ⟨b, 0, none⟩), .int .i64 ((m + 2 : Nat) : Int), .int .i64 (k : Int), .slice a1 246 c1] rfl rfl Try.call52 (bput_any m k a1 246 c1 (l.take 246) (Mem.here hX28) (by have N := bytesL_row (M27.get 3 rfl); rw [h246] at N; exact N) (Mem.off (L := [book B b (⟨lv, kv, vs⟩)]) (M27.arr [3, 0] (by decide))) (by omega) (by omega) (by omega)) ?_
    rintro e w28 ⟨bx', rfl, H28⟩
    have M28 : Mem w _ w28 [book ({ B with ps := putP B.ps (m + 2) (k, (l.take 246)) } : BV) b bx', disk E p pg mb qv', blk f 96 (fC ({ V with next := V.next + 1 } : FV) p), bytesL (.slice a1 (l.take 246).length c1) (l.take 246), blk ga 50 ([.int .i64 1, .int .i64 n, .slice ao nn c])] := Mem.frame hX28 H28
    refine ⟨_, rfl, ?_⟩
    refine hK.out _ _ ?_
    clear hK K
    simp only [Act.put, z1, z2, z3]
    refine pl M28 (y_move (v := .bool true) rfl rfl rfl) ?_
    simp only [Act.put, z1, z2, z3]
    refine pl M28 (y_move (v := .pointer (some ⟨b, 0, none⟩)) rfl rfl rfl) ?_
    simp only [Act.put, z1, z2, z3]
    refine pl M28 (y_move (v := .pointer (some ⟨f, 0, none⟩)) rfl rfl rfl) ?_
    simp only [Act.put, z1, z2, z3]
    refine pl M28 (y_move (v := .int .i64 V.next) rfl rfl rfl) ?_
    simp only [Act.put, z1, z2, z3]
    refine pl M28 (y_add (r := ((m + 3 : Nat) : Int)) rfl rfl rfl rfl (by omega) (by omega)) ?_
    simp only [Act.put, z1, z2, z3]
    have hX29 : Mem w _ w28 ([disk E p pg mb qv', blk f 96 (fC ({ V with next := V.next + 1 } : FV) p), book ({ B with ps := putP B.ps (m + 2) (k, (l.take 246)) } : BV) b bx'] ++ [bytesL (.slice a1 (l.take 246).length c1) (l.take 246), blk ga 50 ([.int .i64 1, .int .i64 n, .slice ao nn c])]) := M28.arr [1, 2, 0, 3, 4] (by decide)
    refine pe rfl (fun K hK => ?_)
    refine e_call 29 [.pointer (some ⟨b, 0, none⟩), .pointer (some ⟨f, 0, none⟩), .int .i64 ((m + 3 : Nat) : Int)] rfl rfl Try.call29 (bholds_any (Mem.here hX29) (B := ({ B with ps := putP B.ps (m + 2) (k, (l.take 246)) } : BV)) hI2 (m + 3) (by omega) (by show ((m + 3 : Nat) : Int) ≤ V.next + 1; omega)) ?_
    rintro e w29 ⟨r, rfl, H29⟩
    have M29 : Mem w _ w29 [disk (E.rd r) p pg mb qv', blk f 96 (fC ({ V with next := V.next + 1 } : FV) p), book ({ B with ps := putP B.ps (m + 2) (k, (l.take 246)) } : BV) b bx', bytesL (.slice a1 (l.take 246).length c1) (l.take 246), blk ga 50 ([.int .i64 1, .int .i64 n, .slice ao nn c])] := Mem.frame hX29 H29
    refine ⟨_, rfl, ?_⟩
    refine hK.out _ _ ?_
    clear hK K
    simp only [Act.put, z1, z2, z3]
    refine pl M29 (y_pickT (v := .bool true) rfl rfl rfl rfl) ?_
    simp only [Act.put, z1, z2, z3]
    refine pl M29 (y_assign (v := .int .i64 0) rfl rfl rfl) ?_
    simp only [Act.put, z1, z2, z3]
    refine pl M29 (y_assign (v := .bool true) rfl rfl rfl) ?_
    simp only [Act.put, z1, z2, z3]
    refine wpList_nil ?_
    refine hK26 _ _ ?_
    clear hK26
    refine wp_ret ?_
    try simp only [Exit.inBlock, Exit.then]
    refine bodyPost_ret (v := .tuple #[.int .i64 0, .bool true]) (res2 rfl rfl rfl) rfl ?_
    exact ⟨E, r, (k, (l.take 246)), qv', bx', rfl, M29.arr [0, 1, 2] (by decide), hxo, hE, hI2⟩
  · refine pl M11 (y_gtr (b := false) rfl rfl rfl rfl (decide_eq_false h14)) ?_
    simp only [Act.put, z1, z2, z3]
    refine wpList_nil ?_
    refine hK13 _ _ ?_
    clear hK13
    refine wp_cond_false rfl ?_
    refine wp_skip ?_
    refine hK12 _ _ ?_
    clear hK12
    refine wp_seq_k (fun K30 hK30 => ?_)
    refine wp_region_lit ?_
    refine pl M11 (y_move (v := .pointer (some ⟨f, 0, none⟩)) rfl rfl rfl) ?_
    simp only [Act.put, z1, z2, z3]
    refine pl M11 (y_move (v := .int .i64 (k : Int)) rfl rfl rfl) ?_
    simp only [Act.put, z1, z2, z3]
    refine pl M11 (y_move (v := .slice a1 l.length c1) rfl rfl rfl) ?_
    simp only [Act.put, z1, z2, z3]
    have hxo : PageOk (k, l) := ⟨⟨by show 1 ≤ k; omega, by show k ≤ 3; omega⟩, by show l.length ≤ 246; omega⟩
    have hX31 : Mem w _ w11 ([disk D p pg mb qv, blk f 96 (fC V p)] ++ [bytesL (.slice a1 l.length c1) l, blk ga 50 ([.int .i64 1, .int .i64 n, .slice ao nn c]), blk b 48 (bC B ⟨lv, kv, vs⟩), rows lv vs B.loads, lst 3 1 kv B.ps.length B.kinds]) := M11.arr [1, 2, 0, 3, 4, 5, 6] (by decide)
    refine pe rfl (fun K hK => ?_)
    refine e_call 26 [.pointer (some ⟨f, 0, none⟩), .int .i64 (k : Int), .slice a1 l.length c1] rfl rfl Try.call26 (xapp_go (Mem.here hX31) hI k a1 l.length c1 l hxo (by have N := bytesL_row (M11.get 0 rfl); exact N) (Mem.off (L := [disk D p pg mb qv, blk f 96 (fC V p)]) (M11.arr [0, 1, 2] (by decide))) hq hf m hm h0) ?_
    rintro e w31 ⟨E, qv', rfl, H31, hE, hI2, hpl⟩
    have M31 : Mem w _ w31 [disk E p pg mb qv', blk f 96 (fC ({ V with next := V.next + 1 } : FV) p), bytesL (.slice a1 l.length c1) l, blk ga 50 ([.int .i64 1, .int .i64 n, .slice ao nn c]), blk b 48 (bC B ⟨lv, kv, vs⟩), rows lv vs B.loads, lst 3 1 kv B.ps.length B.kinds] := Mem.frame hX31 H31
    refine ⟨_, rfl, ?_⟩
    refine hK.out _ _ ?_
    clear hK K
    simp only [Act.put, z1, z2, z3]
    refine pl M31 (y_move (v := .tuple #[.int .i64 ((m + 2 : Nat) : Int), .int .i64 0]) rfl rfl rfl) ?_
    simp only [Act.put, z1, z2, z3]
    refine pl M31 (y_ext (v := .int .i64 ((m + 2 : Nat) : Int)) rfl rfl rfl rfl) ?_
    simp only [Act.put, z1, z2, z3]
    refine pl M31 (y_ext (v := .int .i64 0) rfl rfl rfl rfl) ?_
    simp only [Act.put, z1, z2, z3]
    refine pl M31 (y_assign (v := .int .i64 ((m + 2 : Nat) : Int)) rfl rfl rfl) ?_
    simp only [Act.put, z1, z2, z3]
    refine pl M31 (y_assign (v := .int .i64 0) rfl rfl rfl) ?_
    simp only [Act.put, z1, z2, z3]
    refine wpList_nil ?_
    refine hK30 _ _ ?_
    clear hK30
    refine wp_seq_k (fun K32 hK32 => ?_)
    refine wp_seq_k (fun K33 hK33 => ?_)
    refine wp_region_lit ?_
    refine pl M31 (y_move (v := .int .i64 V.next) rfl rfl rfl) ?_
    simp only [Act.put, z1, z2, z3]
    refine pl M31 (y_move (v := .pointer (some ⟨f, 0, none⟩)) rfl rfl rfl) ?_
    simp only [Act.put, z1, z2, z3]
    refine pl M31 (y_nil rfl rfl rfl) ?_
    simp only [Act.put, z1, z2, z3]
    refine pl M31 (y_fa (r := 0) rfl rfl rfl Try.underlying96 rfl Try.sizeOf24 rfl) ?_
    simp only [Act.put, z1, z2, z3]
    refine pl M31 (y_load (v := .pointer (some ⟨p, 0, none⟩)) rfl rfl rfl Try.isAgg24 (fun W hW => hW.get 1 rfl) (rfl)) ?_
    simp only [Act.put, z1, z2, z3]
    have hX34 : Mem w _ w31 ([disk E p pg mb qv'] ++ [blk f 96 (fC ({ V with next := V.next + 1 } : FV) p), bytesL (.slice a1 l.length c1) l, blk ga 50 ([.int .i64 1, .int .i64 n, .slice ao nn c]), blk b 48 (bC B ⟨lv, kv, vs⟩), rows lv vs B.loads, lst 3 1 kv B.ps.length B.kinds]) := M31.arr [0, 1, 2, 3, 4, 5, 6] (by decide)
    refine pe rfl (fun K hK => ?_)
    refine e_call 24 [.pointer (some ⟨p, 0, none⟩)] rfl rfl Try.call24 (pages_any (Mem.here hX34)) ?_
    rintro e w34 ⟨rfl, H34⟩
    have M34 : Mem w _ w34 [disk E p pg mb qv', blk f 96 (fC ({ V with next := V.next + 1 } : FV) p), bytesL (.slice a1 l.length c1) l, blk ga 50 ([.int .i64 1, .int .i64 n, .slice ao nn c]), blk b 48 (bC B ⟨lv, kv, vs⟩), rows lv vs B.loads, lst 3 1 kv B.ps.length B.kinds] := Mem.frame hX34 H34
    refine ⟨_, rfl, ?_⟩
    refine hK.out _ _ ?_
    clear hK K
    simp only [Act.put, z1, z2, z3]
    refine pl M34 (y_eql (b := false) rfl rfl rfl rfl (decide_eq_false (by rw [hpl]; omega))) ?_
    simp only [Act.put, z1, z2, z3]
    refine wpList_nil ?_
    refine hK33 _ _ ?_
    clear hK33
    refine wp_cond_false rfl ?_
    refine wp_skip ?_
    refine hK32 _ _ ?_
    clear hK32
    refine wp_seq_k (fun K35 hK35 => ?_)
    refine wp_seq_k (fun K36 hK36 => ?_)
    refine wp_region_lit ?_
    refine pl M34 (y_move (v := .int .i64 0) rfl rfl rfl) ?_
    simp only [Act.put, z1, z2, z3]
    refine pl M34 (y_eql (b := true) rfl rfl rfl rfl (decide_eq_true (by decide))) ?_
    simp only [Act.put, z1, z2, z3]
    refine wpList_nil ?_
    refine hK36 _ _ ?_
    clear hK36
    refine wp_cond_true rfl ?_
    refine wp_seq_k (fun K37 hK37 => ?_)
    refine wp_seq_k (fun K38 hK38 => ?_)
    refine wp_region_lit ?_
    refine pl M34 (y_move (v := .int .i64 ((m + 2 : Nat) : Int)) rfl rfl rfl) ?_
    simp only [Act.put, z1, z2, z3]
    refine pl M34 (y_move (v := .int .i64 V.next) rfl rfl rfl) ?_
    simp only [Act.put, z1, z2, z3]
    refine pl M34 (y_neq (b := false) rfl rfl rfl rfl (by rw [decide_eq_true hm.symm]; rfl)) ?_
    simp only [Act.put, z1, z2, z3]
    refine pl M34 (y_move (v := .bool false) rfl rfl rfl) ?_
    simp only [Act.put, z1, z2, z3]
    refine pl M34 (y_move (v := .pointer (some ⟨f, 0, none⟩)) rfl rfl rfl) ?_
    simp only [Act.put, z1, z2, z3]
    have hX39 : Mem w _ w34 ([disk E p pg mb qv', blk f 96 (fC ({ V with next := V.next + 1 } : FV) p)] ++ [bytesL (.slice a1 l.length c1) l, blk ga 50 ([.int .i64 1, .int .i64 n, .slice ao nn c]), blk b 48 (bC B ⟨lv, kv, vs⟩), rows lv vs B.loads, lst 3 1 kv B.ps.length B.kinds]) := M34.arr [0, 1, 2, 3, 4, 5, 6] (by decide)
    refine pe rfl (fun K hK => ?_)
    refine e_call 20 [.pointer (some ⟨f, 0, none⟩)] rfl rfl Try.call20 (next_any (Mem.here hX39)) ?_
    rintro e w39 ⟨rfl, H39⟩
    have M39 : Mem w _ w39 [disk E p pg mb qv', blk f 96 (fC ({ V with next := V.next + 1 } : FV) p), bytesL (.slice a1 l.length c1) l, blk ga 50 ([.int .i64 1, .int .i64 n, .slice ao nn c]), blk b 48 (bC B ⟨lv, kv, vs⟩), rows lv vs B.loads, lst 3 1 kv B.ps.length B.kinds] := Mem.frame hX39 H39
    refine ⟨_, rfl, ?_⟩
    refine hK.out _ _ ?_
    clear hK K
    simp only [Act.put, z1, z2, z3]
    refine pl M39 (y_move (v := .int .i64 V.next) rfl rfl rfl) ?_
    simp only [Act.put, z1, z2, z3]
    refine pl M39 (y_add (r := V.next + 1) rfl rfl rfl rfl (rfl) (by omega)) ?_
    simp only [Act.put, z1, z2, z3]
    refine pl M39 (y_neq (b := false) rfl rfl rfl rfl (by rw [decide_eq_true rfl]; rfl)) ?_
    simp only [Act.put, z1, z2, z3]
    refine pl M39 (y_pickF (v := .bool false) rfl rfl rfl rfl) ?_
    simp only [Act.put, z1, z2, z3]
    refine wpList_nil ?_
    refine hK38 _ _ ?_
    clear hK38
    refine wp_cond_false rfl ?_
    refine wp_skip ?_
    refine hK37 _ _ ?_
    clear hK37
    refine wp_seq_k (fun K40 hK40 => ?_)
    refine wp_region_lit ?_
    refine pl M39 (y_move (v := .int .i64 0) rfl rfl rfl) ?_
    simp only [Act.put, z1, z2, z3]
    refine pl M39 (y_move (v := .pointer (some ⟨b, 0, none⟩)) rfl rfl rfl) ?_
    simp only [Act.put, z1, z2, z3]
    refine pl M39 (y_move (v := .int .i64 ((m + 2 : Nat) : Int)) rfl rfl rfl) ?_
    simp only [Act.put, z1, z2, z3]
    refine pl M39 (y_move (v := .int .i64 (k : Int)) rfl rfl rfl) ?_
    simp only [Act.put, z1, z2, z3]
    refine pl M39 (y_move (v := .slice a1 l.length c1) rfl rfl rfl) ?_
    simp only [Act.put, z1, z2, z3]
    have M41 : Mem w _ w39 [book B b (⟨lv, kv, vs⟩), disk E p pg mb qv', blk f 96 (fC ({ V with next := V.next + 1 } : FV) p), bytesL (.slice a1 l.length c1) l, blk ga 50 ([.int .i64 1, .int .i64 n, .slice ao nn c])] := book_close (M39.arr [4, 5, 6, 0, 1, 2, 3] (by decide))
    clear M39
    have hX42 : Mem w _ w39 ([book B b (⟨lv, kv, vs⟩)] ++ [disk E p pg mb qv', blk f 96 (fC ({ V with next := V.next + 1 } : FV) p), bytesL (.slice a1 l.length c1) l, blk ga 50 ([.int .i64 1, .int .i64 n, .slice ao nn c])]) := M41.arr [0, 1, 2, 3, 4] (by decide)
    refine pe rfl (fun K hK => ?_)
    refine e_call 52 [.pointer (some ⟨b, 0, none⟩), .int .i64 ((m + 2 : Nat) : Int), .int .i64 (k : Int), .slice a1 l.length c1] rfl rfl Try.call52 (bput_any m k a1 l.length c1 l (Mem.here hX42) (by have N := bytesL_row (M41.get 3 rfl); exact N) (Mem.off (L := [book B b (⟨lv, kv, vs⟩)]) (M41.arr [3, 0] (by decide))) (by omega) (by omega) (by omega)) ?_
    rintro e w42 ⟨bx', rfl, H42⟩
    have M42 : Mem w _ w42 [book ({ B with ps := putP B.ps (m + 2) (k, l) } : BV) b bx', disk E p pg mb qv', blk f 96 (fC ({ V with next := V.next + 1 } : FV) p), bytesL (.slice a1 l.length c1) l, blk ga 50 ([.int .i64 1, .int .i64 n, .slice ao nn c])] := Mem.frame hX42 H42
    refine ⟨_, rfl, ?_⟩
    refine hK.out _ _ ?_
    clear hK K
    simp only [Act.put, z1, z2, z3]
    refine pl M42 (y_move (v := .bool true) rfl rfl rfl) ?_
    simp only [Act.put, z1, z2, z3]
    refine pl M42 (y_move (v := .pointer (some ⟨b, 0, none⟩)) rfl rfl rfl) ?_
    simp only [Act.put, z1, z2, z3]
    refine pl M42 (y_move (v := .pointer (some ⟨f, 0, none⟩)) rfl rfl rfl) ?_
    simp only [Act.put, z1, z2, z3]
    refine pl M42 (y_move (v := .int .i64 V.next) rfl rfl rfl) ?_
    simp only [Act.put, z1, z2, z3]
    refine pl M42 (y_add (r := ((m + 3 : Nat) : Int)) rfl rfl rfl rfl (by omega) (by omega)) ?_
    simp only [Act.put, z1, z2, z3]
    have hX43 : Mem w _ w42 ([disk E p pg mb qv', blk f 96 (fC ({ V with next := V.next + 1 } : FV) p), book ({ B with ps := putP B.ps (m + 2) (k, l) } : BV) b bx'] ++ [bytesL (.slice a1 l.length c1) l, blk ga 50 ([.int .i64 1, .int .i64 n, .slice ao nn c])]) := M42.arr [1, 2, 0, 3, 4] (by decide)
    refine pe rfl (fun K hK => ?_)
    refine e_call 29 [.pointer (some ⟨b, 0, none⟩), .pointer (some ⟨f, 0, none⟩), .int .i64 ((m + 3 : Nat) : Int)] rfl rfl Try.call29 (bholds_any (Mem.here hX43) (B := ({ B with ps := putP B.ps (m + 2) (k, l) } : BV)) hI2 (m + 3) (by omega) (by show ((m + 3 : Nat) : Int) ≤ V.next + 1; omega)) ?_
    rintro e w43 ⟨r, rfl, H43⟩
    have M43 : Mem w _ w43 [disk (E.rd r) p pg mb qv', blk f 96 (fC ({ V with next := V.next + 1 } : FV) p), book ({ B with ps := putP B.ps (m + 2) (k, l) } : BV) b bx', bytesL (.slice a1 l.length c1) l, blk ga 50 ([.int .i64 1, .int .i64 n, .slice ao nn c])] := Mem.frame hX43 H43
    refine ⟨_, rfl, ?_⟩
    refine hK.out _ _ ?_
    clear hK K
    simp only [Act.put, z1, z2, z3]
    refine pl M43 (y_pickT (v := .bool true) rfl rfl rfl rfl) ?_
    simp only [Act.put, z1, z2, z3]
    refine pl M43 (y_assign (v := .int .i64 0) rfl rfl rfl) ?_
    simp only [Act.put, z1, z2, z3]
    refine pl M43 (y_assign (v := .bool true) rfl rfl rfl) ?_
    simp only [Act.put, z1, z2, z3]
    refine wpList_nil ?_
    refine hK40 _ _ ?_
    clear hK40
    refine wp_ret ?_
    try simp only [Exit.inBlock, Exit.then]
    refine bodyPost_ret (v := .tuple #[.int .i64 0, .bool true]) (res2 rfl rfl rfl) rfl ?_
    exact ⟨E, r, (k, l), qv', bx', rfl, M43.arr [0, 1, 2] (by decide), hxo, hE, hI2⟩
set_option maxRecDepth 100000 in
set_option maxHeartbeats 4000000 in
theorem act_down {D : DV} {V : FV} {B : BV} {p pg mb f b : Nat} {qv : Value} {bx : BX} {w : World} (hM : Mem w (foots [disk D p pg mb qv, blk f 96 (fC V p), book B b bx]) w [disk D p pg mb qv, blk f 96 (fC V p), book B b bx]) (n : Int) (ao : Option Addr) (nn c : Nat) (l : List UInt8) (hr : Row w ao nn l) (hF : ∀ b₁ o, ao = some ⟨b₁, o, none⟩ → 0 < nn → b₁ ∉ foots [disk D p pg mb qv, blk f 96 (fC V p), book B b bx]) (hnn : nn ≤ 140737488351232) (hq : D.q.length ≤ 400000000000) (hI : Inv D V B.ps) (hf : V.next < (D.pages.length : Int)) (h0 : actE D = 2) : Calls Try.prog 27 #[.pointer (some ⟨b, 0, none⟩), .pointer (some ⟨p, 0, none⟩), .pointer (some ⟨f, 0, none⟩), .agg ([.int .i64 1, .int .i64 n, .slice ao nn c]).toArray] w fun e w' => ∃ E x qv' bx', e = .returned (.tuple #[.int .i64 2, .bool true]) ∧ Mem w (foots [disk D p pg mb qv, blk f 96 (fC V p), book B b bx]) w' [disk E p pg mb qv', blk f 96 (fC V p), book B b bx'] ∧ PageOk x ∧ E = appD D V x.1 x.2 := by
  obtain ⟨lv, kv, vs⟩ := bx
  have M0 := book_open (hM.arr [2, 0, 1] (by decide))
  clear hM
  have M : Mem w _ w [disk D p pg mb qv, blk f 96 (fC V p), blk b 48 (bC B ⟨lv, kv, vs⟩), rows lv vs B.loads, lst 3 1 kv B.ps.length B.kinds] := M0.arr [3, 4, 0, 1, 2] (by decide)
  clear M0
  obtain ⟨k, hk⟩ : ∃ k : Nat, 1 + n % 3 = (k : Int) := Int.eq_ofNat_of_zero_le (by omega)
  have hnl := hr.1
  go_enter Try.func27, Try.ntmps27
  refine wp_seq_k (fun K1 hK1 => ?_)
  refine wp_region_lit ?_
  refine pe rfl (fun K hK => ?_)
  refine e_box M ([.int .i64 1, .int .i64 n, .slice ao nn c]) rfl rfl ?_
  intro ga w2 (M2 : Mem w _ w2 [blk ga 50 ([.int .i64 1, .int .i64 n, .slice ao nn c]), disk D p pg mb qv, blk f 96 (fC V p), blk b 48 (bC B ⟨lv, kv, vs⟩), rows lv vs B.loads, lst 3 1 kv B.ps.length B.kinds])
  clear M
  refine hK.out _ _ ?_
  clear hK K
  simp only [Act.put, z1, z2, z3]
  refine pl M2 (y_assign (v := .int .i64 0) rfl rfl rfl) ?_
  simp only [Act.put, z1, z2, z3]
  refine pl M2 (y_assign (v := .bool false) rfl rfl rfl) ?_
  simp only [Act.put, z1, z2, z3]
  refine wpList_nil ?_
  refine hK1 _ _ ?_
  clear hK1
  refine wp_seq_k (fun K3 hK3 => ?_)
  refine wp_region_lit ?_
  refine pl M2 (y_move (v := .pointer (some ⟨f, 0, none⟩)) rfl rfl rfl) ?_
  simp only [Act.put, z1, z2, z3]
  have hX4 : Mem w _ w2 ([disk D p pg mb qv, blk f 96 (fC V p)] ++ [blk ga 50 ([.int .i64 1, .int .i64 n, .slice ao nn c]), blk b 48 (bC B ⟨lv, kv, vs⟩), rows lv vs B.loads, lst 3 1 kv B.ps.length B.kinds]) := M2.arr [1, 2, 0, 3, 4, 5] (by decide)
  refine pe rfl (fun K hK => ?_)
  refine e_call 20 [.pointer (some ⟨f, 0, none⟩)] rfl rfl Try.call20 (next_any (Mem.here hX4)) ?_
  rintro e w4 ⟨rfl, H4⟩
  have M4 : Mem w _ w4 [disk D p pg mb qv, blk f 96 (fC V p), blk ga 50 ([.int .i64 1, .int .i64 n, .slice ao nn c]), blk b 48 (bC B ⟨lv, kv, vs⟩), rows lv vs B.loads, lst 3 1 kv B.ps.length B.kinds] := Mem.frame hX4 H4
  refine ⟨_, rfl, ?_⟩
  refine hK.out _ _ ?_
  clear hK K
  simp only [Act.put, z1, z2, z3]
  refine pl M4 (y_assign (v := .int .i64 V.next) rfl rfl rfl) ?_
  simp only [Act.put, z1, z2, z3]
  refine wpList_nil ?_
  refine hK3 _ _ ?_
  clear hK3
  refine wp_seq_k (fun K5 hK5 => ?_)
  refine wp_seq_k (fun K6 hK6 => ?_)
  refine wp_region_lit ?_
  refine pl M4 (y_fa (r := 0) rfl rfl rfl Try.underlying50 rfl Try.sizeOf3 rfl) ?_
  simp only [Act.put, z1, z2, z3]
  refine pl M4 (y_load (v := .int .i64 1) rfl rfl rfl Try.isAgg3 (fun W hW => hW.get 2 rfl) (rfl)) ?_
  simp only [Act.put, z1, z2, z3]
  refine wpList_nil ?_
  refine hK6 _ _ ?_
  clear hK6
  refine wp_block ?_
  refine wp_seq_k (fun K7 hK7 => ?_)
  refine wp_region_lit ?_
  refine pl M4 (y_eql (b := true) rfl rfl rfl rfl (decide_eq_true (by decide))) ?_
  simp only [Act.put, z1, z2, z3]
  refine pl M4 (y_assign (v := .bool true) rfl rfl rfl) ?_
  simp only [Act.put, z1, z2, z3]
  refine wpList_nil ?_
  refine hK7 _ _ ?_
  clear hK7
  refine wp_cond_true rfl ?_
  refine wp_seq_k (fun K8 hK8 => ?_)
  refine wp_region_lit ?_
  refine pl M4 (y_fa (r := 1) rfl rfl rfl Try.underlying50 rfl Try.sizeOf3 rfl) ?_
  simp only [Act.put, z1, z2, z3]
  refine pl M4 (y_load (v := .int .i64 n) rfl rfl rfl Try.isAgg3 (fun W hW => hW.get 2 rfl) (rfl)) ?_
  simp only [Act.put, z1, z2, z3]
  refine pe rfl (fun K hK => ?_)
  refine e_call 13 [.int .i64 n, .int .i64 3] rfl rfl Try.call13 (place3_any n 3 (by decide) (by decide) _) ?_
  rintro e w9 ⟨rfl, H9⟩
  have M9 : Mem w _ w9 [disk D p pg mb qv, blk f 96 (fC V p), blk ga 50 ([.int .i64 1, .int .i64 n, .slice ao nn c]), blk b 48 (bC B ⟨lv, kv, vs⟩), rows lv vs B.loads, lst 3 1 kv B.ps.length B.kinds] := M4.step H9
  refine ⟨_, rfl, ?_⟩
  refine hK.out _ _ ?_
  clear hK K
  simp only [Act.put, z1, z2, z3]
  refine pl M9 (y_add (r := (k : Int)) rfl rfl rfl rfl (hk) (by omega)) ?_
  simp only [Act.put, z1, z2, z3]
  refine pl M9 (y_assign (v := .int .i64 (k : Int)) rfl rfl rfl) ?_
  simp only [Act.put, z1, z2, z3]
  refine wpList_nil ?_
  refine hK8 _ _ ?_
  clear hK8
  refine wp_seq_k (fun K10 hK10 => ?_)
  refine wp_region_lit ?_
  refine pl M9 (y_fa (r := 2) rfl rfl rfl Try.underlying50 rfl Try.sizeOf22 rfl) ?_
  simp only [Act.put, z1, z2, z3]
  refine pl M9 (y_load (v := .slice ao nn c) rfl rfl rfl Try.isAgg22 (fun W hW => hW.get 2 rfl) (rfl)) ?_
  simp only [Act.put, z1, z2, z3]
  refine pe rfl (fun K hK => ?_)
  refine e_call 32 [.slice ao nn c] rfl rfl Try.call32 (copy_any ao nn c l _ (M9.row hr hF) (by omega)) ?_
  rintro e w11 ⟨a1, c1, rfl, H11⟩
  have M11 : Mem w _ w11 [bytesL (.slice a1 l.length c1) l, disk D p pg mb qv, blk f 96 (fC V p), blk ga 50 ([.int .i64 1, .int .i64 n, .slice ao nn c]), blk b 48 (bC B ⟨lv, kv, vs⟩), rows lv vs B.loads, lst 3 1 kv B.ps.length B.kinds] := M9.step H11
  refine ⟨_, rfl, ?_⟩
  refine hK.out _ _ ?_
  clear hK K
  simp only [Act.put, z1, z2, z3]
  refine pl M11 (y_assign (v := .slice a1 l.length c1) rfl rfl rfl) ?_
  simp only [Act.put, z1, z2, z3]
  refine wpList_nil ?_
  refine hK10 _ _ ?_
  clear hK10
  refine wp_seq_k (fun K12 hK12 => ?_)
  refine wp_seq_k (fun K13 hK13 => ?_)
  refine wp_region_lit ?_
  refine pl M11 (y_move (v := .slice a1 l.length c1) rfl rfl rfl) ?_
  simp only [Act.put, z1, z2, z3]
  refine pl M11 (y_len rfl rfl rfl Try.underlying22) ?_
  simp only [Act.put, z1, z2, z3]
  rcases Decidable.em ((246 : Int) < (l.length : Int)) with h14 | h14
  · refine pl M11 (y_gtr (b := true) rfl rfl rfl rfl (decide_eq_true h14)) ?_
    simp only [Act.put, z1, z2, z3]
    refine wpList_nil ?_
    refine hK13 _ _ ?_
    clear hK13
    refine wp_cond_true rfl ?_
    refine wp_region_lit ?_
    refine pl M11 (y_move (v := .slice a1 l.length c1) rfl rfl rfl) ?_
    simp only [Act.put, z1, z2, z3]
    have hcc : l.length ≤ c1 := bytesL_cap (M11.get 0 rfl)
    refine pl M11 (y_slt (h := 246) rfl rfl rfl rfl Try.underlying22 Try.sizeOf5 (by omega)) ?_
    simp only [Act.put, z1, z2, z3]
    have h246 : (l.take 246).length = 246 := by rw [List.length_take]; omega
    have M15 : Mem w (foots [disk D p pg mb qv, blk f 96 (fC V p), book B b ⟨lv, kv, vs⟩]) w11 [bytesL (.slice a1 (l.take 246).length c1) (l.take 246), disk D p pg mb qv, blk f 96 (fC V p), blk ga 50 ([.int .i64 1, .int .i64 n, .slice ao nn c]), blk b 48 (bC B ⟨lv, kv, vs⟩), rows lv vs B.loads, lst 3 1 kv B.ps.length B.kinds] := by
      rw [h246]
      have N := Mem.front M11 0 (m := 246) rfl (by omega)
      have e : (bvs l).take (246 * 1) = bvs (l.take 246) := by unfold bvs; rw [List.map_take]
      rw [e] at N
      unfold bytesL
      rw [h246]
      exact N
    clear M11
    refine pl M15 (y_assign (v := .slice a1 246 c1) rfl rfl rfl) ?_
    simp only [Act.put, z1, z2, z3]
    refine wpList_nil ?_
    refine hK12 _ _ ?_
    clear hK12
    refine wp_seq_k (fun K16 hK16 => ?_)
    refine wp_region_lit ?_
    refine pl M15 (y_move (v := .pointer (some ⟨f, 0, none⟩)) rfl rfl rfl) ?_
    simp only [Act.put, z1, z2, z3]
    refine pl M15 (y_move (v := .int .i64 (k : Int)) rfl rfl rfl) ?_
    simp only [Act.put, z1, z2, z3]
    refine pl M15 (y_move (v := .slice a1 246 c1) rfl rfl rfl) ?_
    simp only [Act.put, z1, z2, z3]
    have hxo : PageOk (k, (l.take 246)) := ⟨⟨by show 1 ≤ k; omega, by show k ≤ 3; omega⟩, by show (l.take 246).length ≤ 246; omega⟩
    have hX17 : Mem w _ w11 ([disk D p pg mb qv, blk f 96 (fC V p)] ++ [bytesL (.slice a1 (l.take 246).length c1) (l.take 246), blk ga 50 ([.int .i64 1, .int .i64 n, .slice ao nn c]), blk b 48 (bC B ⟨lv, kv, vs⟩), rows lv vs B.loads, lst 3 1 kv B.ps.length B.kinds]) := M15.arr [1, 2, 0, 3, 4, 5, 6] (by decide)
    refine pe rfl (fun K hK => ?_)
    refine e_call 26 [.pointer (some ⟨f, 0, none⟩), .int .i64 (k : Int), .slice a1 246 c1] rfl rfl Try.call26 (xapp_down (Mem.here hX17) hI k a1 246 c1 (l.take 246) hxo (by have N := bytesL_row (M15.get 0 rfl); rw [h246] at N; exact N) (Mem.off (L := [disk D p pg mb qv, blk f 96 (fC V p)]) (M15.arr [0, 1, 2] (by decide))) hq hf h0) ?_
    rintro e w17 ⟨E, qv', rfl, H17, hE, hpl⟩
    have M17 : Mem w _ w17 [disk E p pg mb qv', blk f 96 (fC V p), bytesL (.slice a1 (l.take 246).length c1) (l.take 246), blk ga 50 ([.int .i64 1, .int .i64 n, .slice ao nn c]), blk b 48 (bC B ⟨lv, kv, vs⟩), rows lv vs B.loads, lst 3 1 kv B.ps.length B.kinds] := Mem.frame hX17 H17
    refine ⟨_, rfl, ?_⟩
    refine hK.out _ _ ?_
    clear hK K
    simp only [Act.put, z1, z2, z3]
    refine pl M17 (y_move (v := .tuple #[.int .i64 0, .int .i64 2]) rfl rfl rfl) ?_
    simp only [Act.put, z1, z2, z3]
    refine pl M17 (y_ext (v := .int .i64 0) rfl rfl rfl rfl) ?_
    simp only [Act.put, z1, z2, z3]
    refine pl M17 (y_ext (v := .int .i64 2) rfl rfl rfl rfl) ?_
    simp only [Act.put, z1, z2, z3]
    refine pl M17 (y_assign (v := .int .i64 0) rfl rfl rfl) ?_
    simp only [Act.put, z1, z2, z3]
    refine pl M17 (y_assign (v := .int .i64 2) rfl rfl rfl) ?_
    simp only [Act.put, z1, z2, z3]
    refine wpList_nil ?_
    refine hK16 _ _ ?_
    clear hK16
    refine wp_seq_k (fun K18 hK18 => ?_)
    refine wp_seq_k (fun K19 hK19 => ?_)
    refine wp_region_lit ?_
    refine pl M17 (y_move (v := .int .i64 V.next) rfl rfl rfl) ?_
    simp only [Act.put, z1, z2, z3]
    refine pl M17 (y_move (v := .pointer (some ⟨f, 0, none⟩)) rfl rfl rfl) ?_
    simp only [Act.put, z1, z2, z3]
    refine pl M17 (y_nil rfl rfl rfl) ?_
    simp only [Act.put, z1, z2, z3]
    refine pl M17 (y_fa (r := 0) rfl rfl rfl Try.underlying96 rfl Try.sizeOf24 rfl) ?_
    simp only [Act.put, z1, z2, z3]
    refine pl M17 (y_load (v := .pointer (some ⟨p, 0, none⟩)) rfl rfl rfl Try.isAgg24 (fun W hW => hW.get 1 rfl) (rfl)) ?_
    simp only [Act.put, z1, z2, z3]
    have hX20 : Mem w _ w17 ([disk E p pg mb qv'] ++ [blk f 96 (fC V p), bytesL (.slice a1 (l.take 246).length c1) (l.take 246), blk ga 50 ([.int .i64 1, .int .i64 n, .slice ao nn c]), blk b 48 (bC B ⟨lv, kv, vs⟩), rows lv vs B.loads, lst 3 1 kv B.ps.length B.kinds]) := M17.arr [0, 1, 2, 3, 4, 5, 6] (by decide)
    refine pe rfl (fun K hK => ?_)
    refine e_call 24 [.pointer (some ⟨p, 0, none⟩)] rfl rfl Try.call24 (pages_any (Mem.here hX20)) ?_
    rintro e w20 ⟨rfl, H20⟩
    have M20 : Mem w _ w20 [disk E p pg mb qv', blk f 96 (fC V p), bytesL (.slice a1 (l.take 246).length c1) (l.take 246), blk ga 50 ([.int .i64 1, .int .i64 n, .slice ao nn c]), blk b 48 (bC B ⟨lv, kv, vs⟩), rows lv vs B.loads, lst 3 1 kv B.ps.length B.kinds] := Mem.frame hX20 H20
    refine ⟨_, rfl, ?_⟩
    refine hK.out _ _ ?_
    clear hK K
    simp only [Act.put, z1, z2, z3]
    refine pl M20 (y_eql (b := false) rfl rfl rfl rfl (decide_eq_false (by rw [hpl]; omega))) ?_
    simp only [Act.put, z1, z2, z3]
    refine wpList_nil ?_
    refine hK19 _ _ ?_
    clear hK19
    refine wp_cond_false rfl ?_
    refine wp_skip ?_
    refine hK18 _ _ ?_
    clear hK18
    refine wp_seq_k (fun K21 hK21 => ?_)
    refine wp_seq_k (fun K22 hK22 => ?_)
    refine wp_region_lit ?_
    refine pl M20 (y_move (v := .int .i64 2) rfl rfl rfl) ?_
    simp only [Act.put, z1, z2, z3]
    refine pl M20 (y_eql (b := false) rfl rfl rfl rfl (decide_eq_false (by decide))) ?_
    simp only [Act.put, z1, z2, z3]
    refine wpList_nil ?_
    refine hK22 _ _ ?_
    clear hK22
    refine wp_cond_false rfl ?_
    refine wp_skip ?_
    refine hK21 _ _ ?_
    clear hK21
    refine wp_seq_k (fun K23 hK23 => ?_)
    refine wp_region_lit ?_
    refine pl M20 (y_move (v := .int .i64 2) rfl rfl rfl) ?_
    simp only [Act.put, z1, z2, z3]
    refine pl M20 (y_move (v := .int .i64 2) rfl rfl rfl) ?_
    simp only [Act.put, z1, z2, z3]
    refine pl M20 (y_eql (b := true) rfl rfl rfl rfl (decide_eq_true (by decide))) ?_
    simp only [Act.put, z1, z2, z3]
    refine pl M20 (y_move (v := .bool true) rfl rfl rfl) ?_
    simp only [Act.put, z1, z2, z3]
    refine pl M20 (y_move (v := .pointer (some ⟨f, 0, none⟩)) rfl rfl rfl) ?_
    simp only [Act.put, z1, z2, z3]
    have hX24 : Mem w _ w20 ([disk E p pg mb qv', blk f 96 (fC V p)] ++ [bytesL (.slice a1 (l.take 246).length c1) (l.take 246), blk ga 50 ([.int .i64 1, .int .i64 n, .slice ao nn c]), blk b 48 (bC B ⟨lv, kv, vs⟩), rows lv vs B.loads, lst 3 1 kv B.ps.length B.kinds]) := M20.arr [0, 1, 2, 3, 4, 5, 6] (by decide)
    refine pe rfl (fun K hK => ?_)
    refine e_call 20 [.pointer (some ⟨f, 0, none⟩)] rfl rfl Try.call20 (next_any (Mem.here hX24)) ?_
    rintro e w24 ⟨rfl, H24⟩
    have M24 : Mem w _ w24 [disk E p pg mb qv', blk f 96 (fC V p), bytesL (.slice a1 (l.take 246).length c1) (l.take 246), blk ga 50 ([.int .i64 1, .int .i64 n, .slice ao nn c]), blk b 48 (bC B ⟨lv, kv, vs⟩), rows lv vs B.loads, lst 3 1 kv B.ps.length B.kinds] := Mem.frame hX24 H24
    refine ⟨_, rfl, ?_⟩
    refine hK.out _ _ ?_
    clear hK K
    simp only [Act.put, z1, z2, z3]
    refine pl M24 (y_move (v := .int .i64 V.next) rfl rfl rfl) ?_
    simp only [Act.put, z1, z2, z3]
    refine pl M24 (y_eql (b := true) rfl rfl rfl rfl (decide_eq_true rfl)) ?_
    simp only [Act.put, z1, z2, z3]
    refine pl M24 (y_pickT (v := .bool true) rfl rfl rfl rfl) ?_
    simp only [Act.put, z1, z2, z3]
    refine pl M24 (y_assign (v := .int .i64 2) rfl rfl rfl) ?_
    simp only [Act.put, z1, z2, z3]
    refine pl M24 (y_assign (v := .bool true) rfl rfl rfl) ?_
    simp only [Act.put, z1, z2, z3]
    refine wpList_nil ?_
    refine hK23 _ _ ?_
    clear hK23
    refine wp_ret ?_
    try simp only [Exit.inBlock, Exit.then]
    refine bodyPost_ret (v := .tuple #[.int .i64 2, .bool true]) (res2 rfl rfl rfl) rfl ?_
    have N : Mem _ _ _ [book _ b ⟨lv, kv, vs⟩, _, _] := book_close (M24.arr [4, 5, 6, 0, 1] (by decide))
    exact ⟨E, (k, (l.take 246)), qv', ⟨lv, kv, vs⟩, rfl, N.arr [1, 2, 0] (by decide), hxo, hE⟩
  · refine pl M11 (y_gtr (b := false) rfl rfl rfl rfl (decide_eq_false h14)) ?_
    simp only [Act.put, z1, z2, z3]
    refine wpList_nil ?_
    refine hK13 _ _ ?_
    clear hK13
    refine wp_cond_false rfl ?_
    refine wp_skip ?_
    refine hK12 _ _ ?_
    clear hK12
    refine wp_seq_k (fun K25 hK25 => ?_)
    refine wp_region_lit ?_
    refine pl M11 (y_move (v := .pointer (some ⟨f, 0, none⟩)) rfl rfl rfl) ?_
    simp only [Act.put, z1, z2, z3]
    refine pl M11 (y_move (v := .int .i64 (k : Int)) rfl rfl rfl) ?_
    simp only [Act.put, z1, z2, z3]
    refine pl M11 (y_move (v := .slice a1 l.length c1) rfl rfl rfl) ?_
    simp only [Act.put, z1, z2, z3]
    have hxo : PageOk (k, l) := ⟨⟨by show 1 ≤ k; omega, by show k ≤ 3; omega⟩, by show l.length ≤ 246; omega⟩
    have hX26 : Mem w _ w11 ([disk D p pg mb qv, blk f 96 (fC V p)] ++ [bytesL (.slice a1 l.length c1) l, blk ga 50 ([.int .i64 1, .int .i64 n, .slice ao nn c]), blk b 48 (bC B ⟨lv, kv, vs⟩), rows lv vs B.loads, lst 3 1 kv B.ps.length B.kinds]) := M11.arr [1, 2, 0, 3, 4, 5, 6] (by decide)
    refine pe rfl (fun K hK => ?_)
    refine e_call 26 [.pointer (some ⟨f, 0, none⟩), .int .i64 (k : Int), .slice a1 l.length c1] rfl rfl Try.call26 (xapp_down (Mem.here hX26) hI k a1 l.length c1 l hxo (by have N := bytesL_row (M11.get 0 rfl); exact N) (Mem.off (L := [disk D p pg mb qv, blk f 96 (fC V p)]) (M11.arr [0, 1, 2] (by decide))) hq hf h0) ?_
    rintro e w26 ⟨E, qv', rfl, H26, hE, hpl⟩
    have M26 : Mem w _ w26 [disk E p pg mb qv', blk f 96 (fC V p), bytesL (.slice a1 l.length c1) l, blk ga 50 ([.int .i64 1, .int .i64 n, .slice ao nn c]), blk b 48 (bC B ⟨lv, kv, vs⟩), rows lv vs B.loads, lst 3 1 kv B.ps.length B.kinds] := Mem.frame hX26 H26
    refine ⟨_, rfl, ?_⟩
    refine hK.out _ _ ?_
    clear hK K
    simp only [Act.put, z1, z2, z3]
    refine pl M26 (y_move (v := .tuple #[.int .i64 0, .int .i64 2]) rfl rfl rfl) ?_
    simp only [Act.put, z1, z2, z3]
    refine pl M26 (y_ext (v := .int .i64 0) rfl rfl rfl rfl) ?_
    simp only [Act.put, z1, z2, z3]
    refine pl M26 (y_ext (v := .int .i64 2) rfl rfl rfl rfl) ?_
    simp only [Act.put, z1, z2, z3]
    refine pl M26 (y_assign (v := .int .i64 0) rfl rfl rfl) ?_
    simp only [Act.put, z1, z2, z3]
    refine pl M26 (y_assign (v := .int .i64 2) rfl rfl rfl) ?_
    simp only [Act.put, z1, z2, z3]
    refine wpList_nil ?_
    refine hK25 _ _ ?_
    clear hK25
    refine wp_seq_k (fun K27 hK27 => ?_)
    refine wp_seq_k (fun K28 hK28 => ?_)
    refine wp_region_lit ?_
    refine pl M26 (y_move (v := .int .i64 V.next) rfl rfl rfl) ?_
    simp only [Act.put, z1, z2, z3]
    refine pl M26 (y_move (v := .pointer (some ⟨f, 0, none⟩)) rfl rfl rfl) ?_
    simp only [Act.put, z1, z2, z3]
    refine pl M26 (y_nil rfl rfl rfl) ?_
    simp only [Act.put, z1, z2, z3]
    refine pl M26 (y_fa (r := 0) rfl rfl rfl Try.underlying96 rfl Try.sizeOf24 rfl) ?_
    simp only [Act.put, z1, z2, z3]
    refine pl M26 (y_load (v := .pointer (some ⟨p, 0, none⟩)) rfl rfl rfl Try.isAgg24 (fun W hW => hW.get 1 rfl) (rfl)) ?_
    simp only [Act.put, z1, z2, z3]
    have hX29 : Mem w _ w26 ([disk E p pg mb qv'] ++ [blk f 96 (fC V p), bytesL (.slice a1 l.length c1) l, blk ga 50 ([.int .i64 1, .int .i64 n, .slice ao nn c]), blk b 48 (bC B ⟨lv, kv, vs⟩), rows lv vs B.loads, lst 3 1 kv B.ps.length B.kinds]) := M26.arr [0, 1, 2, 3, 4, 5, 6] (by decide)
    refine pe rfl (fun K hK => ?_)
    refine e_call 24 [.pointer (some ⟨p, 0, none⟩)] rfl rfl Try.call24 (pages_any (Mem.here hX29)) ?_
    rintro e w29 ⟨rfl, H29⟩
    have M29 : Mem w _ w29 [disk E p pg mb qv', blk f 96 (fC V p), bytesL (.slice a1 l.length c1) l, blk ga 50 ([.int .i64 1, .int .i64 n, .slice ao nn c]), blk b 48 (bC B ⟨lv, kv, vs⟩), rows lv vs B.loads, lst 3 1 kv B.ps.length B.kinds] := Mem.frame hX29 H29
    refine ⟨_, rfl, ?_⟩
    refine hK.out _ _ ?_
    clear hK K
    simp only [Act.put, z1, z2, z3]
    refine pl M29 (y_eql (b := false) rfl rfl rfl rfl (decide_eq_false (by rw [hpl]; omega))) ?_
    simp only [Act.put, z1, z2, z3]
    refine wpList_nil ?_
    refine hK28 _ _ ?_
    clear hK28
    refine wp_cond_false rfl ?_
    refine wp_skip ?_
    refine hK27 _ _ ?_
    clear hK27
    refine wp_seq_k (fun K30 hK30 => ?_)
    refine wp_seq_k (fun K31 hK31 => ?_)
    refine wp_region_lit ?_
    refine pl M29 (y_move (v := .int .i64 2) rfl rfl rfl) ?_
    simp only [Act.put, z1, z2, z3]
    refine pl M29 (y_eql (b := false) rfl rfl rfl rfl (decide_eq_false (by decide))) ?_
    simp only [Act.put, z1, z2, z3]
    refine wpList_nil ?_
    refine hK31 _ _ ?_
    clear hK31
    refine wp_cond_false rfl ?_
    refine wp_skip ?_
    refine hK30 _ _ ?_
    clear hK30
    refine wp_seq_k (fun K32 hK32 => ?_)
    refine wp_region_lit ?_
    refine pl M29 (y_move (v := .int .i64 2) rfl rfl rfl) ?_
    simp only [Act.put, z1, z2, z3]
    refine pl M29 (y_move (v := .int .i64 2) rfl rfl rfl) ?_
    simp only [Act.put, z1, z2, z3]
    refine pl M29 (y_eql (b := true) rfl rfl rfl rfl (decide_eq_true (by decide))) ?_
    simp only [Act.put, z1, z2, z3]
    refine pl M29 (y_move (v := .bool true) rfl rfl rfl) ?_
    simp only [Act.put, z1, z2, z3]
    refine pl M29 (y_move (v := .pointer (some ⟨f, 0, none⟩)) rfl rfl rfl) ?_
    simp only [Act.put, z1, z2, z3]
    have hX33 : Mem w _ w29 ([disk E p pg mb qv', blk f 96 (fC V p)] ++ [bytesL (.slice a1 l.length c1) l, blk ga 50 ([.int .i64 1, .int .i64 n, .slice ao nn c]), blk b 48 (bC B ⟨lv, kv, vs⟩), rows lv vs B.loads, lst 3 1 kv B.ps.length B.kinds]) := M29.arr [0, 1, 2, 3, 4, 5, 6] (by decide)
    refine pe rfl (fun K hK => ?_)
    refine e_call 20 [.pointer (some ⟨f, 0, none⟩)] rfl rfl Try.call20 (next_any (Mem.here hX33)) ?_
    rintro e w33 ⟨rfl, H33⟩
    have M33 : Mem w _ w33 [disk E p pg mb qv', blk f 96 (fC V p), bytesL (.slice a1 l.length c1) l, blk ga 50 ([.int .i64 1, .int .i64 n, .slice ao nn c]), blk b 48 (bC B ⟨lv, kv, vs⟩), rows lv vs B.loads, lst 3 1 kv B.ps.length B.kinds] := Mem.frame hX33 H33
    refine ⟨_, rfl, ?_⟩
    refine hK.out _ _ ?_
    clear hK K
    simp only [Act.put, z1, z2, z3]
    refine pl M33 (y_move (v := .int .i64 V.next) rfl rfl rfl) ?_
    simp only [Act.put, z1, z2, z3]
    refine pl M33 (y_eql (b := true) rfl rfl rfl rfl (decide_eq_true rfl)) ?_
    simp only [Act.put, z1, z2, z3]
    refine pl M33 (y_pickT (v := .bool true) rfl rfl rfl rfl) ?_
    simp only [Act.put, z1, z2, z3]
    refine pl M33 (y_assign (v := .int .i64 2) rfl rfl rfl) ?_
    simp only [Act.put, z1, z2, z3]
    refine pl M33 (y_assign (v := .bool true) rfl rfl rfl) ?_
    simp only [Act.put, z1, z2, z3]
    refine wpList_nil ?_
    refine hK32 _ _ ?_
    clear hK32
    refine wp_ret ?_
    try simp only [Exit.inBlock, Exit.then]
    refine bodyPost_ret (v := .tuple #[.int .i64 2, .bool true]) (res2 rfl rfl rfl) rfl ?_
    have N : Mem _ _ _ [book _ b ⟨lv, kv, vs⟩, _, _] := book_close (M33.arr [4, 5, 6, 0, 1] (by decide))
    exact ⟨E, (k, l), qv', ⟨lv, kv, vs⟩, rfl, N.arr [1, 2, 0] (by decide), hxo, hE⟩
end Go.Proofs.Ytehnnnohoaapdaa

/- One act on the book: Publish, Forget, Arm. -/
namespace Go.Proofs.Ytehnnnohoaapdaa
set_option linter.unusedSectionVars false
open Go Go.RowKit
set_option linter.unusedVariables false
set_option linter.unusedSimpArgs false
set_option maxRecDepth 100000 in
set_option maxHeartbeats 4000000 in
theorem act_pub_go_h {D : DV} {V : FV} {B : BV} {p pg mb f b : Nat} {qv : Value} {bx : BX} {w : World} (hM : Mem w (foots [disk D p pg mb qv, blk f 96 (fC V p), book B b bx]) w [disk D p pg mb qv, blk f 96 (fC V p), book B b bx]) (n : Int) (ao : Option Addr) (nn c : Nat) {ps : Pgs} (hI : Inv D V ps) (hg : V.s.gen = B.gen) (hgm : V.s.gen < 1099511627776) (hq : D.q.length ≤ 400000000000) (h1 : n % 2 = 1) (h2 : 2 < V.next) (h0 : (pubR D V (V.next - 1)).2 = 0) (hpp : (pubR D V (V.next - 1)).1.pages.length = D.pages.length) : Calls Try.prog 27 #[.pointer (some ⟨b, 0, none⟩), .pointer (some ⟨p, 0, none⟩), .pointer (some ⟨f, 0, none⟩), .agg ([.int .i64 2, .int .i64 n, .slice ao nn c]).toArray] w fun e w' => ∃ E qv' bx', e = .returned (.tuple #[.int .i64 0, .bool true]) ∧ Mem w (foots [disk D p pg mb qv, blk f 96 (fC V p), book B b bx]) w' [disk E p pg mb qv', blk f 96 (fC ({ V with s := pubS V (V.next - 1) } : FV) p), book ({ B with mark := V.next, head := V.next - 1, gen := B.gen + 1 } : BV) b bx'] ∧ E = (pubR D V (V.next - 1)).1 := by
  obtain ⟨lv, kv, vs⟩ := bx
  have M0 := book_open (hM.arr [2, 0, 1] (by decide))
  clear hM
  have M : Mem w _ w [disk D p pg mb qv, blk f 96 (fC V p), blk b 48 (bC B ⟨lv, kv, vs⟩), rows lv vs B.loads, lst 3 1 kv B.ps.length B.kinds] := M0.arr [3, 4, 0, 1, 2] (by decide)
  clear M0
  have hpg := hI.plat.pages
  have hg1 := hI.plat.gen0
  have hn2 := hI.next2
  have hnp := hI.nextp
  have hhi := hI.ok.hi
  go_enter Try.func27, Try.ntmps27
  refine wp_seq_k (fun K1 hK1 => ?_)
  refine wp_region_lit ?_
  refine pe rfl (fun K hK => ?_)
  refine e_box M ([.int .i64 2, .int .i64 n, .slice ao nn c]) rfl rfl ?_
  intro ga w2 (M2 : Mem w _ w2 [blk ga 50 ([.int .i64 2, .int .i64 n, .slice ao nn c]), disk D p pg mb qv, blk f 96 (fC V p), blk b 48 (bC B ⟨lv, kv, vs⟩), rows lv vs B.loads, lst 3 1 kv B.ps.length B.kinds])
  clear M
  refine hK.out _ _ ?_
  clear hK K
  simp only [Act.put, z1, z2, z3]
  refine pl M2 (y_assign (v := .int .i64 0) rfl rfl rfl) ?_
  simp only [Act.put, z1, z2, z3]
  refine pl M2 (y_assign (v := .bool false) rfl rfl rfl) ?_
  simp only [Act.put, z1, z2, z3]
  refine wpList_nil ?_
  refine hK1 _ _ ?_
  clear hK1
  refine wp_seq_k (fun K3 hK3 => ?_)
  refine wp_region_lit ?_
  refine pl M2 (y_move (v := .pointer (some ⟨f, 0, none⟩)) rfl rfl rfl) ?_
  simp only [Act.put, z1, z2, z3]
  have hX4 : Mem w _ w2 ([disk D p pg mb qv, blk f 96 (fC V p)] ++ [blk ga 50 ([.int .i64 2, .int .i64 n, .slice ao nn c]), blk b 48 (bC B ⟨lv, kv, vs⟩), rows lv vs B.loads, lst 3 1 kv B.ps.length B.kinds]) := M2.arr [1, 2, 0, 3, 4, 5] (by decide)
  refine pe rfl (fun K hK => ?_)
  refine e_call 20 [.pointer (some ⟨f, 0, none⟩)] rfl rfl Try.call20 (next_any (Mem.here hX4)) ?_
  rintro e w4 ⟨rfl, H4⟩
  have M4 : Mem w _ w4 [disk D p pg mb qv, blk f 96 (fC V p), blk ga 50 ([.int .i64 2, .int .i64 n, .slice ao nn c]), blk b 48 (bC B ⟨lv, kv, vs⟩), rows lv vs B.loads, lst 3 1 kv B.ps.length B.kinds] := Mem.frame hX4 H4
  refine ⟨_, rfl, ?_⟩
  refine hK.out _ _ ?_
  clear hK K
  simp only [Act.put, z1, z2, z3]
  refine pl M4 (y_assign (v := .int .i64 V.next) rfl rfl rfl) ?_
  simp only [Act.put, z1, z2, z3]
  refine wpList_nil ?_
  refine hK3 _ _ ?_
  clear hK3
  refine wp_seq_k (fun K5 hK5 => ?_)
  refine wp_seq_k (fun K6 hK6 => ?_)
  refine wp_region_lit ?_
  refine pl M4 (y_fa (r := 0) rfl rfl rfl Try.underlying50 rfl Try.sizeOf3 rfl) ?_
  simp only [Act.put, z1, z2, z3]
  refine pl M4 (y_load (v := .int .i64 2) rfl rfl rfl Try.isAgg3 (fun W hW => hW.get 2 rfl) (rfl)) ?_
  simp only [Act.put, z1, z2, z3]
  refine wpList_nil ?_
  refine hK6 _ _ ?_
  clear hK6
  refine wp_block ?_
  refine wp_seq_k (fun K7 hK7 => ?_)
  refine wp_region_lit ?_
  refine pl M4 (y_eql (b := false) rfl rfl rfl rfl (decide_eq_false (by decide))) ?_
  simp only [Act.put, z1, z2, z3]
  refine pl M4 (y_assign (v := .bool false) rfl rfl rfl) ?_
  simp only [Act.put, z1, z2, z3]
  refine wpList_nil ?_
  refine hK7 _ _ ?_
  clear hK7
  refine wp_cond_false rfl ?_
  refine wp_seq_k (fun K8 hK8 => ?_)
  refine wp_region_lit ?_
  refine pl M4 (y_eql (b := true) rfl rfl rfl rfl (decide_eq_true (by decide))) ?_
  simp only [Act.put, z1, z2, z3]
  refine pl M4 (y_assign (v := .bool true) rfl rfl rfl) ?_
  simp only [Act.put, z1, z2, z3]
  refine wpList_nil ?_
  refine hK8 _ _ ?_
  clear hK8
  refine wp_cond_true rfl ?_
  refine wp_seq_k (fun K9 hK9 => ?_)
  refine wp_region_lit ?_
  refine pl M4 (y_assign (v := .int .i64 0) rfl rfl rfl) ?_
  simp only [Act.put, z1, z2, z3]
  refine wpList_nil ?_
  refine hK9 _ _ ?_
  clear hK9
  refine wp_seq_k (fun K10 hK10 => ?_)
  refine wp_seq_k (fun K11 hK11 => ?_)
  refine wp_region_lit ?_
  refine pl M4 (y_fa (r := 1) rfl rfl rfl Try.underlying50 rfl Try.sizeOf3 rfl) ?_
  simp only [Act.put, z1, z2, z3]
  refine pl M4 (y_load (v := .int .i64 n) rfl rfl rfl Try.isAgg3 (fun W hW => hW.get 2 rfl) (rfl)) ?_
  simp only [Act.put, z1, z2, z3]
  refine pe rfl (fun K hK => ?_)
  refine e_call 13 [.int .i64 n, .int .i64 2] rfl rfl Try.call13 (place3_any n 2 (by decide) (by decide) _) ?_
  rintro e w12 ⟨rfl, H12⟩
  have M12 : Mem w _ w12 [disk D p pg mb qv, blk f 96 (fC V p), blk ga 50 ([.int .i64 2, .int .i64 n, .slice ao nn c]), blk b 48 (bC B ⟨lv, kv, vs⟩), rows lv vs B.loads, lst 3 1 kv B.ps.length B.kinds] := M4.step H12
  refine ⟨_, rfl, ?_⟩
  refine hK.out _ _ ?_
  clear hK K
  simp only [Act.put, z1, z2, z3]
  refine pl M12 (y_eql (b := true) rfl rfl rfl rfl (decide_eq_true h1)) ?_
  simp only [Act.put, z1, z2, z3]
  refine pl M12 (y_move (v := .bool true) rfl rfl rfl) ?_
  simp only [Act.put, z1, z2, z3]
  refine pl M12 (y_move (v := .int .i64 V.next) rfl rfl rfl) ?_
  simp only [Act.put, z1, z2, z3]
  refine pl M12 (y_gtr (b := true) rfl rfl rfl rfl (decide_eq_true h2)) ?_
  simp only [Act.put, z1, z2, z3]
  refine pl M12 (y_pickT (v := .bool true) rfl rfl rfl rfl) ?_
  simp only [Act.put, z1, z2, z3]
  refine wpList_nil ?_
  refine hK11 _ _ ?_
  clear hK11
  refine wp_cond_true rfl ?_
  refine wp_region_lit ?_
  refine pl M12 (y_move (v := .int .i64 V.next) rfl rfl rfl) ?_
  simp only [Act.put, z1, z2, z3]
  refine pl M12 (y_sub (r := V.next - 1) rfl rfl rfl rfl (rfl) (by omega)) ?_
  simp only [Act.put, z1, z2, z3]
  refine pl M12 (y_assign (v := .int .i64 (V.next - 1)) rfl rfl rfl) ?_
  simp only [Act.put, z1, z2, z3]
  refine wpList_nil ?_
  refine hK10 _ _ ?_
  clear hK10
  refine wp_seq_k (fun K13 hK13 => ?_)
  refine wp_region_lit ?_
  refine pl M12 (y_move (v := .pointer (some ⟨f, 0, none⟩)) rfl rfl rfl) ?_
  simp only [Act.put, z1, z2, z3]
  refine pl M12 (y_move (v := .int .i64 (V.next - 1)) rfl rfl rfl) ?_
  simp only [Act.put, z1, z2, z3]
  have hX14 : Mem w _ w12 ([disk D p pg mb qv, blk f 96 (fC V p)] ++ [blk ga 50 ([.int .i64 2, .int .i64 n, .slice ao nn c]), blk b 48 (bC B ⟨lv, kv, vs⟩), rows lv vs B.loads, lst 3 1 kv B.ps.length B.kinds]) := M12.arr [0, 1, 2, 3, 4, 5] (by decide)
  refine pe rfl (fun K hK => ?_)
  refine e_call 28 [.pointer (some ⟨f, 0, none⟩), .int .i64 (V.next - 1)] rfl rfl Try.call28 (xpub_go (Mem.here hX14) hI (V.next - 1) hq h0 hpp) ?_
  rintro e w14 ⟨E, qv', rfl, H14, hE, hpl⟩
  have M14 : Mem w _ w14 [disk E p pg mb qv', blk f 96 (fC ({ V with s := pubS V (V.next - 1) } : FV) p), blk ga 50 ([.int .i64 2, .int .i64 n, .slice ao nn c]), blk b 48 (bC B ⟨lv, kv, vs⟩), rows lv vs B.loads, lst 3 1 kv B.ps.length B.kinds] := Mem.frame hX14 H14
  have hcs : [.int .i64 V.s.width, .int .i64 (B.gen + 1), .int .i64 V.next, .int .i64 (V.next - 1), .int .i64 (E.pages.length : Int)] = supC (pubS V (V.next - 1)) := by rw [hpl, ← hg, ← hpg]; rfl
  refine ⟨_, rfl, ?_⟩
  refine hK.out _ _ ?_
  clear hK K
  simp only [Act.put, z1, z2, z3]
  refine pl M14 (y_assign (v := .int .i64 0) rfl rfl rfl) ?_
  simp only [Act.put, z1, z2, z3]
  refine wpList_nil ?_
  refine hK13 _ _ ?_
  clear hK13
  refine wp_seq_k (fun K15 hK15 => ?_)
  refine wp_seq_k (fun K16 hK16 => ?_)
  refine wp_region_lit ?_
  refine pl M14 (y_move (v := .int .i64 0) rfl rfl rfl) ?_
  simp only [Act.put, z1, z2, z3]
  refine pl M14 (y_eql (b := true) rfl rfl rfl rfl (decide_eq_true (by decide))) ?_
  simp only [Act.put, z1, z2, z3]
  refine wpList_nil ?_
  refine hK16 _ _ ?_
  clear hK16
  refine wp_cond_true rfl ?_
  refine wp_seq_k (fun K17 hK17 => ?_)
  refine wp_region_lit ?_
  refine pl M14 (y_move (v := .pointer (some ⟨b, 0, none⟩)) rfl rfl rfl) ?_
  simp only [Act.put, z1, z2, z3]
  refine pl M14 (y_move (v := .pointer (some ⟨b, 0, none⟩)) rfl rfl rfl) ?_
  simp only [Act.put, z1, z2, z3]
  refine pl M14 (y_move (v := .int .i64 V.next) rfl rfl rfl) ?_
  simp only [Act.put, z1, z2, z3]
  refine pl M14 (y_move (v := .int .i64 (V.next - 1)) rfl rfl rfl) ?_
  simp only [Act.put, z1, z2, z3]
  refine pl M14 (y_nil rfl rfl rfl) ?_
  simp only [Act.put, z1, z2, z3]
  refine pl M14 (y_fa (r := 2) rfl rfl rfl Try.underlying48 rfl Try.sizeOf3 rfl) ?_
  simp only [Act.put, z1, z2, z3]
  refine pe rfl (fun K hK => ?_)
  refine e_store M14 3 (v := .int .i64 V.next) rfl rfl rfl rfl rfl rfl Try.sizeOf3 rfl (show (2 : Nat) < 7 by decide) ?_
  intro w18 (M18 : Mem w _ w18 [disk E p pg mb qv', blk f 96 (fC ({ V with s := pubS V (V.next - 1) } : FV) p), blk ga 50 ([.int .i64 2, .int .i64 n, .slice ao nn c]), blk b 48 ([lv, kv, .int .i64 V.next, .int .i64 B.gen, .int .i64 B.head, .int .i64 B.inMark, .int .i64 B.inHead]), rows lv vs B.loads, lst 3 1 kv B.ps.length B.kinds])
  clear M14
  refine hK.out _ _ ?_
  clear hK K
  simp only [Act.put, z1, z2, z3]
  refine pl M18 (y_nil rfl rfl rfl) ?_
  simp only [Act.put, z1, z2, z3]
  refine pl M18 (y_fa (r := 4) rfl rfl rfl Try.underlying48 rfl Try.sizeOf3 rfl) ?_
  simp only [Act.put, z1, z2, z3]
  refine pe rfl (fun K hK => ?_)
  refine e_store M18 3 (v := .int .i64 (V.next - 1)) rfl rfl rfl rfl rfl rfl Try.sizeOf3 rfl (show (4 : Nat) < 7 by decide) ?_
  intro w19 (M19 : Mem w _ w19 [disk E p pg mb qv', blk f 96 (fC ({ V with s := pubS V (V.next - 1) } : FV) p), blk ga 50 ([.int .i64 2, .int .i64 n, .slice ao nn c]), blk b 48 ([lv, kv, .int .i64 V.next, .int .i64 B.gen, .int .i64 (V.next - 1), .int .i64 B.inMark, .int .i64 B.inHead]), rows lv vs B.loads, lst 3 1 kv B.ps.length B.kinds])
  clear M18
  refine hK.out _ _ ?_
  clear hK K
  simp only [Act.put, z1, z2, z3]
  refine wpList_nil ?_
  refine hK17 _ _ ?_
  clear hK17
  refine wp_seq_k (fun K20 hK20 => ?_)
  refine wp_region_lit ?_
  refine pl M19 (y_move (v := .pointer (some ⟨b, 0, none⟩)) rfl rfl rfl) ?_
  simp only [Act.put, z1, z2, z3]
  refine pl M19 (y_nil rfl rfl rfl) ?_
  simp only [Act.put, z1, z2, z3]
  refine pl M19 (y_fa (r := 3) rfl rfl rfl Try.underlying48 rfl Try.sizeOf3 rfl) ?_
  simp only [Act.put, z1, z2, z3]
  refine pl M19 (y_load (v := .int .i64 B.gen) rfl rfl rfl Try.isAgg3 (fun W hW => hW.get 3 rfl) (rfl)) ?_
  simp only [Act.put, z1, z2, z3]
  refine pl M19 (y_add (r := B.gen + 1) rfl rfl rfl rfl (rfl) (by omega)) ?_
  simp only [Act.put, z1, z2, z3]
  refine pl M19 (y_nil rfl rfl rfl) ?_
  simp only [Act.put, z1, z2, z3]
  refine pl M19 (y_fa (r := 3) rfl rfl rfl Try.underlying48 rfl Try.sizeOf3 rfl) ?_
  simp only [Act.put, z1, z2, z3]
  refine pe rfl (fun K hK => ?_)
  refine e_store M19 3 (v := .int .i64 (B.gen + 1)) rfl rfl rfl rfl rfl rfl Try.sizeOf3 rfl (show (3 : Nat) < 7 by decide) ?_
  intro w21 (M21 : Mem w _ w21 [disk E p pg mb qv', blk f 96 (fC ({ V with s := pubS V (V.next - 1) } : FV) p), blk ga 50 ([.int .i64 2, .int .i64 n, .slice ao nn c]), blk b 48 ([lv, kv, .int .i64 V.next, .int .i64 (B.gen + 1), .int .i64 (V.next - 1), .int .i64 B.inMark, .int .i64 B.inHead]), rows lv vs B.loads, lst 3 1 kv B.ps.length B.kinds])
  clear M19
  refine hK.out _ _ ?_
  clear hK K
  simp only [Act.put, z1, z2, z3]
  refine wpList_nil ?_
  refine hK20 _ _ ?_
  clear hK20
  refine wp_seq_k (fun K22 hK22 => ?_)
  have M23 := M21.drew
  refine held_begin (fun W => Mem w (foots [disk D p pg mb qv, blk f 96 (fC V p), book B b ⟨lv, kv, vs⟩]) W [blk b 48 ([lv, kv, .int .i64 V.next, .int .i64 (B.gen + 1), .int .i64 (V.next - 1), .int .i64 B.inMark, .int .i64 B.inHead])]) (by kernel_rfl) (M23.arr [3] (by decide)) (fun hS => ?_)
  refine held_take 0 _ rfl (by kernel_rfl) (by kernel_rfl) (by kernel_rfl) (y_move (v := .int .i64 0) rfl rfl rfl) hS ?_
  simp only [Act.put, z1, z2, z3]
  refine held_take 1 _ rfl (by kernel_rfl) (by kernel_rfl) (by kernel_rfl) (y_move (v := .pointer (some ⟨f, 0, none⟩)) rfl rfl rfl) hS ?_
  simp only [Act.put, z1, z2, z3]
  refine held_take 3 _ rfl (by kernel_rfl) (by kernel_rfl) (by kernel_rfl) (y_move (v := .pointer (some ⟨f, 0, none⟩)) rfl rfl rfl) hS ?_
  simp only [Act.put, z1, z2, z3]
  refine held_take 6 _ rfl (by kernel_rfl) (by kernel_rfl) (by kernel_rfl) (y_move (v := .pointer (some ⟨b, 0, none⟩)) rfl rfl rfl) hS ?_
  simp only [Act.put, z1, z2, z3]
  refine held_take 7 _ rfl (by kernel_rfl) (by kernel_rfl) (by kernel_rfl) (y_nil rfl rfl rfl) hS ?_
  simp only [Act.put, z1, z2, z3]
  refine held_take 8 _ rfl (by kernel_rfl) (by kernel_rfl) (by kernel_rfl) (y_fa (r := 3) rfl rfl rfl Try.underlying48 rfl Try.sizeOf3 rfl) hS ?_
  simp only [Act.put, z1, z2, z3]
  refine held_take 9 _ rfl (by kernel_rfl) (by kernel_rfl) (by kernel_rfl) (y_load (v := .int .i64 (B.gen + 1)) rfl rfl rfl Try.isAgg3 (fun W hW => hW.get 0 rfl) (rfl)) hS ?_
  simp only [Act.put, z1, z2, z3]
  refine held_take 10 _ rfl (by kernel_rfl) (by kernel_rfl) (by kernel_rfl) (y_move (v := .int .i64 V.next) rfl rfl rfl) hS ?_
  simp only [Act.put, z1, z2, z3]
  refine held_take 11 _ rfl (by kernel_rfl) (by kernel_rfl) (by kernel_rfl) (y_move (v := .int .i64 (V.next - 1)) rfl rfl rfl) hS ?_
  simp only [Act.put, z1, z2, z3]
  refine held_take 12 _ rfl (by kernel_rfl) (by kernel_rfl) (by kernel_rfl) (y_move (v := .pointer (some ⟨p, 0, none⟩)) rfl rfl rfl) hS ?_
  simp only [Act.put, z1, z2, z3]
  have hX24 : Mem w _ w21.drew ([disk E p pg mb qv', blk f 96 (fC ({ V with s := pubS V (V.next - 1) } : FV) p)] ++ [blk ga 50 ([.int .i64 2, .int .i64 n, .slice ao nn c]), blk b 48 ([lv, kv, .int .i64 V.next, .int .i64 (B.gen + 1), .int .i64 (V.next - 1), .int .i64 B.inMark, .int .i64 B.inHead]), rows lv vs B.loads, lst 3 1 kv B.ps.length B.kinds]) := M23.arr [0, 1, 2, 3, 4, 5] (by decide)
  refine held_step 2 (by kernel_rfl) rfl (by rfl) (fun K hK => ?_)
  refine e_call 19 [.pointer (some ⟨f, 0, none⟩)] rfl rfl Try.call19 (super_any (Mem.here hX24)) ?_
  rintro e w24 ⟨rfl, H24⟩
  have M24 : Mem w _ w24 [disk E p pg mb qv', blk f 96 (fC ({ V with s := pubS V (V.next - 1) } : FV) p), blk ga 50 ([.int .i64 2, .int .i64 n, .slice ao nn c]), blk b 48 ([lv, kv, .int .i64 V.next, .int .i64 (B.gen + 1), .int .i64 (V.next - 1), .int .i64 B.inMark, .int .i64 B.inHead]), rows lv vs B.loads, lst 3 1 kv B.ps.length B.kinds] := Mem.frame hX24 H24
  refine ⟨_, rfl, ?_⟩
  refine hK.out _ _ (M24.arr [3] (by decide)) (fun hS => ?_)
  clear hK K
  simp only [Act.put, z1, z2, z3]
  have hX25 : Mem w _ w24 ([disk E p pg mb qv', blk f 96 (fC ({ V with s := pubS V (V.next - 1) } : FV) p)] ++ [blk ga 50 ([.int .i64 2, .int .i64 n, .slice ao nn c]), blk b 48 ([lv, kv, .int .i64 V.next, .int .i64 (B.gen + 1), .int .i64 (V.next - 1), .int .i64 B.inMark, .int .i64 B.inHead]), rows lv vs B.loads, lst 3 1 kv B.ps.length B.kinds]) := M24.arr [0, 1, 2, 3, 4, 5] (by decide)
  refine held_step 4 (by kernel_rfl) rfl (by rfl) (fun K hK => ?_)
  refine e_call 19 [.pointer (some ⟨f, 0, none⟩)] rfl rfl Try.call19 (super_any (Mem.here hX25)) ?_
  rintro e w25 ⟨rfl, H25⟩
  have M25 : Mem w _ w25 [disk E p pg mb qv', blk f 96 (fC ({ V with s := pubS V (V.next - 1) } : FV) p), blk ga 50 ([.int .i64 2, .int .i64 n, .slice ao nn c]), blk b 48 ([lv, kv, .int .i64 V.next, .int .i64 (B.gen + 1), .int .i64 (V.next - 1), .int .i64 B.inMark, .int .i64 B.inHead]), rows lv vs B.loads, lst 3 1 kv B.ps.length B.kinds] := Mem.frame hX25 H25
  refine ⟨_, rfl, ?_⟩
  refine hK.out _ _ (M25.arr [3] (by decide)) (fun hS => ?_)
  clear hK K
  simp only [Act.put, z1, z2, z3]
  refine held_take 5 _ rfl (by kernel_rfl) (by kernel_rfl) (by kernel_rfl) (y_field1 (v := .int .i64 V.s.width) rfl rfl rfl Try.underlying37 rfl Try.isAgg3 rfl) hS ?_
  simp only [Act.put, z1, z2, z3]
  have hX26 : Mem w _ w25 ([disk E p pg mb qv'] ++ [blk f 96 (fC ({ V with s := pubS V (V.next - 1) } : FV) p), blk ga 50 ([.int .i64 2, .int .i64 n, .slice ao nn c]), blk b 48 ([lv, kv, .int .i64 V.next, .int .i64 (B.gen + 1), .int .i64 (V.next - 1), .int .i64 B.inMark, .int .i64 B.inHead]), rows lv vs B.loads, lst 3 1 kv B.ps.length B.kinds]) := M25.arr [0, 1, 2, 3, 4, 5] (by decide)
  refine held_step 13 (by kernel_rfl) rfl (by rfl) (fun K hK => ?_)
  refine e_call 24 [.pointer (some ⟨p, 0, none⟩)] rfl rfl Try.call24 (pages_any (Mem.here hX26)) ?_
  rintro e w26 ⟨rfl, H26⟩
  have M26 : Mem w _ w26 [disk E p pg mb qv', blk f 96 (fC ({ V with s := pubS V (V.next - 1) } : FV) p), blk ga 50 ([.int .i64 2, .int .i64 n, .slice ao nn c]), blk b 48 ([lv, kv, .int .i64 V.next, .int .i64 (B.gen + 1), .int .i64 (V.next - 1), .int .i64 B.inMark, .int .i64 B.inHead]), rows lv vs B.loads, lst 3 1 kv B.ps.length B.kinds] := Mem.frame hX26 H26
  refine ⟨_, rfl, ?_⟩
  refine hK.out _ _ (M26.arr [3] (by decide)) (fun hS => ?_)
  clear hK K
  simp only [Act.put, z1, z2, z3]
  refine held_take 14 _ rfl (by kernel_rfl) (by kernel_rfl) (by kernel_rfl) (y_build (ps := [(0, .tmp 127), (1, .tmp 131), (2, .tmp 132), (3, .tmp 133), (4, .tmp 135)]) (pv := [(0, .int .i64 V.s.width), (1, .int .i64 (B.gen + 1)), (2, .int .i64 V.next), (3, .int .i64 (V.next - 1)), (4, .int .i64 (E.pages.length : Int))]) (cs := [.int .i64 V.s.width, .int .i64 (B.gen + 1), .int .i64 V.next, .int .i64 (V.next - 1), .int .i64 (E.pages.length : Int)]) rfl rfl rfl (by kernel_rfl)) hS ?_
  simp only [Act.put, z1, z2, z3]
  refine held_take 15 _ rfl (by kernel_rfl) (by kernel_rfl) (by kernel_rfl) (y_eqs (r := true) rfl rfl rfl rfl sup_guard (fun W => by rw [hcs]; exact sup_same _ W)) hS ?_
  simp only [Act.put, z1, z2, z3]
  refine held_take 16 _ rfl (by kernel_rfl) (by kernel_rfl) (by kernel_rfl) (y_assign (v := .int .i64 0) rfl rfl rfl) hS ?_
  simp only [Act.put, z1, z2, z3]
  refine held_take 17 _ rfl (by kernel_rfl) (by kernel_rfl) (by kernel_rfl) (y_assign (v := .bool true) rfl rfl rfl) hS ?_
  simp only [Act.put, z1, z2, z3]
  refine held_done (by kernel_rfl) ?_ _
  refine hK22 _ _ ?_
  clear hK22
  refine wp_ret ?_
  try simp only [Exit.inBlock, Exit.then]
  refine bodyPost_ret (v := .tuple #[.int .i64 0, .bool true]) (res2 rfl rfl rfl) rfl ?_
  have N : Mem _ _ _ [book ({ B with mark := V.next, head := V.next - 1, gen := B.gen + 1 } : BV) b ⟨lv, kv, vs⟩, _, _] := book_close (M26.arr [3, 4, 5, 0, 1] (by decide))
  exact ⟨E, qv', ⟨lv, kv, vs⟩, rfl, N.arr [1, 2, 0] (by decide), hE⟩
set_option maxRecDepth 100000 in
set_option maxHeartbeats 4000000 in
theorem act_pub_down_h {D : DV} {V : FV} {B : BV} {p pg mb f b : Nat} {qv : Value} {bx : BX} {w : World} (hM : Mem w (foots [disk D p pg mb qv, blk f 96 (fC V p), book B b bx]) w [disk D p pg mb qv, blk f 96 (fC V p), book B b bx]) (n : Int) (ao : Option Addr) (nn c : Nat) {ps : Pgs} (hI : Inv D V ps) (hg : V.s.gen = B.gen) (hgm : V.s.gen < 1099511627776) (hq : D.q.length ≤ 400000000000) (h1 : n % 2 = 1) (h2 : 2 < V.next) (h0 : (pubR D V (V.next - 1)).2 = 2) (hpp : (pubR D V (V.next - 1)).1.pages.length = D.pages.length) : Calls Try.prog 27 #[.pointer (some ⟨b, 0, none⟩), .pointer (some ⟨p, 0, none⟩), .pointer (some ⟨f, 0, none⟩), .agg ([.int .i64 2, .int .i64 n, .slice ao nn c]).toArray] w fun e w' => ∃ E qv' bx', e = .returned (.tuple #[.int .i64 2, .bool true]) ∧ Mem w (foots [disk D p pg mb qv, blk f 96 (fC V p), book B b bx]) w' [disk E p pg mb qv', blk f 96 (fC V p), book ({ B with inMark := V.next, inHead := V.next - 1 } : BV) b bx'] ∧ E = (pubR D V (V.next - 1)).1 := by
  obtain ⟨lv, kv, vs⟩ := bx
  have M0 := book_open (hM.arr [2, 0, 1] (by decide))
  clear hM
  have M : Mem w _ w [disk D p pg mb qv, blk f 96 (fC V p), blk b 48 (bC B ⟨lv, kv, vs⟩), rows lv vs B.loads, lst 3 1 kv B.ps.length B.kinds] := M0.arr [3, 4, 0, 1, 2] (by decide)
  clear M0
  have hn2 := hI.next2
  have hnp := hI.nextp
  have hhi := hI.ok.hi
  go_enter Try.func27, Try.ntmps27
  refine wp_seq_k (fun K1 hK1 => ?_)
  refine wp_region_lit ?_
  refine pe rfl (fun K hK => ?_)
  refine e_box M ([.int .i64 2, .int .i64 n, .slice ao nn c]) rfl rfl ?_
  intro ga w2 (M2 : Mem w _ w2 [blk ga 50 ([.int .i64 2, .int .i64 n, .slice ao nn c]), disk D p pg mb qv, blk f 96 (fC V p), blk b 48 (bC B ⟨lv, kv, vs⟩), rows lv vs B.loads, lst 3 1 kv B.ps.length B.kinds])
  clear M
  refine hK.out _ _ ?_
  clear hK K
  simp only [Act.put, z1, z2, z3]
  refine pl M2 (y_assign (v := .int .i64 0) rfl rfl rfl) ?_
  simp only [Act.put, z1, z2, z3]
  refine pl M2 (y_assign (v := .bool false) rfl rfl rfl) ?_
  simp only [Act.put, z1, z2, z3]
  refine wpList_nil ?_
  refine hK1 _ _ ?_
  clear hK1
  refine wp_seq_k (fun K3 hK3 => ?_)
  refine wp_region_lit ?_
  refine pl M2 (y_move (v := .pointer (some ⟨f, 0, none⟩)) rfl rfl rfl) ?_
  simp only [Act.put, z1, z2, z3]
  have hX4 : Mem w _ w2 ([disk D p pg mb qv, blk f 96 (fC V p)] ++ [blk ga 50 ([.int .i64 2, .int .i64 n, .slice ao nn c]), blk b 48 (bC B ⟨lv, kv, vs⟩), rows lv vs B.loads, lst 3 1 kv B.ps.length B.kinds]) := M2.arr [1, 2, 0, 3, 4, 5] (by decide)
  refine pe rfl (fun K hK => ?_)
  refine e_call 20 [.pointer (some ⟨f, 0, none⟩)] rfl rfl Try.call20 (next_any (Mem.here hX4)) ?_
  rintro e w4 ⟨rfl, H4⟩
  have M4 : Mem w _ w4 [disk D p pg mb qv, blk f 96 (fC V p), blk ga 50 ([.int .i64 2, .int .i64 n, .slice ao nn c]), blk b 48 (bC B ⟨lv, kv, vs⟩), rows lv vs B.loads, lst 3 1 kv B.ps.length B.kinds] := Mem.frame hX4 H4
  refine ⟨_, rfl, ?_⟩
  refine hK.out _ _ ?_
  clear hK K
  simp only [Act.put, z1, z2, z3]
  refine pl M4 (y_assign (v := .int .i64 V.next) rfl rfl rfl) ?_
  simp only [Act.put, z1, z2, z3]
  refine wpList_nil ?_
  refine hK3 _ _ ?_
  clear hK3
  refine wp_seq_k (fun K5 hK5 => ?_)
  refine wp_seq_k (fun K6 hK6 => ?_)
  refine wp_region_lit ?_
  refine pl M4 (y_fa (r := 0) rfl rfl rfl Try.underlying50 rfl Try.sizeOf3 rfl) ?_
  simp only [Act.put, z1, z2, z3]
  refine pl M4 (y_load (v := .int .i64 2) rfl rfl rfl Try.isAgg3 (fun W hW => hW.get 2 rfl) (rfl)) ?_
  simp only [Act.put, z1, z2, z3]
  refine wpList_nil ?_
  refine hK6 _ _ ?_
  clear hK6
  refine wp_block ?_
  refine wp_seq_k (fun K7 hK7 => ?_)
  refine wp_region_lit ?_
  refine pl M4 (y_eql (b := false) rfl rfl rfl rfl (decide_eq_false (by decide))) ?_
  simp only [Act.put, z1, z2, z3]
  refine pl M4 (y_assign (v := .bool false) rfl rfl rfl) ?_
  simp only [Act.put, z1, z2, z3]
  refine wpList_nil ?_
  refine hK7 _ _ ?_
  clear hK7
  refine wp_cond_false rfl ?_
  refine wp_seq_k (fun K8 hK8 => ?_)
  refine wp_region_lit ?_
  refine pl M4 (y_eql (b := true) rfl rfl rfl rfl (decide_eq_true (by decide))) ?_
  simp only [Act.put, z1, z2, z3]
  refine pl M4 (y_assign (v := .bool true) rfl rfl rfl) ?_
  simp only [Act.put, z1, z2, z3]
  refine wpList_nil ?_
  refine hK8 _ _ ?_
  clear hK8
  refine wp_cond_true rfl ?_
  refine wp_seq_k (fun K9 hK9 => ?_)
  refine wp_region_lit ?_
  refine pl M4 (y_assign (v := .int .i64 0) rfl rfl rfl) ?_
  simp only [Act.put, z1, z2, z3]
  refine wpList_nil ?_
  refine hK9 _ _ ?_
  clear hK9
  refine wp_seq_k (fun K10 hK10 => ?_)
  refine wp_seq_k (fun K11 hK11 => ?_)
  refine wp_region_lit ?_
  refine pl M4 (y_fa (r := 1) rfl rfl rfl Try.underlying50 rfl Try.sizeOf3 rfl) ?_
  simp only [Act.put, z1, z2, z3]
  refine pl M4 (y_load (v := .int .i64 n) rfl rfl rfl Try.isAgg3 (fun W hW => hW.get 2 rfl) (rfl)) ?_
  simp only [Act.put, z1, z2, z3]
  refine pe rfl (fun K hK => ?_)
  refine e_call 13 [.int .i64 n, .int .i64 2] rfl rfl Try.call13 (place3_any n 2 (by decide) (by decide) _) ?_
  rintro e w12 ⟨rfl, H12⟩
  have M12 : Mem w _ w12 [disk D p pg mb qv, blk f 96 (fC V p), blk ga 50 ([.int .i64 2, .int .i64 n, .slice ao nn c]), blk b 48 (bC B ⟨lv, kv, vs⟩), rows lv vs B.loads, lst 3 1 kv B.ps.length B.kinds] := M4.step H12
  refine ⟨_, rfl, ?_⟩
  refine hK.out _ _ ?_
  clear hK K
  simp only [Act.put, z1, z2, z3]
  refine pl M12 (y_eql (b := true) rfl rfl rfl rfl (decide_eq_true h1)) ?_
  simp only [Act.put, z1, z2, z3]
  refine pl M12 (y_move (v := .bool true) rfl rfl rfl) ?_
  simp only [Act.put, z1, z2, z3]
  refine pl M12 (y_move (v := .int .i64 V.next) rfl rfl rfl) ?_
  simp only [Act.put, z1, z2, z3]
  refine pl M12 (y_gtr (b := true) rfl rfl rfl rfl (decide_eq_true h2)) ?_
  simp only [Act.put, z1, z2, z3]
  refine pl M12 (y_pickT (v := .bool true) rfl rfl rfl rfl) ?_
  simp only [Act.put, z1, z2, z3]
  refine wpList_nil ?_
  refine hK11 _ _ ?_
  clear hK11
  refine wp_cond_true rfl ?_
  refine wp_region_lit ?_
  refine pl M12 (y_move (v := .int .i64 V.next) rfl rfl rfl) ?_
  simp only [Act.put, z1, z2, z3]
  refine pl M12 (y_sub (r := V.next - 1) rfl rfl rfl rfl (rfl) (by omega)) ?_
  simp only [Act.put, z1, z2, z3]
  refine pl M12 (y_assign (v := .int .i64 (V.next - 1)) rfl rfl rfl) ?_
  simp only [Act.put, z1, z2, z3]
  refine wpList_nil ?_
  refine hK10 _ _ ?_
  clear hK10
  refine wp_seq_k (fun K13 hK13 => ?_)
  refine wp_region_lit ?_
  refine pl M12 (y_move (v := .pointer (some ⟨f, 0, none⟩)) rfl rfl rfl) ?_
  simp only [Act.put, z1, z2, z3]
  refine pl M12 (y_move (v := .int .i64 (V.next - 1)) rfl rfl rfl) ?_
  simp only [Act.put, z1, z2, z3]
  have hX14 : Mem w _ w12 ([disk D p pg mb qv, blk f 96 (fC V p)] ++ [blk ga 50 ([.int .i64 2, .int .i64 n, .slice ao nn c]), blk b 48 (bC B ⟨lv, kv, vs⟩), rows lv vs B.loads, lst 3 1 kv B.ps.length B.kinds]) := M12.arr [0, 1, 2, 3, 4, 5] (by decide)
  refine pe rfl (fun K hK => ?_)
  refine e_call 28 [.pointer (some ⟨f, 0, none⟩), .int .i64 (V.next - 1)] rfl rfl Try.call28 (xpub_down (Mem.here hX14) hI (V.next - 1) hq h0 hpp) ?_
  rintro e w14 ⟨E, qv', rfl, H14, hE, hpl⟩
  have M14 : Mem w _ w14 [disk E p pg mb qv', blk f 96 (fC V p), blk ga 50 ([.int .i64 2, .int .i64 n, .slice ao nn c]), blk b 48 (bC B ⟨lv, kv, vs⟩), rows lv vs B.loads, lst 3 1 kv B.ps.length B.kinds] := Mem.frame hX14 H14
  refine ⟨_, rfl, ?_⟩
  refine hK.out _ _ ?_
  clear hK K
  simp only [Act.put, z1, z2, z3]
  refine pl M14 (y_assign (v := .int .i64 2) rfl rfl rfl) ?_
  simp only [Act.put, z1, z2, z3]
  refine wpList_nil ?_
  refine hK13 _ _ ?_
  clear hK13
  refine wp_seq_k (fun K15 hK15 => ?_)
  refine wp_seq_k (fun K16 hK16 => ?_)
  refine wp_region_lit ?_
  refine pl M14 (y_move (v := .int .i64 2) rfl rfl rfl) ?_
  simp only [Act.put, z1, z2, z3]
  refine pl M14 (y_eql (b := false) rfl rfl rfl rfl (decide_eq_false (by decide))) ?_
  simp only [Act.put, z1, z2, z3]
  refine wpList_nil ?_
  refine hK16 _ _ ?_
  clear hK16
  refine wp_cond_false rfl ?_
  refine wp_skip ?_
  refine hK15 _ _ ?_
  clear hK15
  refine wp_seq_k (fun K17 hK17 => ?_)
  refine wp_region_lit ?_
  refine pl M14 (y_move (v := .pointer (some ⟨b, 0, none⟩)) rfl rfl rfl) ?_
  simp only [Act.put, z1, z2, z3]
  refine pl M14 (y_move (v := .pointer (some ⟨b, 0, none⟩)) rfl rfl rfl) ?_
  simp only [Act.put, z1, z2, z3]
  refine pl M14 (y_move (v := .int .i64 V.next) rfl rfl rfl) ?_
  simp only [Act.put, z1, z2, z3]
  refine pl M14 (y_move (v := .int .i64 (V.next - 1)) rfl rfl rfl) ?_
  simp only [Act.put, z1, z2, z3]
  refine pl M14 (y_nil rfl rfl rfl) ?_
  simp only [Act.put, z1, z2, z3]
  refine pl M14 (y_fa (r := 5) rfl rfl rfl Try.underlying48 rfl Try.sizeOf3 rfl) ?_
  simp only [Act.put, z1, z2, z3]
  refine pe rfl (fun K hK => ?_)
  refine e_store M14 3 (v := .int .i64 V.next) rfl rfl rfl rfl rfl rfl Try.sizeOf3 rfl (show (5 : Nat) < 7 by decide) ?_
  intro w18 (M18 : Mem w _ w18 [disk E p pg mb qv', blk f 96 (fC V p), blk ga 50 ([.int .i64 2, .int .i64 n, .slice ao nn c]), blk b 48 ([lv, kv, .int .i64 B.mark, .int .i64 B.gen, .int .i64 B.head, .int .i64 V.next, .int .i64 B.inHead]), rows lv vs B.loads, lst 3 1 kv B.ps.length B.kinds])
  clear M14
  refine hK.out _ _ ?_
  clear hK K
  simp only [Act.put, z1, z2, z3]
  refine pl M18 (y_nil rfl rfl rfl) ?_
  simp only [Act.put, z1, z2, z3]
  refine pl M18 (y_fa (r := 6) rfl rfl rfl Try.underlying48 rfl Try.sizeOf3 rfl) ?_
  simp only [Act.put, z1, z2, z3]
  refine pe rfl (fun K hK => ?_)
  refine e_store M18 3 (v := .int .i64 (V.next - 1)) rfl rfl rfl rfl rfl rfl Try.sizeOf3 rfl (show (6 : Nat) < 7 by decide) ?_
  intro w19 (M19 : Mem w _ w19 [disk E p pg mb qv', blk f 96 (fC V p), blk ga 50 ([.int .i64 2, .int .i64 n, .slice ao nn c]), blk b 48 ([lv, kv, .int .i64 B.mark, .int .i64 B.gen, .int .i64 B.head, .int .i64 V.next, .int .i64 (V.next - 1)]), rows lv vs B.loads, lst 3 1 kv B.ps.length B.kinds])
  clear M18
  refine hK.out _ _ ?_
  clear hK K
  simp only [Act.put, z1, z2, z3]
  refine wpList_nil ?_
  refine hK17 _ _ ?_
  clear hK17
  refine wp_seq_k (fun K20 hK20 => ?_)
  refine wp_region_lit ?_
  refine pl M19 (y_move (v := .int .i64 2) rfl rfl rfl) ?_
  simp only [Act.put, z1, z2, z3]
  refine pl M19 (y_move (v := .int .i64 2) rfl rfl rfl) ?_
  simp only [Act.put, z1, z2, z3]
  refine pl M19 (y_eql (b := true) rfl rfl rfl rfl (decide_eq_true (by decide))) ?_
  simp only [Act.put, z1, z2, z3]
  refine pl M19 (y_assign (v := .int .i64 2) rfl rfl rfl) ?_
  simp only [Act.put, z1, z2, z3]
  refine pl M19 (y_assign (v := .bool true) rfl rfl rfl) ?_
  simp only [Act.put, z1, z2, z3]
  refine wpList_nil ?_
  refine hK20 _ _ ?_
  clear hK20
  refine wp_ret ?_
  try simp only [Exit.inBlock, Exit.then]
  refine bodyPost_ret (v := .tuple #[.int .i64 2, .bool true]) (res2 rfl rfl rfl) rfl ?_
  have N : Mem _ _ _ [book ({ B with inMark := V.next, inHead := V.next - 1 } : BV) b ⟨lv, kv, vs⟩, _, _] := book_close (M19.arr [3, 4, 5, 0, 1] (by decide))
  exact ⟨E, qv', ⟨lv, kv, vs⟩, rfl, N.arr [1, 2, 0] (by decide), hE⟩
set_option maxRecDepth 100000 in
set_option maxHeartbeats 4000000 in
theorem act_pub_go_z1 {D : DV} {V : FV} {B : BV} {p pg mb f b : Nat} {qv : Value} {bx : BX} {w : World} (hM : Mem w (foots [disk D p pg mb qv, blk f 96 (fC V p), book B b bx]) w [disk D p pg mb qv, blk f 96 (fC V p), book B b bx]) (n : Int) (ao : Option Addr) (nn c : Nat) {ps : Pgs} (hI : Inv D V ps) (hg : V.s.gen = B.gen) (hgm : V.s.gen < 1099511627776) (hq : D.q.length ≤ 400000000000) (h1 : n % 2 = 1) (h2 : ¬ 2 < V.next) (h0 : (pubR D V (0)).2 = 0) (hpp : (pubR D V (0)).1.pages.length = D.pages.length) : Calls Try.prog 27 #[.pointer (some ⟨b, 0, none⟩), .pointer (some ⟨p, 0, none⟩), .pointer (some ⟨f, 0, none⟩), .agg ([.int .i64 2, .int .i64 n, .slice ao nn c]).toArray] w fun e w' => ∃ E qv' bx', e = .returned (.tuple #[.int .i64 0, .bool true]) ∧ Mem w (foots [disk D p pg mb qv, blk f 96 (fC V p), book B b bx]) w' [disk E p pg mb qv', blk f 96 (fC ({ V with s := pubS V (0) } : FV) p), book ({ B with mark := V.next, head := 0, gen := B.gen + 1 } : BV) b bx'] ∧ E = (pubR D V (0)).1 := by
  obtain ⟨lv, kv, vs⟩ := bx
  have M0 := book_open (hM.arr [2, 0, 1] (by decide))
  clear hM
  have M : Mem w _ w [disk D p pg mb qv, blk f 96 (fC V p), blk b 48 (bC B ⟨lv, kv, vs⟩), rows lv vs B.loads, lst 3 1 kv B.ps.length B.kinds] := M0.arr [3, 4, 0, 1, 2] (by decide)
  clear M0
  have hpg := hI.plat.pages
  have hg1 := hI.plat.gen0
  have hn2 := hI.next2
  have hnp := hI.nextp
  have hhi := hI.ok.hi
  go_enter Try.func27, Try.ntmps27
  refine wp_seq_k (fun K1 hK1 => ?_)
  refine wp_region_lit ?_
  refine pe rfl (fun K hK => ?_)
  refine e_box M ([.int .i64 2, .int .i64 n, .slice ao nn c]) rfl rfl ?_
  intro ga w2 (M2 : Mem w _ w2 [blk ga 50 ([.int .i64 2, .int .i64 n, .slice ao nn c]), disk D p pg mb qv, blk f 96 (fC V p), blk b 48 (bC B ⟨lv, kv, vs⟩), rows lv vs B.loads, lst 3 1 kv B.ps.length B.kinds])
  clear M
  refine hK.out _ _ ?_
  clear hK K
  simp only [Act.put, z1, z2, z3]
  refine pl M2 (y_assign (v := .int .i64 0) rfl rfl rfl) ?_
  simp only [Act.put, z1, z2, z3]
  refine pl M2 (y_assign (v := .bool false) rfl rfl rfl) ?_
  simp only [Act.put, z1, z2, z3]
  refine wpList_nil ?_
  refine hK1 _ _ ?_
  clear hK1
  refine wp_seq_k (fun K3 hK3 => ?_)
  refine wp_region_lit ?_
  refine pl M2 (y_move (v := .pointer (some ⟨f, 0, none⟩)) rfl rfl rfl) ?_
  simp only [Act.put, z1, z2, z3]
  have hX4 : Mem w _ w2 ([disk D p pg mb qv, blk f 96 (fC V p)] ++ [blk ga 50 ([.int .i64 2, .int .i64 n, .slice ao nn c]), blk b 48 (bC B ⟨lv, kv, vs⟩), rows lv vs B.loads, lst 3 1 kv B.ps.length B.kinds]) := M2.arr [1, 2, 0, 3, 4, 5] (by decide)
  refine pe rfl (fun K hK => ?_)
  refine e_call 20 [.pointer (some ⟨f, 0, none⟩)] rfl rfl Try.call20 (next_any (Mem.here hX4)) ?_
  rintro e w4 ⟨rfl, H4⟩
  have M4 : Mem w _ w4 [disk D p pg mb qv, blk f 96 (fC V p), blk ga 50 ([.int .i64 2, .int .i64 n, .slice ao nn c]), blk b 48 (bC B ⟨lv, kv, vs⟩), rows lv vs B.loads, lst 3 1 kv B.ps.length B.kinds] := Mem.frame hX4 H4
  refine ⟨_, rfl, ?_⟩
  refine hK.out _ _ ?_
  clear hK K
  simp only [Act.put, z1, z2, z3]
  refine pl M4 (y_assign (v := .int .i64 V.next) rfl rfl rfl) ?_
  simp only [Act.put, z1, z2, z3]
  refine wpList_nil ?_
  refine hK3 _ _ ?_
  clear hK3
  refine wp_seq_k (fun K5 hK5 => ?_)
  refine wp_seq_k (fun K6 hK6 => ?_)
  refine wp_region_lit ?_
  refine pl M4 (y_fa (r := 0) rfl rfl rfl Try.underlying50 rfl Try.sizeOf3 rfl) ?_
  simp only [Act.put, z1, z2, z3]
  refine pl M4 (y_load (v := .int .i64 2) rfl rfl rfl Try.isAgg3 (fun W hW => hW.get 2 rfl) (rfl)) ?_
  simp only [Act.put, z1, z2, z3]
  refine wpList_nil ?_
  refine hK6 _ _ ?_
  clear hK6
  refine wp_block ?_
  refine wp_seq_k (fun K7 hK7 => ?_)
  refine wp_region_lit ?_
  refine pl M4 (y_eql (b := false) rfl rfl rfl rfl (decide_eq_false (by decide))) ?_
  simp only [Act.put, z1, z2, z3]
  refine pl M4 (y_assign (v := .bool false) rfl rfl rfl) ?_
  simp only [Act.put, z1, z2, z3]
  refine wpList_nil ?_
  refine hK7 _ _ ?_
  clear hK7
  refine wp_cond_false rfl ?_
  refine wp_seq_k (fun K8 hK8 => ?_)
  refine wp_region_lit ?_
  refine pl M4 (y_eql (b := true) rfl rfl rfl rfl (decide_eq_true (by decide))) ?_
  simp only [Act.put, z1, z2, z3]
  refine pl M4 (y_assign (v := .bool true) rfl rfl rfl) ?_
  simp only [Act.put, z1, z2, z3]
  refine wpList_nil ?_
  refine hK8 _ _ ?_
  clear hK8
  refine wp_cond_true rfl ?_
  refine wp_seq_k (fun K9 hK9 => ?_)
  refine wp_region_lit ?_
  refine pl M4 (y_assign (v := .int .i64 0) rfl rfl rfl) ?_
  simp only [Act.put, z1, z2, z3]
  refine wpList_nil ?_
  refine hK9 _ _ ?_
  clear hK9
  refine wp_seq_k (fun K10 hK10 => ?_)
  refine wp_seq_k (fun K11 hK11 => ?_)
  refine wp_region_lit ?_
  refine pl M4 (y_fa (r := 1) rfl rfl rfl Try.underlying50 rfl Try.sizeOf3 rfl) ?_
  simp only [Act.put, z1, z2, z3]
  refine pl M4 (y_load (v := .int .i64 n) rfl rfl rfl Try.isAgg3 (fun W hW => hW.get 2 rfl) (rfl)) ?_
  simp only [Act.put, z1, z2, z3]
  refine pe rfl (fun K hK => ?_)
  refine e_call 13 [.int .i64 n, .int .i64 2] rfl rfl Try.call13 (place3_any n 2 (by decide) (by decide) _) ?_
  rintro e w12 ⟨rfl, H12⟩
  have M12 : Mem w _ w12 [disk D p pg mb qv, blk f 96 (fC V p), blk ga 50 ([.int .i64 2, .int .i64 n, .slice ao nn c]), blk b 48 (bC B ⟨lv, kv, vs⟩), rows lv vs B.loads, lst 3 1 kv B.ps.length B.kinds] := M4.step H12
  refine ⟨_, rfl, ?_⟩
  refine hK.out _ _ ?_
  clear hK K
  simp only [Act.put, z1, z2, z3]
  refine pl M12 (y_eql (b := true) rfl rfl rfl rfl (decide_eq_true h1)) ?_
  simp only [Act.put, z1, z2, z3]
  refine pl M12 (y_move (v := .bool true) rfl rfl rfl) ?_
  simp only [Act.put, z1, z2, z3]
  refine pl M12 (y_move (v := .int .i64 V.next) rfl rfl rfl) ?_
  simp only [Act.put, z1, z2, z3]
  refine pl M12 (y_gtr (b := false) rfl rfl rfl rfl (decide_eq_false h2)) ?_
  simp only [Act.put, z1, z2, z3]
  refine pl M12 (y_pickT (v := .bool false) rfl rfl rfl rfl) ?_
  simp only [Act.put, z1, z2, z3]
  refine wpList_nil ?_
  refine hK11 _ _ ?_
  clear hK11
  refine wp_cond_false rfl ?_
  refine wp_skip ?_
  refine hK10 _ _ ?_
  clear hK10
  refine wp_seq_k (fun K13 hK13 => ?_)
  refine wp_region_lit ?_
  refine pl M12 (y_move (v := .pointer (some ⟨f, 0, none⟩)) rfl rfl rfl) ?_
  simp only [Act.put, z1, z2, z3]
  refine pl M12 (y_move (v := .int .i64 0) rfl rfl rfl) ?_
  simp only [Act.put, z1, z2, z3]
  have hX14 : Mem w _ w12 ([disk D p pg mb qv, blk f 96 (fC V p)] ++ [blk ga 50 ([.int .i64 2, .int .i64 n, .slice ao nn c]), blk b 48 (bC B ⟨lv, kv, vs⟩), rows lv vs B.loads, lst 3 1 kv B.ps.length B.kinds]) := M12.arr [0, 1, 2, 3, 4, 5] (by decide)
  refine pe rfl (fun K hK => ?_)
  refine e_call 28 [.pointer (some ⟨f, 0, none⟩), .int .i64 0] rfl rfl Try.call28 (xpub_go (Mem.here hX14) hI (0) hq h0 hpp) ?_
  rintro e w14 ⟨E, qv', rfl, H14, hE, hpl⟩
  have M14 : Mem w _ w14 [disk E p pg mb qv', blk f 96 (fC ({ V with s := pubS V (0) } : FV) p), blk ga 50 ([.int .i64 2, .int .i64 n, .slice ao nn c]), blk b 48 (bC B ⟨lv, kv, vs⟩), rows lv vs B.loads, lst 3 1 kv B.ps.length B.kinds] := Mem.frame hX14 H14
  have hcs : [.int .i64 V.s.width, .int .i64 (B.gen + 1), .int .i64 V.next, .int .i64 (0), .int .i64 (E.pages.length : Int)] = supC (pubS V (0)) := by rw [hpl, ← hg, ← hpg]; rfl
  refine ⟨_, rfl, ?_⟩
  refine hK.out _ _ ?_
  clear hK K
  simp only [Act.put, z1, z2, z3]
  refine pl M14 (y_assign (v := .int .i64 0) rfl rfl rfl) ?_
  simp only [Act.put, z1, z2, z3]
  refine wpList_nil ?_
  refine hK13 _ _ ?_
  clear hK13
  refine wp_seq_k (fun K15 hK15 => ?_)
  refine wp_seq_k (fun K16 hK16 => ?_)
  refine wp_region_lit ?_
  refine pl M14 (y_move (v := .int .i64 0) rfl rfl rfl) ?_
  simp only [Act.put, z1, z2, z3]
  refine pl M14 (y_eql (b := true) rfl rfl rfl rfl (decide_eq_true (by decide))) ?_
  simp only [Act.put, z1, z2, z3]
  refine wpList_nil ?_
  refine hK16 _ _ ?_
  clear hK16
  refine wp_cond_true rfl ?_
  refine wp_seq_k (fun K17 hK17 => ?_)
  refine wp_region_lit ?_
  refine pl M14 (y_move (v := .pointer (some ⟨b, 0, none⟩)) rfl rfl rfl) ?_
  simp only [Act.put, z1, z2, z3]
  refine pl M14 (y_move (v := .pointer (some ⟨b, 0, none⟩)) rfl rfl rfl) ?_
  simp only [Act.put, z1, z2, z3]
  refine pl M14 (y_move (v := .int .i64 V.next) rfl rfl rfl) ?_
  simp only [Act.put, z1, z2, z3]
  refine pl M14 (y_move (v := .int .i64 0) rfl rfl rfl) ?_
  simp only [Act.put, z1, z2, z3]
  refine pl M14 (y_nil rfl rfl rfl) ?_
  simp only [Act.put, z1, z2, z3]
  refine pl M14 (y_fa (r := 2) rfl rfl rfl Try.underlying48 rfl Try.sizeOf3 rfl) ?_
  simp only [Act.put, z1, z2, z3]
  refine pe rfl (fun K hK => ?_)
  refine e_store M14 3 (v := .int .i64 V.next) rfl rfl rfl rfl rfl rfl Try.sizeOf3 rfl (show (2 : Nat) < 7 by decide) ?_
  intro w18 (M18 : Mem w _ w18 [disk E p pg mb qv', blk f 96 (fC ({ V with s := pubS V (0) } : FV) p), blk ga 50 ([.int .i64 2, .int .i64 n, .slice ao nn c]), blk b 48 ([lv, kv, .int .i64 V.next, .int .i64 B.gen, .int .i64 B.head, .int .i64 B.inMark, .int .i64 B.inHead]), rows lv vs B.loads, lst 3 1 kv B.ps.length B.kinds])
  clear M14
  refine hK.out _ _ ?_
  clear hK K
  simp only [Act.put, z1, z2, z3]
  refine pl M18 (y_nil rfl rfl rfl) ?_
  simp only [Act.put, z1, z2, z3]
  refine pl M18 (y_fa (r := 4) rfl rfl rfl Try.underlying48 rfl Try.sizeOf3 rfl) ?_
  simp only [Act.put, z1, z2, z3]
  refine pe rfl (fun K hK => ?_)
  refine e_store M18 3 (v := .int .i64 0) rfl rfl rfl rfl rfl rfl Try.sizeOf3 rfl (show (4 : Nat) < 7 by decide) ?_
  intro w19 (M19 : Mem w _ w19 [disk E p pg mb qv', blk f 96 (fC ({ V with s := pubS V (0) } : FV) p), blk ga 50 ([.int .i64 2, .int .i64 n, .slice ao nn c]), blk b 48 ([lv, kv, .int .i64 V.next, .int .i64 B.gen, .int .i64 0, .int .i64 B.inMark, .int .i64 B.inHead]), rows lv vs B.loads, lst 3 1 kv B.ps.length B.kinds])
  clear M18
  refine hK.out _ _ ?_
  clear hK K
  simp only [Act.put, z1, z2, z3]
  refine wpList_nil ?_
  refine hK17 _ _ ?_
  clear hK17
  refine wp_seq_k (fun K20 hK20 => ?_)
  refine wp_region_lit ?_
  refine pl M19 (y_move (v := .pointer (some ⟨b, 0, none⟩)) rfl rfl rfl) ?_
  simp only [Act.put, z1, z2, z3]
  refine pl M19 (y_nil rfl rfl rfl) ?_
  simp only [Act.put, z1, z2, z3]
  refine pl M19 (y_fa (r := 3) rfl rfl rfl Try.underlying48 rfl Try.sizeOf3 rfl) ?_
  simp only [Act.put, z1, z2, z3]
  refine pl M19 (y_load (v := .int .i64 B.gen) rfl rfl rfl Try.isAgg3 (fun W hW => hW.get 3 rfl) (rfl)) ?_
  simp only [Act.put, z1, z2, z3]
  refine pl M19 (y_add (r := B.gen + 1) rfl rfl rfl rfl (rfl) (by omega)) ?_
  simp only [Act.put, z1, z2, z3]
  refine pl M19 (y_nil rfl rfl rfl) ?_
  simp only [Act.put, z1, z2, z3]
  refine pl M19 (y_fa (r := 3) rfl rfl rfl Try.underlying48 rfl Try.sizeOf3 rfl) ?_
  simp only [Act.put, z1, z2, z3]
  refine pe rfl (fun K hK => ?_)
  refine e_store M19 3 (v := .int .i64 (B.gen + 1)) rfl rfl rfl rfl rfl rfl Try.sizeOf3 rfl (show (3 : Nat) < 7 by decide) ?_
  intro w21 (M21 : Mem w _ w21 [disk E p pg mb qv', blk f 96 (fC ({ V with s := pubS V (0) } : FV) p), blk ga 50 ([.int .i64 2, .int .i64 n, .slice ao nn c]), blk b 48 ([lv, kv, .int .i64 V.next, .int .i64 (B.gen + 1), .int .i64 0, .int .i64 B.inMark, .int .i64 B.inHead]), rows lv vs B.loads, lst 3 1 kv B.ps.length B.kinds])
  clear M19
  refine hK.out _ _ ?_
  clear hK K
  simp only [Act.put, z1, z2, z3]
  refine wpList_nil ?_
  refine hK20 _ _ ?_
  clear hK20
  refine wp_seq_k (fun K22 hK22 => ?_)
  have M23 := M21.drew
  refine held_begin (fun W => Mem w (foots [disk D p pg mb qv, blk f 96 (fC V p), book B b ⟨lv, kv, vs⟩]) W [blk b 48 ([lv, kv, .int .i64 V.next, .int .i64 (B.gen + 1), .int .i64 0, .int .i64 B.inMark, .int .i64 B.inHead])]) (by kernel_rfl) (M23.arr [3] (by decide)) (fun hS => ?_)
  refine held_take 0 _ rfl (by kernel_rfl) (by kernel_rfl) (by kernel_rfl) (y_move (v := .int .i64 0) rfl rfl rfl) hS ?_
  simp only [Act.put, z1, z2, z3]
  refine held_take 1 _ rfl (by kernel_rfl) (by kernel_rfl) (by kernel_rfl) (y_move (v := .pointer (some ⟨f, 0, none⟩)) rfl rfl rfl) hS ?_
  simp only [Act.put, z1, z2, z3]
  refine held_take 3 _ rfl (by kernel_rfl) (by kernel_rfl) (by kernel_rfl) (y_move (v := .pointer (some ⟨f, 0, none⟩)) rfl rfl rfl) hS ?_
  simp only [Act.put, z1, z2, z3]
  refine held_take 6 _ rfl (by kernel_rfl) (by kernel_rfl) (by kernel_rfl) (y_move (v := .pointer (some ⟨b, 0, none⟩)) rfl rfl rfl) hS ?_
  simp only [Act.put, z1, z2, z3]
  refine held_take 7 _ rfl (by kernel_rfl) (by kernel_rfl) (by kernel_rfl) (y_nil rfl rfl rfl) hS ?_
  simp only [Act.put, z1, z2, z3]
  refine held_take 8 _ rfl (by kernel_rfl) (by kernel_rfl) (by kernel_rfl) (y_fa (r := 3) rfl rfl rfl Try.underlying48 rfl Try.sizeOf3 rfl) hS ?_
  simp only [Act.put, z1, z2, z3]
  refine held_take 9 _ rfl (by kernel_rfl) (by kernel_rfl) (by kernel_rfl) (y_load (v := .int .i64 (B.gen + 1)) rfl rfl rfl Try.isAgg3 (fun W hW => hW.get 0 rfl) (rfl)) hS ?_
  simp only [Act.put, z1, z2, z3]
  refine held_take 10 _ rfl (by kernel_rfl) (by kernel_rfl) (by kernel_rfl) (y_move (v := .int .i64 V.next) rfl rfl rfl) hS ?_
  simp only [Act.put, z1, z2, z3]
  refine held_take 11 _ rfl (by kernel_rfl) (by kernel_rfl) (by kernel_rfl) (y_move (v := .int .i64 0) rfl rfl rfl) hS ?_
  simp only [Act.put, z1, z2, z3]
  refine held_take 12 _ rfl (by kernel_rfl) (by kernel_rfl) (by kernel_rfl) (y_move (v := .pointer (some ⟨p, 0, none⟩)) rfl rfl rfl) hS ?_
  simp only [Act.put, z1, z2, z3]
  have hX24 : Mem w _ w21.drew ([disk E p pg mb qv', blk f 96 (fC ({ V with s := pubS V (0) } : FV) p)] ++ [blk ga 50 ([.int .i64 2, .int .i64 n, .slice ao nn c]), blk b 48 ([lv, kv, .int .i64 V.next, .int .i64 (B.gen + 1), .int .i64 0, .int .i64 B.inMark, .int .i64 B.inHead]), rows lv vs B.loads, lst 3 1 kv B.ps.length B.kinds]) := M23.arr [0, 1, 2, 3, 4, 5] (by decide)
  refine held_step 2 (by kernel_rfl) rfl (by rfl) (fun K hK => ?_)
  refine e_call 19 [.pointer (some ⟨f, 0, none⟩)] rfl rfl Try.call19 (super_any (Mem.here hX24)) ?_
  rintro e w24 ⟨rfl, H24⟩
  have M24 : Mem w _ w24 [disk E p pg mb qv', blk f 96 (fC ({ V with s := pubS V (0) } : FV) p), blk ga 50 ([.int .i64 2, .int .i64 n, .slice ao nn c]), blk b 48 ([lv, kv, .int .i64 V.next, .int .i64 (B.gen + 1), .int .i64 0, .int .i64 B.inMark, .int .i64 B.inHead]), rows lv vs B.loads, lst 3 1 kv B.ps.length B.kinds] := Mem.frame hX24 H24
  refine ⟨_, rfl, ?_⟩
  refine hK.out _ _ (M24.arr [3] (by decide)) (fun hS => ?_)
  clear hK K
  simp only [Act.put, z1, z2, z3]
  have hX25 : Mem w _ w24 ([disk E p pg mb qv', blk f 96 (fC ({ V with s := pubS V (0) } : FV) p)] ++ [blk ga 50 ([.int .i64 2, .int .i64 n, .slice ao nn c]), blk b 48 ([lv, kv, .int .i64 V.next, .int .i64 (B.gen + 1), .int .i64 0, .int .i64 B.inMark, .int .i64 B.inHead]), rows lv vs B.loads, lst 3 1 kv B.ps.length B.kinds]) := M24.arr [0, 1, 2, 3, 4, 5] (by decide)
  refine held_step 4 (by kernel_rfl) rfl (by rfl) (fun K hK => ?_)
  refine e_call 19 [.pointer (some ⟨f, 0, none⟩)] rfl rfl Try.call19 (super_any (Mem.here hX25)) ?_
  rintro e w25 ⟨rfl, H25⟩
  have M25 : Mem w _ w25 [disk E p pg mb qv', blk f 96 (fC ({ V with s := pubS V (0) } : FV) p), blk ga 50 ([.int .i64 2, .int .i64 n, .slice ao nn c]), blk b 48 ([lv, kv, .int .i64 V.next, .int .i64 (B.gen + 1), .int .i64 0, .int .i64 B.inMark, .int .i64 B.inHead]), rows lv vs B.loads, lst 3 1 kv B.ps.length B.kinds] := Mem.frame hX25 H25
  refine ⟨_, rfl, ?_⟩
  refine hK.out _ _ (M25.arr [3] (by decide)) (fun hS => ?_)
  clear hK K
  simp only [Act.put, z1, z2, z3]
  refine held_take 5 _ rfl (by kernel_rfl) (by kernel_rfl) (by kernel_rfl) (y_field1 (v := .int .i64 V.s.width) rfl rfl rfl Try.underlying37 rfl Try.isAgg3 rfl) hS ?_
  simp only [Act.put, z1, z2, z3]
  have hX26 : Mem w _ w25 ([disk E p pg mb qv'] ++ [blk f 96 (fC ({ V with s := pubS V (0) } : FV) p), blk ga 50 ([.int .i64 2, .int .i64 n, .slice ao nn c]), blk b 48 ([lv, kv, .int .i64 V.next, .int .i64 (B.gen + 1), .int .i64 0, .int .i64 B.inMark, .int .i64 B.inHead]), rows lv vs B.loads, lst 3 1 kv B.ps.length B.kinds]) := M25.arr [0, 1, 2, 3, 4, 5] (by decide)
  refine held_step 13 (by kernel_rfl) rfl (by rfl) (fun K hK => ?_)
  refine e_call 24 [.pointer (some ⟨p, 0, none⟩)] rfl rfl Try.call24 (pages_any (Mem.here hX26)) ?_
  rintro e w26 ⟨rfl, H26⟩
  have M26 : Mem w _ w26 [disk E p pg mb qv', blk f 96 (fC ({ V with s := pubS V (0) } : FV) p), blk ga 50 ([.int .i64 2, .int .i64 n, .slice ao nn c]), blk b 48 ([lv, kv, .int .i64 V.next, .int .i64 (B.gen + 1), .int .i64 0, .int .i64 B.inMark, .int .i64 B.inHead]), rows lv vs B.loads, lst 3 1 kv B.ps.length B.kinds] := Mem.frame hX26 H26
  refine ⟨_, rfl, ?_⟩
  refine hK.out _ _ (M26.arr [3] (by decide)) (fun hS => ?_)
  clear hK K
  simp only [Act.put, z1, z2, z3]
  refine held_take 14 _ rfl (by kernel_rfl) (by kernel_rfl) (by kernel_rfl) (y_build (ps := [(0, .tmp 127), (1, .tmp 131), (2, .tmp 132), (3, .tmp 133), (4, .tmp 135)]) (pv := [(0, .int .i64 V.s.width), (1, .int .i64 (B.gen + 1)), (2, .int .i64 V.next), (3, .int .i64 0), (4, .int .i64 (E.pages.length : Int))]) (cs := [.int .i64 V.s.width, .int .i64 (B.gen + 1), .int .i64 V.next, .int .i64 (0), .int .i64 (E.pages.length : Int)]) rfl rfl rfl (by kernel_rfl)) hS ?_
  simp only [Act.put, z1, z2, z3]
  refine held_take 15 _ rfl (by kernel_rfl) (by kernel_rfl) (by kernel_rfl) (y_eqs (r := true) rfl rfl rfl rfl sup_guard (fun W => by rw [hcs]; exact sup_same _ W)) hS ?_
  simp only [Act.put, z1, z2, z3]
  refine held_take 16 _ rfl (by kernel_rfl) (by kernel_rfl) (by kernel_rfl) (y_assign (v := .int .i64 0) rfl rfl rfl) hS ?_
  simp only [Act.put, z1, z2, z3]
  refine held_take 17 _ rfl (by kernel_rfl) (by kernel_rfl) (by kernel_rfl) (y_assign (v := .bool true) rfl rfl rfl) hS ?_
  simp only [Act.put, z1, z2, z3]
  refine held_done (by kernel_rfl) ?_ _
  refine hK22 _ _ ?_
  clear hK22
  refine wp_ret ?_
  try simp only [Exit.inBlock, Exit.then]
  refine bodyPost_ret (v := .tuple #[.int .i64 0, .bool true]) (res2 rfl rfl rfl) rfl ?_
  have N : Mem _ _ _ [book ({ B with mark := V.next, head := 0, gen := B.gen + 1 } : BV) b ⟨lv, kv, vs⟩, _, _] := book_close (M26.arr [3, 4, 5, 0, 1] (by decide))
  exact ⟨E, qv', ⟨lv, kv, vs⟩, rfl, N.arr [1, 2, 0] (by decide), hE⟩
set_option maxRecDepth 100000 in
set_option maxHeartbeats 4000000 in
theorem act_pub_down_z1 {D : DV} {V : FV} {B : BV} {p pg mb f b : Nat} {qv : Value} {bx : BX} {w : World} (hM : Mem w (foots [disk D p pg mb qv, blk f 96 (fC V p), book B b bx]) w [disk D p pg mb qv, blk f 96 (fC V p), book B b bx]) (n : Int) (ao : Option Addr) (nn c : Nat) {ps : Pgs} (hI : Inv D V ps) (hg : V.s.gen = B.gen) (hgm : V.s.gen < 1099511627776) (hq : D.q.length ≤ 400000000000) (h1 : n % 2 = 1) (h2 : ¬ 2 < V.next) (h0 : (pubR D V (0)).2 = 2) (hpp : (pubR D V (0)).1.pages.length = D.pages.length) : Calls Try.prog 27 #[.pointer (some ⟨b, 0, none⟩), .pointer (some ⟨p, 0, none⟩), .pointer (some ⟨f, 0, none⟩), .agg ([.int .i64 2, .int .i64 n, .slice ao nn c]).toArray] w fun e w' => ∃ E qv' bx', e = .returned (.tuple #[.int .i64 2, .bool true]) ∧ Mem w (foots [disk D p pg mb qv, blk f 96 (fC V p), book B b bx]) w' [disk E p pg mb qv', blk f 96 (fC V p), book ({ B with inMark := V.next, inHead := 0 } : BV) b bx'] ∧ E = (pubR D V (0)).1 := by
  obtain ⟨lv, kv, vs⟩ := bx
  have M0 := book_open (hM.arr [2, 0, 1] (by decide))
  clear hM
  have M : Mem w _ w [disk D p pg mb qv, blk f 96 (fC V p), blk b 48 (bC B ⟨lv, kv, vs⟩), rows lv vs B.loads, lst 3 1 kv B.ps.length B.kinds] := M0.arr [3, 4, 0, 1, 2] (by decide)
  clear M0
  have hn2 := hI.next2
  have hnp := hI.nextp
  have hhi := hI.ok.hi
  go_enter Try.func27, Try.ntmps27
  refine wp_seq_k (fun K1 hK1 => ?_)
  refine wp_region_lit ?_
  refine pe rfl (fun K hK => ?_)
  refine e_box M ([.int .i64 2, .int .i64 n, .slice ao nn c]) rfl rfl ?_
  intro ga w2 (M2 : Mem w _ w2 [blk ga 50 ([.int .i64 2, .int .i64 n, .slice ao nn c]), disk D p pg mb qv, blk f 96 (fC V p), blk b 48 (bC B ⟨lv, kv, vs⟩), rows lv vs B.loads, lst 3 1 kv B.ps.length B.kinds])
  clear M
  refine hK.out _ _ ?_
  clear hK K
  simp only [Act.put, z1, z2, z3]
  refine pl M2 (y_assign (v := .int .i64 0) rfl rfl rfl) ?_
  simp only [Act.put, z1, z2, z3]
  refine pl M2 (y_assign (v := .bool false) rfl rfl rfl) ?_
  simp only [Act.put, z1, z2, z3]
  refine wpList_nil ?_
  refine hK1 _ _ ?_
  clear hK1
  refine wp_seq_k (fun K3 hK3 => ?_)
  refine wp_region_lit ?_
  refine pl M2 (y_move (v := .pointer (some ⟨f, 0, none⟩)) rfl rfl rfl) ?_
  simp only [Act.put, z1, z2, z3]
  have hX4 : Mem w _ w2 ([disk D p pg mb qv, blk f 96 (fC V p)] ++ [blk ga 50 ([.int .i64 2, .int .i64 n, .slice ao nn c]), blk b 48 (bC B ⟨lv, kv, vs⟩), rows lv vs B.loads, lst 3 1 kv B.ps.length B.kinds]) := M2.arr [1, 2, 0, 3, 4, 5] (by decide)
  refine pe rfl (fun K hK => ?_)
  refine e_call 20 [.pointer (some ⟨f, 0, none⟩)] rfl rfl Try.call20 (next_any (Mem.here hX4)) ?_
  rintro e w4 ⟨rfl, H4⟩
  have M4 : Mem w _ w4 [disk D p pg mb qv, blk f 96 (fC V p), blk ga 50 ([.int .i64 2, .int .i64 n, .slice ao nn c]), blk b 48 (bC B ⟨lv, kv, vs⟩), rows lv vs B.loads, lst 3 1 kv B.ps.length B.kinds] := Mem.frame hX4 H4
  refine ⟨_, rfl, ?_⟩
  refine hK.out _ _ ?_
  clear hK K
  simp only [Act.put, z1, z2, z3]
  refine pl M4 (y_assign (v := .int .i64 V.next) rfl rfl rfl) ?_
  simp only [Act.put, z1, z2, z3]
  refine wpList_nil ?_
  refine hK3 _ _ ?_
  clear hK3
  refine wp_seq_k (fun K5 hK5 => ?_)
  refine wp_seq_k (fun K6 hK6 => ?_)
  refine wp_region_lit ?_
  refine pl M4 (y_fa (r := 0) rfl rfl rfl Try.underlying50 rfl Try.sizeOf3 rfl) ?_
  simp only [Act.put, z1, z2, z3]
  refine pl M4 (y_load (v := .int .i64 2) rfl rfl rfl Try.isAgg3 (fun W hW => hW.get 2 rfl) (rfl)) ?_
  simp only [Act.put, z1, z2, z3]
  refine wpList_nil ?_
  refine hK6 _ _ ?_
  clear hK6
  refine wp_block ?_
  refine wp_seq_k (fun K7 hK7 => ?_)
  refine wp_region_lit ?_
  refine pl M4 (y_eql (b := false) rfl rfl rfl rfl (decide_eq_false (by decide))) ?_
  simp only [Act.put, z1, z2, z3]
  refine pl M4 (y_assign (v := .bool false) rfl rfl rfl) ?_
  simp only [Act.put, z1, z2, z3]
  refine wpList_nil ?_
  refine hK7 _ _ ?_
  clear hK7
  refine wp_cond_false rfl ?_
  refine wp_seq_k (fun K8 hK8 => ?_)
  refine wp_region_lit ?_
  refine pl M4 (y_eql (b := true) rfl rfl rfl rfl (decide_eq_true (by decide))) ?_
  simp only [Act.put, z1, z2, z3]
  refine pl M4 (y_assign (v := .bool true) rfl rfl rfl) ?_
  simp only [Act.put, z1, z2, z3]
  refine wpList_nil ?_
  refine hK8 _ _ ?_
  clear hK8
  refine wp_cond_true rfl ?_
  refine wp_seq_k (fun K9 hK9 => ?_)
  refine wp_region_lit ?_
  refine pl M4 (y_assign (v := .int .i64 0) rfl rfl rfl) ?_
  simp only [Act.put, z1, z2, z3]
  refine wpList_nil ?_
  refine hK9 _ _ ?_
  clear hK9
  refine wp_seq_k (fun K10 hK10 => ?_)
  refine wp_seq_k (fun K11 hK11 => ?_)
  refine wp_region_lit ?_
  refine pl M4 (y_fa (r := 1) rfl rfl rfl Try.underlying50 rfl Try.sizeOf3 rfl) ?_
  simp only [Act.put, z1, z2, z3]
  refine pl M4 (y_load (v := .int .i64 n) rfl rfl rfl Try.isAgg3 (fun W hW => hW.get 2 rfl) (rfl)) ?_
  simp only [Act.put, z1, z2, z3]
  refine pe rfl (fun K hK => ?_)
  refine e_call 13 [.int .i64 n, .int .i64 2] rfl rfl Try.call13 (place3_any n 2 (by decide) (by decide) _) ?_
  rintro e w12 ⟨rfl, H12⟩
  have M12 : Mem w _ w12 [disk D p pg mb qv, blk f 96 (fC V p), blk ga 50 ([.int .i64 2, .int .i64 n, .slice ao nn c]), blk b 48 (bC B ⟨lv, kv, vs⟩), rows lv vs B.loads, lst 3 1 kv B.ps.length B.kinds] := M4.step H12
  refine ⟨_, rfl, ?_⟩
  refine hK.out _ _ ?_
  clear hK K
  simp only [Act.put, z1, z2, z3]
  refine pl M12 (y_eql (b := true) rfl rfl rfl rfl (decide_eq_true h1)) ?_
  simp only [Act.put, z1, z2, z3]
  refine pl M12 (y_move (v := .bool true) rfl rfl rfl) ?_
  simp only [Act.put, z1, z2, z3]
  refine pl M12 (y_move (v := .int .i64 V.next) rfl rfl rfl) ?_
  simp only [Act.put, z1, z2, z3]
  refine pl M12 (y_gtr (b := false) rfl rfl rfl rfl (decide_eq_false h2)) ?_
  simp only [Act.put, z1, z2, z3]
  refine pl M12 (y_pickT (v := .bool false) rfl rfl rfl rfl) ?_
  simp only [Act.put, z1, z2, z3]
  refine wpList_nil ?_
  refine hK11 _ _ ?_
  clear hK11
  refine wp_cond_false rfl ?_
  refine wp_skip ?_
  refine hK10 _ _ ?_
  clear hK10
  refine wp_seq_k (fun K13 hK13 => ?_)
  refine wp_region_lit ?_
  refine pl M12 (y_move (v := .pointer (some ⟨f, 0, none⟩)) rfl rfl rfl) ?_
  simp only [Act.put, z1, z2, z3]
  refine pl M12 (y_move (v := .int .i64 0) rfl rfl rfl) ?_
  simp only [Act.put, z1, z2, z3]
  have hX14 : Mem w _ w12 ([disk D p pg mb qv, blk f 96 (fC V p)] ++ [blk ga 50 ([.int .i64 2, .int .i64 n, .slice ao nn c]), blk b 48 (bC B ⟨lv, kv, vs⟩), rows lv vs B.loads, lst 3 1 kv B.ps.length B.kinds]) := M12.arr [0, 1, 2, 3, 4, 5] (by decide)
  refine pe rfl (fun K hK => ?_)
  refine e_call 28 [.pointer (some ⟨f, 0, none⟩), .int .i64 0] rfl rfl Try.call28 (xpub_down (Mem.here hX14) hI (0) hq h0 hpp) ?_
  rintro e w14 ⟨E, qv', rfl, H14, hE, hpl⟩
  have M14 : Mem w _ w14 [disk E p pg mb qv', blk f 96 (fC V p), blk ga 50 ([.int .i64 2, .int .i64 n, .slice ao nn c]), blk b 48 (bC B ⟨lv, kv, vs⟩), rows lv vs B.loads, lst 3 1 kv B.ps.length B.kinds] := Mem.frame hX14 H14
  refine ⟨_, rfl, ?_⟩
  refine hK.out _ _ ?_
  clear hK K
  simp only [Act.put, z1, z2, z3]
  refine pl M14 (y_assign (v := .int .i64 2) rfl rfl rfl) ?_
  simp only [Act.put, z1, z2, z3]
  refine wpList_nil ?_
  refine hK13 _ _ ?_
  clear hK13
  refine wp_seq_k (fun K15 hK15 => ?_)
  refine wp_seq_k (fun K16 hK16 => ?_)
  refine wp_region_lit ?_
  refine pl M14 (y_move (v := .int .i64 2) rfl rfl rfl) ?_
  simp only [Act.put, z1, z2, z3]
  refine pl M14 (y_eql (b := false) rfl rfl rfl rfl (decide_eq_false (by decide))) ?_
  simp only [Act.put, z1, z2, z3]
  refine wpList_nil ?_
  refine hK16 _ _ ?_
  clear hK16
  refine wp_cond_false rfl ?_
  refine wp_skip ?_
  refine hK15 _ _ ?_
  clear hK15
  refine wp_seq_k (fun K17 hK17 => ?_)
  refine wp_region_lit ?_
  refine pl M14 (y_move (v := .pointer (some ⟨b, 0, none⟩)) rfl rfl rfl) ?_
  simp only [Act.put, z1, z2, z3]
  refine pl M14 (y_move (v := .pointer (some ⟨b, 0, none⟩)) rfl rfl rfl) ?_
  simp only [Act.put, z1, z2, z3]
  refine pl M14 (y_move (v := .int .i64 V.next) rfl rfl rfl) ?_
  simp only [Act.put, z1, z2, z3]
  refine pl M14 (y_move (v := .int .i64 0) rfl rfl rfl) ?_
  simp only [Act.put, z1, z2, z3]
  refine pl M14 (y_nil rfl rfl rfl) ?_
  simp only [Act.put, z1, z2, z3]
  refine pl M14 (y_fa (r := 5) rfl rfl rfl Try.underlying48 rfl Try.sizeOf3 rfl) ?_
  simp only [Act.put, z1, z2, z3]
  refine pe rfl (fun K hK => ?_)
  refine e_store M14 3 (v := .int .i64 V.next) rfl rfl rfl rfl rfl rfl Try.sizeOf3 rfl (show (5 : Nat) < 7 by decide) ?_
  intro w18 (M18 : Mem w _ w18 [disk E p pg mb qv', blk f 96 (fC V p), blk ga 50 ([.int .i64 2, .int .i64 n, .slice ao nn c]), blk b 48 ([lv, kv, .int .i64 B.mark, .int .i64 B.gen, .int .i64 B.head, .int .i64 V.next, .int .i64 B.inHead]), rows lv vs B.loads, lst 3 1 kv B.ps.length B.kinds])
  clear M14
  refine hK.out _ _ ?_
  clear hK K
  simp only [Act.put, z1, z2, z3]
  refine pl M18 (y_nil rfl rfl rfl) ?_
  simp only [Act.put, z1, z2, z3]
  refine pl M18 (y_fa (r := 6) rfl rfl rfl Try.underlying48 rfl Try.sizeOf3 rfl) ?_
  simp only [Act.put, z1, z2, z3]
  refine pe rfl (fun K hK => ?_)
  refine e_store M18 3 (v := .int .i64 0) rfl rfl rfl rfl rfl rfl Try.sizeOf3 rfl (show (6 : Nat) < 7 by decide) ?_
  intro w19 (M19 : Mem w _ w19 [disk E p pg mb qv', blk f 96 (fC V p), blk ga 50 ([.int .i64 2, .int .i64 n, .slice ao nn c]), blk b 48 ([lv, kv, .int .i64 B.mark, .int .i64 B.gen, .int .i64 B.head, .int .i64 V.next, .int .i64 0]), rows lv vs B.loads, lst 3 1 kv B.ps.length B.kinds])
  clear M18
  refine hK.out _ _ ?_
  clear hK K
  simp only [Act.put, z1, z2, z3]
  refine wpList_nil ?_
  refine hK17 _ _ ?_
  clear hK17
  refine wp_seq_k (fun K20 hK20 => ?_)
  refine wp_region_lit ?_
  refine pl M19 (y_move (v := .int .i64 2) rfl rfl rfl) ?_
  simp only [Act.put, z1, z2, z3]
  refine pl M19 (y_move (v := .int .i64 2) rfl rfl rfl) ?_
  simp only [Act.put, z1, z2, z3]
  refine pl M19 (y_eql (b := true) rfl rfl rfl rfl (decide_eq_true (by decide))) ?_
  simp only [Act.put, z1, z2, z3]
  refine pl M19 (y_assign (v := .int .i64 2) rfl rfl rfl) ?_
  simp only [Act.put, z1, z2, z3]
  refine pl M19 (y_assign (v := .bool true) rfl rfl rfl) ?_
  simp only [Act.put, z1, z2, z3]
  refine wpList_nil ?_
  refine hK20 _ _ ?_
  clear hK20
  refine wp_ret ?_
  try simp only [Exit.inBlock, Exit.then]
  refine bodyPost_ret (v := .tuple #[.int .i64 2, .bool true]) (res2 rfl rfl rfl) rfl ?_
  have N : Mem _ _ _ [book ({ B with inMark := V.next, inHead := 0 } : BV) b ⟨lv, kv, vs⟩, _, _] := book_close (M19.arr [3, 4, 5, 0, 1] (by decide))
  exact ⟨E, qv', ⟨lv, kv, vs⟩, rfl, N.arr [1, 2, 0] (by decide), hE⟩
set_option maxRecDepth 100000 in
set_option maxHeartbeats 4000000 in
theorem act_pub_go_z2 {D : DV} {V : FV} {B : BV} {p pg mb f b : Nat} {qv : Value} {bx : BX} {w : World} (hM : Mem w (foots [disk D p pg mb qv, blk f 96 (fC V p), book B b bx]) w [disk D p pg mb qv, blk f 96 (fC V p), book B b bx]) (n : Int) (ao : Option Addr) (nn c : Nat) {ps : Pgs} (hI : Inv D V ps) (hg : V.s.gen = B.gen) (hgm : V.s.gen < 1099511627776) (hq : D.q.length ≤ 400000000000) (h1 : ¬ n % 2 = 1) (h0 : (pubR D V (0)).2 = 0) (hpp : (pubR D V (0)).1.pages.length = D.pages.length) : Calls Try.prog 27 #[.pointer (some ⟨b, 0, none⟩), .pointer (some ⟨p, 0, none⟩), .pointer (some ⟨f, 0, none⟩), .agg ([.int .i64 2, .int .i64 n, .slice ao nn c]).toArray] w fun e w' => ∃ E qv' bx', e = .returned (.tuple #[.int .i64 0, .bool true]) ∧ Mem w (foots [disk D p pg mb qv, blk f 96 (fC V p), book B b bx]) w' [disk E p pg mb qv', blk f 96 (fC ({ V with s := pubS V (0) } : FV) p), book ({ B with mark := V.next, head := 0, gen := B.gen + 1 } : BV) b bx'] ∧ E = (pubR D V (0)).1 := by
  obtain ⟨lv, kv, vs⟩ := bx
  have M0 := book_open (hM.arr [2, 0, 1] (by decide))
  clear hM
  have M : Mem w _ w [disk D p pg mb qv, blk f 96 (fC V p), blk b 48 (bC B ⟨lv, kv, vs⟩), rows lv vs B.loads, lst 3 1 kv B.ps.length B.kinds] := M0.arr [3, 4, 0, 1, 2] (by decide)
  clear M0
  have hpg := hI.plat.pages
  have hg1 := hI.plat.gen0
  have hn2 := hI.next2
  have hnp := hI.nextp
  have hhi := hI.ok.hi
  go_enter Try.func27, Try.ntmps27
  refine wp_seq_k (fun K1 hK1 => ?_)
  refine wp_region_lit ?_
  refine pe rfl (fun K hK => ?_)
  refine e_box M ([.int .i64 2, .int .i64 n, .slice ao nn c]) rfl rfl ?_
  intro ga w2 (M2 : Mem w _ w2 [blk ga 50 ([.int .i64 2, .int .i64 n, .slice ao nn c]), disk D p pg mb qv, blk f 96 (fC V p), blk b 48 (bC B ⟨lv, kv, vs⟩), rows lv vs B.loads, lst 3 1 kv B.ps.length B.kinds])
  clear M
  refine hK.out _ _ ?_
  clear hK K
  simp only [Act.put, z1, z2, z3]
  refine pl M2 (y_assign (v := .int .i64 0) rfl rfl rfl) ?_
  simp only [Act.put, z1, z2, z3]
  refine pl M2 (y_assign (v := .bool false) rfl rfl rfl) ?_
  simp only [Act.put, z1, z2, z3]
  refine wpList_nil ?_
  refine hK1 _ _ ?_
  clear hK1
  refine wp_seq_k (fun K3 hK3 => ?_)
  refine wp_region_lit ?_
  refine pl M2 (y_move (v := .pointer (some ⟨f, 0, none⟩)) rfl rfl rfl) ?_
  simp only [Act.put, z1, z2, z3]
  have hX4 : Mem w _ w2 ([disk D p pg mb qv, blk f 96 (fC V p)] ++ [blk ga 50 ([.int .i64 2, .int .i64 n, .slice ao nn c]), blk b 48 (bC B ⟨lv, kv, vs⟩), rows lv vs B.loads, lst 3 1 kv B.ps.length B.kinds]) := M2.arr [1, 2, 0, 3, 4, 5] (by decide)
  refine pe rfl (fun K hK => ?_)
  refine e_call 20 [.pointer (some ⟨f, 0, none⟩)] rfl rfl Try.call20 (next_any (Mem.here hX4)) ?_
  rintro e w4 ⟨rfl, H4⟩
  have M4 : Mem w _ w4 [disk D p pg mb qv, blk f 96 (fC V p), blk ga 50 ([.int .i64 2, .int .i64 n, .slice ao nn c]), blk b 48 (bC B ⟨lv, kv, vs⟩), rows lv vs B.loads, lst 3 1 kv B.ps.length B.kinds] := Mem.frame hX4 H4
  refine ⟨_, rfl, ?_⟩
  refine hK.out _ _ ?_
  clear hK K
  simp only [Act.put, z1, z2, z3]
  refine pl M4 (y_assign (v := .int .i64 V.next) rfl rfl rfl) ?_
  simp only [Act.put, z1, z2, z3]
  refine wpList_nil ?_
  refine hK3 _ _ ?_
  clear hK3
  refine wp_seq_k (fun K5 hK5 => ?_)
  refine wp_seq_k (fun K6 hK6 => ?_)
  refine wp_region_lit ?_
  refine pl M4 (y_fa (r := 0) rfl rfl rfl Try.underlying50 rfl Try.sizeOf3 rfl) ?_
  simp only [Act.put, z1, z2, z3]
  refine pl M4 (y_load (v := .int .i64 2) rfl rfl rfl Try.isAgg3 (fun W hW => hW.get 2 rfl) (rfl)) ?_
  simp only [Act.put, z1, z2, z3]
  refine wpList_nil ?_
  refine hK6 _ _ ?_
  clear hK6
  refine wp_block ?_
  refine wp_seq_k (fun K7 hK7 => ?_)
  refine wp_region_lit ?_
  refine pl M4 (y_eql (b := false) rfl rfl rfl rfl (decide_eq_false (by decide))) ?_
  simp only [Act.put, z1, z2, z3]
  refine pl M4 (y_assign (v := .bool false) rfl rfl rfl) ?_
  simp only [Act.put, z1, z2, z3]
  refine wpList_nil ?_
  refine hK7 _ _ ?_
  clear hK7
  refine wp_cond_false rfl ?_
  refine wp_seq_k (fun K8 hK8 => ?_)
  refine wp_region_lit ?_
  refine pl M4 (y_eql (b := true) rfl rfl rfl rfl (decide_eq_true (by decide))) ?_
  simp only [Act.put, z1, z2, z3]
  refine pl M4 (y_assign (v := .bool true) rfl rfl rfl) ?_
  simp only [Act.put, z1, z2, z3]
  refine wpList_nil ?_
  refine hK8 _ _ ?_
  clear hK8
  refine wp_cond_true rfl ?_
  refine wp_seq_k (fun K9 hK9 => ?_)
  refine wp_region_lit ?_
  refine pl M4 (y_assign (v := .int .i64 0) rfl rfl rfl) ?_
  simp only [Act.put, z1, z2, z3]
  refine wpList_nil ?_
  refine hK9 _ _ ?_
  clear hK9
  refine wp_seq_k (fun K10 hK10 => ?_)
  refine wp_seq_k (fun K11 hK11 => ?_)
  refine wp_region_lit ?_
  refine pl M4 (y_fa (r := 1) rfl rfl rfl Try.underlying50 rfl Try.sizeOf3 rfl) ?_
  simp only [Act.put, z1, z2, z3]
  refine pl M4 (y_load (v := .int .i64 n) rfl rfl rfl Try.isAgg3 (fun W hW => hW.get 2 rfl) (rfl)) ?_
  simp only [Act.put, z1, z2, z3]
  refine pe rfl (fun K hK => ?_)
  refine e_call 13 [.int .i64 n, .int .i64 2] rfl rfl Try.call13 (place3_any n 2 (by decide) (by decide) _) ?_
  rintro e w12 ⟨rfl, H12⟩
  have M12 : Mem w _ w12 [disk D p pg mb qv, blk f 96 (fC V p), blk ga 50 ([.int .i64 2, .int .i64 n, .slice ao nn c]), blk b 48 (bC B ⟨lv, kv, vs⟩), rows lv vs B.loads, lst 3 1 kv B.ps.length B.kinds] := M4.step H12
  refine ⟨_, rfl, ?_⟩
  refine hK.out _ _ ?_
  clear hK K
  simp only [Act.put, z1, z2, z3]
  refine pl M12 (y_eql (b := false) rfl rfl rfl rfl (decide_eq_false h1)) ?_
  simp only [Act.put, z1, z2, z3]
  refine pl M12 (y_move (v := .bool false) rfl rfl rfl) ?_
  simp only [Act.put, z1, z2, z3]
  with_reducible refine pskip ?_ ?_
  · rfl
  simp only [Act.put, z1, z2, z3]
  with_reducible refine pskip ?_ ?_
  · rfl
  simp only [Act.put, z1, z2, z3]
  refine pl M12 (y_pickF (v := .bool false) rfl rfl rfl rfl) ?_
  simp only [Act.put, z1, z2, z3]
  refine wpList_nil ?_
  refine hK11 _ _ ?_
  clear hK11
  refine wp_cond_false rfl ?_
  refine wp_skip ?_
  refine hK10 _ _ ?_
  clear hK10
  refine wp_seq_k (fun K13 hK13 => ?_)
  refine wp_region_lit ?_
  refine pl M12 (y_move (v := .pointer (some ⟨f, 0, none⟩)) rfl rfl rfl) ?_
  simp only [Act.put, z1, z2, z3]
  refine pl M12 (y_move (v := .int .i64 0) rfl rfl rfl) ?_
  simp only [Act.put, z1, z2, z3]
  have hX14 : Mem w _ w12 ([disk D p pg mb qv, blk f 96 (fC V p)] ++ [blk ga 50 ([.int .i64 2, .int .i64 n, .slice ao nn c]), blk b 48 (bC B ⟨lv, kv, vs⟩), rows lv vs B.loads, lst 3 1 kv B.ps.length B.kinds]) := M12.arr [0, 1, 2, 3, 4, 5] (by decide)
  refine pe rfl (fun K hK => ?_)
  refine e_call 28 [.pointer (some ⟨f, 0, none⟩), .int .i64 0] rfl rfl Try.call28 (xpub_go (Mem.here hX14) hI (0) hq h0 hpp) ?_
  rintro e w14 ⟨E, qv', rfl, H14, hE, hpl⟩
  have M14 : Mem w _ w14 [disk E p pg mb qv', blk f 96 (fC ({ V with s := pubS V (0) } : FV) p), blk ga 50 ([.int .i64 2, .int .i64 n, .slice ao nn c]), blk b 48 (bC B ⟨lv, kv, vs⟩), rows lv vs B.loads, lst 3 1 kv B.ps.length B.kinds] := Mem.frame hX14 H14
  have hcs : [.int .i64 V.s.width, .int .i64 (B.gen + 1), .int .i64 V.next, .int .i64 (0), .int .i64 (E.pages.length : Int)] = supC (pubS V (0)) := by rw [hpl, ← hg, ← hpg]; rfl
  refine ⟨_, rfl, ?_⟩
  refine hK.out _ _ ?_
  clear hK K
  simp only [Act.put, z1, z2, z3]
  refine pl M14 (y_assign (v := .int .i64 0) rfl rfl rfl) ?_
  simp only [Act.put, z1, z2, z3]
  refine wpList_nil ?_
  refine hK13 _ _ ?_
  clear hK13
  refine wp_seq_k (fun K15 hK15 => ?_)
  refine wp_seq_k (fun K16 hK16 => ?_)
  refine wp_region_lit ?_
  refine pl M14 (y_move (v := .int .i64 0) rfl rfl rfl) ?_
  simp only [Act.put, z1, z2, z3]
  refine pl M14 (y_eql (b := true) rfl rfl rfl rfl (decide_eq_true (by decide))) ?_
  simp only [Act.put, z1, z2, z3]
  refine wpList_nil ?_
  refine hK16 _ _ ?_
  clear hK16
  refine wp_cond_true rfl ?_
  refine wp_seq_k (fun K17 hK17 => ?_)
  refine wp_region_lit ?_
  refine pl M14 (y_move (v := .pointer (some ⟨b, 0, none⟩)) rfl rfl rfl) ?_
  simp only [Act.put, z1, z2, z3]
  refine pl M14 (y_move (v := .pointer (some ⟨b, 0, none⟩)) rfl rfl rfl) ?_
  simp only [Act.put, z1, z2, z3]
  refine pl M14 (y_move (v := .int .i64 V.next) rfl rfl rfl) ?_
  simp only [Act.put, z1, z2, z3]
  refine pl M14 (y_move (v := .int .i64 0) rfl rfl rfl) ?_
  simp only [Act.put, z1, z2, z3]
  refine pl M14 (y_nil rfl rfl rfl) ?_
  simp only [Act.put, z1, z2, z3]
  refine pl M14 (y_fa (r := 2) rfl rfl rfl Try.underlying48 rfl Try.sizeOf3 rfl) ?_
  simp only [Act.put, z1, z2, z3]
  refine pe rfl (fun K hK => ?_)
  refine e_store M14 3 (v := .int .i64 V.next) rfl rfl rfl rfl rfl rfl Try.sizeOf3 rfl (show (2 : Nat) < 7 by decide) ?_
  intro w18 (M18 : Mem w _ w18 [disk E p pg mb qv', blk f 96 (fC ({ V with s := pubS V (0) } : FV) p), blk ga 50 ([.int .i64 2, .int .i64 n, .slice ao nn c]), blk b 48 ([lv, kv, .int .i64 V.next, .int .i64 B.gen, .int .i64 B.head, .int .i64 B.inMark, .int .i64 B.inHead]), rows lv vs B.loads, lst 3 1 kv B.ps.length B.kinds])
  clear M14
  refine hK.out _ _ ?_
  clear hK K
  simp only [Act.put, z1, z2, z3]
  refine pl M18 (y_nil rfl rfl rfl) ?_
  simp only [Act.put, z1, z2, z3]
  refine pl M18 (y_fa (r := 4) rfl rfl rfl Try.underlying48 rfl Try.sizeOf3 rfl) ?_
  simp only [Act.put, z1, z2, z3]
  refine pe rfl (fun K hK => ?_)
  refine e_store M18 3 (v := .int .i64 0) rfl rfl rfl rfl rfl rfl Try.sizeOf3 rfl (show (4 : Nat) < 7 by decide) ?_
  intro w19 (M19 : Mem w _ w19 [disk E p pg mb qv', blk f 96 (fC ({ V with s := pubS V (0) } : FV) p), blk ga 50 ([.int .i64 2, .int .i64 n, .slice ao nn c]), blk b 48 ([lv, kv, .int .i64 V.next, .int .i64 B.gen, .int .i64 0, .int .i64 B.inMark, .int .i64 B.inHead]), rows lv vs B.loads, lst 3 1 kv B.ps.length B.kinds])
  clear M18
  refine hK.out _ _ ?_
  clear hK K
  simp only [Act.put, z1, z2, z3]
  refine wpList_nil ?_
  refine hK17 _ _ ?_
  clear hK17
  refine wp_seq_k (fun K20 hK20 => ?_)
  refine wp_region_lit ?_
  refine pl M19 (y_move (v := .pointer (some ⟨b, 0, none⟩)) rfl rfl rfl) ?_
  simp only [Act.put, z1, z2, z3]
  refine pl M19 (y_nil rfl rfl rfl) ?_
  simp only [Act.put, z1, z2, z3]
  refine pl M19 (y_fa (r := 3) rfl rfl rfl Try.underlying48 rfl Try.sizeOf3 rfl) ?_
  simp only [Act.put, z1, z2, z3]
  refine pl M19 (y_load (v := .int .i64 B.gen) rfl rfl rfl Try.isAgg3 (fun W hW => hW.get 3 rfl) (rfl)) ?_
  simp only [Act.put, z1, z2, z3]
  refine pl M19 (y_add (r := B.gen + 1) rfl rfl rfl rfl (rfl) (by omega)) ?_
  simp only [Act.put, z1, z2, z3]
  refine pl M19 (y_nil rfl rfl rfl) ?_
  simp only [Act.put, z1, z2, z3]
  refine pl M19 (y_fa (r := 3) rfl rfl rfl Try.underlying48 rfl Try.sizeOf3 rfl) ?_
  simp only [Act.put, z1, z2, z3]
  refine pe rfl (fun K hK => ?_)
  refine e_store M19 3 (v := .int .i64 (B.gen + 1)) rfl rfl rfl rfl rfl rfl Try.sizeOf3 rfl (show (3 : Nat) < 7 by decide) ?_
  intro w21 (M21 : Mem w _ w21 [disk E p pg mb qv', blk f 96 (fC ({ V with s := pubS V (0) } : FV) p), blk ga 50 ([.int .i64 2, .int .i64 n, .slice ao nn c]), blk b 48 ([lv, kv, .int .i64 V.next, .int .i64 (B.gen + 1), .int .i64 0, .int .i64 B.inMark, .int .i64 B.inHead]), rows lv vs B.loads, lst 3 1 kv B.ps.length B.kinds])
  clear M19
  refine hK.out _ _ ?_
  clear hK K
  simp only [Act.put, z1, z2, z3]
  refine wpList_nil ?_
  refine hK20 _ _ ?_
  clear hK20
  refine wp_seq_k (fun K22 hK22 => ?_)
  have M23 := M21.drew
  refine held_begin (fun W => Mem w (foots [disk D p pg mb qv, blk f 96 (fC V p), book B b ⟨lv, kv, vs⟩]) W [blk b 48 ([lv, kv, .int .i64 V.next, .int .i64 (B.gen + 1), .int .i64 0, .int .i64 B.inMark, .int .i64 B.inHead])]) (by kernel_rfl) (M23.arr [3] (by decide)) (fun hS => ?_)
  refine held_take 0 _ rfl (by kernel_rfl) (by kernel_rfl) (by kernel_rfl) (y_move (v := .int .i64 0) rfl rfl rfl) hS ?_
  simp only [Act.put, z1, z2, z3]
  refine held_take 1 _ rfl (by kernel_rfl) (by kernel_rfl) (by kernel_rfl) (y_move (v := .pointer (some ⟨f, 0, none⟩)) rfl rfl rfl) hS ?_
  simp only [Act.put, z1, z2, z3]
  refine held_take 3 _ rfl (by kernel_rfl) (by kernel_rfl) (by kernel_rfl) (y_move (v := .pointer (some ⟨f, 0, none⟩)) rfl rfl rfl) hS ?_
  simp only [Act.put, z1, z2, z3]
  refine held_take 6 _ rfl (by kernel_rfl) (by kernel_rfl) (by kernel_rfl) (y_move (v := .pointer (some ⟨b, 0, none⟩)) rfl rfl rfl) hS ?_
  simp only [Act.put, z1, z2, z3]
  refine held_take 7 _ rfl (by kernel_rfl) (by kernel_rfl) (by kernel_rfl) (y_nil rfl rfl rfl) hS ?_
  simp only [Act.put, z1, z2, z3]
  refine held_take 8 _ rfl (by kernel_rfl) (by kernel_rfl) (by kernel_rfl) (y_fa (r := 3) rfl rfl rfl Try.underlying48 rfl Try.sizeOf3 rfl) hS ?_
  simp only [Act.put, z1, z2, z3]
  refine held_take 9 _ rfl (by kernel_rfl) (by kernel_rfl) (by kernel_rfl) (y_load (v := .int .i64 (B.gen + 1)) rfl rfl rfl Try.isAgg3 (fun W hW => hW.get 0 rfl) (rfl)) hS ?_
  simp only [Act.put, z1, z2, z3]
  refine held_take 10 _ rfl (by kernel_rfl) (by kernel_rfl) (by kernel_rfl) (y_move (v := .int .i64 V.next) rfl rfl rfl) hS ?_
  simp only [Act.put, z1, z2, z3]
  refine held_take 11 _ rfl (by kernel_rfl) (by kernel_rfl) (by kernel_rfl) (y_move (v := .int .i64 0) rfl rfl rfl) hS ?_
  simp only [Act.put, z1, z2, z3]
  refine held_take 12 _ rfl (by kernel_rfl) (by kernel_rfl) (by kernel_rfl) (y_move (v := .pointer (some ⟨p, 0, none⟩)) rfl rfl rfl) hS ?_
  simp only [Act.put, z1, z2, z3]
  have hX24 : Mem w _ w21.drew ([disk E p pg mb qv', blk f 96 (fC ({ V with s := pubS V (0) } : FV) p)] ++ [blk ga 50 ([.int .i64 2, .int .i64 n, .slice ao nn c]), blk b 48 ([lv, kv, .int .i64 V.next, .int .i64 (B.gen + 1), .int .i64 0, .int .i64 B.inMark, .int .i64 B.inHead]), rows lv vs B.loads, lst 3 1 kv B.ps.length B.kinds]) := M23.arr [0, 1, 2, 3, 4, 5] (by decide)
  refine held_step 2 (by kernel_rfl) rfl (by rfl) (fun K hK => ?_)
  refine e_call 19 [.pointer (some ⟨f, 0, none⟩)] rfl rfl Try.call19 (super_any (Mem.here hX24)) ?_
  rintro e w24 ⟨rfl, H24⟩
  have M24 : Mem w _ w24 [disk E p pg mb qv', blk f 96 (fC ({ V with s := pubS V (0) } : FV) p), blk ga 50 ([.int .i64 2, .int .i64 n, .slice ao nn c]), blk b 48 ([lv, kv, .int .i64 V.next, .int .i64 (B.gen + 1), .int .i64 0, .int .i64 B.inMark, .int .i64 B.inHead]), rows lv vs B.loads, lst 3 1 kv B.ps.length B.kinds] := Mem.frame hX24 H24
  refine ⟨_, rfl, ?_⟩
  refine hK.out _ _ (M24.arr [3] (by decide)) (fun hS => ?_)
  clear hK K
  simp only [Act.put, z1, z2, z3]
  have hX25 : Mem w _ w24 ([disk E p pg mb qv', blk f 96 (fC ({ V with s := pubS V (0) } : FV) p)] ++ [blk ga 50 ([.int .i64 2, .int .i64 n, .slice ao nn c]), blk b 48 ([lv, kv, .int .i64 V.next, .int .i64 (B.gen + 1), .int .i64 0, .int .i64 B.inMark, .int .i64 B.inHead]), rows lv vs B.loads, lst 3 1 kv B.ps.length B.kinds]) := M24.arr [0, 1, 2, 3, 4, 5] (by decide)
  refine held_step 4 (by kernel_rfl) rfl (by rfl) (fun K hK => ?_)
  refine e_call 19 [.pointer (some ⟨f, 0, none⟩)] rfl rfl Try.call19 (super_any (Mem.here hX25)) ?_
  rintro e w25 ⟨rfl, H25⟩
  have M25 : Mem w _ w25 [disk E p pg mb qv', blk f 96 (fC ({ V with s := pubS V (0) } : FV) p), blk ga 50 ([.int .i64 2, .int .i64 n, .slice ao nn c]), blk b 48 ([lv, kv, .int .i64 V.next, .int .i64 (B.gen + 1), .int .i64 0, .int .i64 B.inMark, .int .i64 B.inHead]), rows lv vs B.loads, lst 3 1 kv B.ps.length B.kinds] := Mem.frame hX25 H25
  refine ⟨_, rfl, ?_⟩
  refine hK.out _ _ (M25.arr [3] (by decide)) (fun hS => ?_)
  clear hK K
  simp only [Act.put, z1, z2, z3]
  refine held_take 5 _ rfl (by kernel_rfl) (by kernel_rfl) (by kernel_rfl) (y_field1 (v := .int .i64 V.s.width) rfl rfl rfl Try.underlying37 rfl Try.isAgg3 rfl) hS ?_
  simp only [Act.put, z1, z2, z3]
  have hX26 : Mem w _ w25 ([disk E p pg mb qv'] ++ [blk f 96 (fC ({ V with s := pubS V (0) } : FV) p), blk ga 50 ([.int .i64 2, .int .i64 n, .slice ao nn c]), blk b 48 ([lv, kv, .int .i64 V.next, .int .i64 (B.gen + 1), .int .i64 0, .int .i64 B.inMark, .int .i64 B.inHead]), rows lv vs B.loads, lst 3 1 kv B.ps.length B.kinds]) := M25.arr [0, 1, 2, 3, 4, 5] (by decide)
  refine held_step 13 (by kernel_rfl) rfl (by rfl) (fun K hK => ?_)
  refine e_call 24 [.pointer (some ⟨p, 0, none⟩)] rfl rfl Try.call24 (pages_any (Mem.here hX26)) ?_
  rintro e w26 ⟨rfl, H26⟩
  have M26 : Mem w _ w26 [disk E p pg mb qv', blk f 96 (fC ({ V with s := pubS V (0) } : FV) p), blk ga 50 ([.int .i64 2, .int .i64 n, .slice ao nn c]), blk b 48 ([lv, kv, .int .i64 V.next, .int .i64 (B.gen + 1), .int .i64 0, .int .i64 B.inMark, .int .i64 B.inHead]), rows lv vs B.loads, lst 3 1 kv B.ps.length B.kinds] := Mem.frame hX26 H26
  refine ⟨_, rfl, ?_⟩
  refine hK.out _ _ (M26.arr [3] (by decide)) (fun hS => ?_)
  clear hK K
  simp only [Act.put, z1, z2, z3]
  refine held_take 14 _ rfl (by kernel_rfl) (by kernel_rfl) (by kernel_rfl) (y_build (ps := [(0, .tmp 127), (1, .tmp 131), (2, .tmp 132), (3, .tmp 133), (4, .tmp 135)]) (pv := [(0, .int .i64 V.s.width), (1, .int .i64 (B.gen + 1)), (2, .int .i64 V.next), (3, .int .i64 0), (4, .int .i64 (E.pages.length : Int))]) (cs := [.int .i64 V.s.width, .int .i64 (B.gen + 1), .int .i64 V.next, .int .i64 (0), .int .i64 (E.pages.length : Int)]) rfl rfl rfl (by kernel_rfl)) hS ?_
  simp only [Act.put, z1, z2, z3]
  refine held_take 15 _ rfl (by kernel_rfl) (by kernel_rfl) (by kernel_rfl) (y_eqs (r := true) rfl rfl rfl rfl sup_guard (fun W => by rw [hcs]; exact sup_same _ W)) hS ?_
  simp only [Act.put, z1, z2, z3]
  refine held_take 16 _ rfl (by kernel_rfl) (by kernel_rfl) (by kernel_rfl) (y_assign (v := .int .i64 0) rfl rfl rfl) hS ?_
  simp only [Act.put, z1, z2, z3]
  refine held_take 17 _ rfl (by kernel_rfl) (by kernel_rfl) (by kernel_rfl) (y_assign (v := .bool true) rfl rfl rfl) hS ?_
  simp only [Act.put, z1, z2, z3]
  refine held_done (by kernel_rfl) ?_ _
  refine hK22 _ _ ?_
  clear hK22
  refine wp_ret ?_
  try simp only [Exit.inBlock, Exit.then]
  refine bodyPost_ret (v := .tuple #[.int .i64 0, .bool true]) (res2 rfl rfl rfl) rfl ?_
  have N : Mem _ _ _ [book ({ B with mark := V.next, head := 0, gen := B.gen + 1 } : BV) b ⟨lv, kv, vs⟩, _, _] := book_close (M26.arr [3, 4, 5, 0, 1] (by decide))
  exact ⟨E, qv', ⟨lv, kv, vs⟩, rfl, N.arr [1, 2, 0] (by decide), hE⟩
set_option maxRecDepth 100000 in
set_option maxHeartbeats 4000000 in
theorem act_pub_down_z2 {D : DV} {V : FV} {B : BV} {p pg mb f b : Nat} {qv : Value} {bx : BX} {w : World} (hM : Mem w (foots [disk D p pg mb qv, blk f 96 (fC V p), book B b bx]) w [disk D p pg mb qv, blk f 96 (fC V p), book B b bx]) (n : Int) (ao : Option Addr) (nn c : Nat) {ps : Pgs} (hI : Inv D V ps) (hg : V.s.gen = B.gen) (hgm : V.s.gen < 1099511627776) (hq : D.q.length ≤ 400000000000) (h1 : ¬ n % 2 = 1) (h0 : (pubR D V (0)).2 = 2) (hpp : (pubR D V (0)).1.pages.length = D.pages.length) : Calls Try.prog 27 #[.pointer (some ⟨b, 0, none⟩), .pointer (some ⟨p, 0, none⟩), .pointer (some ⟨f, 0, none⟩), .agg ([.int .i64 2, .int .i64 n, .slice ao nn c]).toArray] w fun e w' => ∃ E qv' bx', e = .returned (.tuple #[.int .i64 2, .bool true]) ∧ Mem w (foots [disk D p pg mb qv, blk f 96 (fC V p), book B b bx]) w' [disk E p pg mb qv', blk f 96 (fC V p), book ({ B with inMark := V.next, inHead := 0 } : BV) b bx'] ∧ E = (pubR D V (0)).1 := by
  obtain ⟨lv, kv, vs⟩ := bx
  have M0 := book_open (hM.arr [2, 0, 1] (by decide))
  clear hM
  have M : Mem w _ w [disk D p pg mb qv, blk f 96 (fC V p), blk b 48 (bC B ⟨lv, kv, vs⟩), rows lv vs B.loads, lst 3 1 kv B.ps.length B.kinds] := M0.arr [3, 4, 0, 1, 2] (by decide)
  clear M0
  have hn2 := hI.next2
  have hnp := hI.nextp
  have hhi := hI.ok.hi
  go_enter Try.func27, Try.ntmps27
  refine wp_seq_k (fun K1 hK1 => ?_)
  refine wp_region_lit ?_
  refine pe rfl (fun K hK => ?_)
  refine e_box M ([.int .i64 2, .int .i64 n, .slice ao nn c]) rfl rfl ?_
  intro ga w2 (M2 : Mem w _ w2 [blk ga 50 ([.int .i64 2, .int .i64 n, .slice ao nn c]), disk D p pg mb qv, blk f 96 (fC V p), blk b 48 (bC B ⟨lv, kv, vs⟩), rows lv vs B.loads, lst 3 1 kv B.ps.length B.kinds])
  clear M
  refine hK.out _ _ ?_
  clear hK K
  simp only [Act.put, z1, z2, z3]
  refine pl M2 (y_assign (v := .int .i64 0) rfl rfl rfl) ?_
  simp only [Act.put, z1, z2, z3]
  refine pl M2 (y_assign (v := .bool false) rfl rfl rfl) ?_
  simp only [Act.put, z1, z2, z3]
  refine wpList_nil ?_
  refine hK1 _ _ ?_
  clear hK1
  refine wp_seq_k (fun K3 hK3 => ?_)
  refine wp_region_lit ?_
  refine pl M2 (y_move (v := .pointer (some ⟨f, 0, none⟩)) rfl rfl rfl) ?_
  simp only [Act.put, z1, z2, z3]
  have hX4 : Mem w _ w2 ([disk D p pg mb qv, blk f 96 (fC V p)] ++ [blk ga 50 ([.int .i64 2, .int .i64 n, .slice ao nn c]), blk b 48 (bC B ⟨lv, kv, vs⟩), rows lv vs B.loads, lst 3 1 kv B.ps.length B.kinds]) := M2.arr [1, 2, 0, 3, 4, 5] (by decide)
  refine pe rfl (fun K hK => ?_)
  refine e_call 20 [.pointer (some ⟨f, 0, none⟩)] rfl rfl Try.call20 (next_any (Mem.here hX4)) ?_
  rintro e w4 ⟨rfl, H4⟩
  have M4 : Mem w _ w4 [disk D p pg mb qv, blk f 96 (fC V p), blk ga 50 ([.int .i64 2, .int .i64 n, .slice ao nn c]), blk b 48 (bC B ⟨lv, kv, vs⟩), rows lv vs B.loads, lst 3 1 kv B.ps.length B.kinds] := Mem.frame hX4 H4
  refine ⟨_, rfl, ?_⟩
  refine hK.out _ _ ?_
  clear hK K
  simp only [Act.put, z1, z2, z3]
  refine pl M4 (y_assign (v := .int .i64 V.next) rfl rfl rfl) ?_
  simp only [Act.put, z1, z2, z3]
  refine wpList_nil ?_
  refine hK3 _ _ ?_
  clear hK3
  refine wp_seq_k (fun K5 hK5 => ?_)
  refine wp_seq_k (fun K6 hK6 => ?_)
  refine wp_region_lit ?_
  refine pl M4 (y_fa (r := 0) rfl rfl rfl Try.underlying50 rfl Try.sizeOf3 rfl) ?_
  simp only [Act.put, z1, z2, z3]
  refine pl M4 (y_load (v := .int .i64 2) rfl rfl rfl Try.isAgg3 (fun W hW => hW.get 2 rfl) (rfl)) ?_
  simp only [Act.put, z1, z2, z3]
  refine wpList_nil ?_
  refine hK6 _ _ ?_
  clear hK6
  refine wp_block ?_
  refine wp_seq_k (fun K7 hK7 => ?_)
  refine wp_region_lit ?_
  refine pl M4 (y_eql (b := false) rfl rfl rfl rfl (decide_eq_false (by decide))) ?_
  simp only [Act.put, z1, z2, z3]
  refine pl M4 (y_assign (v := .bool false) rfl rfl rfl) ?_
  simp only [Act.put, z1, z2, z3]
  refine wpList_nil ?_
  refine hK7 _ _ ?_
  clear hK7
  refine wp_cond_false rfl ?_
  refine wp_seq_k (fun K8 hK8 => ?_)
  refine wp_region_lit ?_
  refine pl M4 (y_eql (b := true) rfl rfl rfl rfl (decide_eq_true (by decide))) ?_
  simp only [Act.put, z1, z2, z3]
  refine pl M4 (y_assign (v := .bool true) rfl rfl rfl) ?_
  simp only [Act.put, z1, z2, z3]
  refine wpList_nil ?_
  refine hK8 _ _ ?_
  clear hK8
  refine wp_cond_true rfl ?_
  refine wp_seq_k (fun K9 hK9 => ?_)
  refine wp_region_lit ?_
  refine pl M4 (y_assign (v := .int .i64 0) rfl rfl rfl) ?_
  simp only [Act.put, z1, z2, z3]
  refine wpList_nil ?_
  refine hK9 _ _ ?_
  clear hK9
  refine wp_seq_k (fun K10 hK10 => ?_)
  refine wp_seq_k (fun K11 hK11 => ?_)
  refine wp_region_lit ?_
  refine pl M4 (y_fa (r := 1) rfl rfl rfl Try.underlying50 rfl Try.sizeOf3 rfl) ?_
  simp only [Act.put, z1, z2, z3]
  refine pl M4 (y_load (v := .int .i64 n) rfl rfl rfl Try.isAgg3 (fun W hW => hW.get 2 rfl) (rfl)) ?_
  simp only [Act.put, z1, z2, z3]
  refine pe rfl (fun K hK => ?_)
  refine e_call 13 [.int .i64 n, .int .i64 2] rfl rfl Try.call13 (place3_any n 2 (by decide) (by decide) _) ?_
  rintro e w12 ⟨rfl, H12⟩
  have M12 : Mem w _ w12 [disk D p pg mb qv, blk f 96 (fC V p), blk ga 50 ([.int .i64 2, .int .i64 n, .slice ao nn c]), blk b 48 (bC B ⟨lv, kv, vs⟩), rows lv vs B.loads, lst 3 1 kv B.ps.length B.kinds] := M4.step H12
  refine ⟨_, rfl, ?_⟩
  refine hK.out _ _ ?_
  clear hK K
  simp only [Act.put, z1, z2, z3]
  refine pl M12 (y_eql (b := false) rfl rfl rfl rfl (decide_eq_false h1)) ?_
  simp only [Act.put, z1, z2, z3]
  refine pl M12 (y_move (v := .bool false) rfl rfl rfl) ?_
  simp only [Act.put, z1, z2, z3]
  with_reducible refine pskip ?_ ?_
  · rfl
  simp only [Act.put, z1, z2, z3]
  with_reducible refine pskip ?_ ?_
  · rfl
  simp only [Act.put, z1, z2, z3]
  refine pl M12 (y_pickF (v := .bool false) rfl rfl rfl rfl) ?_
  simp only [Act.put, z1, z2, z3]
  refine wpList_nil ?_
  refine hK11 _ _ ?_
  clear hK11
  refine wp_cond_false rfl ?_
  refine wp_skip ?_
  refine hK10 _ _ ?_
  clear hK10
  refine wp_seq_k (fun K13 hK13 => ?_)
  refine wp_region_lit ?_
  refine pl M12 (y_move (v := .pointer (some ⟨f, 0, none⟩)) rfl rfl rfl) ?_
  simp only [Act.put, z1, z2, z3]
  refine pl M12 (y_move (v := .int .i64 0) rfl rfl rfl) ?_
  simp only [Act.put, z1, z2, z3]
  have hX14 : Mem w _ w12 ([disk D p pg mb qv, blk f 96 (fC V p)] ++ [blk ga 50 ([.int .i64 2, .int .i64 n, .slice ao nn c]), blk b 48 (bC B ⟨lv, kv, vs⟩), rows lv vs B.loads, lst 3 1 kv B.ps.length B.kinds]) := M12.arr [0, 1, 2, 3, 4, 5] (by decide)
  refine pe rfl (fun K hK => ?_)
  refine e_call 28 [.pointer (some ⟨f, 0, none⟩), .int .i64 0] rfl rfl Try.call28 (xpub_down (Mem.here hX14) hI (0) hq h0 hpp) ?_
  rintro e w14 ⟨E, qv', rfl, H14, hE, hpl⟩
  have M14 : Mem w _ w14 [disk E p pg mb qv', blk f 96 (fC V p), blk ga 50 ([.int .i64 2, .int .i64 n, .slice ao nn c]), blk b 48 (bC B ⟨lv, kv, vs⟩), rows lv vs B.loads, lst 3 1 kv B.ps.length B.kinds] := Mem.frame hX14 H14
  refine ⟨_, rfl, ?_⟩
  refine hK.out _ _ ?_
  clear hK K
  simp only [Act.put, z1, z2, z3]
  refine pl M14 (y_assign (v := .int .i64 2) rfl rfl rfl) ?_
  simp only [Act.put, z1, z2, z3]
  refine wpList_nil ?_
  refine hK13 _ _ ?_
  clear hK13
  refine wp_seq_k (fun K15 hK15 => ?_)
  refine wp_seq_k (fun K16 hK16 => ?_)
  refine wp_region_lit ?_
  refine pl M14 (y_move (v := .int .i64 2) rfl rfl rfl) ?_
  simp only [Act.put, z1, z2, z3]
  refine pl M14 (y_eql (b := false) rfl rfl rfl rfl (decide_eq_false (by decide))) ?_
  simp only [Act.put, z1, z2, z3]
  refine wpList_nil ?_
  refine hK16 _ _ ?_
  clear hK16
  refine wp_cond_false rfl ?_
  refine wp_skip ?_
  refine hK15 _ _ ?_
  clear hK15
  refine wp_seq_k (fun K17 hK17 => ?_)
  refine wp_region_lit ?_
  refine pl M14 (y_move (v := .pointer (some ⟨b, 0, none⟩)) rfl rfl rfl) ?_
  simp only [Act.put, z1, z2, z3]
  refine pl M14 (y_move (v := .pointer (some ⟨b, 0, none⟩)) rfl rfl rfl) ?_
  simp only [Act.put, z1, z2, z3]
  refine pl M14 (y_move (v := .int .i64 V.next) rfl rfl rfl) ?_
  simp only [Act.put, z1, z2, z3]
  refine pl M14 (y_move (v := .int .i64 0) rfl rfl rfl) ?_
  simp only [Act.put, z1, z2, z3]
  refine pl M14 (y_nil rfl rfl rfl) ?_
  simp only [Act.put, z1, z2, z3]
  refine pl M14 (y_fa (r := 5) rfl rfl rfl Try.underlying48 rfl Try.sizeOf3 rfl) ?_
  simp only [Act.put, z1, z2, z3]
  refine pe rfl (fun K hK => ?_)
  refine e_store M14 3 (v := .int .i64 V.next) rfl rfl rfl rfl rfl rfl Try.sizeOf3 rfl (show (5 : Nat) < 7 by decide) ?_
  intro w18 (M18 : Mem w _ w18 [disk E p pg mb qv', blk f 96 (fC V p), blk ga 50 ([.int .i64 2, .int .i64 n, .slice ao nn c]), blk b 48 ([lv, kv, .int .i64 B.mark, .int .i64 B.gen, .int .i64 B.head, .int .i64 V.next, .int .i64 B.inHead]), rows lv vs B.loads, lst 3 1 kv B.ps.length B.kinds])
  clear M14
  refine hK.out _ _ ?_
  clear hK K
  simp only [Act.put, z1, z2, z3]
  refine pl M18 (y_nil rfl rfl rfl) ?_
  simp only [Act.put, z1, z2, z3]
  refine pl M18 (y_fa (r := 6) rfl rfl rfl Try.underlying48 rfl Try.sizeOf3 rfl) ?_
  simp only [Act.put, z1, z2, z3]
  refine pe rfl (fun K hK => ?_)
  refine e_store M18 3 (v := .int .i64 0) rfl rfl rfl rfl rfl rfl Try.sizeOf3 rfl (show (6 : Nat) < 7 by decide) ?_
  intro w19 (M19 : Mem w _ w19 [disk E p pg mb qv', blk f 96 (fC V p), blk ga 50 ([.int .i64 2, .int .i64 n, .slice ao nn c]), blk b 48 ([lv, kv, .int .i64 B.mark, .int .i64 B.gen, .int .i64 B.head, .int .i64 V.next, .int .i64 0]), rows lv vs B.loads, lst 3 1 kv B.ps.length B.kinds])
  clear M18
  refine hK.out _ _ ?_
  clear hK K
  simp only [Act.put, z1, z2, z3]
  refine wpList_nil ?_
  refine hK17 _ _ ?_
  clear hK17
  refine wp_seq_k (fun K20 hK20 => ?_)
  refine wp_region_lit ?_
  refine pl M19 (y_move (v := .int .i64 2) rfl rfl rfl) ?_
  simp only [Act.put, z1, z2, z3]
  refine pl M19 (y_move (v := .int .i64 2) rfl rfl rfl) ?_
  simp only [Act.put, z1, z2, z3]
  refine pl M19 (y_eql (b := true) rfl rfl rfl rfl (decide_eq_true (by decide))) ?_
  simp only [Act.put, z1, z2, z3]
  refine pl M19 (y_assign (v := .int .i64 2) rfl rfl rfl) ?_
  simp only [Act.put, z1, z2, z3]
  refine pl M19 (y_assign (v := .bool true) rfl rfl rfl) ?_
  simp only [Act.put, z1, z2, z3]
  refine wpList_nil ?_
  refine hK20 _ _ ?_
  clear hK20
  refine wp_ret ?_
  try simp only [Exit.inBlock, Exit.then]
  refine bodyPost_ret (v := .tuple #[.int .i64 2, .bool true]) (res2 rfl rfl rfl) rfl ?_
  have N : Mem _ _ _ [book ({ B with inMark := V.next, inHead := 0 } : BV) b ⟨lv, kv, vs⟩, _, _] := book_close (M19.arr [3, 4, 5, 0, 1] (by decide))
  exact ⟨E, qv', ⟨lv, kv, vs⟩, rfl, N.arr [1, 2, 0] (by decide), hE⟩
set_option maxRecDepth 100000 in
set_option maxHeartbeats 4000000 in
theorem act_forget {D : DV} {V : FV} {B : BV} {p pg mb f b : Nat} {qv : Value} {bx : BX} {w : World} (hM : Mem w (foots [disk D p pg mb qv, blk f 96 (fC V p), book B b bx]) w [disk D p pg mb qv, blk f 96 (fC V p), book B b bx]) (n : Int) (ao : Option Addr) (nn c : Nat) (hm : V.s.mark = B.mark) : Calls Try.prog 27 #[.pointer (some ⟨b, 0, none⟩), .pointer (some ⟨p, 0, none⟩), .pointer (some ⟨f, 0, none⟩), .agg ([.int .i64 3, .int .i64 n, .slice ao nn c]).toArray] w fun e w' => ∃ bx', e = .returned (.tuple #[.int .i64 0, .bool true]) ∧ Mem w (foots [disk D p pg mb qv, blk f 96 (fC V p), book B b bx]) w' [disk D p pg mb qv, blk f 96 (fC ({ V with next := V.s.mark } : FV) p), book B b bx'] := by
  obtain ⟨lv, kv, vs⟩ := bx
  have M0 := book_open (hM.arr [2, 0, 1] (by decide))
  clear hM
  have M : Mem w _ w [disk D p pg mb qv, blk f 96 (fC V p), blk b 48 (bC B ⟨lv, kv, vs⟩), rows lv vs B.loads, lst 3 1 kv B.ps.length B.kinds] := M0.arr [3, 4, 0, 1, 2] (by decide)
  clear M0
  go_enter Try.func27, Try.ntmps27
  refine wp_seq_k (fun K1 hK1 => ?_)
  refine wp_region_lit ?_
  refine pe rfl (fun K hK => ?_)
  refine e_box M ([.int .i64 3, .int .i64 n, .slice ao nn c]) rfl rfl ?_
  intro ga w2 (M2 : Mem w _ w2 [blk ga 50 ([.int .i64 3, .int .i64 n, .slice ao nn c]), disk D p pg mb qv, blk f 96 (fC V p), blk b 48 (bC B ⟨lv, kv, vs⟩), rows lv vs B.loads, lst 3 1 kv B.ps.length B.kinds])
  clear M
  refine hK.out _ _ ?_
  clear hK K
  simp only [Act.put, z1, z2, z3]
  refine pl M2 (y_assign (v := .int .i64 0) rfl rfl rfl) ?_
  simp only [Act.put, z1, z2, z3]
  refine pl M2 (y_assign (v := .bool false) rfl rfl rfl) ?_
  simp only [Act.put, z1, z2, z3]
  refine wpList_nil ?_
  refine hK1 _ _ ?_
  clear hK1
  refine wp_seq_k (fun K3 hK3 => ?_)
  refine wp_region_lit ?_
  refine pl M2 (y_move (v := .pointer (some ⟨f, 0, none⟩)) rfl rfl rfl) ?_
  simp only [Act.put, z1, z2, z3]
  have hX4 : Mem w _ w2 ([disk D p pg mb qv, blk f 96 (fC V p)] ++ [blk ga 50 ([.int .i64 3, .int .i64 n, .slice ao nn c]), blk b 48 (bC B ⟨lv, kv, vs⟩), rows lv vs B.loads, lst 3 1 kv B.ps.length B.kinds]) := M2.arr [1, 2, 0, 3, 4, 5] (by decide)
  refine pe rfl (fun K hK => ?_)
  refine e_call 20 [.pointer (some ⟨f, 0, none⟩)] rfl rfl Try.call20 (next_any (Mem.here hX4)) ?_
  rintro e w4 ⟨rfl, H4⟩
  have M4 : Mem w _ w4 [disk D p pg mb qv, blk f 96 (fC V p), blk ga 50 ([.int .i64 3, .int .i64 n, .slice ao nn c]), blk b 48 (bC B ⟨lv, kv, vs⟩), rows lv vs B.loads, lst 3 1 kv B.ps.length B.kinds] := Mem.frame hX4 H4
  refine ⟨_, rfl, ?_⟩
  refine hK.out _ _ ?_
  clear hK K
  simp only [Act.put, z1, z2, z3]
  refine pl M4 (y_assign (v := .int .i64 V.next) rfl rfl rfl) ?_
  simp only [Act.put, z1, z2, z3]
  refine wpList_nil ?_
  refine hK3 _ _ ?_
  clear hK3
  refine wp_seq_k (fun K5 hK5 => ?_)
  refine wp_seq_k (fun K6 hK6 => ?_)
  refine wp_region_lit ?_
  refine pl M4 (y_fa (r := 0) rfl rfl rfl Try.underlying50 rfl Try.sizeOf3 rfl) ?_
  simp only [Act.put, z1, z2, z3]
  refine pl M4 (y_load (v := .int .i64 3) rfl rfl rfl Try.isAgg3 (fun W hW => hW.get 2 rfl) (rfl)) ?_
  simp only [Act.put, z1, z2, z3]
  refine wpList_nil ?_
  refine hK6 _ _ ?_
  clear hK6
  refine wp_block ?_
  refine wp_seq_k (fun K7 hK7 => ?_)
  refine wp_region_lit ?_
  refine pl M4 (y_eql (b := false) rfl rfl rfl rfl (decide_eq_false (by decide))) ?_
  simp only [Act.put, z1, z2, z3]
  refine pl M4 (y_assign (v := .bool false) rfl rfl rfl) ?_
  simp only [Act.put, z1, z2, z3]
  refine wpList_nil ?_
  refine hK7 _ _ ?_
  clear hK7
  refine wp_cond_false rfl ?_
  refine wp_seq_k (fun K8 hK8 => ?_)
  refine wp_region_lit ?_
  refine pl M4 (y_eql (b := false) rfl rfl rfl rfl (decide_eq_false (by decide))) ?_
  simp only [Act.put, z1, z2, z3]
  refine pl M4 (y_assign (v := .bool false) rfl rfl rfl) ?_
  simp only [Act.put, z1, z2, z3]
  refine wpList_nil ?_
  refine hK8 _ _ ?_
  clear hK8
  refine wp_cond_false rfl ?_
  refine wp_seq_k (fun K9 hK9 => ?_)
  refine wp_region_lit ?_
  refine pl M4 (y_eql (b := true) rfl rfl rfl rfl (decide_eq_true (by decide))) ?_
  simp only [Act.put, z1, z2, z3]
  refine pl M4 (y_assign (v := .bool true) rfl rfl rfl) ?_
  simp only [Act.put, z1, z2, z3]
  refine wpList_nil ?_
  refine hK9 _ _ ?_
  clear hK9
  refine wp_cond_true rfl ?_
  refine wp_seq_k (fun K10 hK10 => ?_)
  refine wp_region_lit ?_
  refine pl M4 (y_move (v := .pointer (some ⟨f, 0, none⟩)) rfl rfl rfl) ?_
  simp only [Act.put, z1, z2, z3]
  have hX11 : Mem w _ w4 ([disk D p pg mb qv, blk f 96 (fC V p)] ++ [blk ga 50 ([.int .i64 3, .int .i64 n, .slice ao nn c]), blk b 48 (bC B ⟨lv, kv, vs⟩), rows lv vs B.loads, lst 3 1 kv B.ps.length B.kinds]) := M4.arr [0, 1, 2, 3, 4, 5] (by decide)
  refine pe rfl (fun K hK => ?_)
  refine e_call 39 [.pointer (some ⟨f, 0, none⟩)] rfl rfl Try.call39 (forget_any (Mem.here hX11)) ?_
  rintro e w11 ⟨rfl, H11⟩
  have M11 : Mem w _ w11 [disk D p pg mb qv, blk f 96 (fC ({ V with next := V.s.mark } : FV) p), blk ga 50 ([.int .i64 3, .int .i64 n, .slice ao nn c]), blk b 48 (bC B ⟨lv, kv, vs⟩), rows lv vs B.loads, lst 3 1 kv B.ps.length B.kinds] := Mem.frame hX11 H11
  refine ⟨_, rfl, ?_⟩
  refine hK.out _ _ ?_
  clear hK K
  simp only [Act.put, z1, z2, z3]
  refine wpList_nil ?_
  refine hK10 _ _ ?_
  clear hK10
  refine wp_seq_k (fun K12 hK12 => ?_)
  have M13 := M11.drew
  refine held_begin (fun W => Mem w (foots [disk D p pg mb qv, blk f 96 (fC V p), book B b ⟨lv, kv, vs⟩]) W [blk b 48 (bC B ⟨lv, kv, vs⟩)]) (by kernel_rfl) (M13.arr [3] (by decide)) (fun hS => ?_)
  refine held_take 0 _ rfl (by kernel_rfl) (by kernel_rfl) (by kernel_rfl) (y_move (v := .pointer (some ⟨f, 0, none⟩)) rfl rfl rfl) hS ?_
  simp only [Act.put, z1, z2, z3]
  refine held_take 2 _ rfl (by kernel_rfl) (by kernel_rfl) (by kernel_rfl) (y_move (v := .pointer (some ⟨b, 0, none⟩)) rfl rfl rfl) hS ?_
  simp only [Act.put, z1, z2, z3]
  refine held_take 3 _ rfl (by kernel_rfl) (by kernel_rfl) (by kernel_rfl) (y_nil rfl rfl rfl) hS ?_
  simp only [Act.put, z1, z2, z3]
  refine held_take 4 _ rfl (by kernel_rfl) (by kernel_rfl) (by kernel_rfl) (y_fa (r := 2) rfl rfl rfl Try.underlying48 rfl Try.sizeOf3 rfl) hS ?_
  simp only [Act.put, z1, z2, z3]
  refine held_take 5 _ rfl (by kernel_rfl) (by kernel_rfl) (by kernel_rfl) (y_load (v := .int .i64 B.mark) rfl rfl rfl Try.isAgg3 (fun W hW => hW.get 0 rfl) (rfl)) hS ?_
  simp only [Act.put, z1, z2, z3]
  have hX14 : Mem w _ w11.drew ([disk D p pg mb qv, blk f 96 (fC ({ V with next := V.s.mark } : FV) p)] ++ [blk ga 50 ([.int .i64 3, .int .i64 n, .slice ao nn c]), blk b 48 (bC B ⟨lv, kv, vs⟩), rows lv vs B.loads, lst 3 1 kv B.ps.length B.kinds]) := M13.arr [0, 1, 2, 3, 4, 5] (by decide)
  refine held_step 1 (by kernel_rfl) rfl (by rfl) (fun K hK => ?_)
  refine e_call 20 [.pointer (some ⟨f, 0, none⟩)] rfl rfl Try.call20 (next_any (Mem.here hX14)) ?_
  rintro e w14 ⟨rfl, H14⟩
  have M14 : Mem w _ w14 [disk D p pg mb qv, blk f 96 (fC ({ V with next := V.s.mark } : FV) p), blk ga 50 ([.int .i64 3, .int .i64 n, .slice ao nn c]), blk b 48 (bC B ⟨lv, kv, vs⟩), rows lv vs B.loads, lst 3 1 kv B.ps.length B.kinds] := Mem.frame hX14 H14
  refine ⟨_, rfl, ?_⟩
  refine hK.out _ _ (M14.arr [3] (by decide)) (fun hS => ?_)
  clear hK K
  simp only [Act.put, z1, z2, z3]
  refine held_take 6 _ rfl (by kernel_rfl) (by kernel_rfl) (by kernel_rfl) (y_eql (b := true) rfl rfl rfl rfl (decide_eq_true hm)) hS ?_
  simp only [Act.put, z1, z2, z3]
  refine held_take 7 _ rfl (by kernel_rfl) (by kernel_rfl) (by kernel_rfl) (y_assign (v := .int .i64 0) rfl rfl rfl) hS ?_
  simp only [Act.put, z1, z2, z3]
  refine held_take 8 _ rfl (by kernel_rfl) (by kernel_rfl) (by kernel_rfl) (y_assign (v := .bool true) rfl rfl rfl) hS ?_
  simp only [Act.put, z1, z2, z3]
  refine held_done (by kernel_rfl) ?_ _
  refine hK12 _ _ ?_
  clear hK12
  refine wp_ret ?_
  try simp only [Exit.inBlock, Exit.then]
  refine bodyPost_ret (v := .tuple #[.int .i64 0, .bool true]) (res2 rfl rfl rfl) rfl ?_
  have N : Mem _ _ _ [book _ b ⟨lv, kv, vs⟩, _, _] := book_close (M14.arr [3, 4, 5, 0, 1] (by decide))
  exact ⟨⟨lv, kv, vs⟩, rfl, N.arr [1, 2, 0] (by decide)⟩
set_option maxRecDepth 100000 in
set_option maxHeartbeats 4000000 in
theorem act_arm {D : DV} {V : FV} {B : BV} {p pg mb f b : Nat} {qv : Value} {bx : BX} {w : World} (hM : Mem w (foots [disk D p pg mb qv, blk f 96 (fC V p), book B b bx]) w [disk D p pg mb qv, blk f 96 (fC V p), book B b bx]) (n : Int) (ao : Option Addr) (nn c : Nat)  : Calls Try.prog 27 #[.pointer (some ⟨b, 0, none⟩), .pointer (some ⟨p, 0, none⟩), .pointer (some ⟨f, 0, none⟩), .agg ([.int .i64 4, .int .i64 n, .slice ao nn c]).toArray] w fun e w' => ∃ bx', e = .returned (.tuple #[.int .i64 0, .bool true]) ∧ Mem w (foots [disk D p pg mb qv, blk f 96 (fC V p), book B b bx]) w' [disk (armD D (1 + n % 12)) p pg mb qv, blk f 96 (fC V p), book B b bx'] := by
  obtain ⟨lv, kv, vs⟩ := bx
  have M0 := book_open (hM.arr [2, 0, 1] (by decide))
  clear hM
  have M : Mem w _ w [disk D p pg mb qv, blk f 96 (fC V p), blk b 48 (bC B ⟨lv, kv, vs⟩), rows lv vs B.loads, lst 3 1 kv B.ps.length B.kinds] := M0.arr [3, 4, 0, 1, 2] (by decide)
  clear M0
  go_enter Try.func27, Try.ntmps27
  refine wp_seq_k (fun K1 hK1 => ?_)
  refine wp_region_lit ?_
  refine pe rfl (fun K hK => ?_)
  refine e_box M ([.int .i64 4, .int .i64 n, .slice ao nn c]) rfl rfl ?_
  intro ga w2 (M2 : Mem w _ w2 [blk ga 50 ([.int .i64 4, .int .i64 n, .slice ao nn c]), disk D p pg mb qv, blk f 96 (fC V p), blk b 48 (bC B ⟨lv, kv, vs⟩), rows lv vs B.loads, lst 3 1 kv B.ps.length B.kinds])
  clear M
  refine hK.out _ _ ?_
  clear hK K
  simp only [Act.put, z1, z2, z3]
  refine pl M2 (y_assign (v := .int .i64 0) rfl rfl rfl) ?_
  simp only [Act.put, z1, z2, z3]
  refine pl M2 (y_assign (v := .bool false) rfl rfl rfl) ?_
  simp only [Act.put, z1, z2, z3]
  refine wpList_nil ?_
  refine hK1 _ _ ?_
  clear hK1
  refine wp_seq_k (fun K3 hK3 => ?_)
  refine wp_region_lit ?_
  refine pl M2 (y_move (v := .pointer (some ⟨f, 0, none⟩)) rfl rfl rfl) ?_
  simp only [Act.put, z1, z2, z3]
  have hX4 : Mem w _ w2 ([disk D p pg mb qv, blk f 96 (fC V p)] ++ [blk ga 50 ([.int .i64 4, .int .i64 n, .slice ao nn c]), blk b 48 (bC B ⟨lv, kv, vs⟩), rows lv vs B.loads, lst 3 1 kv B.ps.length B.kinds]) := M2.arr [1, 2, 0, 3, 4, 5] (by decide)
  refine pe rfl (fun K hK => ?_)
  refine e_call 20 [.pointer (some ⟨f, 0, none⟩)] rfl rfl Try.call20 (next_any (Mem.here hX4)) ?_
  rintro e w4 ⟨rfl, H4⟩
  have M4 : Mem w _ w4 [disk D p pg mb qv, blk f 96 (fC V p), blk ga 50 ([.int .i64 4, .int .i64 n, .slice ao nn c]), blk b 48 (bC B ⟨lv, kv, vs⟩), rows lv vs B.loads, lst 3 1 kv B.ps.length B.kinds] := Mem.frame hX4 H4
  refine ⟨_, rfl, ?_⟩
  refine hK.out _ _ ?_
  clear hK K
  simp only [Act.put, z1, z2, z3]
  refine pl M4 (y_assign (v := .int .i64 V.next) rfl rfl rfl) ?_
  simp only [Act.put, z1, z2, z3]
  refine wpList_nil ?_
  refine hK3 _ _ ?_
  clear hK3
  refine wp_seq_k (fun K5 hK5 => ?_)
  refine wp_seq_k (fun K6 hK6 => ?_)
  refine wp_region_lit ?_
  refine pl M4 (y_fa (r := 0) rfl rfl rfl Try.underlying50 rfl Try.sizeOf3 rfl) ?_
  simp only [Act.put, z1, z2, z3]
  refine pl M4 (y_load (v := .int .i64 4) rfl rfl rfl Try.isAgg3 (fun W hW => hW.get 2 rfl) (rfl)) ?_
  simp only [Act.put, z1, z2, z3]
  refine wpList_nil ?_
  refine hK6 _ _ ?_
  clear hK6
  refine wp_block ?_
  refine wp_seq_k (fun K7 hK7 => ?_)
  refine wp_region_lit ?_
  refine pl M4 (y_eql (b := false) rfl rfl rfl rfl (decide_eq_false (by decide))) ?_
  simp only [Act.put, z1, z2, z3]
  refine pl M4 (y_assign (v := .bool false) rfl rfl rfl) ?_
  simp only [Act.put, z1, z2, z3]
  refine wpList_nil ?_
  refine hK7 _ _ ?_
  clear hK7
  refine wp_cond_false rfl ?_
  refine wp_seq_k (fun K8 hK8 => ?_)
  refine wp_region_lit ?_
  refine pl M4 (y_eql (b := false) rfl rfl rfl rfl (decide_eq_false (by decide))) ?_
  simp only [Act.put, z1, z2, z3]
  refine pl M4 (y_assign (v := .bool false) rfl rfl rfl) ?_
  simp only [Act.put, z1, z2, z3]
  refine wpList_nil ?_
  refine hK8 _ _ ?_
  clear hK8
  refine wp_cond_false rfl ?_
  refine wp_seq_k (fun K9 hK9 => ?_)
  refine wp_region_lit ?_
  refine pl M4 (y_eql (b := false) rfl rfl rfl rfl (decide_eq_false (by decide))) ?_
  simp only [Act.put, z1, z2, z3]
  refine pl M4 (y_assign (v := .bool false) rfl rfl rfl) ?_
  simp only [Act.put, z1, z2, z3]
  refine wpList_nil ?_
  refine hK9 _ _ ?_
  clear hK9
  refine wp_cond_false rfl ?_
  refine wp_seq_k (fun K10 hK10 => ?_)
  refine wp_region_lit ?_
  refine pl M4 (y_eql (b := true) rfl rfl rfl rfl (decide_eq_true (by decide))) ?_
  simp only [Act.put, z1, z2, z3]
  refine pl M4 (y_assign (v := .bool true) rfl rfl rfl) ?_
  simp only [Act.put, z1, z2, z3]
  refine wpList_nil ?_
  refine hK10 _ _ ?_
  clear hK10
  refine wp_cond_true rfl ?_
  refine wp_region_lit ?_
  refine pl M4 (y_move (v := .pointer (some ⟨p, 0, none⟩)) rfl rfl rfl) ?_
  simp only [Act.put, z1, z2, z3]
  refine pl M4 (y_fa (r := 1) rfl rfl rfl Try.underlying50 rfl Try.sizeOf3 rfl) ?_
  simp only [Act.put, z1, z2, z3]
  refine pl M4 (y_load (v := .int .i64 n) rfl rfl rfl Try.isAgg3 (fun W hW => hW.get 2 rfl) (rfl)) ?_
  simp only [Act.put, z1, z2, z3]
  refine pe rfl (fun K hK => ?_)
  refine e_call 13 [.int .i64 n, .int .i64 12] rfl rfl Try.call13 (place3_any n 12 (by decide) (by decide) _) ?_
  rintro e w11 ⟨rfl, H11⟩
  have M11 : Mem w _ w11 [disk D p pg mb qv, blk f 96 (fC V p), blk ga 50 ([.int .i64 4, .int .i64 n, .slice ao nn c]), blk b 48 (bC B ⟨lv, kv, vs⟩), rows lv vs B.loads, lst 3 1 kv B.ps.length B.kinds] := M4.step H11
  refine ⟨_, rfl, ?_⟩
  refine hK.out _ _ ?_
  clear hK K
  simp only [Act.put, z1, z2, z3]
  refine pl M11 (y_add (r := 1 + n % 12) rfl rfl rfl rfl (rfl) (by omega)) ?_
  simp only [Act.put, z1, z2, z3]
  have hX12 : Mem w _ w11 ([disk D p pg mb qv] ++ [blk f 96 (fC V p), blk ga 50 ([.int .i64 4, .int .i64 n, .slice ao nn c]), blk b 48 (bC B ⟨lv, kv, vs⟩), rows lv vs B.loads, lst 3 1 kv B.ps.length B.kinds]) := M11.arr [0, 1, 2, 3, 4, 5] (by decide)
  refine pe rfl (fun K hK => ?_)
  refine e_call 14 [.pointer (some ⟨p, 0, none⟩), .int .i64 (1 + n % 12)] rfl rfl Try.call14 (arm_any (Mem.here hX12) (1 + n % 12) (by omega)) ?_
  rintro e w12 ⟨rfl, H12⟩
  have M12 : Mem w _ w12 [disk (armD D (1 + n % 12)) p pg mb qv, blk f 96 (fC V p), blk ga 50 ([.int .i64 4, .int .i64 n, .slice ao nn c]), blk b 48 (bC B ⟨lv, kv, vs⟩), rows lv vs B.loads, lst 3 1 kv B.ps.length B.kinds] := Mem.frame hX12 H12
  refine ⟨_, rfl, ?_⟩
  refine hK.out _ _ ?_
  clear hK K
  simp only [Act.put, z1, z2, z3]
  refine wpList_nil ?_
  refine hK5 _ _ ?_
  clear hK5
  refine wp_seq_k (fun K13 hK13 => ?_)
  refine wp_region_lit ?_
  refine pl M12 (y_assign (v := .int .i64 0) rfl rfl rfl) ?_
  simp only [Act.put, z1, z2, z3]
  refine pl M12 (y_assign (v := .bool true) rfl rfl rfl) ?_
  simp only [Act.put, z1, z2, z3]
  refine wpList_nil ?_
  refine hK13 _ _ ?_
  clear hK13
  refine wp_ret ?_
  try simp only [Exit.inBlock, Exit.then]
  refine bodyPost_ret (v := .tuple #[.int .i64 0, .bool true]) (res2 rfl rfl rfl) rfl ?_
  have N : Mem _ _ _ [book _ b ⟨lv, kv, vs⟩, _, _] := book_close (M12.arr [3, 4, 5, 0, 1] (by decide))
  exact ⟨⟨lv, kv, vs⟩, rfl, N.arr [1, 2, 0] (by decide)⟩
set_option maxRecDepth 100000 in
set_option maxHeartbeats 4000000 in
theorem act_other {D : DV} {V : FV} {B : BV} {p pg mb f b : Nat} {qv : Value} {bx : BX} {w : World} (hM : Mem w (foots [disk D p pg mb qv, blk f 96 (fC V p), book B b bx]) w [disk D p pg mb qv, blk f 96 (fC V p), book B b bx]) (kd n : Int) (ao : Option Addr) (nn c : Nat) (h1 : ¬ kd = 1) (h2 : ¬ kd = 2) (h3 : ¬ kd = 3) (h4 : ¬ kd = 4) : Calls Try.prog 27 #[.pointer (some ⟨b, 0, none⟩), .pointer (some ⟨p, 0, none⟩), .pointer (some ⟨f, 0, none⟩), .agg ([.int .i64 kd, .int .i64 n, .slice ao nn c]).toArray] w fun e w' => ∃ bx', e = .returned (.tuple #[.int .i64 0, .bool true]) ∧ Mem w (foots [disk D p pg mb qv, blk f 96 (fC V p), book B b bx]) w' [disk D p pg mb qv, blk f 96 (fC V p), book B b bx'] := by
  obtain ⟨lv, kv, vs⟩ := bx
  have M0 := book_open (hM.arr [2, 0, 1] (by decide))
  clear hM
  have M : Mem w _ w [disk D p pg mb qv, blk f 96 (fC V p), blk b 48 (bC B ⟨lv, kv, vs⟩), rows lv vs B.loads, lst 3 1 kv B.ps.length B.kinds] := M0.arr [3, 4, 0, 1, 2] (by decide)
  clear M0
  go_enter Try.func27, Try.ntmps27
  refine wp_seq_k (fun K1 hK1 => ?_)
  refine wp_region_lit ?_
  refine pe rfl (fun K hK => ?_)
  refine e_box M ([.int .i64 kd, .int .i64 n, .slice ao nn c]) rfl rfl ?_
  intro ga w2 (M2 : Mem w _ w2 [blk ga 50 ([.int .i64 kd, .int .i64 n, .slice ao nn c]), disk D p pg mb qv, blk f 96 (fC V p), blk b 48 (bC B ⟨lv, kv, vs⟩), rows lv vs B.loads, lst 3 1 kv B.ps.length B.kinds])
  clear M
  refine hK.out _ _ ?_
  clear hK K
  simp only [Act.put, z1, z2, z3]
  refine pl M2 (y_assign (v := .int .i64 0) rfl rfl rfl) ?_
  simp only [Act.put, z1, z2, z3]
  refine pl M2 (y_assign (v := .bool false) rfl rfl rfl) ?_
  simp only [Act.put, z1, z2, z3]
  refine wpList_nil ?_
  refine hK1 _ _ ?_
  clear hK1
  refine wp_seq_k (fun K3 hK3 => ?_)
  refine wp_region_lit ?_
  refine pl M2 (y_move (v := .pointer (some ⟨f, 0, none⟩)) rfl rfl rfl) ?_
  simp only [Act.put, z1, z2, z3]
  have hX4 : Mem w _ w2 ([disk D p pg mb qv, blk f 96 (fC V p)] ++ [blk ga 50 ([.int .i64 kd, .int .i64 n, .slice ao nn c]), blk b 48 (bC B ⟨lv, kv, vs⟩), rows lv vs B.loads, lst 3 1 kv B.ps.length B.kinds]) := M2.arr [1, 2, 0, 3, 4, 5] (by decide)
  refine pe rfl (fun K hK => ?_)
  refine e_call 20 [.pointer (some ⟨f, 0, none⟩)] rfl rfl Try.call20 (next_any (Mem.here hX4)) ?_
  rintro e w4 ⟨rfl, H4⟩
  have M4 : Mem w _ w4 [disk D p pg mb qv, blk f 96 (fC V p), blk ga 50 ([.int .i64 kd, .int .i64 n, .slice ao nn c]), blk b 48 (bC B ⟨lv, kv, vs⟩), rows lv vs B.loads, lst 3 1 kv B.ps.length B.kinds] := Mem.frame hX4 H4
  refine ⟨_, rfl, ?_⟩
  refine hK.out _ _ ?_
  clear hK K
  simp only [Act.put, z1, z2, z3]
  refine pl M4 (y_assign (v := .int .i64 V.next) rfl rfl rfl) ?_
  simp only [Act.put, z1, z2, z3]
  refine wpList_nil ?_
  refine hK3 _ _ ?_
  clear hK3
  refine wp_seq_k (fun K5 hK5 => ?_)
  refine wp_seq_k (fun K6 hK6 => ?_)
  refine wp_region_lit ?_
  refine pl M4 (y_fa (r := 0) rfl rfl rfl Try.underlying50 rfl Try.sizeOf3 rfl) ?_
  simp only [Act.put, z1, z2, z3]
  refine pl M4 (y_load (v := .int .i64 kd) rfl rfl rfl Try.isAgg3 (fun W hW => hW.get 2 rfl) (rfl)) ?_
  simp only [Act.put, z1, z2, z3]
  refine wpList_nil ?_
  refine hK6 _ _ ?_
  clear hK6
  refine wp_block ?_
  refine wp_seq_k (fun K7 hK7 => ?_)
  refine wp_region_lit ?_
  refine pl M4 (y_eql (b := false) rfl rfl rfl rfl (decide_eq_false h1)) ?_
  simp only [Act.put, z1, z2, z3]
  refine pl M4 (y_assign (v := .bool false) rfl rfl rfl) ?_
  simp only [Act.put, z1, z2, z3]
  refine wpList_nil ?_
  refine hK7 _ _ ?_
  clear hK7
  refine wp_cond_false rfl ?_
  refine wp_seq_k (fun K8 hK8 => ?_)
  refine wp_region_lit ?_
  refine pl M4 (y_eql (b := false) rfl rfl rfl rfl (decide_eq_false h2)) ?_
  simp only [Act.put, z1, z2, z3]
  refine pl M4 (y_assign (v := .bool false) rfl rfl rfl) ?_
  simp only [Act.put, z1, z2, z3]
  refine wpList_nil ?_
  refine hK8 _ _ ?_
  clear hK8
  refine wp_cond_false rfl ?_
  refine wp_seq_k (fun K9 hK9 => ?_)
  refine wp_region_lit ?_
  refine pl M4 (y_eql (b := false) rfl rfl rfl rfl (decide_eq_false h3)) ?_
  simp only [Act.put, z1, z2, z3]
  refine pl M4 (y_assign (v := .bool false) rfl rfl rfl) ?_
  simp only [Act.put, z1, z2, z3]
  refine wpList_nil ?_
  refine hK9 _ _ ?_
  clear hK9
  refine wp_cond_false rfl ?_
  refine wp_seq_k (fun K10 hK10 => ?_)
  refine wp_region_lit ?_
  refine pl M4 (y_eql (b := false) rfl rfl rfl rfl (decide_eq_false h4)) ?_
  simp only [Act.put, z1, z2, z3]
  refine pl M4 (y_assign (v := .bool false) rfl rfl rfl) ?_
  simp only [Act.put, z1, z2, z3]
  refine wpList_nil ?_
  refine hK10 _ _ ?_
  clear hK10
  refine wp_cond_false rfl ?_
  refine wp_skip ?_
  refine hK5 _ _ ?_
  clear hK5
  refine wp_seq_k (fun K11 hK11 => ?_)
  refine wp_region_lit ?_
  refine pl M4 (y_assign (v := .int .i64 0) rfl rfl rfl) ?_
  simp only [Act.put, z1, z2, z3]
  refine pl M4 (y_assign (v := .bool true) rfl rfl rfl) ?_
  simp only [Act.put, z1, z2, z3]
  refine wpList_nil ?_
  refine hK11 _ _ ?_
  clear hK11
  refine wp_ret ?_
  try simp only [Exit.inBlock, Exit.then]
  refine bodyPost_ret (v := .tuple #[.int .i64 0, .bool true]) (res2 rfl rfl rfl) rfl ?_
  have N : Mem _ _ _ [book _ b ⟨lv, kv, vs⟩, _, _] := book_close (M4.arr [3, 4, 5, 0, 1] (by decide))
  exact ⟨⟨lv, kv, vs⟩, rfl, N.arr [1, 2, 0] (by decide)⟩
end Go.Proofs.Ytehnnnohoaapdaa

/- Behind a loss of power. -/
namespace Go.Proofs.Ytehnnnohoaapdaa
set_option linter.unusedSectionVars false
open Go Go.RowKit
set_option linter.unusedVariables false
set_option linter.unusedSimpArgs false
theorem bholds_int {D : DV} {V : FV} {B : BV} {p pg mb f b : Nat} {qv : Value} {bx : BX} {w : World} (hM : Mem w (foots [disk D p pg mb qv, blk f 96 (fC V p), book B b bx]) w [disk D p pg mb qv, blk f 96 (fC V p), book B b bx]) (hI : Inv D V B.ps) (mk : Int) (h2 : 2 ≤ mk) (hmk : mk ≤ V.next) : Calls Try.prog 29 #[.pointer (some ⟨b, 0, none⟩), .pointer (some ⟨f, 0, none⟩), .int .i64 mk] w fun e w' => ∃ r, e = .returned (.bool true) ∧ Mem w (foots [disk D p pg mb qv, blk f 96 (fC V p), book B b bx]) w' [disk (D.rd r) p pg mb qv, blk f 96 (fC V p), book B b bx] := by
  obtain ⟨k, rfl⟩ := Int.eq_ofNat_of_zero_le (show 0 ≤ mk by omega)
  exact bholds_any hM hI k (by omega) hmk
end Go.Proofs.Ytehnnnohoaapdaa

/- One act on the book, whatever it is; and what stands behind a loss of power. -/
namespace Go.Proofs.Ytehnnnohoaapdaa
set_option linter.unusedSectionVars false
set_option linter.unusedSimpArgs false
open Go Go.RowKit
set_option linter.unusedVariables false
structure BInv (D : DV) (V : FV) (B : BV) : Prop where
  inv : Inv D V B.ps
  mark : V.s.mark = B.mark
  gen : V.s.gen = B.gen
  head : V.s.head = B.head
  inm : B.inMark = 0
  len : B.ps.length ≤ D.pages.length
structure Kept (D E : DV) (V V' : FV) (B B' : BV) : Prop where
  pages : E.pages.length = D.pages.length
  que : E.q.length ≤ D.q.length + 1
  width : V'.s.width = V.s.width
  gen : V'.s.gen ≤ V.s.gen + 1
  mark : B.mark ≤ B'.mark
  old : ∀ n : Nat, 2 ≤ n → (n : Int) < B.mark → pgAt B'.ps n = pgAt B.ps n
def DownB (D : DV) (S : SupV) (B : BV) : Prop :=
  ∃ late, Dead D S late B.ps ∧ S.mark = B.mark ∧ S.gen = B.gen ∧ S.head = B.head ∧ B.ps.length ≤ D.pages.length ∧
    ∀ S2, late = some S2 → 0 < B.inMark ∧ S2.mark = B.inMark ∧ S2.gen = B.gen + 1 ∧ S2.head = B.inHead ∧ S2.width = S.width ∧ S.mark ≤ S2.mark
def Out (D : DV) (V : FV) (B : BV) (kd er : Int) (E : DV) (V' : FV) (B' : BV) : Prop :=
  Kept D E V V' B B' ∧ ((er = 0 ∧ BInv E V' B' ∧ (kd ≠ 4 → D.armed = 0 → E.armed = 0)) ∨ (er = 2 ∧ D.armed ≠ 0 ∧ V' = V ∧ E.dead = true ∧ E.epoch = V.mine ∧ DownB E V.s B'))
theorem Kept.refl (D : DV) (V : FV) (B : BV) : Kept D D V V B B := ⟨rfl, Nat.le_succ _, rfl, by omega, Int.le_refl _, fun _ _ _ => rfl⟩
abbrev PT3 (D : DV) (V : FV) (B : BV) (p pg mb f b : Nat) (qv : Value) (bx : BX) : List Asn := [disk D p pg mb qv, blk f 96 (fC V p), book B b bx]
section
variable {D : DV} {V : FV} {B : BV} {p pg mb f b : Nat} {qv : Value} {bx : BX} {w : World}
theorem bact_any (hM : Mem w (foots (PT3 D V B p pg mb f b qv bx)) w (PT3 D V B p pg mb f b qv bx)) (kd n : Int) (ao : Option Addr) (nn c : Nat) (l : List UInt8) (hr : Row w ao nn l) (hF : ∀ b₁ o, ao = some ⟨b₁, o, none⟩ → 0 < nn → b₁ ∉ foots (PT3 D V B p pg mb f b qv bx))
    (hnn : nn ≤ 140737488351232) (hB : BInv D V B) (hgm : V.s.gen < 1099511627776) (hq : D.q.length ≤ 400000000000) :
    Calls Try.prog 27 #[.pointer (some ⟨b, 0, none⟩), .pointer (some ⟨p, 0, none⟩), .pointer (some ⟨f, 0, none⟩), .agg ([.int .i64 kd, .int .i64 n, .slice ao nn c] : List Value).toArray] w fun e w' =>
      ∃ er E V' B' qv' bx', e = .returned (.tuple #[.int .i64 er, .bool true]) ∧ Mem w (foots (PT3 D V B p pg mb f b qv bx)) w' (PT3 E V' B' p pg mb f b qv' bx') ∧ Out D V B kd er E V' B' := by
  have hI := hB.inv
  have hn2 := hI.next2
  have hnp := hI.nextp
  by_cases k1 : kd = 1
  · subst k1
    rcases Int.lt_or_eq_of_le hnp with hf | hf
    · rcases actE_two D with h0 | h0
      · obtain ⟨m, hm⟩ : ∃ m : Nat, V.next = ((m + 2 : Nat) : Int) := ⟨(V.next - 2).toNat, by omega⟩
        refine (act_go hM n ao nn c l hr hF hnn hq hI hB.len hf m hm h0).mono ?_
        rintro e w' ⟨E, r, x, qv', bx', rfl, h1, hx, hE, hI2⟩
        obtain ⟨a1, a2, a3, a4⟩ := hI.app (k := x.1) (l := x.2) hx hf
        have hpl : (E.rd r).pages.length = D.pages.length := by
          show E.pages.length = _
          rw [hE, a2, actD_pages]; rfl
        have hlo := hI.lo
        have hlen := hI.lenN
        have hmk := hB.mark
        refine ⟨0, _, _, _, qv', bx', rfl, h1, ⟨hpl, ?_, rfl, by show V.s.gen ≤ V.s.gen + 1; omega, Int.le_refl _, fun n h2 h3 => ?_⟩, .inl ⟨rfl, ⟨hI2.rd r, hB.mark, hB.gen, hB.head, hB.inm, ?_⟩, fun _ ha => ?_⟩⟩
        · show E.q.length ≤ _
          rw [hE, a2, actD_q]; simp [openW]
        · show pgAt (putP B.ps (m + 2) x) n = _
          exact putP_low _ _ _ _ (by omega) (by omega) h2
        · show (putP B.ps (m + 2) x).length ≤ (E.rd r).pages.length
          rw [putP_len _ _ _ (by omega), hpl]; omega
        · show E.armed = 0
          rw [hE, a2, actD_armed]
          show (if D.armed = 0 then 0 else D.armed - 1) = 0
          rw [if_pos ha]
      · refine (act_down hM n ao nn c l hr hF hnn hq hI hf h0).mono ?_
        rintro e w' ⟨E, x, qv', bx', rfl, h1, hx, hE⟩
        obtain ⟨a1, a2, a3, a4⟩ := hI.app (k := x.1) (l := x.2) hx hf
        obtain ⟨b1, b2, b3⟩ := a4 h0
        have hpl : E.pages.length = D.pages.length := by rw [hE, a2, actD_pages]; rfl
        rw [← hE] at b1 b2 b3
        refine ⟨2, _, _, _, qv', bx', rfl, h1, ⟨hpl, ?_, rfl, by omega, Int.le_refl _, fun _ _ _ => rfl⟩, .inr ⟨rfl, fun ha => ?_, rfl, b1, b2, none, b3.dead none, hB.mark, hB.gen, hB.head, by rw [hpl]; exact hB.len, fun _ e => by cases e⟩⟩
        · rw [hE, a2, actD_q]; simp [openW]
        · rw [(act_arm0 ha).1] at h0; cases h0
    · refine (act_full hM n ao nn c l hr hF hnn hq hI hf).mono ?_
      rintro e w' ⟨qv', bx', rfl, h1⟩
      exact ⟨0, _, _, _, qv', bx', rfl, h1, Kept.refl D V B, .inl ⟨rfl, hB, fun _ h => h⟩⟩
  · by_cases k2 : kd = 2
    · subst k2
      have main : ∀ head : Int, (head = 0 ∨ (2 ≤ head ∧ head < V.next)) →
          (∀ (h0 : (pubR D V head).2 = 0) (hpp : (pubR D V head).1.pages.length = D.pages.length), Calls Try.prog 27 #[.pointer (some ⟨b, 0, none⟩), .pointer (some ⟨p, 0, none⟩), .pointer (some ⟨f, 0, none⟩), .agg ([.int .i64 2, .int .i64 n, .slice ao nn c] : List Value).toArray] w fun e w' => ∃ E qv' bx', e = .returned (.tuple #[.int .i64 0, .bool true]) ∧ Mem w (foots (PT3 D V B p pg mb f b qv bx)) w' (PT3 E { V with s := pubS V head } { B with mark := V.next, head := head, gen := B.gen + 1 } p pg mb f b qv' bx') ∧ E = (pubR D V head).1) →
          (∀ (h0 : (pubR D V head).2 = 2) (hpp : (pubR D V head).1.pages.length = D.pages.length), Calls Try.prog 27 #[.pointer (some ⟨b, 0, none⟩), .pointer (some ⟨p, 0, none⟩), .pointer (some ⟨f, 0, none⟩), .agg ([.int .i64 2, .int .i64 n, .slice ao nn c] : List Value).toArray] w fun e w' => ∃ E qv' bx', e = .returned (.tuple #[.int .i64 2, .bool true]) ∧ Mem w (foots (PT3 D V B p pg mb f b qv bx)) w' (PT3 E V { B with inMark := V.next, inHead := head } p pg mb f b qv' bx') ∧ E = (pubR D V head).1) →
          Calls Try.prog 27 #[.pointer (some ⟨b, 0, none⟩), .pointer (some ⟨p, 0, none⟩), .pointer (some ⟨f, 0, none⟩), .agg ([.int .i64 2, .int .i64 n, .slice ao nn c] : List Value).toArray] w fun e w' =>
            ∃ er E V' B' qv' bx', e = .returned (.tuple #[.int .i64 er, .bool true]) ∧ Mem w (foots (PT3 D V B p pg mb f b qv bx)) w' (PT3 E V' B' p pg mb f b qv' bx') ∧ Out D V B 2 er E V' B' := by
        intro head hh hgo hdown
        have hlo := hI.lo
        have hmk := hB.mark
        rcases hI.pub hh hgm with ⟨c1, c2, c3, c4⟩ | ⟨c1, c2, c3, c4, c5, c6, c7, c8⟩
        · have hpl : (pubR D V head).1.pages.length = D.pages.length := by
            have h1 := c3.plat.pages
            have h2 := hI.plat.pages
            have h3 : (pubS V head).pages = V.s.pages := rfl
            have h1 : (pubS V head).pages = _ := h1
            omega
          refine (hgo c1 hpl).mono ?_
          rintro e w' ⟨E, qv', bx', rfl, h1, rfl⟩
          refine ⟨0, _, _, _, qv', bx', rfl, h1, ⟨hpl, by rw [c4]; exact Nat.zero_le _, rfl, Int.le_refl _, by show B.mark ≤ V.next; omega, fun _ _ _ => rfl⟩, .inl ⟨rfl, ⟨c3, rfl, by show V.s.gen + 1 = B.gen + 1; rw [hB.gen], rfl, hB.inm, by rw [hpl]; exact hB.len⟩, fun _ ha => ?_⟩⟩
          rw [c2]
          have q1 : (pubD1 D).armed = 0 := by show (actD D).armed = 0; rw [(act_arm0 ha).2]; exact ha
          have q2 : (pubD2 D (pubS V head)).armed = 0 := by
            show (actD _).armed = 0
            rw [(act_arm0 (D := openW (pubD1 D) ((pubS V head).gen % 2) (superB (pubS V head))) q1).2]; exact q1
          show (actD _).armed = 0
          rw [(act_arm0 q2).2]; exact q2
        · refine (hdown c1 c6).mono ?_
          rintro e w' ⟨E, qv', bx', rfl, h1, rfl⟩
          refine ⟨2, _, _, _, qv', bx', rfl, h1, ⟨c6, c5, rfl, by omega, Int.le_refl _, fun _ _ _ => rfl⟩, .inr ⟨rfl, c2, rfl, c3, c4, some (pubS V head), c8, hB.mark, hB.gen, hB.head, by rw [c6]; exact hB.len, fun S2 e => ?_⟩⟩
          cases e
          exact ⟨by show 0 < V.next; omega, rfl, by show V.s.gen + 1 = B.gen + 1; rw [hB.gen], rfl, rfl, by show V.s.mark ≤ V.next; omega⟩
      by_cases h1 : n % 2 = 1
      · by_cases h2 : 2 < V.next
        · exact main (V.next - 1) (.inr ⟨by omega, by omega⟩) (fun h0 hpp => act_pub_go_h hM n ao nn c hI hB.gen hgm hq h1 h2 h0 hpp) (fun h0 hpp => act_pub_down_h hM n ao nn c hI hB.gen hgm hq h1 h2 h0 hpp)
        · exact main 0 (.inl rfl) (fun h0 hpp => act_pub_go_z1 hM n ao nn c hI hB.gen hgm hq h1 h2 h0 hpp) (fun h0 hpp => act_pub_down_z1 hM n ao nn c hI hB.gen hgm hq h1 h2 h0 hpp)
      · exact main 0 (.inl rfl) (fun h0 hpp => act_pub_go_z2 hM n ao nn c hI hB.gen hgm hq h1 h0 hpp) (fun h0 hpp => act_pub_down_z2 hM n ao nn c hI hB.gen hgm hq h1 h0 hpp)
    · by_cases k3 : kd = 3
      · subst k3
        refine (act_forget hM n ao nn c hB.mark).mono ?_
        rintro e w' ⟨bx', rfl, h1⟩
        exact ⟨0, _, _, _, qv, bx', rfl, h1, ⟨rfl, Nat.le_succ _, rfl, by show V.s.gen ≤ V.s.gen + 1; omega, Int.le_refl _, fun _ _ _ => rfl⟩, .inl ⟨rfl, ⟨hI.forget, hB.mark, hB.gen, hB.head, hB.inm, hB.len⟩, fun _ h => h⟩⟩
      · by_cases k4 : kd = 4
        · subst k4
          have e4 : armD D (1 + n % 12) = { D with armed := max (1 + n % 12) 0 } := if_neg (by rw [hI.pow]; decide)
          refine (act_arm hM n ao nn c).mono ?_
          rintro e w' ⟨bx', rfl, h1⟩
          have hI3 := hI.arm (n := 1 + n % 12) (by omega)
          rw [e4] at h1 hI3
          exact ⟨0, _, _, _, qv, bx', rfl, h1, ⟨rfl, Nat.le_succ _, rfl, by omega, Int.le_refl _, fun _ _ _ => rfl⟩, .inl ⟨rfl, ⟨hI3, hB.mark, hB.gen, hB.head, hB.inm, hB.len⟩, fun h => absurd rfl h⟩⟩
        · refine (act_other hM kd n ao nn c k1 k2 k3 k4).mono ?_
          rintro e w' ⟨bx', rfl, h1⟩
          exact ⟨0, _, _, _, qv, bx', rfl, h1, Kept.refl D V B, .inl ⟨rfl, hB, fun _ h => h⟩⟩
end
end Go.Proofs.Ytehnnnohoaapdaa
