/- A keeper of lists: the walks of mark, keep. -/
import Derived.Test.YtocfiabbhcgegaaKeepQ
import Derived.Test.YtocfiabbhcgegaaJCopy
import Derived.Test.YtocfiabbhcgegaaStoreS
import Derived.Test.YtocfiabbhcgegaaLay
namespace Go.Proofs.Ytocfiabbhcgegaa.J
open Go Go.RowKit
set_option linter.unusedVariables false

/-- The mark of a place in a list. -/
def markB (i k : Nat) : UInt8 := UInt8.ofNat (37 * i + 11 * k + 91 * (i / 256) + 5 * (k / 256))
set_option maxHeartbeats 400000 in
theorem mark_any (i k : Nat) (hi : i ≤ 140737488355328) (hk : k ≤ 140737488355328) (w : World) :
    Calls Try.prog 29 #[.int .i64 i, .int .i64 k] w fun e w' => e = .returned (.int .u8 ((markB i k).toNat : Int)) ∧ w' = w := by
  have h : ((markB i k).toNat : Int) = (37 * (i : Int) + 11 * (k : Int) + 91 * ((i : Int) / 256) + 5 * ((k : Int) / 256)) % 256 := by
    unfold markB
    rw [UInt8.toNat_ofNat']
    omega
  rw [h]
  go_enter Try.func29, Try.ntmps29
  go_wp2
  go_ret
  exact ⟨rfl, rfl⟩
abbrev KT : TypeId := 36
theorem uLL : Try.prog.underlying 34 = some (.slice 26) := Try.underlying34
theorem iL : (Try.prog.info? 26).map (fun i => (i.zero, i.size, i.bytes)) = some (some (.slice none 0 0), 1, 24) := by kernel_rfl
theorem own_lower {w : World} {a b size : Nat} {e : TypeId} {v : Value} {n : Nat} {xs : List Value} (h : w.ownsRow b e size v n xs) (hab : a ≤ b) : w.ownsRow a e size v n xs := by
  obtain ⟨hl, h⟩ := h
  refine ⟨hl, ?_⟩
  rcases h with h | ⟨g, cap, cur, rfl, h1, h2⟩
  · exact .inl h
  · exact .inr ⟨g, cap, cur, rfl, Nat.le_trans hab h1, h2⟩

theorem _root_.Go.Proofs.Ytocfiabbhcgegaa.OwnS.sl {w : World} {base : Nat} {e : TypeId} {v : Value} {vs : List Value} (h : OwnS w base e v vs) : ∃ ao n c, v = .slice ao n c ∧ Box (n = vs.length ∧ n ≤ c ∧ c ≤ maxLen) := by
  obtain ⟨ao, c, rfl, h1, h2, _⟩ := h.at
  exact ⟨_, _, _, rfl, ⟨rfl, h2, h1⟩⟩

theorem own_rd {w : World} {base : Nat} {e : TypeId} {ao : Option Addr} {n c : Nat} {l : List UInt8} (h : Own w base e (.slice ao n c) l) : Row w ao n l ∧ l.length = n := by
  obtain ⟨ao2, cap2, hv, hr2, _⟩ := h.open
  rw [Value.slice.injEq] at hv
  obtain ⟨e1, e2, e3⟩ := hv
  rw [e1, e2]; exact ⟨hr2, rfl⟩
theorem own_sh {w : World} {base : Nat} {e : TypeId} {v : Value} {l : List UInt8} (h : Own w base e v l) : ∃ ao c, v = .slice ao l.length c := by
  obtain ⟨ao2, cap2, hv, _⟩ := h.open
  exact ⟨_, _, hv⟩

set_option maxRecDepth 100000 in
set_option maxHeartbeats 4000000 in
theorem keep_any (base p : Nat) (vL vW : Value) (ls ws : List Ent) (ao : Option Addr) (n c : Nat) (l : List UInt8) (w : World) (hk : Keeper KT 26 5 w base p vL vW ls ws) (ho : Own w base 5 (.slice ao n c) l)
    (hd : ∀ g, (Value.slice ao n c).ownBlock = some g → g ∉ kb p vL vW ls ws) (hl : l.length ≤ 140737488351400) (hb : base ≤ w.heap.size) (hn : ls.length ≤ 1099511627776) (hn' : ws.length ≤ 1099511627776) :
    Calls Try.prog 8 #[.pointer (some ⟨p, 0, none⟩), .slice ao n c] w fun e w' =>
      (∃ vL' vW' v', e = .returned (.tuple #[]) ∧ Keeper KT 26 5 w' base p vL' vW' (ls ++ [(.slice ao n c, l)]) (ws ++ [(v', l)]) ∧
        ∀ g ∈ kb p vL' vW' (ls ++ [(.slice ao n c, l)]) (ws ++ [(v', l)]), g ∈ kb p vL vW ls ws ∨ (Value.slice ao n c).ownBlock = some g ∨ w.heap.size ≤ g) ∧ Grew w w' (kb p vL vW ls ws) := by
  obtain ⟨aL, nL, cL, rfl, hnL⟩ := hk.ownL.sl
  obtain ⟨aW, nW, cW, rfl, hnW⟩ := hk.ownW.sl
  have hi28 : Box ((Try.prog.info? 34).map (·.size) = some 1) := ⟨by kernel_rfl⟩
  have HK := Box.mk hk
  have HO := Box.mk ho
  have HD := Box.mk hd
  have c0 : w.cell? ⟨p, 0, none⟩ = some (.slice aL nL cL) := by rw [cell_of_row w p 0 _ _ _ hk.blk]; rfl
  have hOL := Box.mk (show OwnS (w.alloc (.cells #[.slice ao n c] 26)) base 26 (.slice aL nL cL) (ls.map (·.1)) from World.ownsRow.alloc hk.ownL _)
  have hcx := Box.mk (show (w.alloc (.cells #[.slice ao n c] 26)).cell? ⟨w.heap.size, 0, none⟩ = some (.slice ao n c) by rw [cell_of_row _ _ 0 _ _ _ (heap_new rfl)]; rfl)
  have hlb := Box.mk (show (ls.map (·.1)).length ≤ 1099511627776 by rw [List.length_map]; exact hn)
  have hb1 := Box.mk (show base ≤ (w.alloc (.cells #[.slice ao n c] 26)).heap.size by simp; omega)
  have hbb := Box.mk hb
  have hn2 := Box.mk hn'
  have hll := Box.mk hl
  have hpl := Box.mk (heap_lt hk.blk)
  clear hk ho hd hb hn hn' hl
  go_enter Try.func8, Try.ntmps8
  go_wp2_with ((with_reducible refine arm_append_s uLL iL (.tmp 8) (.tmp 10) ?_ rfl base _ (ls.map (·.1)) ?_ hOL.out w.heap.size ao n c ?_ hcx.out ?_ hb1.out ?_); rfl; rfl; rfl; exact hlb.out)
  intro vL' w2 own2 G2 at2
  have HL2 := Box.mk own2
  obtain ⟨aL', nL', cL', rfl, hnL'⟩ := HL2.out.sl
  have hneL : ∀ g, (Value.slice aL nL cL).ownBlock = some g → g ≠ p := fun g hg => kb_ne_p HK.out.dist (.inl hg)
  have X2 := Box.mk (show w2.heap[p]? = some (.cells [.slice aL nL cL, .slice aW nW cW].toArray KT (0, 0)) from (G2.block p (by have := hpl.out; simp; omega) (fun e => hneL p e.symm rfl)).trans ((heap_alloc_old w _ hpl.out).trans HK.out.blk))
  have hA2 := Box.mk (show AtS w.heap.size (.slice aL nL cL) (.slice aL' nL' cL') from at2.imp id fun h => ⟨_, h, by simp⟩)
  have g2 := Box.mk (show ∀ k, k < w.heap.size → (Value.slice aL nL cL).ownBlock ≠ some k → w2.heap[k]? = w.heap[k]? from fun k hk hne => (G2.block k (by simp; omega) hne.symm).trans (heap_alloc_old w _ hk))
  have gs2 := Box.mk (show Grew w w2 (kb p (.slice aL nL cL) (.slice aW nW cW) ls ws) from (Grew.low (Below.refl_alloc w (.cells #[.slice ao n c] 26)) _).trans (Grew.of G2 (F := obs (.slice aL nL cL)) fun g hg => mem_obs.2 hg) fun g hg => .inl (mem_kb.2 (.inr (.inl (mem_obs.1 hg)))))
  clear own2 G2 at2 hOL hcx hb1 hlb c0
  have hl0 := Box.mk (show 0 < [Value.slice aL nL cL, .slice aW nW cW].length by simp)
  go_wp2_with ((with_reducible refine arm_store_slice 34 (.tmp 13) (.tmp 11) ?_ rfl p 0 ?_ aL' nL' cL' ?_ hi28.out [.slice aL nL cL, .slice aW nW cW] KT X2.out hl0.out ?_); rfl; rfl; rfl)
  intro w3 g3 G3
  have hk3 := Keeper.addL (w' := w3) HK.out HO.out HD.out (ownsRow_same HL2.out fun g hg => G3.block g (ownsRow_lt HL2.out g hg).2 (by
      intro e
      cases e
      rcases hA2.out with h | ⟨g', h, hge⟩
      · exact hneL p (h.symm.trans hg) rfl
      · rw [hg] at h; cases h; have := hpl.out; omega)) hA2.out g3.out (fun k hk h1 h2 => (G3.block k (by have := gs2.out.size; omega) (by simpa using h1)).trans (g2.out k hk h2))
  have K3 := Box.mk hk3.1
  have M3 := Box.mk hk3.2
  have K3lt := Box.mk (fun g hg => (hk3.1.lt g hg).2)
  have gs3 := Box.mk (gs2.out.trans (Grew.of G3 (F := [p]) fun g hg => by cases hg; simp) fun g hg => .inl (mem_kb.2 (.inl (by simpa using hg))))
  clear hk3 g3 G3 g2 gs2 X2 hA2 HL2 hneL hl0
  have hrow := Box.mk (own_rd (K3.out.eachL (.slice ao n c, l) (by simp)))
  have hcp := Box.mk (copyBytes_any ao n c l w3.drew (hrow.out.1.drewN 1) (by rw [← hrow.out.2]; exact hll.out))
  -- GEN KEEP
  have C1 := Box.mk (show w3.drew.heap[p]? = some (.cells #[.slice aL' nL' cL', .slice aW nW cW] KT (0, 0)) from K3.out.blk)
  go_wp2_with fail
  refine held_begin (fun _ => True) (by kernel_rfl) trivial (fun _ => ?_)
  refine held_take 0 (.pointer (some ⟨p, 0, none⟩)) rfl (by kernel_rfl) (by kernel_rfl) (by kernel_rfl) (held_move (by rfl) (.tmp 0) rfl rfl) trivial ?_
  try simp only [Act.put, List.setIfInBounds_toArray, List.set_cons_zero, List.set_cons_succ]
  refine held_take 1 (.pointer (some ⟨p, 0, none⟩)) rfl (by kernel_rfl) (by kernel_rfl) (by kernel_rfl) (held_move (by rfl) (.tmp 0) rfl rfl) trivial ?_
  try simp only [Act.put, List.setIfInBounds_toArray, List.set_cons_zero, List.set_cons_succ]
  refine held_take 2 (.pointer (some ⟨p, 0, none⟩)) rfl (by kernel_rfl) (by kernel_rfl) (by kernel_rfl) (held_pure (by rfl) (fun W => by go_simp)) trivial ?_
  try simp only [Act.put, List.setIfInBounds_toArray, List.set_cons_zero, List.set_cons_succ]
  refine held_take 3 (.pointer (some ⟨p, 1, none⟩)) rfl (by kernel_rfl) (by kernel_rfl) (by kernel_rfl) (held_pure (by rfl) (fun W => by go_simp)) trivial ?_
  try simp only [Act.put, List.setIfInBounds_toArray, List.set_cons_zero, List.set_cons_succ]
  refine held_take 5 (.slice ao n c) rfl (by kernel_rfl) (by kernel_rfl) (by kernel_rfl) (held_move (by rfl) (.tmp 1) rfl rfl) trivial ?_
  try simp only [Act.put, List.setIfInBounds_toArray, List.set_cons_zero, List.set_cons_succ]
  refine held_step2 4 6 (by kernel_rfl) rfl rfl (by rfl) (by rfl) (fun K hK => ?_) (fun K hK => ?_)
  · have c1 : w3.drew.cell? ⟨p, 1, none⟩ = some (.slice aW nW cW) := by rw [cell_of_row _ p 1 _ _ _ C1.out]; rfl
    go_simp
    refine hK.out _ _ trivial (fun _ => ?_)
    clear hK K c1
    try simp only [Act.put, List.setIfInBounds_toArray, List.set_cons_zero, List.set_cons_succ]
    refine held_step 6 (by kernel_rfl) rfl (by rfl) (fun K hK => ?_)
    go_simp
    refine (calls_box hcp.out).mono ?_
    rintro e w4 ⟨⟨⟨v4, rfl, own4⟩, hB4⟩⟩
    dsimp only
    refine hK.out _ _ trivial (fun _ => ?_)
    clear hK K
    try simp only [Act.put, List.setIfInBounds_toArray, List.set_cons_zero, List.set_cons_succ]
    have hB34 := Box.mk (show Below w3.heap.size w3 w4 from ((Below.refl w3.heap.size w3).drew).trans hB4)
    have K4 := Box.mk (K3.out.low hB34.out)
    have O4 := Box.mk (show Own w4 w3.heap.size 5 v4 l from own4)
    obtain ⟨a4, c4, rfl⟩ := own_sh O4.out
    obtain ⟨m4, hm4⟩ : ∃ m, l.length = m := ⟨_, rfl⟩
    rw [hm4] at O4 ⊢
    clear hm4 own4 hB4
    have D4 := Box.mk (show ∀ g, (Value.slice a4 m4 c4).ownBlock = some g → g ∉ kb p (.slice aL' nL' cL') (.slice aW nW cW) (ls ++ [(.slice ao n c, l)]) ws from fun g hg hx => by
      have h1 := (ownsRow_lt O4.out g hg).1
      have h6 := K3lt.out g hx
      omega)
    have hOW := Box.mk (show OwnS (w4.alloc (.cells #[.slice a4 m4 c4] 26)) base 26 (.slice aW nW cW) (ws.map (·.1)) from World.ownsRow.alloc K4.out.ownW _)
    have hcx := Box.mk (show (w4.alloc (.cells #[.slice a4 m4 c4] 26)).cell? ⟨w4.heap.size, 0, none⟩ = some (.slice a4 m4 c4) by rw [cell_of_row _ _ 0 _ _ _ (heap_new rfl)]; rfl)
    have hlb := Box.mk (show (ws.map (·.1)).length ≤ 1099511627776 by rw [List.length_map]; exact hn2.out)
    have hs4 := Box.mk (show w.heap.size ≤ w4.heap.size by have := gs3.out.size; have := hB34.out.size; omega)
    have hb1 := Box.mk (show base ≤ (w4.alloc (.cells #[.slice a4 m4 c4] 26)).heap.size by have := hbb.out; have := hs4.out; simp; omega)
    refine held_step 7 (by kernel_rfl) rfl (by rfl) (fun K hK => ?_)
    go_simp
    refine hK.out _ _ trivial (fun _ => ?_)
    clear hK K
    try simp only [Act.put, List.setIfInBounds_toArray, List.set_cons_zero, List.set_cons_succ]
    refine held_step 8 (by kernel_rfl) rfl (by rfl) (fun K hK => ?_)
    refine oper_of_list rfl ?_
    refine arm_append_s uLL iL (.tmp 18) (.tmp 21) rfl rfl base (.slice aW nW cW) (ws.map fun x : Ent => x.1) rfl hOW.out w4.heap.size a4 m4 c4 rfl hcx.out hlb.out hb1.out ?_
    intro vW' w5 own5 G5 at5
    refine ⟨rfl, ?_⟩
    refine hK.out _ _ trivial (fun _ => ?_)
    clear hK K
    try simp only [Act.put, List.setIfInBounds_toArray, List.set_cons_zero, List.set_cons_succ]
    have HW5 := Box.mk own5
    obtain ⟨aW', nW', cW', rfl, hnW'⟩ := HW5.out.sl
    have hneW : ∀ g, (Value.slice aW nW cW).ownBlock = some g → g ≠ p := fun g hg => kb_ne_p K4.out.dist (.inr (.inl hg))
    have hp4 := Box.mk (heap_lt K4.out.blk)
    have X5 := Box.mk (show w5.heap[p]? = some (.cells [.slice aL' nL' cL', .slice aW nW cW].toArray KT (0, 0)) from (G5.block p (by have := hp4.out; simp; omega) (fun e => hneW p e.symm rfl)).trans ((heap_alloc_old w4 _ hp4.out).trans K4.out.blk))
    have hA5 := Box.mk (show AtS w4.heap.size (.slice aW nW cW) (.slice aW' nW' cW') from at5.imp id fun h => ⟨_, h, by simp⟩)
    have g5 := Box.mk (show ∀ k, k < w4.heap.size → (Value.slice aW nW cW).ownBlock ≠ some k → w5.heap[k]? = w4.heap[k]? from fun k hk hne => (G5.block k (by simp; omega) hne.symm).trans (heap_alloc_old w4 _ hk))
    have g5s := Box.mk (show w4.heap.size ≤ w5.heap.size by have := G5.size; simp at this; omega)
    have gs5 := Box.mk (show Grew w w5 (kb p (.slice aL nL cL) (.slice aW nW cW) ls ws) from ((gs3.out.trans (Grew.low hB34.out []) fun g hg => by cases hg).trans (Grew.low (Below.refl_alloc w4 (.cells #[.slice a4 m4 c4] 26)) []) fun g hg => by cases hg).trans (Grew.of G5 (F := obs (.slice aW nW cW)) fun g hg => mem_obs.2 hg) fun g hg => .inl (mem_kb.2 (.inr (.inr (.inl (mem_obs.1 hg))))))
    clear own5 G5 at5 hOW hcx hb1 hlb hB34
    have hl1 := Box.mk (show 1 < [Value.slice aL' nL' cL', .slice aW nW cW].length by simp)
    refine held_take 9 (.pointer (some ⟨p, 0, none⟩)) rfl (by kernel_rfl) (by kernel_rfl) (by kernel_rfl) (held_pure (by rfl) (fun W => by go_simp)) trivial ?_
    try simp only [Act.put, List.setIfInBounds_toArray, List.set_cons_zero, List.set_cons_succ]
    refine held_take 10 (.pointer (some ⟨p, 1, none⟩)) rfl (by kernel_rfl) (by kernel_rfl) (by kernel_rfl) (held_pure (by rfl) (fun W => by go_simp)) trivial ?_
    try simp only [Act.put, List.setIfInBounds_toArray, List.set_cons_zero, List.set_cons_succ]
    refine held_step 11 (by kernel_rfl) rfl (by rfl) (fun K hK => ?_)
    refine oper_of_list rfl ?_
    refine arm_store_slice 34 (.tmp 24) (.tmp 22) rfl rfl p 1 rfl aW' nW' cW' rfl hi28.out [.slice aL' nL' cL', .slice aW nW cW] KT X5.out hl1.out ?_
    intro w6 g6 G6
    refine ⟨rfl, ?_⟩
    refine hK.out _ _ trivial (fun _ => ?_)
    clear hK K
    try simp only [Act.put]
    refine held_done (by kernel_rfl) ?_ _
    have hk6 := Keeper.addW (w' := w6) K4.out (own_lower O4.out (by have := gs3.out.size; have := hbb.out; omega)) D4.out (ownsRow_same HW5.out fun g hg => G6.block g (ownsRow_lt HW5.out g hg).2 (by
        intro e
        cases e
        rcases hA5.out with h | ⟨g', h, hge⟩
        · exact hneW p (h.symm.trans hg) rfl
        · rw [hg] at h; cases h; have := hp4.out; omega)) hA5.out g6.out (fun k hk h1 h2 => (G6.block k (by have := g5s.out; omega) (by simpa using h1)).trans (g5.out k hk h2))
    have gs6 := gs5.out.trans (Grew.of G6 (F := [p]) fun g hg => by cases hg; simp) fun g hg => .inl (mem_kb.2 (.inl (by simpa using hg)))
    clear g6 G6 X5 hA5 g5 HW5 hl1 hneW
    go_wp2
    go_end0
    exact ⟨⟨_, _, _, rfl, hk6.1, fun g hg => by
      rcases hk6.2 g hg with h | h | h
      · exact M3.out g h
      · have := (ownsRow_lt O4.out g h).1; have := gs3.out.size; exact .inr (.inr (by omega))
      · exact .inr (.inr (by have := hs4.out; omega))⟩, gs6⟩
  · go_simp
    refine (calls_box hcp.out).mono ?_
    rintro e w4 ⟨⟨⟨v4, rfl, own4⟩, hB4⟩⟩
    dsimp only
    refine hK.out _ _ trivial (fun _ => ?_)
    clear hK K
    try simp only [Act.put, List.setIfInBounds_toArray, List.set_cons_zero, List.set_cons_succ]
    have hB34 := Box.mk (show Below w3.heap.size w3 w4 from ((Below.refl w3.heap.size w3).drew).trans hB4)
    have K4 := Box.mk (K3.out.low hB34.out)
    have O4 := Box.mk (show Own w4 w3.heap.size 5 v4 l from own4)
    obtain ⟨a4, c4, rfl⟩ := own_sh O4.out
    obtain ⟨m4, hm4⟩ : ∃ m, l.length = m := ⟨_, rfl⟩
    rw [hm4] at O4 ⊢
    clear hm4 own4 hB4
    have D4 := Box.mk (show ∀ g, (Value.slice a4 m4 c4).ownBlock = some g → g ∉ kb p (.slice aL' nL' cL') (.slice aW nW cW) (ls ++ [(.slice ao n c, l)]) ws from fun g hg hx => by
      have h1 := (ownsRow_lt O4.out g hg).1
      have h6 := K3lt.out g hx
      omega)
    have hOW := Box.mk (show OwnS (w4.alloc (.cells #[.slice a4 m4 c4] 26)) base 26 (.slice aW nW cW) (ws.map (·.1)) from World.ownsRow.alloc K4.out.ownW _)
    have hcx := Box.mk (show (w4.alloc (.cells #[.slice a4 m4 c4] 26)).cell? ⟨w4.heap.size, 0, none⟩ = some (.slice a4 m4 c4) by rw [cell_of_row _ _ 0 _ _ _ (heap_new rfl)]; rfl)
    have hlb := Box.mk (show (ws.map (·.1)).length ≤ 1099511627776 by rw [List.length_map]; exact hn2.out)
    have hs4 := Box.mk (show w.heap.size ≤ w4.heap.size by have := gs3.out.size; have := hB34.out.size; omega)
    have hb1 := Box.mk (show base ≤ (w4.alloc (.cells #[.slice a4 m4 c4] 26)).heap.size by have := hbb.out; have := hs4.out; simp; omega)
    have C4 := Box.mk K4.out.blk
    refine held_step2 4 7 (by kernel_rfl) rfl rfl (by rfl) (by rfl) (fun K hK => ?_) (fun K hK => ?_)
    · have c1 : w4.cell? ⟨p, 1, none⟩ = some (.slice aW nW cW) := by rw [cell_of_row _ p 1 _ _ _ C4.out]; rfl
      go_simp
      refine hK.out _ _ trivial (fun _ => ?_)
      clear hK K c1
      try simp only [Act.put, List.setIfInBounds_toArray, List.set_cons_zero, List.set_cons_succ]
      refine held_step 7 (by kernel_rfl) rfl (by rfl) (fun K hK => ?_)
      go_simp
      refine hK.out _ _ trivial (fun _ => ?_)
      clear hK K
      try simp only [Act.put, List.setIfInBounds_toArray, List.set_cons_zero, List.set_cons_succ]
      refine held_step 8 (by kernel_rfl) rfl (by rfl) (fun K hK => ?_)
      refine oper_of_list rfl ?_
      refine arm_append_s uLL iL (.tmp 18) (.tmp 21) rfl rfl base (.slice aW nW cW) (ws.map fun x : Ent => x.1) rfl hOW.out w4.heap.size a4 m4 c4 rfl hcx.out hlb.out hb1.out ?_
      intro vW' w5 own5 G5 at5
      refine ⟨rfl, ?_⟩
      refine hK.out _ _ trivial (fun _ => ?_)
      clear hK K
      try simp only [Act.put, List.setIfInBounds_toArray, List.set_cons_zero, List.set_cons_succ]
      have HW5 := Box.mk own5
      obtain ⟨aW', nW', cW', rfl, hnW'⟩ := HW5.out.sl
      have hneW : ∀ g, (Value.slice aW nW cW).ownBlock = some g → g ≠ p := fun g hg => kb_ne_p K4.out.dist (.inr (.inl hg))
      have hp4 := Box.mk (heap_lt K4.out.blk)
      have X5 := Box.mk (show w5.heap[p]? = some (.cells [.slice aL' nL' cL', .slice aW nW cW].toArray KT (0, 0)) from (G5.block p (by have := hp4.out; simp; omega) (fun e => hneW p e.symm rfl)).trans ((heap_alloc_old w4 _ hp4.out).trans K4.out.blk))
      have hA5 := Box.mk (show AtS w4.heap.size (.slice aW nW cW) (.slice aW' nW' cW') from at5.imp id fun h => ⟨_, h, by simp⟩)
      have g5 := Box.mk (show ∀ k, k < w4.heap.size → (Value.slice aW nW cW).ownBlock ≠ some k → w5.heap[k]? = w4.heap[k]? from fun k hk hne => (G5.block k (by simp; omega) hne.symm).trans (heap_alloc_old w4 _ hk))
      have g5s := Box.mk (show w4.heap.size ≤ w5.heap.size by have := G5.size; simp at this; omega)
      have gs5 := Box.mk (show Grew w w5 (kb p (.slice aL nL cL) (.slice aW nW cW) ls ws) from ((gs3.out.trans (Grew.low hB34.out []) fun g hg => by cases hg).trans (Grew.low (Below.refl_alloc w4 (.cells #[.slice a4 m4 c4] 26)) []) fun g hg => by cases hg).trans (Grew.of G5 (F := obs (.slice aW nW cW)) fun g hg => mem_obs.2 hg) fun g hg => .inl (mem_kb.2 (.inr (.inr (.inl (mem_obs.1 hg))))))
      clear own5 G5 at5 hOW hcx hb1 hlb hB34
      have hl1 := Box.mk (show 1 < [Value.slice aL' nL' cL', .slice aW nW cW].length by simp)
      refine held_take 9 (.pointer (some ⟨p, 0, none⟩)) rfl (by kernel_rfl) (by kernel_rfl) (by kernel_rfl) (held_pure (by rfl) (fun W => by go_simp)) trivial ?_
      try simp only [Act.put, List.setIfInBounds_toArray, List.set_cons_zero, List.set_cons_succ]
      refine held_take 10 (.pointer (some ⟨p, 1, none⟩)) rfl (by kernel_rfl) (by kernel_rfl) (by kernel_rfl) (held_pure (by rfl) (fun W => by go_simp)) trivial ?_
      try simp only [Act.put, List.setIfInBounds_toArray, List.set_cons_zero, List.set_cons_succ]
      refine held_step 11 (by kernel_rfl) rfl (by rfl) (fun K hK => ?_)
      refine oper_of_list rfl ?_
      refine arm_store_slice 34 (.tmp 24) (.tmp 22) rfl rfl p 1 rfl aW' nW' cW' rfl hi28.out [.slice aL' nL' cL', .slice aW nW cW] KT X5.out hl1.out ?_
      intro w6 g6 G6
      refine ⟨rfl, ?_⟩
      refine hK.out _ _ trivial (fun _ => ?_)
      clear hK K
      try simp only [Act.put]
      refine held_done (by kernel_rfl) ?_ _
      have hk6 := Keeper.addW (w' := w6) K4.out (own_lower O4.out (by have := gs3.out.size; have := hbb.out; omega)) D4.out (ownsRow_same HW5.out fun g hg => G6.block g (ownsRow_lt HW5.out g hg).2 (by
          intro e
          cases e
          rcases hA5.out with h | ⟨g', h, hge⟩
          · exact hneW p (h.symm.trans hg) rfl
          · rw [hg] at h; cases h; have := hp4.out; omega)) hA5.out g6.out (fun k hk h1 h2 => (G6.block k (by have := g5s.out; omega) (by simpa using h1)).trans (g5.out k hk h2))
      have gs6 := gs5.out.trans (Grew.of G6 (F := [p]) fun g hg => by cases hg; simp) fun g hg => .inl (mem_kb.2 (.inl (by simpa using hg)))
      clear g6 G6 X5 hA5 g5 HW5 hl1 hneW
      go_wp2
      go_end0
      exact ⟨⟨_, _, _, rfl, hk6.1, fun g hg => by
        rcases hk6.2 g hg with h | h | h
        · exact M3.out g h
        · have := (ownsRow_lt O4.out g h).1; have := gs3.out.size; exact .inr (.inr (by omega))
        · exact .inr (.inr (by have := hs4.out; omega))⟩, gs6⟩
    · go_simp
      refine hK.out _ _ trivial (fun _ => ?_)
      clear hK K
      try simp only [Act.put, List.setIfInBounds_toArray, List.set_cons_zero, List.set_cons_succ]
      have C5 := Box.mk (heap_old (o := .cells #[.slice a4 m4 c4] 26) C4.out)
      refine held_step 4 (by kernel_rfl) rfl (by rfl) (fun K hK => ?_)
      have c1 : (w4.alloc (.cells #[.slice a4 m4 c4] 26)).cell? ⟨p, 1, none⟩ = some (.slice aW nW cW) := by rw [cell_of_row _ p 1 _ _ _ C5.out]; rfl
      go_simp
      refine hK.out _ _ trivial (fun _ => ?_)
      clear hK K c1
      try simp only [Act.put, List.setIfInBounds_toArray, List.set_cons_zero, List.set_cons_succ]
      refine held_step 8 (by kernel_rfl) rfl (by rfl) (fun K hK => ?_)
      refine oper_of_list rfl ?_
      refine arm_append_s uLL iL (.tmp 18) (.tmp 21) rfl rfl base (.slice aW nW cW) (ws.map fun x : Ent => x.1) rfl hOW.out w4.heap.size a4 m4 c4 rfl hcx.out hlb.out hb1.out ?_
      intro vW' w5 own5 G5 at5
      refine ⟨rfl, ?_⟩
      refine hK.out _ _ trivial (fun _ => ?_)
      clear hK K
      try simp only [Act.put, List.setIfInBounds_toArray, List.set_cons_zero, List.set_cons_succ]
      have HW5 := Box.mk own5
      obtain ⟨aW', nW', cW', rfl, hnW'⟩ := HW5.out.sl
      have hneW : ∀ g, (Value.slice aW nW cW).ownBlock = some g → g ≠ p := fun g hg => kb_ne_p K4.out.dist (.inr (.inl hg))
      have hp4 := Box.mk (heap_lt K4.out.blk)
      have X5 := Box.mk (show w5.heap[p]? = some (.cells [.slice aL' nL' cL', .slice aW nW cW].toArray KT (0, 0)) from (G5.block p (by have := hp4.out; simp; omega) (fun e => hneW p e.symm rfl)).trans ((heap_alloc_old w4 _ hp4.out).trans K4.out.blk))
      have hA5 := Box.mk (show AtS w4.heap.size (.slice aW nW cW) (.slice aW' nW' cW') from at5.imp id fun h => ⟨_, h, by simp⟩)
      have g5 := Box.mk (show ∀ k, k < w4.heap.size → (Value.slice aW nW cW).ownBlock ≠ some k → w5.heap[k]? = w4.heap[k]? from fun k hk hne => (G5.block k (by simp; omega) hne.symm).trans (heap_alloc_old w4 _ hk))
      have g5s := Box.mk (show w4.heap.size ≤ w5.heap.size by have := G5.size; simp at this; omega)
      have gs5 := Box.mk (show Grew w w5 (kb p (.slice aL nL cL) (.slice aW nW cW) ls ws) from ((gs3.out.trans (Grew.low hB34.out []) fun g hg => by cases hg).trans (Grew.low (Below.refl_alloc w4 (.cells #[.slice a4 m4 c4] 26)) []) fun g hg => by cases hg).trans (Grew.of G5 (F := obs (.slice aW nW cW)) fun g hg => mem_obs.2 hg) fun g hg => .inl (mem_kb.2 (.inr (.inr (.inl (mem_obs.1 hg))))))
      clear own5 G5 at5 hOW hcx hb1 hlb hB34
      have hl1 := Box.mk (show 1 < [Value.slice aL' nL' cL', .slice aW nW cW].length by simp)
      refine held_take 9 (.pointer (some ⟨p, 0, none⟩)) rfl (by kernel_rfl) (by kernel_rfl) (by kernel_rfl) (held_pure (by rfl) (fun W => by go_simp)) trivial ?_
      try simp only [Act.put, List.setIfInBounds_toArray, List.set_cons_zero, List.set_cons_succ]
      refine held_take 10 (.pointer (some ⟨p, 1, none⟩)) rfl (by kernel_rfl) (by kernel_rfl) (by kernel_rfl) (held_pure (by rfl) (fun W => by go_simp)) trivial ?_
      try simp only [Act.put, List.setIfInBounds_toArray, List.set_cons_zero, List.set_cons_succ]
      refine held_step 11 (by kernel_rfl) rfl (by rfl) (fun K hK => ?_)
      refine oper_of_list rfl ?_
      refine arm_store_slice 34 (.tmp 24) (.tmp 22) rfl rfl p 1 rfl aW' nW' cW' rfl hi28.out [.slice aL' nL' cL', .slice aW nW cW] KT X5.out hl1.out ?_
      intro w6 g6 G6
      refine ⟨rfl, ?_⟩
      refine hK.out _ _ trivial (fun _ => ?_)
      clear hK K
      try simp only [Act.put]
      refine held_done (by kernel_rfl) ?_ _
      have hk6 := Keeper.addW (w' := w6) K4.out (own_lower O4.out (by have := gs3.out.size; have := hbb.out; omega)) D4.out (ownsRow_same HW5.out fun g hg => G6.block g (ownsRow_lt HW5.out g hg).2 (by
          intro e
          cases e
          rcases hA5.out with h | ⟨g', h, hge⟩
          · exact hneW p (h.symm.trans hg) rfl
          · rw [hg] at h; cases h; have := hp4.out; omega)) hA5.out g6.out (fun k hk h1 h2 => (G6.block k (by have := g5s.out; omega) (by simpa using h1)).trans (g5.out k hk h2))
      have gs6 := gs5.out.trans (Grew.of G6 (F := [p]) fun g hg => by cases hg; simp) fun g hg => .inl (mem_kb.2 (.inl (by simpa using hg)))
      clear g6 G6 X5 hA5 g5 HW5 hl1 hneW
      go_wp2
      go_end0
      exact ⟨⟨_, _, _, rfl, hk6.1, fun g hg => by
        rcases hk6.2 g hg with h | h | h
        · exact M3.out g h
        · have := (ownsRow_lt O4.out g h).1; have := gs3.out.size; exact .inr (.inr (by omega))
        · exact .inr (.inr (by have := hs4.out; omega))⟩, gs6⟩
end Go.Proofs.Ytocfiabbhcgegaa.J
