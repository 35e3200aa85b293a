/- Texts joined: Keep, KeepU, KeepB, KeepE. -/
import Derived.Test.YtehnnnohoaapdaaFF19
import Derived.Test.YtehnnnohoaapdaaFF05
import Derived.ArgAppend
/- A keeper of lists: the walks of mark, keep. -/
namespace Go.Proofs.Ytehnnnohoaapdaa
set_option linter.unusedSectionVars false
set_option linter.unusedSimpArgs false
open Go Go.RowKit
set_option linter.unusedVariables false
section
variable {P : Program}
theorem oper_mono2 {o : Oper} {a : Act} {w : World} {K K' : Act → World → Prop} {Q Q' : Exit → Act → World → Prop} (h : ∀ a w, K a w → K' a w) (hq : ∀ e a w, e ≠ .normal → Q e a w → Q' e a w)
    (hh : o.wp P a w K Q) : o.wp P a w K' Q' := by
  have hl : LetsOut Q → LetsOut Q' := fun ⟨a, w, x⟩ => ⟨a, w, hq _ _ _ (by intro e; cases e) x⟩
  unfold Oper.wp at *
  generalize (execOp a.eval o).run P w = r at *
  cases r with
  | ok n w' =>
    cases n <;> simp only [Oper.upon] at hh ⊢ <;>
      first
        | exact h _ _ hh
        | exact Calls.mono hh (fun e w'' he => by cases e <;> first | exact h _ _ he | exact hq _ _ _ (by intro e; cases e) he | exact hl he)
        | exact Rows.mono hh (fun _ _ he => h _ _ he)
  | halt x w' => cases x <;> simp only [Oper.upon] at hh ⊢ <;> first | exact hh | exact hq _ _ _ (by intro e; cases e) hh | exact hl hh
theorem oper_of_list {o : Oper} {a : Act} {w : World} {K : Act → World → Prop} {Q : Exit → Act → World → Prop} (hg : o.guard = none)
    (h : wpList P #[] (fun e a w => e = .normal ∧ K a w) [o] a w) : o.wp P a w K Q := by
  have hw : Region.wanted o (yielded #[] a.tmps) = true := by simp [Region.wanted, hg]
  unfold wpList at h
  rw [if_pos hw] at h
  rcases h with h | ⟨_, a', w', h, _⟩
  · exact oper_mono2 (fun a w h => h.2) (fun e a w h1 h2 => absurd h2.1 h1) h
  · cases h
end
def markB (i k : Nat) : UInt8 := UInt8.ofNat (37 * i + 11 * k + 91 * (i / 256) + 5 * (k / 256))
set_option maxHeartbeats 400000 in
theorem mark_any (i k : Nat) (hi : i ≤ 140737488355328) (hk : k ≤ 140737488355328) (w : World) :
    Calls Try.prog 53 #[.int .i64 i, .int .i64 k] w fun e w' => e = .returned (.int .u8 ((markB i k).toNat : Int)) ∧ w' = w := by
  have h : ((markB i k).toNat : Int) = (37 * (i : Int) + 11 * (k : Int) + 91 * ((i : Int) / 256) + 5 * ((k : Int) / 256)) % 256 := by
    unfold markB
    rw [UInt8.toNat_ofNat']
    omega
  rw [h]
  go_enter Try.func53, Try.ntmps53
  go_wp2
  go_ret
  exact ⟨rfl, rfl⟩
abbrev KT : TypeId := 71
theorem uLL : Try.prog.underlying 45 = some (.slice 22) := Try.underlying45
theorem iL : (Try.prog.info? 22).map (fun i => (i.zero, i.size, i.bytes)) = some (some (.slice none 0 0), 1, 24) := by kernel_rfl
theorem own_lower {w : World} {a b size : Nat} {e : TypeId} {v : Value} {n : Nat} {xs : List Value} (h : w.ownsRow b e size v n xs) (hab : a ≤ b) : w.ownsRow a e size v n xs := by
  obtain ⟨hl, h⟩ := h
  refine ⟨hl, ?_⟩
  rcases h with h | ⟨g, cap, cur, rfl, h1, h2⟩
  · exact .inl h
  · exact .inr ⟨g, cap, cur, rfl, Nat.le_trans hab h1, h2⟩
theorem OwnS.sl {w : World} {base : Nat} {e : TypeId} {v : Value} {vs : List Value} (h : OwnS w base e v vs) : ∃ ao n c, v = .slice ao n c ∧ Box (n = vs.length ∧ n ≤ c ∧ c ≤ maxLen) := by
  obtain ⟨ao, c, rfl, h1, h2, _⟩ := h.at
  exact ⟨_, _, _, rfl, ⟨rfl, h2, h1⟩⟩
theorem own_rd {w : World} {base : Nat} {e : TypeId} {ao : Option Addr} {n c : Nat} {l : List UInt8} (h : Own w base e (.slice ao n c) l) : Row w ao n l ∧ l.length = n := by
  obtain ⟨ao2, cap2, hv, hr2, _⟩ := h.open
  rw [Value.slice.injEq] at hv
  obtain ⟨e1, e2, e3⟩ := hv
  rw [e1, e2]; exact ⟨hr2, rfl⟩
theorem own_sh {w : World} {base : Nat} {e : TypeId} {v : Value} {l : List UInt8} (h : Own w base e v l) : ∃ ao c, v = .slice ao l.length c := by
  obtain ⟨ao2, cap2, hv, _⟩ := h.open
  exact ⟨_, _, hv⟩
set_option maxRecDepth 100000 in
set_option maxHeartbeats 4000000 in
theorem keep_any (base p : Nat) (vL vW : Value) (ls ws : List Ent) (ao : Option Addr) (n c : Nat) (l : List UInt8) (w : World) (hk : Keeper KT 22 5 w base p vL vW ls ws) (ho : Own w base 5 (.slice ao n c) l)
    (hd : ∀ g, (Value.slice ao n c).ownBlock = some g → g ∉ kb p vL vW ls ws) (hl : l.length ≤ 140737488351400) (hb : base ≤ w.heap.size) (hn : ls.length ≤ 1099511627776) (hn' : ws.length ≤ 1099511627776) :
    Calls Try.prog 31 #[.pointer (some ⟨p, 0, none⟩), .slice ao n c] w fun e w' =>
      (∃ vL' vW' v', e = .returned (.tuple #[]) ∧ Keeper KT 22 5 w' base p vL' vW' (ls ++ [(.slice ao n c, l)]) (ws ++ [(v', l)]) ∧
        ∀ g ∈ kb p vL' vW' (ls ++ [(.slice ao n c, l)]) (ws ++ [(v', l)]), g ∈ kb p vL vW ls ws ∨ (Value.slice ao n c).ownBlock = some g ∨ w.heap.size ≤ g) ∧ Grew w w' (kb p vL vW ls ws) := by
  obtain ⟨aL, nL, cL, rfl, hnL⟩ := hk.ownL.sl
  obtain ⟨aW, nW, cW, rfl, hnW⟩ := hk.ownW.sl
  have hi28 : Box ((Try.prog.info? 45).map (·.size) = some 1) := ⟨by kernel_rfl⟩
  have HK := Box.mk hk
  have HO := Box.mk ho
  have HD := Box.mk hd
  have c0 : w.cell? ⟨p, 0, none⟩ = some (.slice aL nL cL) := by rw [cell_of_row w p 0 _ _ _ hk.blk]; rfl
  have hOL := Box.mk (show OwnS (w.alloc (.cells #[.slice ao n c] 22)) base 22 (.slice aL nL cL) (ls.map (·.1)) from World.ownsRow.alloc hk.ownL _)
  have hcx := Box.mk (show (w.alloc (.cells #[.slice ao n c] 22)).cell? ⟨w.heap.size, 0, none⟩ = some (.slice ao n c) by rw [cell_of_row _ _ 0 _ _ _ (heap_new rfl)]; rfl)
  have hlb := Box.mk (show (ls.map (·.1)).length ≤ 1099511627776 by rw [List.length_map]; exact hn)
  have hb1 := Box.mk (show base ≤ (w.alloc (.cells #[.slice ao n c] 22)).heap.size by simp; omega)
  have hbb := Box.mk hb
  have hn2 := Box.mk hn'
  have hll := Box.mk hl
  have hpl := Box.mk (heap_lt hk.blk)
  clear hk ho hd hb hn hn' hl
  go_enter Try.func31, Try.ntmps31
  go_wp2_with ((with_reducible refine arm_append_s uLL iL (.tmp 8) (.tmp 10) ?_ rfl base _ (ls.map (·.1)) ?_ hOL.out w.heap.size ao n c ?_ hcx.out ?_ hb1.out ?_); rfl; rfl; rfl; exact hlb.out)
  intro vL' w2 own2 G2 at2
  have HL2 := Box.mk own2
  obtain ⟨aL', nL', cL', rfl, hnL'⟩ := HL2.out.sl
  have hneL : ∀ g, (Value.slice aL nL cL).ownBlock = some g → g ≠ p := fun g hg => kb_ne_p HK.out.dist (.inl hg)
  have X2 := Box.mk (show w2.heap[p]? = some (.cells [.slice aL nL cL, .slice aW nW cW].toArray KT (0, 0)) from (G2.block p (by have := hpl.out; simp; omega) (fun e => hneL p e.symm rfl)).trans ((heap_alloc_old w _ hpl.out).trans HK.out.blk))
  have hA2 := Box.mk (show AtS w.heap.size (.slice aL nL cL) (.slice aL' nL' cL') from at2.imp id fun h => ⟨_, h, by simp⟩)
  have g2 := Box.mk (show ∀ k, k < w.heap.size → (Value.slice aL nL cL).ownBlock ≠ some k → w2.heap[k]? = w.heap[k]? from fun k hk hne => (G2.block k (by simp; omega) hne.symm).trans (heap_alloc_old w _ hk))
  have gs2 := Box.mk (show Grew w w2 (kb p (.slice aL nL cL) (.slice aW nW cW) ls ws) from (Grew.low (Below.refl_alloc w (.cells #[.slice ao n c] 22)) _).trans (Grew.of G2 (F := obs (.slice aL nL cL)) fun g hg => mem_obs.2 hg) fun g hg => .inl (mem_kb.2 (.inr (.inl (mem_obs.1 hg)))))
  clear own2 G2 at2 hOL hcx hb1 hlb c0
  have hl0 := Box.mk (show 0 < [Value.slice aL nL cL, .slice aW nW cW].length by simp)
  go_wp2_with ((with_reducible refine arm_store_slice 45 (.tmp 13) (.tmp 11) ?_ rfl p 0 ?_ aL' nL' cL' ?_ hi28.out [.slice aL nL cL, .slice aW nW cW] KT X2.out hl0.out ?_); rfl; rfl; rfl)
  intro w3 g3 G3
  have hk3 := Keeper.addL (w' := w3) HK.out HO.out HD.out (ownsRow_same HL2.out fun g hg => G3.block g (ownsRow_lt HL2.out g hg).2 (by
      intro e
      cases e
      rcases hA2.out with h | ⟨g', h, hge⟩
      · exact hneL p (h.symm.trans hg) rfl
      · rw [hg] at h; cases h; have := hpl.out; omega)) hA2.out g3.out (fun k hk h1 h2 => (G3.block k (by have := gs2.out.size; omega) (by simpa using h1)).trans (g2.out k hk h2))
  have K3 := Box.mk hk3.1
  have M3 := Box.mk hk3.2
  have K3lt := Box.mk (fun g hg => (hk3.1.lt g hg).2)
  have gs3 := Box.mk (gs2.out.trans (Grew.of G3 (F := [p]) fun g hg => by cases hg; simp) fun g hg => .inl (mem_kb.2 (.inl (by simpa using hg))))
  clear hk3 g3 G3 g2 gs2 X2 hA2 HL2 hneL hl0
  have hrow := Box.mk (own_rd (K3.out.eachL (.slice ao n c, l) (by simp)))
  have hcp := Box.mk (copyBytes_any ao n c l w3.drew (hrow.out.1.drewN 1) (by rw [← hrow.out.2]; exact hll.out))
  have C1 := Box.mk (show w3.drew.heap[p]? = some (.cells #[.slice aL' nL' cL', .slice aW nW cW] KT (0, 0)) from K3.out.blk)
  go_wp2_with fail
  refine held_begin (fun _ => True) (by kernel_rfl) trivial (fun _ => ?_)
  refine held_take 0 (.pointer (some ⟨p, 0, none⟩)) rfl (by kernel_rfl) (by kernel_rfl) (by kernel_rfl) (held_move (by rfl) (.tmp 0) rfl rfl) trivial ?_
  try simp only [Act.put, z1, z2, z3]
  refine held_take 1 (.pointer (some ⟨p, 0, none⟩)) rfl (by kernel_rfl) (by kernel_rfl) (by kernel_rfl) (held_move (by rfl) (.tmp 0) rfl rfl) trivial ?_
  try simp only [Act.put, z1, z2, z3]
  refine held_take 2 (.pointer (some ⟨p, 0, none⟩)) rfl (by kernel_rfl) (by kernel_rfl) (by kernel_rfl) (held_pure (by rfl) (fun W => by go_simp)) trivial ?_
  try simp only [Act.put, z1, z2, z3]
  refine held_take 3 (.pointer (some ⟨p, 1, none⟩)) rfl (by kernel_rfl) (by kernel_rfl) (by kernel_rfl) (held_pure (by rfl) (fun W => by go_simp)) trivial ?_
  try simp only [Act.put, z1, z2, z3]
  refine held_take 5 (.slice ao n c) rfl (by kernel_rfl) (by kernel_rfl) (by kernel_rfl) (held_move (by rfl) (.tmp 1) rfl rfl) trivial ?_
  try simp only [Act.put, z1, z2, z3]
  refine held_step2 4 6 (by kernel_rfl) rfl rfl (by rfl) (by rfl) (fun K hK => ?_) (fun K hK => ?_)
  · have c1 : w3.drew.cell? ⟨p, 1, none⟩ = some (.slice aW nW cW) := by rw [cell_of_row _ p 1 _ _ _ C1.out]; rfl
    go_simp
    refine hK.out _ _ trivial (fun _ => ?_)
    clear hK K c1
    try simp only [Act.put, z1, z2, z3]
    refine held_step 6 (by kernel_rfl) rfl (by rfl) (fun K hK => ?_)
    go_simp
    refine (calls_box hcp.out).mono ?_
    rintro e w4 ⟨⟨⟨v4, rfl, own4⟩, hB4⟩⟩
    dsimp only
    refine hK.out _ _ trivial (fun _ => ?_)
    clear hK K
    try simp only [Act.put, z1, z2, z3]
    have hB34 := Box.mk (show Below w3.heap.size w3 w4 from ((Below.refl w3.heap.size w3).drew).trans hB4)
    have K4 := Box.mk (K3.out.low hB34.out)
    have O4 := Box.mk (show Own w4 w3.heap.size 5 v4 l from own4)
    obtain ⟨a4, c4, rfl⟩ := own_sh O4.out
    obtain ⟨m4, hm4⟩ : ∃ m, l.length = m := ⟨_, rfl⟩
    rw [hm4] at O4 ⊢
    clear hm4 own4 hB4
    have D4 := Box.mk (show ∀ g, (Value.slice a4 m4 c4).ownBlock = some g → g ∉ kb p (.slice aL' nL' cL') (.slice aW nW cW) (ls ++ [(.slice ao n c, l)]) ws from fun g hg hx => by
      have h1 := (ownsRow_lt O4.out g hg).1
      have h6 := K3lt.out g hx
      omega)
    have hOW := Box.mk (show OwnS (w4.alloc (.cells #[.slice a4 m4 c4] 22)) base 22 (.slice aW nW cW) (ws.map (·.1)) from World.ownsRow.alloc K4.out.ownW _)
    have hcx := Box.mk (show (w4.alloc (.cells #[.slice a4 m4 c4] 22)).cell? ⟨w4.heap.size, 0, none⟩ = some (.slice a4 m4 c4) by rw [cell_of_row _ _ 0 _ _ _ (heap_new rfl)]; rfl)
    have hlb := Box.mk (show (ws.map (·.1)).length ≤ 1099511627776 by rw [List.length_map]; exact hn2.out)
    have hs4 := Box.mk (show w.heap.size ≤ w4.heap.size by have := gs3.out.size; have := hB34.out.size; omega)
    have hb1 := Box.mk (show base ≤ (w4.alloc (.cells #[.slice a4 m4 c4] 22)).heap.size by have := hbb.out; have := hs4.out; simp; omega)
    refine held_step 7 (by kernel_rfl) rfl (by rfl) (fun K hK => ?_)
    go_simp
    refine hK.out _ _ trivial (fun _ => ?_)
    clear hK K
    try simp only [Act.put, z1, z2, z3]
    refine held_step 8 (by kernel_rfl) rfl (by rfl) (fun K hK => ?_)
    refine oper_of_list rfl ?_
    refine arm_append_s uLL iL (.tmp 18) (.tmp 21) rfl rfl base (.slice aW nW cW) (ws.map fun x : Ent => x.1) rfl hOW.out w4.heap.size a4 m4 c4 rfl hcx.out hlb.out hb1.out ?_
    intro vW' w5 own5 G5 at5
    refine ⟨rfl, ?_⟩
    refine hK.out _ _ trivial (fun _ => ?_)
    clear hK K
    try simp only [Act.put, z1, z2, z3]
    have HW5 := Box.mk own5
    obtain ⟨aW', nW', cW', rfl, hnW'⟩ := HW5.out.sl
    have hneW : ∀ g, (Value.slice aW nW cW).ownBlock = some g → g ≠ p := fun g hg => kb_ne_p K4.out.dist (.inr (.inl hg))
    have hp4 := Box.mk (heap_lt K4.out.blk)
    have X5 := Box.mk (show w5.heap[p]? = some (.cells [.slice aL' nL' cL', .slice aW nW cW].toArray KT (0, 0)) from (G5.block p (by have := hp4.out; simp; omega) (fun e => hneW p e.symm rfl)).trans ((heap_alloc_old w4 _ hp4.out).trans K4.out.blk))
    have hA5 := Box.mk (show AtS w4.heap.size (.slice aW nW cW) (.slice aW' nW' cW') from at5.imp id fun h => ⟨_, h, by simp⟩)
    have g5 := Box.mk (show ∀ k, k < w4.heap.size → (Value.slice aW nW cW).ownBlock ≠ some k → w5.heap[k]? = w4.heap[k]? from fun k hk hne => (G5.block k (by simp; omega) hne.symm).trans (heap_alloc_old w4 _ hk))
    have g5s := Box.mk (show w4.heap.size ≤ w5.heap.size by have := G5.size; simp at this; omega)
    have gs5 := Box.mk (show Grew w w5 (kb p (.slice aL nL cL) (.slice aW nW cW) ls ws) from ((gs3.out.trans (Grew.low hB34.out []) fun g hg => by cases hg).trans (Grew.low (Below.refl_alloc w4 (.cells #[.slice a4 m4 c4] 22)) []) fun g hg => by cases hg).trans (Grew.of G5 (F := obs (.slice aW nW cW)) fun g hg => mem_obs.2 hg) fun g hg => .inl (mem_kb.2 (.inr (.inr (.inl (mem_obs.1 hg))))))
    clear own5 G5 at5 hOW hcx hb1 hlb hB34
    have hl1 := Box.mk (show 1 < [Value.slice aL' nL' cL', .slice aW nW cW].length by simp)
    refine held_take 9 (.pointer (some ⟨p, 0, none⟩)) rfl (by kernel_rfl) (by kernel_rfl) (by kernel_rfl) (held_pure (by rfl) (fun W => by go_simp)) trivial ?_
    try simp only [Act.put, z1, z2, z3]
    refine held_take 10 (.pointer (some ⟨p, 1, none⟩)) rfl (by kernel_rfl) (by kernel_rfl) (by kernel_rfl) (held_pure (by rfl) (fun W => by go_simp)) trivial ?_
    try simp only [Act.put, z1, z2, z3]
    refine held_step 11 (by kernel_rfl) rfl (by rfl) (fun K hK => ?_)
    refine oper_of_list rfl ?_
    refine arm_store_slice 45 (.tmp 24) (.tmp 22) rfl rfl p 1 rfl aW' nW' cW' rfl hi28.out [.slice aL' nL' cL', .slice aW nW cW] KT X5.out hl1.out ?_
    intro w6 g6 G6
    refine ⟨rfl, ?_⟩
    refine hK.out _ _ trivial (fun _ => ?_)
    clear hK K
    try simp only [Act.put]
    refine held_done (by kernel_rfl) ?_ _
    have hk6 := Keeper.addW (w' := w6) K4.out (own_lower O4.out (by have := gs3.out.size; have := hbb.out; omega)) D4.out (ownsRow_same HW5.out fun g hg => G6.block g (ownsRow_lt HW5.out g hg).2 (by
        intro e
        cases e
        rcases hA5.out with h | ⟨g', h, hge⟩
        · exact hneW p (h.symm.trans hg) rfl
        · rw [hg] at h; cases h; have := hp4.out; omega)) hA5.out g6.out (fun k hk h1 h2 => (G6.block k (by have := g5s.out; omega) (by simpa using h1)).trans (g5.out k hk h2))
    have gs6 := gs5.out.trans (Grew.of G6 (F := [p]) fun g hg => by cases hg; simp) fun g hg => .inl (mem_kb.2 (.inl (by simpa using hg)))
    clear g6 G6 X5 hA5 g5 HW5 hl1 hneW
    go_wp2
    go_end0
    exact ⟨⟨_, _, _, rfl, hk6.1, fun g hg => by
      rcases hk6.2 g hg with h | h | h
      · exact M3.out g h
      · have := (ownsRow_lt O4.out g h).1; have := gs3.out.size; exact .inr (.inr (by omega))
      · exact .inr (.inr (by have := hs4.out; omega))⟩, gs6⟩
  · go_simp
    refine (calls_box hcp.out).mono ?_
    rintro e w4 ⟨⟨⟨v4, rfl, own4⟩, hB4⟩⟩
    dsimp only
    refine hK.out _ _ trivial (fun _ => ?_)
    clear hK K
    try simp only [Act.put, z1, z2, z3]
    have hB34 := Box.mk (show Below w3.heap.size w3 w4 from ((Below.refl w3.heap.size w3).drew).trans hB4)
    have K4 := Box.mk (K3.out.low hB34.out)
    have O4 := Box.mk (show Own w4 w3.heap.size 5 v4 l from own4)
    obtain ⟨a4, c4, rfl⟩ := own_sh O4.out
    obtain ⟨m4, hm4⟩ : ∃ m, l.length = m := ⟨_, rfl⟩
    rw [hm4] at O4 ⊢
    clear hm4 own4 hB4
    have D4 := Box.mk (show ∀ g, (Value.slice a4 m4 c4).ownBlock = some g → g ∉ kb p (.slice aL' nL' cL') (.slice aW nW cW) (ls ++ [(.slice ao n c, l)]) ws from fun g hg hx => by
      have h1 := (ownsRow_lt O4.out g hg).1
      have h6 := K3lt.out g hx
      omega)
    have hOW := Box.mk (show OwnS (w4.alloc (.cells #[.slice a4 m4 c4] 22)) base 22 (.slice aW nW cW) (ws.map (·.1)) from World.ownsRow.alloc K4.out.ownW _)
    have hcx := Box.mk (show (w4.alloc (.cells #[.slice a4 m4 c4] 22)).cell? ⟨w4.heap.size, 0, none⟩ = some (.slice a4 m4 c4) by rw [cell_of_row _ _ 0 _ _ _ (heap_new rfl)]; rfl)
    have hlb := Box.mk (show (ws.map (·.1)).length ≤ 1099511627776 by rw [List.length_map]; exact hn2.out)
    have hs4 := Box.mk (show w.heap.size ≤ w4.heap.size by have := gs3.out.size; have := hB34.out.size; omega)
    have hb1 := Box.mk (show base ≤ (w4.alloc (.cells #[.slice a4 m4 c4] 22)).heap.size by have := hbb.out; have := hs4.out; simp; omega)
    have C4 := Box.mk K4.out.blk
    refine held_step2 4 7 (by kernel_rfl) rfl rfl (by rfl) (by rfl) (fun K hK => ?_) (fun K hK => ?_)
    · have c1 : w4.cell? ⟨p, 1, none⟩ = some (.slice aW nW cW) := by rw [cell_of_row _ p 1 _ _ _ C4.out]; rfl
      go_simp
      refine hK.out _ _ trivial (fun _ => ?_)
      clear hK K c1
      try simp only [Act.put, z1, z2, z3]
      refine held_step 7 (by kernel_rfl) rfl (by rfl) (fun K hK => ?_)
      go_simp
      refine hK.out _ _ trivial (fun _ => ?_)
      clear hK K
      try simp only [Act.put, z1, z2, z3]
      refine held_step 8 (by kernel_rfl) rfl (by rfl) (fun K hK => ?_)
      refine oper_of_list rfl ?_
      refine arm_append_s uLL iL (.tmp 18) (.tmp 21) rfl rfl base (.slice aW nW cW) (ws.map fun x : Ent => x.1) rfl hOW.out w4.heap.size a4 m4 c4 rfl hcx.out hlb.out hb1.out ?_
      intro vW' w5 own5 G5 at5
      refine ⟨rfl, ?_⟩
      refine hK.out _ _ trivial (fun _ => ?_)
      clear hK K
      try simp only [Act.put, z1, z2, z3]
      have HW5 := Box.mk own5
      obtain ⟨aW', nW', cW', rfl, hnW'⟩ := HW5.out.sl
      have hneW : ∀ g, (Value.slice aW nW cW).ownBlock = some g → g ≠ p := fun g hg => kb_ne_p K4.out.dist (.inr (.inl hg))
      have hp4 := Box.mk (heap_lt K4.out.blk)
      have X5 := Box.mk (show w5.heap[p]? = some (.cells [.slice aL' nL' cL', .slice aW nW cW].toArray KT (0, 0)) from (G5.block p (by have := hp4.out; simp; omega) (fun e => hneW p e.symm rfl)).trans ((heap_alloc_old w4 _ hp4.out).trans K4.out.blk))
      have hA5 := Box.mk (show AtS w4.heap.size (.slice aW nW cW) (.slice aW' nW' cW') from at5.imp id fun h => ⟨_, h, by simp⟩)
      have g5 := Box.mk (show ∀ k, k < w4.heap.size → (Value.slice aW nW cW).ownBlock ≠ some k → w5.heap[k]? = w4.heap[k]? from fun k hk hne => (G5.block k (by simp; omega) hne.symm).trans (heap_alloc_old w4 _ hk))
      have g5s := Box.mk (show w4.heap.size ≤ w5.heap.size by have := G5.size; simp at this; omega)
      have gs5 := Box.mk (show Grew w w5 (kb p (.slice aL nL cL) (.slice aW nW cW) ls ws) from ((gs3.out.trans (Grew.low hB34.out []) fun g hg => by cases hg).trans (Grew.low (Below.refl_alloc w4 (.cells #[.slice a4 m4 c4] 22)) []) fun g hg => by cases hg).trans (Grew.of G5 (F := obs (.slice aW nW cW)) fun g hg => mem_obs.2 hg) fun g hg => .inl (mem_kb.2 (.inr (.inr (.inl (mem_obs.1 hg))))))
      clear own5 G5 at5 hOW hcx hb1 hlb hB34
      have hl1 := Box.mk (show 1 < [Value.slice aL' nL' cL', .slice aW nW cW].length by simp)
      refine held_take 9 (.pointer (some ⟨p, 0, none⟩)) rfl (by kernel_rfl) (by kernel_rfl) (by kernel_rfl) (held_pure (by rfl) (fun W => by go_simp)) trivial ?_
      try simp only [Act.put, z1, z2, z3]
      refine held_take 10 (.pointer (some ⟨p, 1, none⟩)) rfl (by kernel_rfl) (by kernel_rfl) (by kernel_rfl) (held_pure (by rfl) (fun W => by go_simp)) trivial ?_
      try simp only [Act.put, z1, z2, z3]
      refine held_step 11 (by kernel_rfl) rfl (by rfl) (fun K hK => ?_)
      refine oper_of_list rfl ?_
      refine arm_store_slice 45 (.tmp 24) (.tmp 22) rfl rfl p 1 rfl aW' nW' cW' rfl hi28.out [.slice aL' nL' cL', .slice aW nW cW] KT X5.out hl1.out ?_
      intro w6 g6 G6
      refine ⟨rfl, ?_⟩
      refine hK.out _ _ trivial (fun _ => ?_)
      clear hK K
      try simp only [Act.put]
      refine held_done (by kernel_rfl) ?_ _
      have hk6 := Keeper.addW (w' := w6) K4.out (own_lower O4.out (by have := gs3.out.size; have := hbb.out; omega)) D4.out (ownsRow_same HW5.out fun g hg => G6.block g (ownsRow_lt HW5.out g hg).2 (by
          intro e
          cases e
          rcases hA5.out with h | ⟨g', h, hge⟩
          · exact hneW p (h.symm.trans hg) rfl
          · rw [hg] at h; cases h; have := hp4.out; omega)) hA5.out g6.out (fun k hk h1 h2 => (G6.block k (by have := g5s.out; omega) (by simpa using h1)).trans (g5.out k hk h2))
      have gs6 := gs5.out.trans (Grew.of G6 (F := [p]) fun g hg => by cases hg; simp) fun g hg => .inl (mem_kb.2 (.inl (by simpa using hg)))
      clear g6 G6 X5 hA5 g5 HW5 hl1 hneW
      go_wp2
      go_end0
      exact ⟨⟨_, _, _, rfl, hk6.1, fun g hg => by
        rcases hk6.2 g hg with h | h | h
        · exact M3.out g h
        · have := (ownsRow_lt O4.out g h).1; have := gs3.out.size; exact .inr (.inr (by omega))
        · exact .inr (.inr (by have := hs4.out; omega))⟩, gs6⟩
    · go_simp
      refine hK.out _ _ trivial (fun _ => ?_)
      clear hK K
      try simp only [Act.put, z1, z2, z3]
      have C5 := Box.mk (heap_old (o := .cells #[.slice a4 m4 c4] 22) C4.out)
      refine held_step 4 (by kernel_rfl) rfl (by rfl) (fun K hK => ?_)
      have c1 : (w4.alloc (.cells #[.slice a4 m4 c4] 22)).cell? ⟨p, 1, none⟩ = some (.slice aW nW cW) := by rw [cell_of_row _ p 1 _ _ _ C5.out]; rfl
      go_simp
      refine hK.out _ _ trivial (fun _ => ?_)
      clear hK K c1
      try simp only [Act.put, z1, z2, z3]
      refine held_step 8 (by kernel_rfl) rfl (by rfl) (fun K hK => ?_)
      refine oper_of_list rfl ?_
      refine arm_append_s uLL iL (.tmp 18) (.tmp 21) rfl rfl base (.slice aW nW cW) (ws.map fun x : Ent => x.1) rfl hOW.out w4.heap.size a4 m4 c4 rfl hcx.out hlb.out hb1.out ?_
      intro vW' w5 own5 G5 at5
      refine ⟨rfl, ?_⟩
      refine hK.out _ _ trivial (fun _ => ?_)
      clear hK K
      try simp only [Act.put, z1, z2, z3]
      have HW5 := Box.mk own5
      obtain ⟨aW', nW', cW', rfl, hnW'⟩ := HW5.out.sl
      have hneW : ∀ g, (Value.slice aW nW cW).ownBlock = some g → g ≠ p := fun g hg => kb_ne_p K4.out.dist (.inr (.inl hg))
      have hp4 := Box.mk (heap_lt K4.out.blk)
      have X5 := Box.mk (show w5.heap[p]? = some (.cells [.slice aL' nL' cL', .slice aW nW cW].toArray KT (0, 0)) from (G5.block p (by have := hp4.out; simp; omega) (fun e => hneW p e.symm rfl)).trans ((heap_alloc_old w4 _ hp4.out).trans K4.out.blk))
      have hA5 := Box.mk (show AtS w4.heap.size (.slice aW nW cW) (.slice aW' nW' cW') from at5.imp id fun h => ⟨_, h, by simp⟩)
      have g5 := Box.mk (show ∀ k, k < w4.heap.size → (Value.slice aW nW cW).ownBlock ≠ some k → w5.heap[k]? = w4.heap[k]? from fun k hk hne => (G5.block k (by simp; omega) hne.symm).trans (heap_alloc_old w4 _ hk))
      have g5s := Box.mk (show w4.heap.size ≤ w5.heap.size by have := G5.size; simp at this; omega)
      have gs5 := Box.mk (show Grew w w5 (kb p (.slice aL nL cL) (.slice aW nW cW) ls ws) from ((gs3.out.trans (Grew.low hB34.out []) fun g hg => by cases hg).trans (Grew.low (Below.refl_alloc w4 (.cells #[.slice a4 m4 c4] 22)) []) fun g hg => by cases hg).trans (Grew.of G5 (F := obs (.slice aW nW cW)) fun g hg => mem_obs.2 hg) fun g hg => .inl (mem_kb.2 (.inr (.inr (.inl (mem_obs.1 hg))))))
      clear own5 G5 at5 hOW hcx hb1 hlb hB34
      have hl1 := Box.mk (show 1 < [Value.slice aL' nL' cL', .slice aW nW cW].length by simp)
      refine held_take 9 (.pointer (some ⟨p, 0, none⟩)) rfl (by kernel_rfl) (by kernel_rfl) (by kernel_rfl) (held_pure (by rfl) (fun W => by go_simp)) trivial ?_
      try simp only [Act.put, z1, z2, z3]
      refine held_take 10 (.pointer (some ⟨p, 1, none⟩)) rfl (by kernel_rfl) (by kernel_rfl) (by kernel_rfl) (held_pure (by rfl) (fun W => by go_simp)) trivial ?_
      try simp only [Act.put, z1, z2, z3]
      refine held_step 11 (by kernel_rfl) rfl (by rfl) (fun K hK => ?_)
      refine oper_of_list rfl ?_
      refine arm_store_slice 45 (.tmp 24) (.tmp 22) rfl rfl p 1 rfl aW' nW' cW' rfl hi28.out [.slice aL' nL' cL', .slice aW nW cW] KT X5.out hl1.out ?_
      intro w6 g6 G6
      refine ⟨rfl, ?_⟩
      refine hK.out _ _ trivial (fun _ => ?_)
      clear hK K
      try simp only [Act.put]
      refine held_done (by kernel_rfl) ?_ _
      have hk6 := Keeper.addW (w' := w6) K4.out (own_lower O4.out (by have := gs3.out.size; have := hbb.out; omega)) D4.out (ownsRow_same HW5.out fun g hg => G6.block g (ownsRow_lt HW5.out g hg).2 (by
          intro e
          cases e
          rcases hA5.out with h | ⟨g', h, hge⟩
          · exact hneW p (h.symm.trans hg) rfl
          · rw [hg] at h; cases h; have := hp4.out; omega)) hA5.out g6.out (fun k hk h1 h2 => (G6.block k (by have := g5s.out; omega) (by simpa using h1)).trans (g5.out k hk h2))
      have gs6 := gs5.out.trans (Grew.of G6 (F := [p]) fun g hg => by cases hg; simp) fun g hg => .inl (mem_kb.2 (.inl (by simpa using hg)))
      clear g6 G6 X5 hA5 g5 HW5 hl1 hneW
      go_wp2
      go_end0
      exact ⟨⟨_, _, _, rfl, hk6.1, fun g hg => by
        rcases hk6.2 g hg with h | h | h
        · exact M3.out g h
        · have := (ownsRow_lt O4.out g h).1; have := gs3.out.size; exact .inr (.inr (by omega))
        · exact .inr (.inr (by have := hs4.out; omega))⟩, gs6⟩
end Go.Proofs.Ytehnnnohoaapdaa

/- A keeper of lists: the walks of untouched, marked. -/
namespace Go.Proofs.Ytehnnnohoaapdaa
set_option linter.unusedSectionVars false
set_option linter.unusedSimpArgs false
open Go Go.RowKit
set_option linter.unusedVariables false
theorem OwnS.get {w : World} {base : Nat} {e : TypeId} {ao : Option Addr} {n c : Nat} {vs : List Value} (h : OwnS w base e (.slice ao n c) vs) (i : Nat) (hi : i < n) :
    ∃ g, ao = some ⟨g, 0, none⟩ ∧ ∃ hv : i < vs.length, w.cell? ⟨g, i, none⟩ = some vs[i] := by
  obtain ⟨ao2, c2, hv, _, _, hh⟩ := h.at
  rw [Value.slice.injEq] at hv
  obtain ⟨e1, e2, e3⟩ := hv
  rcases hh with ⟨_, h2, _⟩ | ⟨g, h1, h2⟩
  · rw [h2] at e2; simp at e2; omega
  · exact ⟨g, e1.trans h1, by omega, h2 i (by omega)⟩
theorem ent_shape {w : World} {base : Nat} {e : TypeId} {x : Ent} (h : Own w base e x.1 x.2) : ∃ a m c l, x = (.slice a m c, l) ∧ Row w a m l ∧ l.length = m ∧ Own w base e (.slice a m c) l := by
  obtain ⟨v, l⟩ := x
  obtain ⟨a, c, hv⟩ := own_sh h
  have hv' : v = .slice a l.length c := hv
  subst hv'
  exact ⟨a, l.length, c, l, rfl, (own_rd h).1, rfl, h⟩
set_option maxRecDepth 100000 in
set_option maxHeartbeats 4000000 in
theorem untouched_any (base p : Nat) (vL vW : Value) (ls ws : List Ent) (w : World) (hk : Keeper KT 22 5 w base p vL vW ls ws) (hs : ls.map (·.2) = ws.map (·.2)) (hl : ∀ x ∈ ls, x.2.length ≤ 140737488351400) (hn : ls.length ≤ 1099511627776) :
    Calls Try.prog 33 #[.pointer (some ⟨p, 0, none⟩)] w fun e w' => e = .returned (.bool true) ∧ ∃ q, w' = w.drewN q := by
  obtain ⟨aL, nL, cL, rfl, hnL⟩ := hk.ownL.sl
  obtain ⟨aW, nW, cW, rfl, hnW⟩ := hk.ownW.sl
  have HK := Box.mk hk
  have c0 : w.cell? ⟨p, 0, none⟩ = some (.slice aL nL cL) := by rw [cell_of_row w p 0 _ _ _ hk.blk]; rfl
  have c1 : w.cell? ⟨p, 1, none⟩ = some (.slice aW nW cW) := by rw [cell_of_row w p 1 _ _ _ hk.blk]; rfl
  have hLW := Box.mk (show nW = nL by
    have := congrArg List.length hs
    simp only [List.length_map] at this
    have h1 := hnL.out.1; have h2 := hnW.out.1
    simp only [List.length_map] at h1 h2
    omega)
  have hLl := Box.mk (show nL = ls.length by have h1 := hnL.out.1; simpa using h1)
  have HS := Box.mk hs
  have HL := Box.mk hl
  have hnn : nL ≤ 1099511627776 := by rw [hLl.out]; exact hn
  clear hk hs hl hn
  go_enter Try.func33, Try.ntmps33
  go_wp2
  go_loopw [3] (fun i wr => ∃ k : Nat, k ≤ nL ∧ i = .int .i64 k ∧ Box (∃ q, wr = w.drewN q)) (fun i _ => nL - (intOf i).toNat)
  case atStart => exact ⟨0, Nat.zero_le _, rfl, ⟨0, rfl⟩⟩
  case round =>
    obtain ⟨k, hk, rfl, hq⟩ := hrel
    obtain ⟨q0, rfl⟩ := hq.out
    by_cases hlt : k < nL
    · obtain ⟨gL, rfl, hv1, e1⟩ := HK.out.ownL.get k hlt
      obtain ⟨gW, rfl, hv2, e2⟩ := HK.out.ownW.get k (by rw [hLW.out]; exact hlt)
      have hkl : k < ls.length := by simpa using hv1
      have hkw : k < ws.length := by simpa using hv2
      simp only [List.getElem_map] at e1 e2
      have o1 := HK.out.eachL ls[k] (List.getElem_mem hkl)
      have o2 := HK.out.eachW ws[k] (List.getElem_mem hkw)
      have hsame : ls[k].2 = ws[k].2 := by
        have h := congrArg (fun l : List (List UInt8) => l[k]?) HS.out
        simpa [hkl, hkw] using h
      have hbd := HL.out ls[k] (List.getElem_mem hkl)
      obtain ⟨a1, m1, b1, l1, hx, r1, hm1, _⟩ := ent_shape o1
      obtain ⟨a2, m2, b2, l2, hy, r2, hm2, _⟩ := ent_shape o2
      rw [hx] at e1 hsame hbd
      rw [hy] at e2 hsame
      simp only at e1 e2 hsame hbd
      subst hsame
      have hm12 : m2 = m1 := by omega
      subst hm12
      rw [hm1] at hbd
      have hSB := Box.mk (fun x => sameBytes_any a1 a2 m2 b1 m2 b2 l1 l1 (w.drewN x) (r1.drewN x) (r2.drewN x) (by unfold maxLen; omega) (by unfold maxLen; omega))
      rw [eqB_true rfl] at hSB
      have k0 : (0 : Int) ≤ (k : Int) := by omega
      have k1 : (k : Int) < (nL : Int) := by omega
      have k2 : (k : Int) < (nW : Int) := by rw [hLW.out]; omega
      clear o1 o2 hv1 hv2 hkl hkw r1 r2 hbd hx hy hm1 hm2
      go_wp2_with fail
      refine wp_region_class (fun q => w.drewN (q0 + q)) (by kernel_rfl) (by kernel_rfl) ⟨1, rfl⟩ ?_
      repeat (go_big_quiet_step (fail))
      go_big_quiet_step (exact (hSB.out _).mono fun e w' h => ⟨h.1, by obtain ⟨q, hq⟩ := h.2; exact ⟨_, by rw [hq, World.drewN_drewN, Nat.add_assoc]⟩⟩)
      repeat (go_big_quiet_step (fail))
      refine wpQuiet_nil ?_
      rintro _ ⟨nq, rfl⟩
      go_wp2
      go_roundw
      case rel => exact ⟨k + 1, by omega, by go_num, ⟨_, rfl⟩⟩
      case measure => simp [intOf]; omega
    · go_wp2
      go_ret
      exact ⟨rfl, _, rfl⟩
def marksL (i m : Nat) : List UInt8 := (List.range m).map (markB i)
theorem length_marksL (i m : Nat) : (marksL i m).length = m := by simp [marksL]
theorem marksL_succ (i m : Nat) : marksL i (m + 1) = marksL i m ++ [markB i m] := by simp [marksL, List.range_succ]
def MarkedAt (w : World) (ao : Option Addr) (n : Nat) : Prop :=
  ∀ i, i < n → ∃ g, ao = some ⟨g, 0, none⟩ ∧ ∃ a m c, w.cell? ⟨g, i, none⟩ = some (.slice a m c) ∧ Row w a m (marksL i m) ∧ m ≤ 140737488355328
set_option maxRecDepth 100000 in
set_option maxHeartbeats 4000000 in
theorem marked_any (ao : Option Addr) (n c : Nat) (w : World) (hX : MarkedAt w ao n) (hn : n ≤ 1099511627776) :
    Calls Try.prog 54 #[.slice ao n c] w fun e w' => e = .returned (.bool true) ∧ ∃ q, w' = w.drewN q := by
  have HX := Box.mk hX
  clear hX
  go_enter Try.func54, Try.ntmps54
  go_wp2
  go_loopw [3, 4] (fun i t4 wr => ∃ k : Nat, k ≤ n ∧ i = .int .i64 k ∧ Box (∃ q, wr = w.drewN q)) (fun i _ _ => n - (intOf i).toNat)
  case atStart => exact ⟨0, Nat.zero_le _, rfl, ⟨0, rfl⟩⟩
  case round =>
    obtain ⟨k, hk, rfl, hq⟩ := hrel
    obtain ⟨q0, rfl⟩ := hq.out
    by_cases hlt : k < n
    · obtain ⟨g, rfl, a, m, c', e1, hr, hm⟩ := HX.out k hlt
      have HR := Box.mk hr
      have k0 : (0 : Int) ≤ (k : Int) := by omega
      have k1 : (k : Int) < (n : Int) := by omega
      have hkb := Box.mk (show k ≤ 140737488355328 by omega)
      have hmb := Box.mk hm
      clear hr hm
      go_wp2
      obtain ⟨wz, hwz⟩ : ∃ y, y = w.drewN q0 := ⟨_, rfl⟩
      rw [← hwz]
      have HWZ := Box.mk hwz
      clear hwz
      go_loopw [4] (fun i wr => ∃ j : Nat, j ≤ m ∧ i = .int .i64 j ∧ Box (∃ q, wr = w.drewN q)) (fun i _ => m - (intOf i).toNat)
      case atStart => exact ⟨0, Nat.zero_le _, rfl, ⟨q0, HWZ.out⟩⟩
      case round =>
        obtain ⟨j, hj, rfl, hq2⟩ := hrel
        obtain ⟨q1, rfl⟩ := hq2.out
        by_cases hjt : j < m
        · obtain ⟨b, o, rfl⟩ := HR.out.at0 (by omega)
          have hjl : j < (marksL k m).length := by rw [length_marksL]; exact hjt
          have e2 : w.cell? ⟨b, o + j, none⟩ = some (.int .u8 ((markB k j).toNat : Int)) := by
            rw [HR.out.cell j hjl]
            simp [marksL]
          have j0 : (0 : Int) ≤ (j : Int) := by omega
          have j1 : (j : Int) < (m : Int) := by omega
          have hmk := Box.mk (fun x => mark_any k j hkb.out (by have := hmb.out; omega) (w.drewN x))
          generalize (markB k j).toNat = u at *
          clear hjl
          go_wp2_with fail
          refine wp_region_class (fun q => w.drewN (q1 + q)) (by kernel_rfl) (by kernel_rfl) ⟨1, rfl⟩ ?_
          repeat (go_big_quiet_step (fail))
          go_big_quiet_step (exact (hmk.out _).mono fun e w' h => ⟨h.1, _, h.2⟩)
          repeat (go_big_quiet_step (fail))
          refine wpQuiet_nil ?_
          rintro _ ⟨nq, rfl⟩
          have hj1 := IntWalk.i64_in ((j : Int) + 1) (by have := hmb.out; omega)
          go_wp2
          go_roundw
          case rel => exact ⟨j + 1, by omega, by go_num, ⟨_, rfl⟩⟩
          case measure => simp [intOf]; omega
        · go_wp2
          go_roundw
          case rel => exact ⟨k + 1, by omega, by go_num, ⟨_, rfl⟩⟩
          case measure => simp [intOf]; omega
    · go_wp2
      go_ret
      exact ⟨rfl, _, rfl⟩
end Go.Proofs.Ytehnnnohoaapdaa

/- A keeper of lists: marks written over all, lists that grow. No walk in sight. -/
namespace Go.Proofs.Ytehnnnohoaapdaa
set_option linter.unusedSectionVars false
set_option linter.unusedSimpArgs false
open Go Go.RowKit
set_option linter.unusedVariables false
theorem marks_take (i m k : Nat) : (marksL i (m + k)).take m = marksL i m := by
  unfold marksL
  rw [← List.map_take, List.take_range, Nat.min_eq_left (by omega)]
theorem marks_set (i k : Nat) (D : List UInt8) (hk : k < D.length) : (marksL i k ++ D.drop k).set k (markB i k) = marksL i (k + 1) ++ D.drop (k + 1) := by
  rw [List.set_append_right _ _ (by rw [length_marksL]; exact Nat.le_refl _), length_marksL, Nat.sub_self, List.drop_eq_getElem_cons hk, List.set_cons_zero, marksL_succ, List.append_assoc]
  rfl
section
variable {P : Program} {t e : TypeId} {Q : Exit → Act → World → Prop} {ops : Array Oper} {rest : List Oper} {o : Oper} {a : Act} {w : World}
theorem arm_append_1 (hT : ByteTy P t e) (s x : Operand) (ho : o.op = Op.call { callee := Callee.builtin Builtin.append, args := #[s, x], argTypes := #[t, t] }) (hg : o.guard = none)
    (base : Nat) (ao : Option Addr) (n cap : Nat) (l : List UInt8) (hs : a.eval s = .slice ao n cap) (hown : Own w base e (.slice ao n cap) l)
    (b : Nat) (u : UInt8) (hx : a.eval x = .slice (some ⟨b, 0, none⟩) 1 1) (hc : w.cell? ⟨b, 0, none⟩ = some (bv u)) (hb : n ≤ 140737488355000) (hbase : base ≤ w.heap.size)
    (hK : ∀ ao' cap' w', Own w' base e (.slice ao' (n + 1) cap') (l ++ [u]) → ((∃ g, ao = some ⟨g, 0, none⟩ ∧ ao' = ao ∧ cap' = cap ∧ w.grownBy w' (some g)) ∨ (w.grownBy w' none ∧ ∀ g, (Value.slice ao' (n + 1) cap').ownBlock = some g → w.heap.size ≤ g)) →
      wpList P ops Q rest (a.put o.dst (.slice ao' (n + 1) cap')) w') :
    wpList P ops Q (o :: rest) a w := by
  obtain ⟨i, h1, h2, h3, h4, h5⟩ := hT
  have hln := (own_rd hown).2
  have hcell : ∀ j v, [bv u][j]? = some v → w.cell? ((⟨b, 0, none⟩ : Addr).add j) = some v := by
    intro j v hj
    match j, hj with
    | 0, hj => simp at hj; subst hj; exact hc
  have hone : ∀ v ∈ [bv u], v.oneCell' = true := by intro v hv; simp at hv; subst hv; rfl
  by_cases hroom : n + 1 ≤ cap
  · have hao : ∃ g, ao = some ⟨g, 0, none⟩ := by
      obtain ⟨hl, ⟨hv, _⟩ | ⟨g, c2, cur, hv, _⟩⟩ := hown
      · have := Value.slice.inj hv; omega
      · have := Value.slice.inj hv; exact ⟨g, this.1⟩
    obtain ⟨g, rfl⟩ := hao
    have hown2 : w.ownsRow base e 1 (.slice (some ⟨g, 0, none⟩) n cap) n (bvs l) := by rw [← hln]; rw [← hln] at hown; exact hown
    refine wpList_append_fits w hg s x t ho base e i 1 h1 h2 h4 g n cap (bvs l) hs hown2 ⟨b, 0, none⟩ 1 1 [bv u] hx rfl hcell hone hroom fun w' h6 h7 => hK _ _ w' ?_ (.inl ⟨g, rfl, rfl, rfl, h7⟩)
    show w'.ownsRow base e 1 _ (l ++ [u]).length (bvs (l ++ [u]))
    rw [List.length_append, hln, bvs_append]
    exact h6
  · have hr := own_rd hown
    have hnone : ao = none → n = 0 ∧ cap = 0 := by
      intro hx
      obtain ⟨hl, ⟨hv, h0⟩ | ⟨g, c2, cur, hv, _⟩⟩ := hown
      · have := Value.slice.inj hv; exact ⟨this.2.1, this.2.2⟩
      · have := Value.slice.inj hv; rw [hx] at this; cases this.1
    refine wpList_append_grows w hg s x t ho e i (.int .u8 0) 1 1 h1 h2 h3 h4 h5 rfl (by decide) ao n cap (bvs l) hs hnone (by rw [length_bvs, hln, Nat.mul_one]) (fun ad had j v hj => hr.1.news ad had j v hj) ⟨b, 0, none⟩ 1 1 [bv u] hx rfl hcell hone (by omega) (by unfold maxLen; omega) (by omega) fun v' w' h6 h7 => ?_
    have h6' : Own w' w.heap.size e v' (l ++ [u]) := by
      show w'.ownsRow w.heap.size e 1 _ (l ++ [u]).length (bvs (l ++ [u]))
      rw [List.length_append, hln, bvs_append]
      exact h6
    obtain ⟨a', c', hv⟩ := own_sh h6'
    rw [List.length_append, hln] at hv
    have hv' : v' = .slice a' (n + 1) c' := hv
    subst hv'
    exact hK _ _ w' (own_lower h6' hbase) (.inr ⟨h7, fun g hg => (ownsRow_lt h6' g hg).1⟩)
end
structure Lists (es eb : TypeId) (w : World) (base p : Nat) (aL : Option Addr) (n cL : Nat) (V : Nat → Value) (C : Nat → List UInt8) : Prop where
  cp : w.cell? ⟨p, 0, none⟩ = some (.slice aL n cL)
  rd : ∀ i, i < n → ∃ g, aL = some ⟨g, 0, none⟩ ∧ w.cell? ⟨g, i, none⟩ = some (V i)
  own : ∀ i, i < n → Own w base eb (V i) (C i)
  dp : ∀ i, i < n → ∀ g, (V i).ownBlock = some g → g ≠ p ∧ ∀ gL, aL = some ⟨gL, 0, none⟩ → gL ≠ g
  dd : ∀ i j, i < n → j < n → i ≠ j → ∀ g, (V i).ownBlock = some g → (V j).ownBlock ≠ some g
section
variable {es eb : TypeId} {w w' : World} {base p : Nat} {aL : Option Addr} {n cL : Nat} {V : Nat → Value} {C C' : Nat → List UInt8}
theorem Lists.congr (h : Lists es eb w base p aL n cL V C) (hc : ∀ i, i < n → C i = C' i) : Lists es eb w base p aL n cL V C' :=
  ⟨h.cp, h.rd, fun i hi => by rw [← hc i hi]; exact h.own i hi, h.dp, h.dd⟩
theorem cell_kept {w w' : World} {a : Addr} {v : Value} (h : w.cell? a = some v) (hb : w'.heap[a.block]? = w.heap[a.block]?) : w'.cell? a = some v := (World.cell?_of_block hb).trans h
theorem Lists.upd (h : Lists es eb w base p aL n cL V C) (i : Nat) (hi : i < n) (l' : List UInt8) (hG : w.grownBy w' (V i).ownBlock) (ho : Own w' base eb (V i) l') (hc : ∀ j, j < n → j ≠ i → C' j = C j) (hc2 : C' i = l') : Lists es eb w' base p aL n cL V C' where
  cp := cell_kept h.cp (hG.block p (block_lt_of_cell h.cp) fun e => (h.dp i hi p e.symm).1 rfl)
  rd j hj := by
    obtain ⟨g, hg, hc⟩ := h.rd j hj
    exact ⟨g, hg, cell_kept hc (hG.block g (block_lt_of_cell hc) fun e => (h.dp i hi g e.symm).2 g hg rfl)⟩
  own j hj := by
    by_cases e : j = i
    · subst e; rw [hc2]; exact ho
    · rw [hc j hj e]
      exact ownsRow_same (h.own j hj) fun g hg => hG.block g (ownsRow_lt (h.own j hj) g hg).2 fun e' => h.dd j i hj hi e g hg e'.symm
  dp := h.dp
  dd := h.dd
theorem Lists.drewN (h : Lists es eb w base p aL n cL V C) (q : Nat) : Lists es eb (w.drewN q) base p aL n cL V C :=
  ⟨h.cp, h.rd, fun i hi => ownsRow_same (h.own i hi) fun _ _ => rfl, h.dp, h.dd⟩
theorem flat_disj : ∀ {ls : List Ent}, (ls.flatMap entB).Nodup → ∀ (i j : Nat) (hi : i < ls.length) (hj : j < ls.length), i ≠ j → ∀ g, ls[i].1.ownBlock = some g → ls[j].1.ownBlock ≠ some g
  | [], _, i, _, hi, _, _, _, _ => absurd hi (by simp)
  | x :: xs, h, i, j, hi, hj, hne, g, hg => by
    rw [List.flatMap_cons, List.nodup_append] at h
    obtain ⟨_, h2, h3⟩ := h
    match i, j with
    | 0, 0 => exact absurd rfl hne
    | 0, j + 1 =>
      intro h'
      exact h3 g (mem_obs.2 hg) g (List.mem_flatMap.2 ⟨xs[j]'(by simpa using hj), List.getElem_mem _, mem_obs.2 h'⟩) rfl
    | i + 1, 0 =>
      intro h'
      exact h3 g (mem_obs.2 h') g (List.mem_flatMap.2 ⟨xs[i]'(by simpa using hi), List.getElem_mem _, mem_obs.2 hg⟩) rfl
    | i + 1, j + 1 => exact flat_disj h2 i j (by simpa using hi) (by simpa using hj) (by omega) g hg
end
theorem Keeper.lists {T es eb : TypeId} {w : World} {base p : Nat} {aL : Option Addr} {nL cL : Nat} {vW : Value} {ls ws : List Ent} (h : Keeper T es eb w base p (.slice aL nL cL) vW ls ws) :
    nL = ls.length ∧ Lists es eb w base p aL nL cL (fun i => (ls.getD i default).1) (fun i => (ls.getD i default).2) := by
  have hn : nL = ls.length := by
    obtain ⟨_, _, hv, _⟩ := h.ownL.at
    have := (Value.slice.inj hv).2.1
    simpa using this
  have gd : ∀ i (hi : i < ls.length), ls.getD i default = ls[i] := fun i hi => by simp [List.getD, List.getElem?_eq_getElem hi]
  have hd := h.dist
  unfold kb at hd
  rw [List.nodup_cons, List.nodup_append, List.nodup_append, List.nodup_append] at hd
  obtain ⟨d0, d1, ⟨d2, ⟨d3, d4, d5⟩, d6⟩, d7⟩ := hd
  refine ⟨hn, ⟨?_, ?_, ?_, ?_, ?_⟩⟩
  · rw [cell_of_row w p 0 _ _ _ h.blk]; rfl
  · intro i hi
    obtain ⟨g, hg, hv, hc⟩ := h.ownL.get i hi
    refine ⟨g, hg, ?_⟩
    rw [hc]
    simp only [List.getElem_map]
    rw [gd i (by omega)]
  · intro i hi
    simp only [gd i (by omega)]
    exact h.eachL _ (List.getElem_mem _)
  · intro i hi g hg
    simp only [gd i (by omega)] at hg
    have hm : g ∈ ls.flatMap entB := List.mem_flatMap.2 ⟨ls[i]'(by omega), List.getElem_mem _, mem_obs.2 hg⟩
    refine ⟨fun e => d0 (by subst e; simp only [List.mem_append]; exact .inr (.inr (.inl hm))), fun gL hL e => ?_⟩
    subst e
    refine d7 gL (mem_obs.2 (by rw [hL]; rfl)) gL ?_ rfl
    simp only [List.mem_append]
    exact .inr (.inl hm)
  · intro i j hi hj hne g hg
    simp only [gd i (by omega)] at hg
    simp only [gd j (by omega)]
    exact flat_disj d3 i j (by omega) (by omega) hne g hg
end Go.Proofs.Ytehnnnohoaapdaa

/- A keeper of lists: lists that grow side by side. No walk in sight. -/
namespace Go.Proofs.Ytehnnnohoaapdaa
set_option linter.unusedSectionVars false
set_option linter.unusedSimpArgs false
open Go Go.RowKit
set_option linter.unusedVariables false
def adr : Value → Option Addr
  | .slice a _ _ => a
  | _ => none
def room : Value → Nat
  | .slice _ _ c => c
  | _ => 0
structure Fixed (S0 p : Nat) (aL : Option Addr) (n : Nat) (V : Nat → Value) (M : Nat → Nat) : Prop where
  sh : ∀ j, j < n → V j = .slice (adr (V j)) (M j) (room (V j))
  ltV : ∀ j, j < n → ∀ g, (V j).ownBlock = some g → g < S0 ∧ g ≠ p ∧ ∀ gL, aL = some ⟨gL, 0, none⟩ → gL ≠ g
  dd : ∀ i j, i < n → j < n → i ≠ j → ∀ g, (V i).ownBlock = some g → (V j).ownBlock ≠ some g
  ltp : p < S0
  ltL : ∀ gL, aL = some ⟨gL, 0, none⟩ → 0 < n → gL < S0
structure Grown (es eb : TypeId) (w0 w : World) (base : Nat) (F : List Nat) (S0 p : Nat) (aL : Option Addr) (n cL : Nat) (V : Nat → Value) (M : Nat → Nat) (i : Nat) (vG : Value) (ga : Nat → Option Addr) (gc : Nat → Nat) : Prop where
  bel : Grew w0 w F
  sz : S0 ≤ w.heap.size
  cp : w.cell? ⟨p, 0, none⟩ = some (.slice aL n cL)
  rd : ∀ j, j < n → ∃ g, aL = some ⟨g, 0, none⟩ ∧ w.cell? ⟨g, j, none⟩ = some (V j)
  own : ∀ j, i ≤ j → j < n → Own w base eb (V j) (marksL j (M j))
  rowV : ∀ j, j < i → Row w (adr (V j)) (M j) (marksL j (M j))
  rowG : ∀ j, j < i → Row w (ga j) (M j + 300) (marksL j (M j + 300))
  blkG : ∀ j, j < i → ∀ g o, ga j = some ⟨g, o, none⟩ → ((V j).ownBlock = some g ∨ S0 ≤ g) ∧ g < w.heap.size ∧ vG.ownBlock ≠ some g
  ownG : OwnS w S0 es vG ((List.range i).map fun j => .slice (ga j) (M j + 300) (gc j))
section
variable {es eb : TypeId} {w0 w w' : World} {base : Nat} {F : List Nat} {S0 p : Nat} {aL : Option Addr} {n cL : Nat} {V : Nat → Value} {M : Nat → Nat} {i : Nat} {vG vG' : Value} {ga : Nat → Option Addr} {gc : Nat → Nat}
theorem adr_block (hf : Fixed S0 p aL n V M) {j : Nat} (hj : j < n) {b o : Nat} (h : adr (V j) = some ⟨b, o, none⟩) : (V j).ownBlock = some b := by
  rw [hf.sh j hj, h]; rfl
theorem Grown.next (hf : Fixed S0 p aL n V M) (h : Grown es eb w0 w base F S0 p aL n cL V M i vG ga gc) (hi : i < n) (a' : Option Addr) (c' : Nat)
    (hbel : Grew w0 w' F) (hsz : w.heap.size ≤ w'.heap.size) (hk : ∀ k, k < w.heap.size → (V i).ownBlock ≠ some k → vG.ownBlock ≠ some k → w'.heap[k]? = w.heap[k]?)
    (hV : Row w' (adr (V i)) (M i) (marksL i (M i))) (hG : Row w' a' (M i + 300) (marksL i (M i + 300)))
    (hb : ∀ g o, a' = some ⟨g, o, none⟩ → ((V i).ownBlock = some g ∨ w.heap.size ≤ g) ∧ g < w'.heap.size ∧ vG'.ownBlock ≠ some g)
    (hO : OwnS w' S0 es vG' ((List.range i).map (fun j => .slice (ga j) (M j + 300) (gc j)) ++ [.slice a' (M i + 300) c'])) (hat : AtS w.heap.size vG vG') :
    Grown es eb w0 w' base F S0 p aL n cL V M (i + 1) vG' (fun j => if j = i then a' else ga j) (fun j => if j = i then c' else gc j) where
  bel := hbel
  sz := Nat.le_trans h.sz hsz
  cp := cell_kept h.cp (hk p (block_lt_of_cell h.cp) (fun e => (hf.ltV i hi p e).2.1 rfl) fun e => by have := (ownsRow_lt h.ownG p e).1; have := hf.ltp; omega)
  rd j hj := by
    obtain ⟨g, hg, hc⟩ := h.rd j hj
    exact ⟨g, hg, cell_kept hc (hk g (block_lt_of_cell hc) (fun e => (hf.ltV i hi g e).2.2 g hg rfl) fun e => by have := (ownsRow_lt h.ownG g e).1; have := hf.ltL g hg (by omega); omega)⟩
  own j hj hj2 := ownsRow_same (h.own j (by omega) hj2) fun g hg => hk g (ownsRow_lt (h.own j (by omega) hj2) g hg).2 (fun e => hf.dd i j hi hj2 (by omega) g e hg) fun e => by
    have := (ownsRow_lt h.ownG g e).1; have := (hf.ltV j hj2 g hg).1; omega
  rowV j hj := by
    by_cases e : j = i
    · subst e; exact hV
    · have hj2 : j < n := by omega
      refine (h.rowV j (by omega)).kept fun b o hx => ?_
      have hbk := adr_block hf hj2 hx
      exact hk b (by have := (hf.ltV j hj2 b hbk).1; have := h.sz; omega) (fun e' => hf.dd i j hi hj2 (by omega) b e' hbk) fun e' => by
        have := (ownsRow_lt h.ownG b e').1; have := (hf.ltV j hj2 b hbk).1; omega
  rowG j hj := by
    by_cases e : j = i
    · subst e; simpa using hG
    · simp only [if_neg e]
      have hj2 : j < n := by omega
      refine (h.rowG j (by omega)).kept fun b o hx => ?_
      obtain ⟨h1, h2, h3⟩ := h.blkG j (by omega) b o hx
      refine hk b h2 (fun e' => ?_) h3
      rcases h1 with h1 | h1
      · exact hf.dd i j hi hj2 (by omega) b e' h1
      · have := (hf.ltV i hi b e').1; omega
  blkG j hj g o hx := by
    by_cases e : j = i
    · subst e
      simp only [if_pos] at hx
      obtain ⟨h1, h2, h3⟩ := hb g o hx
      exact ⟨h1.imp id fun h1 => Nat.le_trans h.sz h1, h2, h3⟩
    · simp only [if_neg e] at hx
      obtain ⟨h1, h2, h3⟩ := h.blkG j (by omega) g o hx
      refine ⟨h1, by omega, fun e' => ?_⟩
      rcases hat with hat | ⟨g', hg', hge⟩
      · exact h3 (hat.symm.trans e')
      · rw [hg'] at e'; cases e'; omega
  ownG := by
    have e : (List.range (i + 1)).map (fun j => Value.slice (if j = i then a' else ga j) (M j + 300) (if j = i then c' else gc j)) = (List.range i).map (fun j => Value.slice (ga j) (M j + 300) (gc j)) ++ [.slice a' (M i + 300) c'] := by
      rw [List.range_succ, List.map_append]
      congr 1
      · apply List.map_congr_left
        intro j hj
        have : j ≠ i := by have := List.mem_range.1 hj; omega
        simp [this]
      · simp
    rw [e]; exact hO
end
theorem grown_step2 {w wr w' : World} {r : Option Nat} {v : Value} (h : w.grownBy wr r) (hv : ∀ g, v.ownBlock = some g → r = some g ∨ w.heap.size ≤ g) (G : wr.grownBy w' v.ownBlock) : w.grownBy w' r :=
  ⟨G.os.trans h.os, G.tape.trans h.tape, G.output.trans h.output, Nat.le_trans h.size G.size, fun k hk hne => (G.block k (Nat.lt_of_lt_of_le hk h.size) (by
    intro e
    rcases hv k e.symm with h1 | h1
    · exact hne h1.symm
    · omega)).trans (h.block k hk hne)⟩
end Go.Proofs.Ytehnnnohoaapdaa
