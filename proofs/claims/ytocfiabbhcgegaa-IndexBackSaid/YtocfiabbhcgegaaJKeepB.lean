/- A keeper of lists: marks written over all, lists that grow. No walk in sight. -/
import Derived.Test.YtocfiabbhcgegaaJKeepU
import Derived.ArgAppend
namespace Go.Proofs.Ytocfiabbhcgegaa.J
open Go Go.RowKit
set_option linter.unusedVariables false

theorem marks_take (i m k : Nat) : (marksL i (m + k)).take m = marksL i m := by
  unfold marksL
  rw [← List.map_take, List.take_range, Nat.min_eq_left (by omega)]
/-- Writing one mark more. -/
theorem marks_set (i k : Nat) (D : List UInt8) (hk : k < D.length) : (marksL i k ++ D.drop k).set k (markB i k) = marksL i (k + 1) ++ D.drop (k + 1) := by
  rw [List.set_append_right _ _ (by rw [length_marksL]; exact Nat.le_refl _), length_marksL, Nat.sub_self, List.drop_eq_getElem_cons hk, List.set_cons_zero, marksL_succ, List.append_assoc]
  rfl
section
variable {P : Program} {t e : TypeId} {Q : Exit → Act → World → Prop} {ops : Array Oper} {rest : List Oper} {o : Oper} {a : Act} {w : World}
/-- 'append' of one byte to bytes of the call's own: in place, or into a new block with the old one untouched. -/
theorem arm_append_1 (hT : ByteTy P t e) (s x : Operand) (ho : o.op = Op.call { callee := Callee.builtin Builtin.append, args := #[s, x], argTypes := #[t, t] }) (hg : o.guard = none)
    (base : Nat) (ao : Option Addr) (n cap : Nat) (l : List UInt8) (hs : a.eval s = .slice ao n cap) (hown : Own w base e (.slice ao n cap) l)
    (b : Nat) (u : UInt8) (hx : a.eval x = .slice (some ⟨b, 0, none⟩) 1 1) (hc : w.cell? ⟨b, 0, none⟩ = some (bv u)) (hb : n ≤ 140737488355000) (hbase : base ≤ w.heap.size)
    (hK : ∀ ao' cap' w', Own w' base e (.slice ao' (n + 1) cap') (l ++ [u]) → ((∃ g, ao = some ⟨g, 0, none⟩ ∧ ao' = ao ∧ cap' = cap ∧ w.grownBy w' (some g)) ∨ (w.grownBy w' none ∧ ∀ g, (Value.slice ao' (n + 1) cap').ownBlock = some g → w.heap.size ≤ g)) →
      wpList P ops Q rest (a.put o.dst (.slice ao' (n + 1) cap')) w') :
    wpList P ops Q (o :: rest) a w := by
  obtain ⟨i, h1, h2, h3, h4, h5⟩ := hT
  have hln := (own_rd hown).2
  have hcell : ∀ j v, [bv u][j]? = some v → w.cell? ((⟨b, 0, none⟩ : Addr).add j) = some v := by
    intro j v hj
    match j, hj with
    | 0, hj => simp at hj; subst hj; exact hc
  have hone : ∀ v ∈ [bv u], v.oneCell' = true := by intro v hv; simp at hv; subst hv; rfl
  by_cases hroom : n + 1 ≤ cap
  · have hao : ∃ g, ao = some ⟨g, 0, none⟩ := by
      obtain ⟨hl, ⟨hv, _⟩ | ⟨g, c2, cur, hv, _⟩⟩ := hown
      · have := Value.slice.inj hv; omega
      · have := Value.slice.inj hv; exact ⟨g, this.1⟩
    obtain ⟨g, rfl⟩ := hao
    have hown2 : w.ownsRow base e 1 (.slice (some ⟨g, 0, none⟩) n cap) n (bvs l) := by rw [← hln]; rw [← hln] at hown; exact hown
    refine wpList_append_fits w hg s x t ho base e i 1 h1 h2 h4 g n cap (bvs l) hs hown2 ⟨b, 0, none⟩ 1 1 [bv u] hx rfl hcell hone hroom fun w' h6 h7 => hK _ _ w' ?_ (.inl ⟨g, rfl, rfl, rfl, h7⟩)
    show w'.ownsRow base e 1 _ (l ++ [u]).length (bvs (l ++ [u]))
    rw [List.length_append, hln, bvs_append]
    exact h6
  · have hr := own_rd hown
    have hnone : ao = none → n = 0 ∧ cap = 0 := by
      intro hx
      obtain ⟨hl, ⟨hv, h0⟩ | ⟨g, c2, cur, hv, _⟩⟩ := hown
      · have := Value.slice.inj hv; exact ⟨this.2.1, this.2.2⟩
      · have := Value.slice.inj hv; rw [hx] at this; cases this.1
    refine wpList_append_grows w hg s x t ho e i (.int .u8 0) 1 1 h1 h2 h3 h4 h5 rfl (by decide) ao n cap (bvs l) hs hnone (by rw [length_bvs, hln, Nat.mul_one]) (fun ad had j v hj => hr.1.news ad had j v hj) ⟨b, 0, none⟩ 1 1 [bv u] hx rfl hcell hone (by omega) (by unfold maxLen; omega) (by omega) fun v' w' h6 h7 => ?_
    have h6' : Own w' w.heap.size e v' (l ++ [u]) := by
      show w'.ownsRow w.heap.size e 1 _ (l ++ [u]).length (bvs (l ++ [u]))
      rw [List.length_append, hln, bvs_append]
      exact h6
    obtain ⟨a', c', hv⟩ := own_sh h6'
    rw [List.length_append, hln] at hv
    have hv' : v' = .slice a' (n + 1) c' := hv
    subst hv'
    exact hK _ _ w' (own_lower h6' hbase) (.inr ⟨h7, fun g hg => (ownsRow_lt h6' g hg).1⟩)
end

/-- The lists of a keeper as the last walk sees them: V the slices, C what they hold. -/
structure Lists (es eb : TypeId) (w : World) (base p : Nat) (aL : Option Addr) (n cL : Nat) (V : Nat → Value) (C : Nat → List UInt8) : Prop where
  cp : w.cell? ⟨p, 0, none⟩ = some (.slice aL n cL)
  rd : ∀ i, i < n → ∃ g, aL = some ⟨g, 0, none⟩ ∧ w.cell? ⟨g, i, none⟩ = some (V i)
  own : ∀ i, i < n → Own w base eb (V i) (C i)
  dp : ∀ i, i < n → ∀ g, (V i).ownBlock = some g → g ≠ p ∧ ∀ gL, aL = some ⟨gL, 0, none⟩ → gL ≠ g
  dd : ∀ i j, i < n → j < n → i ≠ j → ∀ g, (V i).ownBlock = some g → (V j).ownBlock ≠ some g
section
variable {es eb : TypeId} {w w' : World} {base p : Nat} {aL : Option Addr} {n cL : Nat} {V : Nat → Value} {C C' : Nat → List UInt8}
theorem Lists.congr (h : Lists es eb w base p aL n cL V C) (hc : ∀ i, i < n → C i = C' i) : Lists es eb w base p aL n cL V C' :=
  ⟨h.cp, h.rd, fun i hi => by rw [← hc i hi]; exact h.own i hi, h.dp, h.dd⟩
theorem cell_kept {w w' : World} {a : Addr} {v : Value} (h : w.cell? a = some v) (hb : w'.heap[a.block]? = w.heap[a.block]?) : w'.cell? a = some v := (World.cell?_of_block hb).trans h
/-- One of them written. -/
theorem Lists.upd (h : Lists es eb w base p aL n cL V C) (i : Nat) (hi : i < n) (l' : List UInt8) (hG : w.grownBy w' (V i).ownBlock) (ho : Own w' base eb (V i) l') (hc : ∀ j, j < n → j ≠ i → C' j = C j) (hc2 : C' i = l') : Lists es eb w' base p aL n cL V C' where
  cp := cell_kept h.cp (hG.block p (block_lt_of_cell h.cp) fun e => (h.dp i hi p e.symm).1 rfl)
  rd j hj := by
    obtain ⟨g, hg, hc⟩ := h.rd j hj
    exact ⟨g, hg, cell_kept hc (hG.block g (block_lt_of_cell hc) fun e => (h.dp i hi g e.symm).2 g hg rfl)⟩
  own j hj := by
    by_cases e : j = i
    · subst e; rw [hc2]; exact ho
    · rw [hc j hj e]
      exact ownsRow_same (h.own j hj) fun g hg => hG.block g (ownsRow_lt (h.own j hj) g hg).2 fun e' => h.dd j i hj hi e g hg e'.symm
  dp := h.dp
  dd := h.dd
theorem Lists.drewN (h : Lists es eb w base p aL n cL V C) (q : Nat) : Lists es eb (w.drewN q) base p aL n cL V C :=
  ⟨h.cp, h.rd, fun i hi => ownsRow_same (h.own i hi) fun _ _ => rfl, h.dp, h.dd⟩
theorem flat_disj : ∀ {ls : List Ent}, (ls.flatMap entB).Nodup → ∀ (i j : Nat) (hi : i < ls.length) (hj : j < ls.length), i ≠ j → ∀ g, ls[i].1.ownBlock = some g → ls[j].1.ownBlock ≠ some g
  | [], _, i, _, hi, _, _, _, _ => absurd hi (by simp)
  | x :: xs, h, i, j, hi, hj, hne, g, hg => by
    rw [List.flatMap_cons, List.nodup_append] at h
    obtain ⟨_, h2, h3⟩ := h
    match i, j with
    | 0, 0 => exact absurd rfl hne
    | 0, j + 1 =>
      intro h'
      exact h3 g (mem_obs.2 hg) g (List.mem_flatMap.2 ⟨xs[j]'(by simpa using hj), List.getElem_mem _, mem_obs.2 h'⟩) rfl
    | i + 1, 0 =>
      intro h'
      exact h3 g (mem_obs.2 h') g (List.mem_flatMap.2 ⟨xs[i]'(by simpa using hi), List.getElem_mem _, mem_obs.2 hg⟩) rfl
    | i + 1, j + 1 => exact flat_disj h2 i j (by simpa using hi) (by simpa using hj) (by omega) g hg
end
theorem _root_.Go.Proofs.Ytocfiabbhcgegaa.Keeper.lists {T es eb : TypeId} {w : World} {base p : Nat} {aL : Option Addr} {nL cL : Nat} {vW : Value} {ls ws : List Ent} (h : Keeper T es eb w base p (.slice aL nL cL) vW ls ws) :
    nL = ls.length ∧ Lists es eb w base p aL nL cL (fun i => (ls.getD i default).1) (fun i => (ls.getD i default).2) := by
  have hn : nL = ls.length := by
    obtain ⟨_, _, hv, _⟩ := h.ownL.at
    have := (Value.slice.inj hv).2.1
    simpa using this
  have gd : ∀ i (hi : i < ls.length), ls.getD i default = ls[i] := fun i hi => by simp [List.getD, List.getElem?_eq_getElem hi]
  have hd := h.dist
  unfold kb at hd
  rw [List.nodup_cons, List.nodup_append, List.nodup_append, List.nodup_append] at hd
  obtain ⟨d0, d1, ⟨d2, ⟨d3, d4, d5⟩, d6⟩, d7⟩ := hd
  refine ⟨hn, ⟨?_, ?_, ?_, ?_, ?_⟩⟩
  · rw [cell_of_row w p 0 _ _ _ h.blk]; rfl
  · intro i hi
    obtain ⟨g, hg, hv, hc⟩ := h.ownL.get i hi
    refine ⟨g, hg, ?_⟩
    rw [hc]
    simp only [List.getElem_map]
    rw [gd i (by omega)]
  · intro i hi
    simp only [gd i (by omega)]
    exact h.eachL _ (List.getElem_mem _)
  · intro i hi g hg
    simp only [gd i (by omega)] at hg
    have hm : g ∈ ls.flatMap entB := List.mem_flatMap.2 ⟨ls[i]'(by omega), List.getElem_mem _, mem_obs.2 hg⟩
    refine ⟨fun e => d0 (by subst e; simp only [List.mem_append]; exact .inr (.inr (.inl hm))), fun gL hL e => ?_⟩
    subst e
    refine d7 gL (mem_obs.2 (by rw [hL]; rfl)) gL ?_ rfl
    simp only [List.mem_append]
    exact .inr (.inl hm)
  · intro i j hi hj hne g hg
    simp only [gd i (by omega)] at hg
    simp only [gd j (by omega)]
    exact flat_disj d3 i j (by omega) (by omega) hne g hg
end Go.Proofs.Ytocfiabbhcgegaa.J
