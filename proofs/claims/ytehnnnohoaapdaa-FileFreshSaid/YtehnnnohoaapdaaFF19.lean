/- Texts joined: KeepQ, StoreS. -/
import Derived.Test.YtehnnnohoaapdaaFF01
import Derived.Test.YtehnnnohoaapdaaFF03
/- A keeper of lists: one more list. No program in sight. -/
namespace Go.Proofs.Ytehnnnohoaapdaa
set_option linter.unusedSectionVars false
set_option linter.unusedSimpArgs false
open Go Go.RowKit
set_option linter.unusedVariables false
theorem nodup_ins {X Y S : List Nat} (h : (X ++ Y).Nodup) (hS : S.Nodup) (hd : ∀ g ∈ S, g ∉ X ++ Y) : (X ++ (S ++ Y)).Nodup := by
  rw [List.nodup_append] at h ⊢
  obtain ⟨h1, h2, h3⟩ := h
  refine ⟨h1, ?_, ?_⟩
  · rw [List.nodup_append]
    exact ⟨hS, h2, fun a ha b hb e => hd a ha (by subst e; exact List.mem_append_right _ hb)⟩
  · intro a ha b hb e
    rcases List.mem_append.1 hb with hb | hb
    · subst e; exact hd a hb (List.mem_append_left _ ha)
    · exact h3 a ha b hb e
theorem nodup_swap {p : Nat} {A A' R : List Nat} (h : (p :: (A ++ R)).Nodup) (hA : A'.Nodup) (hd : ∀ g ∈ A', g ∉ p :: (A ++ R)) : (p :: (A' ++ R)).Nodup := by
  rw [List.nodup_cons, List.nodup_append] at h ⊢
  obtain ⟨h0, h1, h2, h3⟩ := h
  refine ⟨?_, hA, h2, ?_⟩
  · intro hp
    rcases List.mem_append.1 hp with hp | hp
    · exact hd p hp (List.mem_cons_self ..)
    · exact h0 (List.mem_append_right _ hp)
  · intro a ha b hb e
    exact hd a ha (by subst e; exact List.mem_cons_of_mem _ (List.mem_append_right _ hb))
def AtS (s : Nat) (v v' : Value) : Prop := v'.ownBlock = v.ownBlock ∨ ∃ g, v'.ownBlock = some g ∧ s ≤ g
section
variable {T es eb : TypeId} {w w' : World} {base p : Nat} {vL vW vL' vW' : Value} {ls ws : List Ent}
theorem mem_kb {g : Nat} : g ∈ kb p vL vW ls ws ↔ g = p ∨ vL.ownBlock = some g ∨ vW.ownBlock = some g ∨ (∃ x ∈ ls, x.1.ownBlock = some g) ∨ ∃ x ∈ ws, x.1.ownBlock = some g := by
  unfold kb entB
  simp only [List.mem_cons, List.mem_append, List.mem_flatMap, mem_obs]
theorem kb_ne_p (h : (kb p vL vW ls ws).Nodup) {g : Nat} (hg : vL.ownBlock = some g ∨ vW.ownBlock = some g ∨ (∃ x ∈ ls, x.1.ownBlock = some g) ∨ ∃ x ∈ ws, x.1.ownBlock = some g) : g ≠ p := by
  intro e
  subst e
  unfold kb at h
  rw [List.nodup_cons] at h
  refine h.1 ?_
  unfold entB
  simp only [List.mem_append, List.mem_flatMap, mem_obs]
  exact hg
theorem Keeper.addL (hk : Keeper T es eb w base p vL vW ls ws) {s : Value} {l : List UInt8} (ho : Own w base eb s l) (hd : ∀ g, s.ownBlock = some g → g ∉ kb p vL vW ls ws)
    (hL : OwnS w' base es vL' (ls.map (·.1) ++ [s])) (hat : AtS w.heap.size vL vL') (hb : w'.heap[p]? = some (.cells #[vL', vW] T (0, 0)))
    (hG : ∀ k, k < w.heap.size → k ≠ p → vL.ownBlock ≠ some k → w'.heap[k]? = w.heap[k]?) :
    Keeper T es eb w' base p vL' vW (ls ++ [(s, l)]) ws ∧ ∀ g ∈ kb p vL' vW (ls ++ [(s, l)]) ws, g ∈ kb p vL vW ls ws ∨ s.ownBlock = some g ∨ w.heap.size ≤ g := by
  have hdist := hk.dist
  have hlt := hk.lt
  have hs := ownsRow_lt ho
  have d1 : (kb p vL vW (ls ++ [(s, l)]) ws).Nodup := by
    have e1 : kb p vL vW ls ws = (p :: (obs vL ++ (obs vW ++ ls.flatMap entB))) ++ ws.flatMap entB := by simp [kb]
    have e2 : kb p vL vW (ls ++ [(s, l)]) ws = (p :: (obs vL ++ (obs vW ++ ls.flatMap entB))) ++ (obs s ++ ws.flatMap entB) := by simp [kb, entB]
    rw [e2]
    exact nodup_ins (by rw [← e1]; exact hdist) (obs_nodup s) fun g hg => by rw [← e1]; exact hd g (mem_obs.1 hg)
  have m1 : ∀ g ∈ kb p vL vW (ls ++ [(s, l)]) ws, g ∈ kb p vL vW ls ws ∨ s.ownBlock = some g := by
    intro g hg
    rw [mem_kb] at hg ⊢
    rcases hg with h | h | h | ⟨x, hx, h⟩ | h
    · exact .inl (.inl h)
    · exact .inl (.inr (.inl h))
    · exact .inl (.inr (.inr (.inl h)))
    · rcases List.mem_append.1 hx with hx | hx
      · exact .inl (.inr (.inr (.inr (.inl ⟨x, hx, h⟩))))
      · obtain rfl := List.mem_singleton.1 hx
        exact .inr h
    · exact .inl (.inr (.inr (.inr (.inr h))))
  have d2 : (kb p vL' vW (ls ++ [(s, l)]) ws).Nodup := by
    rcases hat with hat | ⟨g, hg, hge⟩
    · have : kb p vL' vW (ls ++ [(s, l)]) ws = kb p vL vW (ls ++ [(s, l)]) ws := by unfold kb obs; rw [hat]
      rw [this]; exact d1
    · refine nodup_swap d1 (obs_nodup _) fun x hx hx2 => ?_
      have : x = g := by have := mem_obs.1 hx; rw [hg] at this; exact (Option.some.inj this).symm
      subst this
      rcases m1 x hx2 with h | h
      · have := (hlt x h).2; omega
      · have := (hs x h).2; omega
  have same : ∀ g, g ∈ kb p vL vW ls ws → vL.ownBlock ≠ some g → g ≠ p → w'.heap[g]? = w.heap[g]? := fun g hg h1 h2 => hG g (hlt g hg).2 h2 h1
  have nd : ∀ g, (vW.ownBlock = some g ∨ (∃ x ∈ ls, x.1.ownBlock = some g) ∨ ∃ x ∈ ws, x.1.ownBlock = some g) → vL.ownBlock ≠ some g ∧ g ≠ p := fun g hg => by
    refine ⟨fun h => ?_, kb_ne_p hdist (.inr hg)⟩
    have hdd := hdist
    unfold kb at hdd
    rw [List.nodup_cons, List.nodup_append] at hdd
    refine hdd.2.2.2 g (mem_obs.2 h) g ?_ rfl
    unfold entB
    simp only [List.mem_append, List.mem_flatMap, mem_obs]
    exact hg
  refine ⟨⟨hb, hk.hp, by simpa using hL, ?_, ?_, ?_, d2⟩, ?_⟩
  · exact ownsRow_same hk.ownW fun g hg => same g (mem_kb.2 (.inr (.inr (.inl hg)))) (nd g (.inl hg)).1 (nd g (.inl hg)).2
  · intro x hx
    rcases List.mem_append.1 hx with hx | hx
    · exact ownsRow_same (hk.eachL x hx) fun g hg => same g (mem_kb.2 (.inr (.inr (.inr (.inl ⟨x, hx, hg⟩))))) (nd g (.inr (.inl ⟨x, hx, hg⟩))).1 (nd g (.inr (.inl ⟨x, hx, hg⟩))).2
    · obtain rfl := List.mem_singleton.1 hx
      refine ownsRow_same ho fun g hg => hG g (hs g hg).2 (fun e => hd g hg (mem_kb.2 (.inl e))) fun e => hd g hg (mem_kb.2 (.inr (.inl e)))
  · intro x hx
    exact ownsRow_same (hk.eachW x hx) fun g hg => same g (mem_kb.2 (.inr (.inr (.inr (.inr ⟨x, hx, hg⟩))))) (nd g (.inr (.inr ⟨x, hx, hg⟩))).1 (nd g (.inr (.inr ⟨x, hx, hg⟩))).2
  · intro g hg
    rcases hat with hat | ⟨g', hg', hge⟩
    · have : kb p vL' vW (ls ++ [(s, l)]) ws = kb p vL vW (ls ++ [(s, l)]) ws := by unfold kb obs; rw [hat]
      rw [this] at hg
      rcases m1 g hg with h | h
      · exact .inl h
      · exact .inr (.inl h)
    · rw [mem_kb] at hg
      rcases hg with h | h | h
      · exact .inl (mem_kb.2 (.inl h))
      · rw [hg'] at h
        cases h
        exact .inr (.inr hge)
      · rcases m1 g (mem_kb.2 (.inr (.inr h))) with h | h
        · exact .inl h
        · exact .inr (.inl h)
theorem Keeper.addW (hk : Keeper T es eb w base p vL vW ls ws) {s : Value} {l : List UInt8} (ho : Own w base eb s l) (hd : ∀ g, s.ownBlock = some g → g ∉ kb p vL vW ls ws)
    (hL : OwnS w' base es vW' (ws.map (·.1) ++ [s])) (hat : AtS w.heap.size vW vW') (hb : w'.heap[p]? = some (.cells #[vL, vW'] T (0, 0)))
    (hG : ∀ k, k < w.heap.size → k ≠ p → vW.ownBlock ≠ some k → w'.heap[k]? = w.heap[k]?) :
    Keeper T es eb w' base p vL vW' ls (ws ++ [(s, l)]) ∧ ∀ g ∈ kb p vL vW' ls (ws ++ [(s, l)]), g ∈ kb p vL vW ls ws ∨ s.ownBlock = some g ∨ w.heap.size ≤ g := by
  have hdist := hk.dist
  have hlt := hk.lt
  have hs := ownsRow_lt ho
  have sw : ∀ {A B : Value} {X Y : List Ent} {g : Nat}, g ∈ kb p A B X Y ↔ g ∈ kb p B A Y X := by
    intro A B X Y g
    rw [mem_kb, mem_kb]
    constructor <;> (rintro (h | h | h | h | h) <;> simp [h])
  have perm : ∀ {A B : Value} {X Y : List Ent}, (kb p A B X Y).Nodup → (kb p B A Y X).Nodup := by
    intro A B X Y h
    refine (List.Perm.nodup_iff ?_).1 h
    unfold kb
    refine List.Perm.cons _ ?_
    rw [← List.append_assoc, ← List.append_assoc (obs B)]
    exact (List.perm_append_comm).append List.perm_append_comm
  have d1 : (kb p vW vL (ws ++ [(s, l)]) ls).Nodup := by
    have e1 : kb p vW vL ws ls = (p :: (obs vW ++ (obs vL ++ ws.flatMap entB))) ++ ls.flatMap entB := by simp [kb]
    have e2 : kb p vW vL (ws ++ [(s, l)]) ls = (p :: (obs vW ++ (obs vL ++ ws.flatMap entB))) ++ (obs s ++ ls.flatMap entB) := by simp [kb, entB]
    rw [e2]
    exact nodup_ins (by rw [← e1]; exact perm hdist) (obs_nodup s) fun g hg => by rw [← e1]; exact fun h => hd g (mem_obs.1 hg) (sw.1 h)
  have m1 : ∀ g ∈ kb p vW vL (ws ++ [(s, l)]) ls, g ∈ kb p vL vW ls ws ∨ s.ownBlock = some g := by
    intro g hg
    rw [mem_kb] at hg
    rcases hg with h | h | h | ⟨x, hx, h⟩ | h
    · exact .inl (mem_kb.2 (.inl h))
    · exact .inl (mem_kb.2 (.inr (.inr (.inl h))))
    · exact .inl (mem_kb.2 (.inr (.inl h)))
    · rcases List.mem_append.1 hx with hx | hx
      · exact .inl (mem_kb.2 (.inr (.inr (.inr (.inr ⟨x, hx, h⟩)))))
      · obtain rfl := List.mem_singleton.1 hx
        exact .inr h
    · exact .inl (mem_kb.2 (.inr (.inr (.inr (.inl h)))))
  have d2 : (kb p vW' vL (ws ++ [(s, l)]) ls).Nodup := by
    rcases hat with hat | ⟨g, hg, hge⟩
    · have : kb p vW' vL (ws ++ [(s, l)]) ls = kb p vW vL (ws ++ [(s, l)]) ls := by unfold kb obs; rw [hat]
      rw [this]; exact d1
    · refine nodup_swap d1 (obs_nodup _) fun x hx hx2 => ?_
      have : x = g := by have := mem_obs.1 hx; rw [hg] at this; exact (Option.some.inj this).symm
      subst this
      rcases m1 x hx2 with h | h
      · have := (hlt x h).2; omega
      · have := (hs x h).2; omega
  have same : ∀ g, g ∈ kb p vL vW ls ws → vW.ownBlock ≠ some g → g ≠ p → w'.heap[g]? = w.heap[g]? := fun g hg h1 h2 => hG g (hlt g hg).2 h2 h1
  have nd : ∀ g, (vL.ownBlock = some g ∨ (∃ x ∈ ws, x.1.ownBlock = some g) ∨ ∃ x ∈ ls, x.1.ownBlock = some g) → vW.ownBlock ≠ some g ∧ g ≠ p := fun g hg => by
    refine ⟨fun h => ?_, kb_ne_p (perm hdist) (.inr hg)⟩
    have hdd := perm hdist
    unfold kb at hdd
    rw [List.nodup_cons, List.nodup_append] at hdd
    refine hdd.2.2.2 g (mem_obs.2 h) g ?_ rfl
    unfold entB
    simp only [List.mem_append, List.mem_flatMap, mem_obs]
    exact hg
  refine ⟨⟨hb, hk.hp, ?_, by simpa using hL, ?_, ?_, perm d2⟩, ?_⟩
  · exact ownsRow_same hk.ownL fun g hg => same g (mem_kb.2 (.inr (.inl hg))) (nd g (.inl hg)).1 (nd g (.inl hg)).2
  · intro x hx
    exact ownsRow_same (hk.eachL x hx) fun g hg => same g (mem_kb.2 (.inr (.inr (.inr (.inl ⟨x, hx, hg⟩))))) (nd g (.inr (.inr ⟨x, hx, hg⟩))).1 (nd g (.inr (.inr ⟨x, hx, hg⟩))).2
  · intro x hx
    rcases List.mem_append.1 hx with hx | hx
    · exact ownsRow_same (hk.eachW x hx) fun g hg => same g (mem_kb.2 (.inr (.inr (.inr (.inr ⟨x, hx, hg⟩))))) (nd g (.inr (.inl ⟨x, hx, hg⟩))).1 (nd g (.inr (.inl ⟨x, hx, hg⟩))).2
    · obtain rfl := List.mem_singleton.1 hx
      refine ownsRow_same ho fun g hg => hG g (hs g hg).2 (fun e => hd g hg (mem_kb.2 (.inl e))) fun e => hd g hg (mem_kb.2 (.inr (.inr (.inl e))))
  · intro g hg
    have hg := sw.1 hg
    rcases hat with hat | ⟨g', hg', hge⟩
    · have : kb p vW' vL (ws ++ [(s, l)]) ls = kb p vW vL (ws ++ [(s, l)]) ls := by unfold kb obs; rw [hat]
      rw [this] at hg
      rcases m1 g hg with h | h
      · exact .inl h
      · exact .inr (.inl h)
    · rw [mem_kb] at hg
      rcases hg with h | h | h
      · exact .inl (mem_kb.2 (.inl h))
      · rw [hg'] at h
        cases h
        exact .inr (.inr hge)
      · rcases m1 g (mem_kb.2 (.inr (.inr h))) with h | h
        · exact .inl h
        · exact .inr (.inl h)
end
end Go.Proofs.Ytehnnnohoaapdaa

/- A slice stored into a cell of a block. No program in sight. -/
namespace Go.Proofs.Ytehnnnohoaapdaa
set_option linter.unusedSectionVars false
set_option linter.unusedSimpArgs false
open Go Go.RowKit
set_option linter.unusedVariables false
section
variable {P : Program} {Q : Exit → Act → World → Prop} {ops : Array Oper} {rest : List Oper} {o : Oper} {a : Act} {w : World}
theorem arm_store_slice (ty : TypeId) (x y : Operand) (ho : o.op = .store ty x y) (hgd : o.guard = none) (b off : Nat) (hx : a.eval x = .pointer (some ⟨b, off, none⟩)) (ao : Option Addr) (n c : Nat) (hy : a.eval y = .slice ao n c)
    (hs : (P.info? ty).map (·.size) = some 1) (C : List Value) (e : TypeId) (hg : w.heap[b]? = some (.cells C.toArray e (0, 0))) (hlt : off < C.length)
    (h : ∀ w', Hid (w'.heap[b]? = some (.cells (C.set off (.slice ao n c)).toArray e (0, 0))) → w.grownBy w' (some b) → wpList P ops Q rest (a.put o.dst undef) w') : wpList P ops Q (o :: rest) a w := by
  have hc : w.cell? ⟨b, off, none⟩ = some C[off] := by
    rw [cell_of_row w b off _ e (0, 0) hg, ← Array.getElem?_toList, List.getElem?_eq_getElem hlt]
  have hf : w.frozen? ⟨b, off, none⟩ = false := by
    unfold World.frozen?
    rw [hg]
    simp
  refine wpList_plain hgd fun _ hK => ?_
  cases hq : P.info? ty with
  | none => simp [hq] at hs
  | some i =>
    have hs' : i.size = 1 := by simpa [hq] using hs
    unfold Oper.wp execOp
    simp only [ho, hx, hy, Instr.storeAt, Instr.sureAddr, Sem.run_bind, Sem.run_pure, Result.andThen_ok]
    have : (storeVar ty ⟨b, off, none⟩ (.slice ao n c)).run P w = .ok () (w.setCell ⟨b, off, none⟩ (.slice ao n c)) := by
      simp [storeVar, sizeOf, typeInfo, hq, hs', Value.cells, storeCells, hc, hf, go_sem]
    rw [this]
    refine hK _ _ (h _ ?_ (grownBy_setC _ _ _))
    show _ = _
    rw [heap_setCell_same w b off _ e _ hg]
    congr 2
    apply Array.ext'
    simp
end
end Go.Proofs.Ytehnnnohoaapdaa
