/- The keeper as one fact, its contracts over it. -/
import Derived.Test.YtocfiabbhcgegaaJKeepA
namespace Go.Proofs.Ytocfiabbhcgegaa.J
open Go Go.RowKit
set_option linter.unusedVariables false

/-- The keeper at p holds at most m lists, all right; the blocks F are none of its own. -/
def KInv (w W : World) (B p m : Nat) (F : List Nat) : Prop :=
  ∃ vL vW ls ws, Keeper KT 26 5 W B p vL vW ls ws ∧ ls.map (·.2) = ws.map (·.2) ∧ ls.length ≤ m ∧ (∀ x ∈ ls, x.2.length ≤ 140737488351400) ∧
    Below B w W ∧ (kb p vL vW ls ws ++ F).Nodup ∧ ∀ g ∈ F, g < W.heap.size
section
variable {w W W' : World} {B p m : Nat} {F : List Nat}
theorem KInv.bel (h : KInv w W B p m F) : Below B w W := by
  obtain ⟨_, _, _, _, _, _, _, _, h, _⟩ := h
  exact h
theorem KInv.base (h : KInv w W B p m F) : B ≤ p ∧ p < W.heap.size := by
  obtain ⟨_, _, _, _, hk, _⟩ := h
  exact ⟨hk.hp, heap_lt hk.blk⟩
theorem KInv.lt (h : KInv w W B p m F) : ∀ g ∈ F, g < W.heap.size := by
  obtain ⟨_, _, _, _, _, _, _, _, _, _, h⟩ := h
  exact h
theorem KInv.mono {m' : Nat} (h : KInv w W B p m F) (hm : m ≤ m') : KInv w W B p m' F := by
  obtain ⟨vL, vW, ls, ws, h1, h2, h3, h⟩ := h
  exact ⟨vL, vW, ls, ws, h1, h2, Nat.le_trans h3 hm, h⟩
theorem KInv.new (hb : W.heap[p]? = some (.cells #[.slice none 0 0, .slice none 0 0] KT (0, 0))) (hp : B ≤ p) (hB : Below B w W) (hF : F.Nodup) (hl : ∀ g ∈ F, g < W.heap.size) (hpF : p ∉ F) : KInv w W B p 0 F :=
  ⟨_, _, [], [], Keeper.new hb hp, rfl, Nat.le_refl _, (fun x hx => by cases hx), hB, by
    have : kb p (.slice none 0 0) (.slice none 0 0) [] [] = [p] := rfl
    rw [this]
    exact List.nodup_cons.2 ⟨hpF, hF⟩, hl⟩
theorem KInv.perm {F' : List Nat} (h : KInv w W B p m F) (hp : F.Perm F') : KInv w W B p m F' := by
  obtain ⟨vL, vW, ls, ws, h1, h2, h3, h4, h5, h6, h7⟩ := h
  exact ⟨vL, vW, ls, ws, h1, h2, h3, h4, h5, ((List.Perm.append_left _ hp).nodup_iff).1 h6, fun g hg => h7 g (hp.mem_iff.2 hg)⟩
theorem KInv.drop {S : List Nat} (h : KInv w W B p m (S ++ F)) : KInv w W B p m F := by
  obtain ⟨vL, vW, ls, ws, h1, h2, h3, h4, h5, h6, h7⟩ := h
  exact ⟨vL, vW, ls, ws, h1, h2, h3, h4, h5, h6.sublist (List.Sublist.append_left (List.sublist_append_right S F) _), fun g hg => h7 g (List.mem_append_right _ hg)⟩
theorem KInv.add {S : List Nat} (h : KInv w W B p m F) (hb : Below W.heap.size W W') (hS : S.Nodup) (hn : ∀ g ∈ S, W.heap.size ≤ g ∧ g < W'.heap.size) : KInv w W' B p m (S ++ F) := by
  obtain ⟨vL, vW, ls, ws, h1, h2, h3, h4, h5, h6, h7⟩ := h
  have hlt := h1.lt
  have hBW : B ≤ W.heap.size := by have := h1.hp; have := heap_lt h1.blk; omega
  refine ⟨vL, vW, ls, ws, h1.low hb, h2, h3, h4, h5.trans (hb.mono hBW), nodup_ins h6 hS fun g hg hx => ?_, fun g hg => ?_⟩
  · have := (hn g hg).1
    rcases List.mem_append.1 hx with hx | hx
    · have := (hlt g hx).2; omega
    · have := h7 g hx; omega
  · rcases List.mem_append.1 hg with hg | hg
    · exact (hn g hg).2
    · exact Nat.lt_of_lt_of_le (h7 g hg) hb.size
theorem KInv.low (h : KInv w W B p m F) (hb : Below W.heap.size W W') : KInv w W' B p m F :=
  KInv.add (S := []) h hb List.nodup_nil fun g hg => by cases hg
/-- A list of the call's own in a new block joins F. -/
theorem KInv.own {v : Value} {e : TypeId} {l : List UInt8} (h : KInv w W B p m F) (hb : Below W.heap.size W W') (ho : Own W' W.heap.size e v l) : KInv w W' B p m (obs v ++ F) :=
  h.add hb (obs_nodup v) fun g hg => ownsRow_lt ho g (mem_obs.1 hg)
theorem KInv.blk {g : Nat} {o : Obj} (h : KInv w W B p m F) (hb : Below W.heap.size W W') (hg : W'.heap[g]? = some o) (hge : W.heap.size ≤ g) : KInv w W' B p m (g :: F) :=
  KInv.add (S := [g]) h hb (by simp) fun x hx => by
    obtain rfl : x = g := by simpa using hx
    exact ⟨hge, heap_lt hg⟩
end

set_option maxRecDepth 100000 in
theorem keep_inv {w W : World} {B p m : Nat} {F : List Nat} {ao : Option Addr} {n c : Nat} {l : List UInt8} (h : KInv w W B p m (obs (.slice ao n c) ++ F)) (ho : Own W B 5 (.slice ao n c) l) (hl : l.length ≤ 140737488351400) (hm : m ≤ 100000) :
    Calls Try.prog 8 #[.pointer (some ⟨p, 0, none⟩), .slice ao n c] W fun e W' => e = .returned (.tuple #[]) ∧ KInv w W' B p (m + 1) F ∧ (∀ g ∈ F, W'.heap[g]? = W.heap[g]?) ∧ W.heap.size ≤ W'.heap.size := by
  obtain ⟨vL, vW, ls, ws, h1, h2, h3, h4, h5, h6, h7⟩ := h
  have hlt := h1.lt
  have hBW : B ≤ W.heap.size := by have := h1.hp; have := heap_lt h1.blk; omega
  have hlw : ws.length = ls.length := by have := congrArg List.length h2; simpa using this.symm
  rw [List.nodup_append, List.nodup_append] at h6
  obtain ⟨n1, ⟨n2, n3, n4⟩, n5⟩ := h6
  refine (keep_any B p vL vW ls ws ao n c l W h1 ho (fun g hg hx => n5 g hx g (List.mem_append_left _ (mem_obs.2 hg)) rfl) hl hBW (by omega) (by omega)).mono ?_
  rintro e W' ⟨⟨vL', vW', v', rfl, hk, hnew⟩, hg⟩
  have hFk : ∀ g ∈ F, g ∉ kb p vL vW ls ws := fun g hg hx => n5 g hx g (List.mem_append_right _ hg) rfl
  have hF : ∀ g ∈ F, W'.heap[g]? = W.heap[g]? := fun g hgF => hg.block g (h7 g (List.mem_append_right _ hgF)) (hFk g hgF)
  refine ⟨rfl, ⟨vL', vW', _, _, hk, ?_, ?_, ?_, h5.trans (hg.below hBW fun g hx => (hlt g hx).1), ?_, ?_⟩, hF, hg.size⟩
  · rw [List.map_append, List.map_append, h2]; rfl
  · rw [List.length_append]; simp; omega
  · intro x hx
    rcases List.mem_append.1 hx with hx | hx
    · exact h4 x hx
    · obtain rfl : x = (.slice ao n c, l) := by simpa using hx
      exact hl
  · rw [List.nodup_append]
    refine ⟨hk.dist, n3, fun a ha b hb e => ?_⟩
    subst e
    rcases hnew a ha with h | h | h
    · exact hFk a hb h
    · exact n4 a (mem_obs.2 h) a hb rfl
    · have := h7 a (List.mem_append_right _ hb); omega
  · intro g hgF
    exact Nat.lt_of_lt_of_le (h7 g (List.mem_append_right _ hgF)) hg.size
theorem untouched_inv {w W : World} {B p m : Nat} {F : List Nat} (h : KInv w W B p m F) (hm : m ≤ 100000) :
    Calls Try.prog 10 #[.pointer (some ⟨p, 0, none⟩)] W fun e W' => e = .returned (.bool true) ∧ KInv w W' B p m F := by
  have h0 := h
  obtain ⟨vL, vW, ls, ws, h1, h2, h3, h4, h5, h6, h7⟩ := h
  refine (untouched_any B p vL vW ls ws W h1 h2 h4 (by omega)).mono ?_
  rintro e W' ⟨rfl, q, rfl⟩
  exact ⟨rfl, h0.low (below_drewN2 (Below.refl _ _) q)⟩
theorem apart_inv {w W : World} {B p m : Nat} {F : List Nat} (h : KInv w W B p m F) (hm : m ≤ 100000) :
    Calls Try.prog 11 #[.pointer (some ⟨p, 0, none⟩)] W fun e W' => e = .returned (.bool true) ∧ Below B w W' := by
  obtain ⟨vL, vW, ls, ws, h1, h2, h3, h4, h5, h6, h7⟩ := h
  obtain ⟨aL, nL, cL, rfl, hnL⟩ := h1.ownL.sl
  have hLl : nL = ls.length := by have h1 := hnL.out.1; simpa using h1
  refine (apart_any B p aL nL cL _ _ W h1.hp h1.lists.2 ?_ (by omega)).mono ?_
  · intro i hi
    show (ls.getD i default).2.length ≤ _
    rw [List.getD_eq_getElem?_getD, List.getElem?_eq_getElem (by omega)]
    exact h4 _ (List.getElem_mem _)
  · rintro e W' ⟨rfl, hB⟩
    exact ⟨rfl, h5.trans hB⟩
end Go.Proofs.Ytocfiabbhcgegaa.J
