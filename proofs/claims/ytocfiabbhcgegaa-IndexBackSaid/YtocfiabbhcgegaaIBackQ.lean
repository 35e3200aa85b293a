/- IndexBack: what the walk wants besides. -/
import Derived.Test.YtocfiabbhcgegaaIBackP
import Derived.Test.YtocfiabbhcgegaaIEq
import Derived.Test.YtocfiabbhcgegaaJKeepR
import Derived.Test.YtocfiabbhcgegaaStoreO
import Derived.Test.YtocfiabbhcgegaaArm2
namespace Go.Proofs.Ytocfiabbhcgegaa
open Go Go.RowKit
set_option linter.unusedVariables false

section
variable {P : Program} {Q : Exit → Act → World → Prop} {ops : Array Oper} {rest : List Oper} {o : Oper} {a : Act} {w : World}
theorem arm_store_row' (ty : TypeId) (x y : Operand) (ho : o.op = .store ty x y) (hgd : o.guard = none)
    (g : Nat) (old cells : Array Value) (et : TypeId) (hx : a.eval x = .pointer (some ⟨g, 0, none⟩)) (hy : a.eval y = .agg cells) (hg : w.heap[g]? = some (.cells old et (0, 0))) (hs : old.size = cells.size)
    (hi : (P.info? ty).map (·.size) = some cells.size) (h1 : cells.all (·.oneCell') = true)
    (h : ∀ w', Hid (w'.heap[g]? = some (.cells cells et (0, 0))) → w.grownBy w' (some g) → wpList P ops Q rest (a.put o.dst undef) w') : wpList P ops Q (o :: rest) a w :=
  wpList_store_row hgd ty x y ho g old cells et hx hy hg hs hi h1 h
end
theorem xor1G : ∀ n : Fin 256, bits .xor .u8 ((n.1 : Nat) : Int) 1 = (((UInt8.ofNat n.1) ^^^ 1).toNat : Int) := by decide +kernel
theorem xor1' (x : UInt8) : bits .xor .u8 (x.toNat : Int) 1 = ((x ^^^ 1).toNat : Int) := by
  have h := xor1G ⟨x.toNat, x.toNat_lt⟩
  simpa using h
theorem xorNe : ∀ n : Fin 256, (UInt8.ofNat n.1) ^^^ 1 ≠ UInt8.ofNat n.1 := by decide +kernel
theorem xor_ne (x : UInt8) : x ^^^ 1 ≠ x := by
  have h := xorNe ⟨x.toNat, x.toNat_lt⟩
  simpa using h
/-- A record with the last bit of its sum turned. -/
def lastB (x : RecV) : UInt8 := x.sum.1.getD 31 0
def turnR (x : RecV) : RecV := { x with sum := ⟨x.sum.1.set 31 (lastB x ^^^ 1), by rw [List.length_set]; exact x.sum.2⟩ }
theorem turn_right (x : RecV) : rightR (turnR x) = rightR x := rfl
theorem turn_enc (x : RecV) : eqB (encR (turnR x)) (encR x) = false := by
  have hl : x.sum.1.length = 32 := x.sum.2
  have h : encR (turnR x) ≠ encR x := fun h => by
    unfold encR turnR at h
    simp only at h
    have h1 := List.append_cancel_left h
    have h2 := List.append_cancel_left h1
    have h3 := List.append_cancel_left h2
    have h4 := List.append_cancel_left h3
    have h5 := List.append_cancel_left h4
    have h6 := List.append_cancel_left h5
    have h7 := congrArg (fun l : List UInt8 => l.getD 31 0) h6
    simp only [List.getD_eq_getElem?_getD, List.getElem?_set, hl] at h7
    refine xor_ne (lastB x) ?_
    unfold lastB
    rw [List.getD_eq_getElem?_getD]
    simpa [lastB, List.getD_eq_getElem?_getD] using h7
  rw [eqB_false]
  exact h
theorem turn_cells (x : RecV) : (recC x).set 37 (.int .u8 (((lastB x) ^^^ 1).toNat : Int)) = recC (turnR x) := by
  have hl : x.sum.1.length = 32 := x.sum.2
  unfold recC turnR
  simp only
  rw [List.set_append_right _ _ (by simp)]
  congr 1
  show (bvs x.sum.1).set 31 (bv (lastB x ^^^ 1)) = _
  rw [bvs_put]
theorem turn_cell (x : RecV) : (recC x).toArray[37]? = some (.int .u8 ((lastB x).toNat : Int)) := by
  have hl : x.sum.1.length = 32 := x.sum.2
  rw [show 37 = 6 + 31 from rfl, recC_sum x 31 (by omega), bvs_getElem?, List.getElem?_eq_getElem (by omega)]
  unfold lastB
  rw [List.getD_eq_getElem?_getD, List.getElem?_eq_getElem (by omega)]
  rfl
theorem ienc_yes (x : RecV) (h : rightR x = true) (w : World) :
    Calls Try.prog 5 #[.agg (recC x).toArray] w fun e w' => (∃ g cap, e = .returned (.tuple #[.slice (some ⟨g, 0, none⟩) 56 cap, .int .i64 0]) ∧ Own w' w.heap.size 5 (.slice (some ⟨g, 0, none⟩) 56 cap) (encR x)) ∧ Below w.heap.size w w' :=
  (ienc_any x w).mono fun e w' ⟨he, hB⟩ => ⟨by
    rcases he with ⟨_, h⟩ | ⟨h', _⟩
    · exact h
    · exact Bool.noConfusion (h'.symm.trans h), hB⟩
theorem ienc_no (x : RecV) (h : rightR x = false) (w : World) :
    Calls Try.prog 5 #[.agg (recC x).toArray] w fun e w' => e = .returned (.tuple #[.slice none 0 0, .int .i64 150]) ∧ Below w.heap.size w w' :=
  (ienc_any x w).mono fun e w' ⟨he, hB⟩ => ⟨by
    rcases he with ⟨h', _⟩ | ⟨_, h⟩
    · exact Bool.noConfusion (h'.symm.trans h)
    · exact h, hB⟩
theorem own_stay' {w w' : World} {base : Nat} {e : TypeId} {v : Value} {l : List UInt8} (h : Own w base e v l) (hs : ∀ g ∈ obs v, w'.heap[g]? = w.heap[g]?) : Own w' base e v l :=
  ownsRow_same h fun g hg => hs g (mem_obs.2 hg)
theorem own_low' {w w' : World} {base b2 : Nat} {e : TypeId} {v : Value} {l : List UInt8} (h : Own w b2 e v l) (hb : Below w.heap.size w w') (hle : base ≤ b2) : Own w' base e v l :=
  J.own_lower (ownsRow_same h fun g hg => hb.block g (ownsRow_lt h g hg).2) hle
theorem own_none' {w : World} {base : Nat} {e : TypeId} {ao : Option Addr} {n c : Nat} {l : List UInt8} (h : Own w base e (.slice ao n c) l) : ao = none → n = 0 ∧ c = 0 := by
  rintro rfl
  obtain ⟨hl, ⟨h1, h2⟩ | ⟨g, cap, cur, h1, h2⟩⟩ := h
  · rw [Value.slice.injEq] at h1; exact ⟨h1.2.1, h1.2.2⟩
  · rw [Value.slice.injEq] at h1; cases h1.1
theorem own_facts' {w : World} {base : Nat} {e : TypeId} {ao : Option Addr} {n c : Nat} {l : List UInt8} (h : Own w base e (.slice ao n c) l) : Row w ao n l ∧ n = l.length ∧ n ≤ c ∧ c ≤ maxLen ∧ (ao = none → n = 0 ∧ c = 0) := by
  obtain ⟨ao2, cap2, hv, hr2, hm2, hc2, h6⟩ := h.open
  rw [Value.slice.injEq] at hv
  obtain ⟨rfl, rfl, rfl⟩ := hv
  exact ⟨hr2, rfl, by omega, by omega, own_none' h⟩

/-- The keeper at p, with one list of which it is known that it holds it. -/
def KHold (w W : World) (B p m : Nat) (F : List Nat) (v : Value) (t : List UInt8) : Prop :=
  ∃ vL vW ls ws, Keeper J.KT 26 5 W B p vL vW ls ws ∧ ls.map (·.2) = ws.map (·.2) ∧ ls.length ≤ m ∧ (∀ x ∈ ls, x.2.length ≤ 140737488351400) ∧
    Below B w W ∧ (kb p vL vW ls ws ++ F).Nodup ∧ (∀ g ∈ F, g < W.heap.size) ∧ (v, t) ∈ ls
section
variable {w W W' : World} {B p m : Nat} {F : List Nat} {v : Value} {t : List UInt8}
theorem KHold.inv (h : KHold w W B p m F v t) : J.KInv w W B p m F := by
  obtain ⟨vL, vW, ls, ws, h1, h2, h3, h4, h5, h6, h7, h8⟩ := h
  exact ⟨vL, vW, ls, ws, h1, h2, h3, h4, h5, h6, h7⟩
theorem KHold.held (h : KHold w W B p m F v t) : Own W B 5 v t := by
  obtain ⟨vL, vW, ls, ws, h1, h2, h3, h4, h5, h6, h7, h8⟩ := h
  exact h1.eachL _ h8
theorem KHold.bel (h : KHold w W B p m F v t) : Below B w W := h.inv.bel
theorem KHold.mono {m' : Nat} (h : KHold w W B p m F v t) (hm : m ≤ m') : KHold w W B p m' F v t := by
  obtain ⟨vL, vW, ls, ws, h1, h2, h3, h⟩ := h
  exact ⟨vL, vW, ls, ws, h1, h2, Nat.le_trans h3 hm, h⟩
theorem KHold.perm {F' : List Nat} (h : KHold w W B p m F v t) (hp : F.Perm F') : KHold w W B p m F' v t := by
  obtain ⟨vL, vW, ls, ws, h1, h2, h3, h4, h5, h6, h7, h8⟩ := h
  exact ⟨vL, vW, ls, ws, h1, h2, h3, h4, h5, ((List.Perm.append_left _ hp).nodup_iff).1 h6, fun g hg => h7 g (hp.mem_iff.2 hg), h8⟩
theorem KHold.add {S : List Nat} (h : KHold w W B p m F v t) (hb : Below W.heap.size W W') (hS : S.Nodup) (hn : ∀ g ∈ S, W.heap.size ≤ g ∧ g < W'.heap.size) : KHold w W' B p m (S ++ F) v t := by
  obtain ⟨vL, vW, ls, ws, h1, h2, h3, h4, h5, h6, h7, h8⟩ := h
  have hlt := h1.lt
  have hBW : B ≤ W.heap.size := by have := h1.hp; have := heap_lt h1.blk; omega
  refine ⟨vL, vW, ls, ws, h1.low hb, h2, h3, h4, h5.trans (hb.mono hBW), nodup_ins h6 hS fun g hg hx => ?_, fun g hg => ?_, h8⟩
  · have := (hn g hg).1
    rcases List.mem_append.1 hx with hx | hx
    · have := (hlt g hx).2; omega
    · have := h7 g hx; omega
  · rcases List.mem_append.1 hg with hg | hg
    · exact (hn g hg).2
    · exact Nat.lt_of_lt_of_le (h7 g hg) hb.size
theorem KHold.low (h : KHold w W B p m F v t) (hb : Below W.heap.size W W') : KHold w W' B p m F v t :=
  KHold.add (S := []) h hb List.nodup_nil fun g hg => by cases hg
theorem KHold.own {u : Value} {e : TypeId} {l : List UInt8} (h : KHold w W B p m F v t) (hb : Below W.heap.size W W') (ho : Own W' W.heap.size e u l) : KHold w W' B p m (obs u ++ F) v t :=
  h.add hb (obs_nodup u) fun g hg => ownsRow_lt ho g (mem_obs.1 hg)
theorem KHold.blk {g : Nat} {o : Obj} (h : KHold w W B p m F v t) (hb : Below W.heap.size W W') (hg : W'.heap[g]? = some o) (hge : W.heap.size ≤ g) : KHold w W' B p m (g :: F) v t :=
  KHold.add (S := [g]) h hb (by simp) fun x hx => by
    obtain rfl : x = g := by simpa using hx
    exact ⟨hge, heap_lt hg⟩
theorem KHold.wrote {S : List Nat} (h : KHold w W B p m F v t) (hg : Grew W W' S) (hS : ∀ g ∈ S, g ∈ F ∧ B ≤ g) : KHold w W' B p m F v t := by
  obtain ⟨vL, vW, ls, ws, h1, h2, h3, h4, h5, h6, h7, h8⟩ := h
  have hBW : B ≤ W.heap.size := by have := h1.hp; have := heap_lt h1.blk; omega
  have hd := h6
  rw [List.nodup_append] at hd
  exact ⟨vL, vW, ls, ws, h1.grew hg (fun g hx hy => hd.2.2 g hy g (hS g hx).1 rfl), h2, h3, h4, h5.trans (hg.below hBW fun g hx => (hS g hx).2), h6, fun g hx => Nat.lt_of_lt_of_le (h7 g hx) hg.size, h8⟩
end
set_option maxRecDepth 100000 in
theorem keep_held {w W : World} {B p m : Nat} {F : List Nat} {ao : Option Addr} {n c : Nat} {l : List UInt8} {S : List Ent} (h : ∃ vL vW ls ws, Keeper J.KT 26 5 W B p vL vW ls ws ∧ ls.map (·.2) = ws.map (·.2) ∧ ls.length ≤ m ∧ (∀ x ∈ ls, x.2.length ≤ 140737488351400) ∧
    Below B w W ∧ (kb p vL vW ls ws ++ (obs (.slice ao n c) ++ F)).Nodup ∧ (∀ g ∈ obs (.slice ao n c) ++ F, g < W.heap.size) ∧ ∀ s ∈ S, s ∈ ls) (ho : Own W B 5 (.slice ao n c) l) (hl : l.length ≤ 140737488351400) (hm : m ≤ 100000) :
    Calls Try.prog 8 #[.pointer (some ⟨p, 0, none⟩), .slice ao n c] W fun e W' => e = .returned (.tuple #[]) ∧ (∀ s, s ∈ S ∨ s = (.slice ao n c, l) → KHold w W' B p (m + 1) F s.1 s.2) ∧ (∀ g ∈ F, W'.heap[g]? = W.heap[g]?) ∧ W.heap.size ≤ W'.heap.size := by
  obtain ⟨vL, vW, ls, ws, h1, h2, h3, h4, h5, h6, h7, h8⟩ := h
  have hlt := h1.lt
  have hBW : B ≤ W.heap.size := by have := h1.hp; have := heap_lt h1.blk; omega
  have hlw : ws.length = ls.length := by have := congrArg List.length h2; simpa using this.symm
  rw [List.nodup_append, List.nodup_append] at h6
  obtain ⟨n1, ⟨n2, n3, n4⟩, n5⟩ := h6
  refine (J.keep_any B p vL vW ls ws ao n c l W h1 ho (fun g hg hx => n5 g hx g (List.mem_append_left _ (mem_obs.2 hg)) rfl) hl hBW (by omega) (by omega)).mono ?_
  rintro e W' ⟨⟨vL', vW', v', rfl, hk, hnew⟩, hg⟩
  have hFk : ∀ g ∈ F, g ∉ kb p vL vW ls ws := fun g hg hx => n5 g hx g (List.mem_append_right _ hg) rfl
  have hF : ∀ g ∈ F, W'.heap[g]? = W.heap[g]? := fun g hgF => hg.block g (h7 g (List.mem_append_right _ hgF)) (hFk g hgF)
  refine ⟨rfl, fun s hs => ⟨vL', vW', _, _, hk, ?_, ?_, ?_, h5.trans (hg.below hBW fun g hx => (hlt g hx).1), ?_, ?_, ?_⟩, hF, hg.size⟩
  · rw [List.map_append, List.map_append, h2]; rfl
  · rw [List.length_append]; simp; omega
  · intro x hx
    rcases List.mem_append.1 hx with hx | hx
    · exact h4 x hx
    · obtain rfl : x = (.slice ao n c, l) := by simpa using hx
      exact hl
  · rw [List.nodup_append]
    refine ⟨hk.dist, n3, fun a ha b hb e => ?_⟩
    subst e
    rcases hnew a ha with h | h | h
    · exact hFk a hb h
    · exact n4 a (mem_obs.2 h) a hb rfl
    · have := h7 a (List.mem_append_right _ hb); omega
  · intro g hgF
    exact Nat.lt_of_lt_of_le (h7 g (List.mem_append_right _ hgF)) hg.size
  · rcases hs with hs | rfl
    · exact List.mem_append_left _ (h8 s hs)
    · simp
theorem keep_first {w W : World} {B p m : Nat} {F : List Nat} {ao : Option Addr} {n c : Nat} {l : List UInt8} (h : J.KInv w W B p m (obs (.slice ao n c) ++ F)) (ho : Own W B 5 (.slice ao n c) l) (hl : l.length ≤ 140737488351400) (hm : m ≤ 100000) :
    Calls Try.prog 8 #[.pointer (some ⟨p, 0, none⟩), .slice ao n c] W fun e W' => e = .returned (.tuple #[]) ∧ KHold w W' B p (m + 1) F (.slice ao n c) l ∧ (∀ g ∈ F, W'.heap[g]? = W.heap[g]?) ∧ W.heap.size ≤ W'.heap.size := by
  obtain ⟨vL, vW, ls, ws, h1, h2, h3, h4, h5, h6, h7⟩ := h
  refine (keep_held (S := []) ⟨vL, vW, ls, ws, h1, h2, h3, h4, h5, h6, h7, fun s hs => by cases hs⟩ ho hl hm).mono ?_
  rintro e W' ⟨a, b, c, d⟩
  exact ⟨a, b _ (.inr rfl), c, d⟩
theorem keep_next {w W : World} {B p m : Nat} {F : List Nat} {ao : Option Addr} {n c : Nat} {l t : List UInt8} {v : Value} (h : KHold w W B p m (obs (.slice ao n c) ++ F) v t) (ho : Own W B 5 (.slice ao n c) l) (hl : l.length ≤ 140737488351400) (hm : m ≤ 100000) :
    Calls Try.prog 8 #[.pointer (some ⟨p, 0, none⟩), .slice ao n c] W fun e W' => e = .returned (.tuple #[]) ∧ KHold w W' B p (m + 1) F v t ∧ (∀ g ∈ F, W'.heap[g]? = W.heap[g]?) ∧ W.heap.size ≤ W'.heap.size := by
  obtain ⟨vL, vW, ls, ws, h1, h2, h3, h4, h5, h6, h7, h8⟩ := h
  refine (keep_held (S := [(v, t)]) ⟨vL, vW, ls, ws, h1, h2, h3, h4, h5, h6, h7, fun s hs => by (obtain rfl : s = (v, t) := by simpa using hs); exact h8⟩ ho hl hm).mono ?_
  rintro e W' ⟨a, b, c, d⟩
  exact ⟨a, b (v, t) (.inl (by simp)), c, d⟩
end Go.Proofs.Ytocfiabbhcgegaa
