/- NodeFresh: what the walk wants besides. -/
import Derived.Test.YtocfiabbhcgegaaKeepR
import Derived.Test.YtocfiabbhcgegaaBackP
import Derived.Test.YtocfiabbhcgegaaOpenNodes
namespace Go.Proofs.Ytocfiabbhcgegaa
open Go Go.RowKit
set_option linter.unusedVariables false

section
variable {P : Program} {Q : Exit → Act → World → Prop} {ops : Array Oper} {rest : List Oper} {o : Oper} {a : Act} {w : World}
theorem arm_mid (ty : TypeId) (x : Operand) (ho : o.op = .load ty x) (hw : Region.wanted o (yielded ops a.tmps) = true)
    (b off : Nat) (hx : a.eval x = .pointer (some ⟨b, off, none⟩)) (cs : List Value) (d : TypeDesc) (hS : w.rangeAt b off cs) (hu : P.underlying ty = some d) (hd : d.isRow = true) (hi : (P.info? ty).map (·.size) = some cs.length)
    (h : wpList P ops Q rest (a.put o.dst (.agg cs.toArray)) w) : wpList P ops Q (o :: rest) a w :=
  wpList_load_midg hw ty x ho b off hx cs d hS hu hd hi h
theorem arm_store_row (ty : TypeId) (x y : Operand) (ho : o.op = .store ty x y) (hgd : o.guard = none)
    (g : Nat) (old cells : Array Value) (et : TypeId) (hx : a.eval x = .pointer (some ⟨g, 0, none⟩)) (hy : a.eval y = .agg cells) (hg : w.heap[g]? = some (.cells old et (0, 0))) (hs : old.size = cells.size)
    (hi : (P.info? ty).map (·.size) = some cells.size) (h1 : cells.all (·.oneCell') = true)
    (h : ∀ w', Hid (w'.heap[g]? = some (.cells cells et (0, 0))) → w.grownBy w' (some g) → wpList P ops Q rest (a.put o.dst undef) w') : wpList P ops Q (o :: rest) a w :=
  wpList_store_row hgd ty x y ho g old cells et hx hy hg hs hi h1 h
end
theorem nodeC_setval (x : NodeV) (ao : Option Addr) (n c : Nat) : (nodeC x).set 101 (.slice ao n c) = nodeC { x with ao := ao, n := n, c := c } := by
  have h : ∀ (A : List Value) (u v : Value), A.length = 101 → (A ++ [u]).set 101 v = A ++ [v] := fun A u v hA => by
    rw [List.set_append_right _ _ (by omega), hA]; rfl
  unfold nodeC
  simp only [← List.append_assoc]
  exact h _ _ _ (by simp [x.ls.2, x.rs.2, x.key.2])

/-- What Encode hands out. -/
def encTT (y : NodeV) (l : List UInt8) : List UInt8 := if rightB y = true then encT y l else []
theorem enc_out (y : NodeV) (q1 : inI64 y.left) (q2 : inI64 y.right) (q3 : inI64 y.lc) (q4 : inI64 y.rc) (l : List UInt8) (w : World) (h : Row w y.ao y.n l) (hn : y.ao = none → y.n = 0 ∧ y.c = 0) (hb : y.n ≤ 140737488351232) :
    Calls Try.prog 13 #[.agg (nodeC y).toArray] w fun e w' =>
      (∃ a m cap, e = .returned (.tuple #[.slice a m cap, .int .i64 (if rightB y = true then 0 else 90)]) ∧ Own w' w.heap.size 5 (.slice a m cap) (encTT y l)) ∧ Below w.heap.size w w' := by
  refine (encode_any y q1 q2 q3 q4 l w h hn hb).mono ?_
  rintro e w' ⟨he, hB⟩
  refine ⟨?_, hB⟩
  unfold encTT
  rcases he with ⟨hr, g, cap, rfl, own⟩ | ⟨hr, rfl⟩
  · rw [hr]; exact ⟨_, _, _, rfl, own⟩
  · rw [hr]; exact ⟨_, _, _, rfl, own_nil _ _ _⟩
theorem rightB_set (x : NodeV) (ao : Option Addr) (c : Nat) : rightB { x with ao := ao, n := x.n, c := c } = rightB x := rfl
theorem encT_set (x : NodeV) (ao : Option Addr) (c : Nat) (l : List UInt8) : encT { x with ao := ao, n := x.n, c := c } l = encT x l := rfl
theorem length_encTT (y : NodeV) (l : List UInt8) (hl : l.length = y.n) : (encTT y l).length ≤ 246 := by
  unfold encTT
  split
  · exact (back_right y l hl (by assumption)).2.1
  · exact Nat.zero_le _
theorem enc_dec (x : NodeV) (l : List UInt8) (hl : l.length = x.n) (h : rightB x = true) : decOk x.kind (encTT x l) = true ∧ ∀ ao c, eqNode (decY x.kind (encTT x l) ao c) x (decL x.kind (encTT x l)) l = true := by
  unfold encTT
  rw [if_pos h]
  exact ⟨(back_right x l hl h).1, (back_right x l hl h).2.2⟩
theorem KInv.wrote {w W W' : World} {B p m : Nat} {F S : List Nat} (h : KInv w W B p m F) (hg : Grew W W' S) (hS : ∀ g ∈ S, g ∈ F ∧ B ≤ g) : KInv w W' B p m F := by
  obtain ⟨vL, vW, ls, ws, h1, h2, h3, h4, h5, h6, h7⟩ := h
  have hBW : B ≤ W.heap.size := by have := h1.hp; have := heap_lt h1.blk; omega
  have hd := h6
  rw [List.nodup_append] at hd
  exact ⟨vL, vW, ls, ws, h1.grew hg (fun g hx hy => hd.2.2 g hy g (hS g hx).1 rfl), h2, h3, h4, h5.trans (hg.below hBW fun g hx => (hS g hx).2), h6, fun g hx => Nat.lt_of_lt_of_le (h7 g hx) hg.size⟩
theorem own_stay {w w' : World} {base : Nat} {e : TypeId} {v : Value} {l : List UInt8} (h : Own w base e v l) (hs : ∀ g ∈ obs v, w'.heap[g]? = w.heap[g]?) : Own w' base e v l :=
  ownsRow_same h fun g hg => hs g (mem_obs.2 hg)
theorem own_low {w w' : World} {base b2 : Nat} {e : TypeId} {v : Value} {l : List UInt8} (h : Own w b2 e v l) (hb : Below w.heap.size w w') (hle : base ≤ b2) : Own w' base e v l :=
  own_lower (ownsRow_same h fun g hg => hb.block g (ownsRow_lt h g hg).2) hle
theorem own_facts {w : World} {base : Nat} {e : TypeId} {ao : Option Addr} {n c : Nat} {l : List UInt8} (h : Own w base e (.slice ao n c) l) : Row w ao n l ∧ n = l.length ∧ n ≤ c ∧ c ≤ maxLen ∧ (ao = none → n = 0 ∧ c = 0) := by
  obtain ⟨ao2, cap2, hv, hr2, hm2, hc2, h6⟩ := h.open
  rw [Value.slice.injEq] at hv
  obtain ⟨rfl, rfl, rfl⟩ := hv
  exact ⟨hr2, rfl, by omega, by omega, own_none h⟩
theorem perm_turn (A B C R : List Nat) (m : Nat) : (C ++ (m :: (B ++ (A ++ R)))).Perm (A ++ (B ++ (C ++ (m :: R)))) :=
  List.perm_iff_count.2 fun a => by simp only [List.count_append, List.count_cons]; omega
theorem length_branchText (d e : D32) (k : Nat) (hk : k ≤ 32) : (1 :: (d.1.take k ++ e.1.take k) : List UInt8).length ≤ 100 := by
  simp only [List.length_cons, List.length_append, List.length_take]; omega
theorem row_front {w : World} {g n : Nat} {e : TypeId} {L : List UInt8} (h : w.heap[g]? = some (.cells (bvs (roomyL L)).toArray e (0, 0))) (hl : L.length = n) : Row w (some ⟨g, 0, none⟩) n L := by
  have := (Row.of_row h).take n (by rw [length_roomyL]; omega)
  have e1 : (roomyL L).take n = L := by
    unfold roomyL
    rw [List.take_append_of_le_length (by omega), List.take_of_length_le (by omega)]
  rwa [e1] at this
theorem row_whole {w : World} {g n : Nat} {e : TypeId} {L : List UInt8} (h : w.heap[g]? = some (.cells (bvs (roomyL L)).toArray e (0, 0))) (hl : L.length = n) : Row w (some ⟨g, 0, none⟩) (n + 100) (roomyL L) := by
  have := Row.of_row h
  rwa [length_roomyL, hl] at this
theorem own_whole {w : World} {g n base : Nat} {e : TypeId} {L : List UInt8} (h : w.heap[g]? = some (.cells (bvs (roomyL L)).toArray e (0, 0))) (hl : L.length = n) (hb : base ≤ g) (hm : n ≤ 140737488351232) : Own w base e (.slice (some ⟨g, 0, none⟩) (n + 100) (n + 100)) (roomyL L) := by
  refine ⟨by rw [length_bvs, Nat.mul_one], .inr ⟨g, n + 100, _, by rw [length_roomyL, hl], hb, h, ?_⟩⟩
  have h1 : (roomyL L).length = n + 100 := by rw [length_roomyL, hl]
  refine ⟨by omega, by unfold maxLen; omega, by rw [List.size_toArray, length_bvs, h1]; omega, ?_⟩
  simp [List.take_of_length_le]
end Go.Proofs.Ytocfiabbhcgegaa
