/- The reference's bytes of a node: the walks of ledgerref9.joined, four, Load. -/
import Derived.Test.YteiepenanffhcaaDoorCopy
import Derived.Test.YteiepenanffhcaaDoorEncode
import Derived.Maps.AppendAt
namespace Go.Proofs.YteiepenanffhcaaDoor
open Go Go.RowKit
set_option linter.unusedVariables false

section
variable {P : Program} {t e : TypeId} {Q : Exit → Act → World → Prop} {ops : Array Oper} {rest : List Oper} {o : Oper} {a : Act} {w : World}
/-- 'append' of bytes to bytes of the call's own, with where the new list lies. -/
theorem arm_append_at (hT : ByteTy P t e) (s x : Operand) (ho : o.op = Op.call { callee := Callee.builtin Builtin.append, args := #[s, x], argTypes := #[t, t] }) (hg : o.guard = none)
    (base : Nat) (v : Value) (l : List UInt8) (hs : a.eval s = v) (hown : Own w base e v l)
    (b m c : Nat) (l2 : List UInt8) (hx : a.eval x = .slice (some ⟨b, 0, none⟩) m c) (hrow : Row w (some ⟨b, 0, none⟩) m l2) (hb : l.length + m ≤ 140737488355328) (hbase : base ≤ w.heap.size)
    (hK : ∀ v' w', Own w' base e v' (l ++ l2) → w.grownBy w' v.ownBlock → (v'.ownBlock = v.ownBlock ∨ v'.ownBlock = some w.heap.size) → wpList P ops Q rest (a.put o.dst v') w') :
    wpList P ops Q (o :: rest) a w := by
  obtain ⟨i, h1, h2, h3, h4, h5⟩ := hT
  have hm := hrow.1
  subst hm
  refine wpList_append_own_at w hg s x t ho base e i (.int .u8 0) 1 1 h1 h2 h3 h4 h5 rfl (by decide) v l.length (bvs l) hs hown ⟨b, 0, none⟩ l2.length c (bvs l2) hx (by simp) (hrow.news _ rfl) (bvs_oneCell _) (by unfold maxLen; omega) (by omega) hbase fun v' w' h6 h7 _ h8 => hK v' w' ?_ h7 h8
  unfold Own; rw [List.length_append, bvs_append]; exact h6
end
/-- A step of a list that grows: its row is the first one's or a new one. -/
def OwnAt (w : World) (v0 v : Value) : Prop := v.ownBlock = v0.ownBlock ∨ ∃ g, v.ownBlock = some g ∧ w.heap.size ≤ g
theorem grown_step {w wr w' : World} {v0 v : Value} (h : w.grownBy wr v0.ownBlock) (hv : OwnAt w v0 v) (G : wr.grownBy w' v.ownBlock) : w.grownBy w' v0.ownBlock :=
  ⟨G.os.trans h.os, G.tape.trans h.tape, G.output.trans h.output, Nat.le_trans h.size G.size, fun k hk hne => (G.block k (Nat.lt_of_lt_of_le hk h.size) (by
    rcases hv with hv | ⟨g, hg, hl⟩
    · rw [hv]; exact hne
    · rw [hg]; intro hx; cases hx; omega)).trans (h.block k hk hne)⟩
theorem grownBy_low {w w' : World} (h : Below w.heap.size w w') (r : Option Nat) : w.grownBy w' r := ⟨h.os, h.tape, h.output, h.size, fun k hk _ => h.block k hk⟩
theorem ownAt_step {w : World} {v0 v v' : Value} {s : Nat} (hv : OwnAt w v0 v) (hs : w.heap.size ≤ s) (h : v'.ownBlock = v.ownBlock ∨ v'.ownBlock = some s) : OwnAt w v0 v' := by
  rcases h with h | h
  · rcases hv with hv | ⟨g, hg, hl⟩
    · exact .inl (h.trans hv)
    · exact .inr ⟨g, h.trans hg, hl⟩
  · exact .inr ⟨_, h, hs⟩

set_option maxRecDepth 100000 in
set_option maxHeartbeats 1000000 in
theorem rjoined_any (base : Nat) (v0 : Value) (l : List UInt8) (ao : Option Addr) (n c : Nat) (m : List UInt8) (w : World) (hb : base ≤ w.heap.size) (ho : Own w base 5 v0 l) (hr : Row w ao n m)
    (hne : ∀ b o, ao = some ⟨b, o, none⟩ → 0 < n → v0.ownBlock ≠ some b) (hlen : l.length + n ≤ 140737488351300) :
    Calls Tryd.prog 51 #[v0, .slice ao n c] w fun e w' => (∃ v, e = .returned v ∧ Own w' base 5 v (l ++ m) ∧ OwnAt w v0 v) ∧ w.grownBy w' v0.ownBlock := by
  have h := Box.mk hr
  have hm := Box.mk hr.1
  have hN := Box.mk hne
  have O0 := Box.mk ho
  have hbb := Box.mk hb
  clear hr hne ho hb
  go_enter Tryd.func51, Tryd.ntmps51
  go_wp2
  go_loopw [0, 5] (fun v i wr => ∃ k : Nat, k ≤ n ∧ i = .int .i64 k ∧ Box (w.grownBy wr v0.ownBlock) ∧ Box (OwnAt w v0 v) ∧ Box (Own wr base 5 v (l ++ m.take k))) (fun v i _ => n - (intOf i).toNat)
  case atStart => exact ⟨0, Nat.zero_le _, rfl, ⟨World.grownBy.refl _ _⟩, ⟨.inl rfl⟩, ⟨by rw [List.take_zero, List.append_nil]; exact O0.out⟩⟩
  case round =>
    obtain ⟨k, hk, rfl, HG, HA, HO⟩ := hrel
    by_cases hlt : k < n
    · obtain ⟨b, o, rfl⟩ := h.out.at0 (by omega)
      have hkl : k < m.length := by rw [hm.out]; exact hlt
      have hbl := h.out.lt (by omega)
      have e0 : wr.cell? ⟨b, o + k, none⟩ = some (.int .u8 (m[k]'hkl).toNat) := (h.out.grown HG.out hbl (hN.out b o rfl (by omega))).cell k hkl
      obtain ⟨u, hu⟩ : ∃ u, m[k]'hkl = u := ⟨_, rfl⟩
      rw [hu] at e0
      have HU := Box.mk (show l ++ m.take (k + 1) = (l ++ m.take k) ++ [u] by rw [List.take_succ_eq_append_getElem hkl, hu, List.append_assoc])
      have hle := Box.mk (show (l ++ m.take k).length ≤ 140737488351300 by simp; omega)
      clear hu hkl hbl
      generalize l ++ m.take k = lk at *
      have hsz := Box.mk HG.out.size
      have R1 := Box.mk (Row.lit1 wr 5 u)
      have hw1 := Box.mk (show base ≤ (wr.alloc (.cells #[.int .u8 (u.toNat : Int)] 5)).heap.size by have := hsz.out; have := hbb.out; simp; omega)
      go_wp2_with ((with_reducible refine arm_append_at byteTyC (.tmp 12) (.tmp 17) ?_ rfl base _ lk ?_ (HO.out.alloc _) wr.heap.size 1 1 [u] ?_ R1.out (by have := hle.out; omega) hw1.out ?_); rfl; rfl; rfl)
      intro v' w' own' G at'
      have HG2 := Box.mk (grown_step (grown_step HG.out HA.out (grownBy_low (Below.refl_alloc wr (.cells #[.int .u8 (u.toNat : Int)] 5)) _)) HA.out G)
      have HA2 := Box.mk (ownAt_step (s := wr.heap.size + 1) HA.out (by have := hsz.out; omega) (by simpa using at'))
      have HO2 := Box.mk own'
      clear own' G at' HG HA HO
      go_wp2
      go_roundw
      case rel => exact ⟨k + 1, by omega, by go_num, HG2, HA2, ⟨by rw [HU.out]; exact HO2.out⟩⟩
      case measure => simp [intOf]; omega
    · obtain rfl : k = n := by omega
      have HO2 := HO.out
      rw [List.take_of_length_le (by rw [hm.out]; omega)] at HO2
      have HO3 := Box.mk HO2
      clear HO HO2
      go_wp2
      go_ret
      exact ⟨⟨_, rfl, HO3.out, HA.out⟩, HG.out⟩

theorem le4_vals (n : Nat) : [Value.int .u8 ((n : Int) % 256), Value.int .u8 ((n : Int) / 256 % 256), Value.int .u8 ((n : Int) / 65536 % 256), Value.int .u8 ((n : Int) / 16777216 % 256)] = bvs (le4 n) := by
  have h0 : ∀ m : Nat, ((UInt8.ofNat m).toNat : Int) = (m : Int) % 256 := fun m => by rw [UInt8.toNat_ofNat']; omega
  show _ = [bv _, bv _, bv _, bv _]
  unfold bv
  rw [h0, h0, h0, h0]
  rfl
set_option maxRecDepth 100000 in
set_option maxHeartbeats 1000000 in
theorem rfour_any (n : Nat) (hn : n ≤ 4096) (w : World) :
    Calls Tryd.prog 52 #[.int .i64 n] w fun e w' => (∃ g, e = .returned (.slice (some ⟨g, 0, none⟩) 4 4) ∧ w.heap.size ≤ g ∧ Row w' (some ⟨g, 0, none⟩) 4 (le4 n)) ∧ Below w.heap.size w w' := by
  go_enter Tryd.func52, Tryd.ntmps52
  go_wp2
  go_ret
  exact ⟨⟨w.heap.size, rfl, Nat.le_refl _, Row.lit w _ 5 (le4 n) (le4_vals n)⟩, Below.refl_alloc w _⟩
-- GEN LOAD
theorem own_base4 {w : World} {a b : Nat} {e : TypeId} {v : Value} {l : List UInt8} (h : Own w b e v l) (hab : a ≤ b) : Own w a e v l := by
  obtain ⟨hl, h⟩ := h
  refine ⟨hl, ?_⟩
  rcases h with h | ⟨g, cap, cur, rfl, h1, h2⟩
  · exact .inl h
  · exact .inr ⟨g, cap, cur, rfl, Nat.le_trans hab h1, h2⟩
theorem own_later {w w' : World} {base : Nat} {e : TypeId} {v : Value} {l : List UInt8} (h : Own w base e v l) (hb : Below w.heap.size w w') : Own w' base e v l :=
  h.below hb fun g hg => (h.lt g hg).2
set_option maxRecDepth 100000 in
set_option maxHeartbeats 4000000 in
theorem rload_leaf (x : NodeV) (w : World) (hk1 : x.kind = 1) (l : List UInt8) (h0 : Row w x.ao x.n l) (hb : x.n ≤ 140737488351232) :
    Calls Tryd.prog 38 #[.agg (nodeC x).toArray] w fun e w' => (∃ v, e = .returned v ∧ Own w' w.heap.size 5 v (x.key.1 ++ l)) ∧ Below w.heap.size w w' := by
  have f1 : (w.alloc (.cells (nodeC x).toArray 30)).heap[w.heap.size]? = some (.cells (nodeC x).toArray 30 (0, 0)) := heap_new rfl
  have B1 := Box.mk (Below.refl_alloc w (.cells (nodeC x).toArray 30))
  have s1 := Box.mk (show (w.alloc (.cells (nodeC x).toArray 30)).heap.size = w.heap.size + 1 by simp)
  have c0 : (w.alloc (.cells (nodeC x).toArray 30)).cell? ⟨w.heap.size, 0, none⟩ = some (.int .i64 1) := by rw [cell_of_row _ _ 0 _ _ _ f1, ← hk1]; rfl
  have C101 := Box.mk (show (w.alloc (.cells (nodeC x).toArray 30)).cell? ⟨w.heap.size, 101, none⟩ = some (.slice x.ao x.n x.c) by rw [cell_of_row _ _ 101 _ _ _ f1]; exact nodeC_val x)
  have r69 := Box.mk (rangeAt_cells f1 (cs := bvs x.key.1) fun j hj => nodeC_key x j (by rwa [length_bvs, x.key.2] at hj))
  have hwl := Box.mk (heap_lt f1)
  have hR := Box.mk h0
  have hl := Box.mk h0.1
  clear f1 hk1 h0
  go_enter Tryd.func38, Tryd.ntmps38
  go_upto_region 1 with fail
  generalize w.alloc (.cells (nodeC x).toArray 30) = w1 at *
  have HB := Box.mk (Below.refl w1.heap.size w1)
  have HO := Box.mk (show Own w1 w1.heap.size 5 (.slice none 0 0) [] from ⟨rfl, .inl ⟨rfl, rfl⟩⟩)
  go_wp2
  go_loopw [3, 4] (fun v i wr => ∃ k : Nat, k ≤ 32 ∧ i = .int .i64 k ∧ Box (Below w1.heap.size w1 wr) ∧ Box (Own wr w1.heap.size 5 v (x.key.1.take k))) (fun v i _ => 32 - (intOf i).toNat)
  case atStart => exact ⟨0, Nat.zero_le _, rfl, HB, ⟨by simpa using HO.out⟩⟩
  clear HB HO
  case round =>
    obtain ⟨k, hk, rfl, HB, HO⟩ := hrel
    by_cases hlt : k < 32
    · have hkl : k < x.key.1.length := by rw [x.key.2]; exact hlt
      have e0 : wr.cell? ⟨w.heap.size, 69 + k, none⟩ = some (.int .u8 (x.key.1[k]'hkl).toNat) := (HB.out.cell (p := ⟨w.heap.size, 69 + k, none⟩) hwl.out).trans (r69.out k _ (by rw [bvs_getElem?, List.getElem?_eq_getElem hkl]; rfl))
      obtain ⟨u, hu⟩ : ∃ u, x.key.1[k]'hkl = u := ⟨_, rfl⟩
      rw [hu] at e0
      have HU := Box.mk (show x.key.1.take (k + 1) = (x.key.1.take k) ++ [u] by rw [List.take_succ_eq_append_getElem hkl, hu])
      have hlen := Box.mk (show (x.key.1.take k).length ≤ 200 by simp; omega)
      have hsz := Box.mk HB.out.size
      clear hu hkl
      generalize x.key.1.take k = lk at *
      have R1 := Box.mk (Row.lit1 wr 5 u)
      have hw2 := Box.mk (show w1.heap.size ≤ (wr.alloc (.cells #[.int .u8 (u.toNat : Int)] 5)).heap.size by have := hsz.out; simp; omega)
      go_wp2_with ((with_reducible refine arm_append byteTyC (.tmp 14) (.tmp 19) ?_ rfl w1.heap.size _ lk ?_ (HO.out.alloc _) (some ⟨wr.heap.size, 0, none⟩) 1 1 [u] ?_ (by intro h; cases h) R1.out (by have := hlen.out; omega) hw2.out ?_); rfl; rfl; rfl)
      intro v' w' own' G
      have hB' := Box.mk ((HB.out.alloc hsz.out (.cells #[.int .u8 (u.toNat : Int)] 5)).grown G hw2.out fun k hk => (HO.out.lt k hk).1)
      have HO2 := Box.mk own'
      clear own' G HB HO
      go_wp2
      go_roundw
      case rel => exact ⟨k + 1, by omega, by go_num, hB', ⟨by rw [HU.out]; exact HO2.out⟩⟩
      case measure => simp [intOf]; omega
    · obtain rfl : k = 32 := by omega
      rw [show ((32 : Nat) : Int) = 32 from rfl]
      have HO5 := HO.out
      rw [List.take_of_length_le (by rw [x.key.2]; omega)] at HO5
      have HO := Box.mk HO5
      clear HO5
      have c1 := (HB.out.cell (p := ⟨w.heap.size, 101, none⟩) hwl.out).trans C101.out
      have b1 := Box.mk (B1.out.trans (HB.out.mono B1.out.size))
      have hj := Box.mk (fun v (hO : Own wr w1.heap.size 5 v x.key.1) => rjoined_any w1.heap.size v x.key.1 x.ao x.n x.c l wr HB.out.size hO (hR.out.old b1.out) (fun b o hx hn hv => by
        have h1 := hR.out
        rw [hx] at h1
        have h2 := h1.lt hn
        have h3 := (hO.lt b hv).1
        have := s1.out
        omega) (by rw [x.key.2]; omega))
      go_wp2_with (go_at_call 51; refine (calls_box (hj.out _ HO.out)).mono ?_)
      rintro e w2 ⟨⟨⟨v2, rfl, own2, at2⟩, G2⟩⟩
      have b2 := Box.mk (b1.out.grown G2 b1.out.size fun k hk => by have := (HO.out.lt k hk).1; have := s1.out; omega)
      have O2 := Box.mk (own_base4 own2 (a := w.heap.size) (by rw [s1.out]; omega))
      clear own2 at2 G2 hj HO
      go_wp2
      go_ret
      exact ⟨⟨_, rfl, O2.out⟩, b2.out⟩

set_option maxRecDepth 100000 in
set_option maxHeartbeats 4000000 in
theorem rload_branch (x : NodeV) (w : World) (hk1 : x.kind = 2) (lp rp lc rc : Nat) (h1 : x.left = lp) (h2 : x.right = rp) (h3 : x.lc = lc) (h4 : x.rc = rc) (b1 : lp ≤ 4096) (b2 : rp ≤ 4096) (b3 : lc ≤ 4096) (b4 : rc ≤ 4096) :
    Calls Tryd.prog 38 #[.agg (nodeC x).toArray] w fun e w' => (∃ v, e = .returned v ∧ Own w' w.heap.size 5 v (le4 lp ++ (le4 rp ++ (le4 lc ++ (le4 rc ++ (x.ls.1 ++ x.rs.1)))))) ∧ Below w.heap.size w w' := by
  have f1 : (w.alloc (.cells (nodeC x).toArray 30)).heap[w.heap.size]? = some (.cells (nodeC x).toArray 30 (0, 0)) := heap_new rfl
  have B1 := Box.mk (Below.refl_alloc w (.cells (nodeC x).toArray 30))
  have s1 := Box.mk (show (w.alloc (.cells (nodeC x).toArray 30)).heap.size = w.heap.size + 1 by simp)
  have c0 : (w.alloc (.cells (nodeC x).toArray 30)).cell? ⟨w.heap.size, 0, none⟩ = some (.int .i64 2) := by rw [cell_of_row _ _ 0 _ _ _ f1, ← hk1]; rfl
  have C1 := Box.mk (show (w.alloc (.cells (nodeC x).toArray 30)).cell? ⟨w.heap.size, 1, none⟩ = some (.int .i64 lp) by rw [cell_of_row _ _ 1 _ _ _ f1, ← h1]; rfl)
  have C2 := Box.mk (show (w.alloc (.cells (nodeC x).toArray 30)).cell? ⟨w.heap.size, 2, none⟩ = some (.int .i64 rp) by rw [cell_of_row _ _ 2 _ _ _ f1, ← h2]; rfl)
  have C3 := Box.mk (show (w.alloc (.cells (nodeC x).toArray 30)).cell? ⟨w.heap.size, 3, none⟩ = some (.int .i64 lc) by rw [cell_of_row _ _ 3 _ _ _ f1, ← h3]; rfl)
  have C4 := Box.mk (show (w.alloc (.cells (nodeC x).toArray 30)).cell? ⟨w.heap.size, 4, none⟩ = some (.int .i64 rc) by rw [cell_of_row _ _ 4 _ _ _ f1, ← h4]; rfl)
  have r5 := Box.mk (rangeAt_cells f1 (cs := bvs x.ls.1) fun j hj => nodeC_ls x j (by rwa [length_bvs, x.ls.2] at hj))
  have r37 := Box.mk (rangeAt_cells f1 (cs := bvs x.rs.1) fun j hj => nodeC_rs x j (by rwa [length_bvs, x.rs.2] at hj))
  have hwl := Box.mk (heap_lt f1)
  clear f1 hk1 h1 h2 h3 h4
  go_enter Tryd.func38, Tryd.ntmps38
  go_upto_region 1 with fail
  generalize w.alloc (.cells (nodeC x).toArray 30) = w1 at *
  have HB := Box.mk (Below.refl w1.heap.size w1)
  have HO := Box.mk (show Own w1 w1.heap.size 5 (.slice none 0 0) [] from ⟨rfl, .inl ⟨rfl, rfl⟩⟩)
  have c1 := (HB.out.cell (p := ⟨w.heap.size, 1, none⟩) hwl.out).trans C1.out
  have hf := Box.mk (fun W => rfour_any lp b1 W)
  go_wp2_with (go_at_call 52; refine (calls_box (hf.out _)).mono ?_)
  rintro e W1a ⟨⟨⟨g, rfl, hg, hrow⟩, hB⟩⟩
  have HB2 := Box.mk (HB.out.trans (hB.mono HB.out.size))
  have HO2 := Box.mk (own_later HO.out hB)
  have hrw := Box.mk hrow
  have hgg := Box.mk hg
  have hj := Box.mk (rjoined_any w1.heap.size (.slice none 0 0) [] (some ⟨g, 0, none⟩) 4 4 (le4 lp) W1a HB2.out.size HO2.out hrw.out (fun b o hx hn hv => by cases hx; have := (HO.out.lt _ hv).2; have := hgg.out; omega) (by simp))
  clear c1 hf hg hrow hB
  go_wp2_with (go_at_call 51; refine (calls_box hj.out).mono ?_)
  rintro e W1 ⟨⟨⟨v1, rfl, own2, at2⟩, G2⟩⟩
  have HB3 := Box.mk (HB2.out.grown G2 HB2.out.size fun k hk => (HO2.out.lt k hk).1)
  have HO3 := Box.mk own2
  clear HB HO HB2 HO2 own2 at2 G2 hj hrw hgg
  have HB := HB3
  have HO := HO3
  clear HB3 HO3
  have c1 := (HB.out.cell (p := ⟨w.heap.size, 2, none⟩) hwl.out).trans C2.out
  have hf := Box.mk (fun W => rfour_any rp b2 W)
  go_wp2_with (go_at_call 52; refine (calls_box (hf.out _)).mono ?_)
  rintro e W2a ⟨⟨⟨g, rfl, hg, hrow⟩, hB⟩⟩
  have HB2 := Box.mk (HB.out.trans (hB.mono HB.out.size))
  have HO2 := Box.mk (own_later HO.out hB)
  have hrw := Box.mk hrow
  have hgg := Box.mk hg
  have hj := Box.mk (rjoined_any w1.heap.size v1 ([] ++ le4 lp) (some ⟨g, 0, none⟩) 4 4 (le4 rp) W2a HB2.out.size HO2.out hrw.out (fun b o hx hn hv => by cases hx; have := (HO.out.lt _ hv).2; have := hgg.out; omega) (by simp [le4]))
  clear c1 hf hg hrow hB
  go_wp2_with (go_at_call 51; refine (calls_box hj.out).mono ?_)
  rintro e W2 ⟨⟨⟨v2, rfl, own2, at2⟩, G2⟩⟩
  have HB3 := Box.mk (HB2.out.grown G2 HB2.out.size fun k hk => (HO2.out.lt k hk).1)
  have HO3 := Box.mk own2
  clear HB HO HB2 HO2 own2 at2 G2 hj hrw hgg
  have HB := HB3
  have HO := HO3
  clear HB3 HO3
  have c1 := (HB.out.cell (p := ⟨w.heap.size, 3, none⟩) hwl.out).trans C3.out
  have hf := Box.mk (fun W => rfour_any lc b3 W)
  go_wp2_with (go_at_call 52; refine (calls_box (hf.out _)).mono ?_)
  rintro e W3a ⟨⟨⟨g, rfl, hg, hrow⟩, hB⟩⟩
  have HB2 := Box.mk (HB.out.trans (hB.mono HB.out.size))
  have HO2 := Box.mk (own_later HO.out hB)
  have hrw := Box.mk hrow
  have hgg := Box.mk hg
  have hj := Box.mk (rjoined_any w1.heap.size v2 (([] ++ le4 lp) ++ le4 rp) (some ⟨g, 0, none⟩) 4 4 (le4 lc) W3a HB2.out.size HO2.out hrw.out (fun b o hx hn hv => by cases hx; have := (HO.out.lt _ hv).2; have := hgg.out; omega) (by simp [le4]))
  clear c1 hf hg hrow hB
  go_wp2_with (go_at_call 51; refine (calls_box hj.out).mono ?_)
  rintro e W3 ⟨⟨⟨v3, rfl, own2, at2⟩, G2⟩⟩
  have HB3 := Box.mk (HB2.out.grown G2 HB2.out.size fun k hk => (HO2.out.lt k hk).1)
  have HO3 := Box.mk own2
  clear HB HO HB2 HO2 own2 at2 G2 hj hrw hgg
  have HB := HB3
  have HO := HO3
  clear HB3 HO3
  have c1 := (HB.out.cell (p := ⟨w.heap.size, 4, none⟩) hwl.out).trans C4.out
  have hf := Box.mk (fun W => rfour_any rc b4 W)
  go_wp2_with (go_at_call 52; refine (calls_box (hf.out _)).mono ?_)
  rintro e W4a ⟨⟨⟨g, rfl, hg, hrow⟩, hB⟩⟩
  have HB2 := Box.mk (HB.out.trans (hB.mono HB.out.size))
  have HO2 := Box.mk (own_later HO.out hB)
  have hrw := Box.mk hrow
  have hgg := Box.mk hg
  have hj := Box.mk (rjoined_any w1.heap.size v3 ((([] ++ le4 lp) ++ le4 rp) ++ le4 lc) (some ⟨g, 0, none⟩) 4 4 (le4 rc) W4a HB2.out.size HO2.out hrw.out (fun b o hx hn hv => by cases hx; have := (HO.out.lt _ hv).2; have := hgg.out; omega) (by simp [le4]))
  clear c1 hf hg hrow hB
  go_wp2_with (go_at_call 51; refine (calls_box hj.out).mono ?_)
  rintro e W4 ⟨⟨⟨v4, rfl, own2, at2⟩, G2⟩⟩
  have HB3 := Box.mk (HB2.out.grown G2 HB2.out.size fun k hk => (HO2.out.lt k hk).1)
  have HO3 := Box.mk own2
  clear HB HO HB2 HO2 own2 at2 G2 hj hrw hgg
  have HB := HB3
  have HO := HO3
  clear HB3 HO3
  have hO4 := HO.out
  obtain ⟨P4, hP4⟩ : ∃ P4, (((([] ++ le4 lp) ++ le4 rp) ++ le4 lc) ++ le4 rc) = P4 := ⟨_, rfl⟩
  rw [hP4] at hO4
  have HP4 := Box.mk hP4
  have hLlen := Box.mk (show P4.length = 16 by rw [← hP4]; rfl)
  clear HO hP4
  have HO := Box.mk hO4
  clear hO4
  go_wp2
  go_loopw [3, 5] (fun v i wr => ∃ k : Nat, k ≤ 32 ∧ i = .int .i64 k ∧ Box (Below w1.heap.size w1 wr) ∧ Box (Own wr w1.heap.size 5 v (P4 ++ x.ls.1.take k))) (fun v i _ => 32 - (intOf i).toNat)
  case atStart => exact ⟨0, Nat.zero_le _, rfl, HB, ⟨by simpa using HO.out⟩⟩
  clear HB HO
  case round =>
    obtain ⟨k, hk, rfl, HB, HO⟩ := hrel
    by_cases hlt : k < 32
    · have hkl : k < x.ls.1.length := by rw [x.ls.2]; exact hlt
      have e0 : wr.cell? ⟨w.heap.size, 5 + k, none⟩ = some (.int .u8 (x.ls.1[k]'hkl).toNat) := (HB.out.cell (p := ⟨w.heap.size, 5 + k, none⟩) hwl.out).trans (r5.out k _ (by rw [bvs_getElem?, List.getElem?_eq_getElem hkl]; rfl))
      obtain ⟨u, hu⟩ : ∃ u, x.ls.1[k]'hkl = u := ⟨_, rfl⟩
      rw [hu] at e0
      have HU := Box.mk (show P4 ++ x.ls.1.take (k + 1) = (P4 ++ x.ls.1.take k) ++ [u] by rw [List.take_succ_eq_append_getElem hkl, hu, List.append_assoc])
      have hlen := Box.mk (show (P4 ++ x.ls.1.take k).length ≤ 200 by have := hLlen.out; simp; omega)
      have hsz := Box.mk HB.out.size
      clear hu hkl
      generalize P4 ++ x.ls.1.take k = lk at *
      have R1 := Box.mk (Row.lit1 wr 5 u)
      have hw2 := Box.mk (show w1.heap.size ≤ (wr.alloc (.cells #[.int .u8 (u.toNat : Int)] 5)).heap.size by have := hsz.out; simp; omega)
      go_wp2_with ((with_reducible refine arm_append byteTyC (.tmp 49) (.tmp 54) ?_ rfl w1.heap.size _ lk ?_ (HO.out.alloc _) (some ⟨wr.heap.size, 0, none⟩) 1 1 [u] ?_ (by intro h; cases h) R1.out (by have := hlen.out; omega) hw2.out ?_); rfl; rfl; rfl)
      intro v' w' own' G
      have hB' := Box.mk ((HB.out.alloc hsz.out (.cells #[.int .u8 (u.toNat : Int)] 5)).grown G hw2.out fun k hk => (HO.out.lt k hk).1)
      have HO2 := Box.mk own'
      clear own' G HB HO
      go_wp2
      go_roundw
      case rel => exact ⟨k + 1, by omega, by go_num, hB', ⟨by rw [HU.out]; exact HO2.out⟩⟩
      case measure => simp [intOf]; omega
    · obtain rfl : k = 32 := by omega
      rw [show ((32 : Nat) : Int) = 32 from rfl]
      have HO5 := HO.out
      rw [List.take_of_length_le (by rw [x.ls.2]; omega)] at HO5
      have HO := Box.mk HO5
      clear HO5
      have hO5 := HO.out
      obtain ⟨P5, hP5⟩ : ∃ P5, P4 ++ x.ls.1 = P5 := ⟨_, rfl⟩
      rw [hP5] at hO5
      have HP5 := Box.mk hP5
      have hLlen2 := Box.mk (show P5.length = 48 by rw [← hP5, List.length_append, hLlen.out, x.ls.2])
      clear HO hP5 hLlen
      have hLlen := hLlen2
      have HO := Box.mk hO5
      clear hO5 hLlen2
      go_wp2
      obtain ⟨wz, hwz⟩ : ∃ y, y = wr := ⟨_, rfl⟩
      subst hwz
      go_loopw [3, 6] (fun v i wr => ∃ k : Nat, k ≤ 32 ∧ i = .int .i64 k ∧ Box (Below w1.heap.size w1 wr) ∧ Box (Own wr w1.heap.size 5 v (P5 ++ x.rs.1.take k))) (fun v i _ => 32 - (intOf i).toNat)
      case atStart => exact ⟨0, Nat.zero_le _, rfl, HB, ⟨by simpa using HO.out⟩⟩
      clear HB HO
      case round =>
        obtain ⟨k, hk, rfl, HB, HO⟩ := hrel
        by_cases hlt : k < 32
        · have hkl : k < x.rs.1.length := by rw [x.rs.2]; exact hlt
          have e0 : wr.cell? ⟨w.heap.size, 37 + k, none⟩ = some (.int .u8 (x.rs.1[k]'hkl).toNat) := (HB.out.cell (p := ⟨w.heap.size, 37 + k, none⟩) hwl.out).trans (r37.out k _ (by rw [bvs_getElem?, List.getElem?_eq_getElem hkl]; rfl))
          obtain ⟨u, hu⟩ : ∃ u, x.rs.1[k]'hkl = u := ⟨_, rfl⟩
          rw [hu] at e0
          have HU := Box.mk (show P5 ++ x.rs.1.take (k + 1) = (P5 ++ x.rs.1.take k) ++ [u] by rw [List.take_succ_eq_append_getElem hkl, hu, List.append_assoc])
          have hlen := Box.mk (show (P5 ++ x.rs.1.take k).length ≤ 200 by have := hLlen.out; simp; omega)
          have hsz := Box.mk HB.out.size
          clear hu hkl
          generalize P5 ++ x.rs.1.take k = lk at *
          have R1 := Box.mk (Row.lit1 wr 5 u)
          have hw2 := Box.mk (show w1.heap.size ≤ (wr.alloc (.cells #[.int .u8 (u.toNat : Int)] 5)).heap.size by have := hsz.out; simp; omega)
          go_wp2_with ((with_reducible refine arm_append byteTyC (.tmp 60) (.tmp 65) ?_ rfl w1.heap.size _ lk ?_ (HO.out.alloc _) (some ⟨wr.heap.size, 0, none⟩) 1 1 [u] ?_ (by intro h; cases h) R1.out (by have := hlen.out; omega) hw2.out ?_); rfl; rfl; rfl)
          intro v' w' own' G
          have hB' := Box.mk ((HB.out.alloc hsz.out (.cells #[.int .u8 (u.toNat : Int)] 5)).grown G hw2.out fun k hk => (HO.out.lt k hk).1)
          have HO2 := Box.mk own'
          clear own' G HB HO
          go_wp2
          go_roundw
          case rel => exact ⟨k + 1, by omega, by go_num, hB', ⟨by rw [HU.out]; exact HO2.out⟩⟩
          case measure => simp [intOf]; omega
        · obtain rfl : k = 32 := by omega
          rw [show ((32 : Nat) : Int) = 32 from rfl]
          have HO5 := HO.out
          rw [List.take_of_length_le (by rw [x.rs.2]; omega)] at HO5
          have HO := Box.mk HO5
          clear HO5
          have hO6 := HO.out
          have hfin : P5 ++ x.rs.1 = le4 lp ++ (le4 rp ++ (le4 lc ++ (le4 rc ++ (x.ls.1 ++ x.rs.1)))) := by rw [← HP5.out, ← HP4.out]; simp
          rw [hfin] at hO6
          have O2 := Box.mk (own_base4 hO6 (a := w.heap.size) (by rw [s1.out]; omega))
          have b2 := Box.mk (B1.out.trans (HB.out.mono B1.out.size))
          clear HO hO6 hfin
          go_wp2
          go_ret
          exact ⟨⟨_, rfl, O2.out⟩, b2.out⟩
end Go.Proofs.YteiepenanffhcaaDoor
