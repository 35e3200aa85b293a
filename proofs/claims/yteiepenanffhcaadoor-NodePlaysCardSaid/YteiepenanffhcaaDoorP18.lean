/- Texts joined: ClimbsLaw, RLoad, RRight. -/
import Derived.Test.YteiepenanffhcaaDoorP05
import Derived.Test.YteiepenanffhcaaDoorP06
import Derived.Test.YteiepenanffhcaaDoorP08
import Derived.Test.YteiepenanffhcaaDoorP17
import Derived.Test.YteiepenanffhcaaDoorP09
import Derived.Test.YteiepenanffhcaaDoorP01
import Derived.Test.YteiepenanffhcaaDoorP04
import Derived.Maps.AppendAt
import Derived.Test.YteiepenanffhcaaDoorP03
/- NodeClimbs: the walk of the law. -/
namespace Go.Proofs.YteiepenanffhcaaDoor
open Go Go.RowKit
set_option linter.unusedVariables false

theorem climbs_each {S : S8} {K : List UInt32} {w : World} {o : OpV} (hA : Laid S K w) (hR : LaidR S K w) (hk : o.kind = 8) (W : World) (hb : Below w.heap.size w W) :
    Calls Tryd.prog 11 #[.agg (opC o).toArray] W fun e W' => e = .returned (.bool true) ∧ Below W.heap.size W W' := by
  have hA1 := hA.old hb
  have hR1 := hR.old hb
  exact plays_num8 o hk W fun o' hk' W' hW => numbersPlay_climb o' hk' W' (climbD S K o'.w o'.k o'.n o'.d o'.m)
      (fun W2 h2 => climb_any o'.w o'.k o'.n o'.d o'.m W2 ((hA1.old hW).old h2)) (fun W2 h2 => rclimb_any o'.w o'.k o'.n o'.d o'.m W2 hA.1 ((hR1.old hW).old h2))

set_option maxHeartbeats 800000 in
theorem climbs_walk {S : S8} {K : List UInt32} (ao : Option Addr) (n c : Nat) (os : List OpV) (w : World) (h : Ops w ao n os) (mx : n ≤ 4611686018427387904) (hA : Laid S K w) (hR : LaidR S K w) :
    Calls Tryd.prog 8 #[.slice ao n c] w fun e w' => e = .returned (.bool true) ∧ Below w.heap.size w w' := by
  have hU := Box.mk (upTo_any 8 8 ao n c os w h mx fun o ho h1 h2 W hb => climbs_each hA hR (by omega) W hb)
  clear h hA hR
  go_enter Tryd.func8, Tryd.ntmps8
  go_wp2_with (go_at_call 10; refine (calls_box hU.out).mono ?_)
  rintro e w1 ⟨⟨rfl, hB⟩⟩
  go_wp2
  go_ret
  exact ⟨rfl, hB⟩
end Go.Proofs.YteiepenanffhcaaDoor

/- The reference's bytes of a node: the walks of ledgerref9.joined, four, Load. -/
namespace Go.Proofs.YteiepenanffhcaaDoor
open Go Go.RowKit
set_option linter.unusedVariables false

section
variable {P : Program} {t e : TypeId} {Q : Exit → Act → World → Prop} {ops : Array Oper} {rest : List Oper} {o : Oper} {a : Act} {w : World}
/-- 'append' of bytes to bytes of the call's own, with where the new list lies. -/
theorem arm_append_at (hT : ByteTy P t e) (s x : Operand) (ho : o.op = Op.call { callee := Callee.builtin Builtin.append, args := #[s, x], argTypes := #[t, t] }) (hg : o.guard = none)
    (base : Nat) (v : Value) (l : List UInt8) (hs : a.eval s = v) (hown : Own w base e v l)
    (b m c : Nat) (l2 : List UInt8) (hx : a.eval x = .slice (some ⟨b, 0, none⟩) m c) (hrow : Row w (some ⟨b, 0, none⟩) m l2) (hb : l.length + m ≤ 140737488355328) (hbase : base ≤ w.heap.size)
    (hK : ∀ v' w', Own w' base e v' (l ++ l2) → w.grownBy w' v.ownBlock → (v'.ownBlock = v.ownBlock ∨ v'.ownBlock = some w.heap.size) → wpList P ops Q rest (a.put o.dst v') w') :
    wpList P ops Q (o :: rest) a w := by
  obtain ⟨i, h1, h2, h3, h4, h5⟩ := hT
  have hm := hrow.1
  subst hm
  refine wpList_append_own_at w hg s x t ho base e i (.int .u8 0) 1 1 h1 h2 h3 h4 h5 rfl (by decide) v l.length (bvs l) hs hown ⟨b, 0, none⟩ l2.length c (bvs l2) hx (by simp) (hrow.news _ rfl) (bvs_oneCell _) (by unfold maxLen; omega) (by omega) hbase fun v' w' h6 h7 _ h8 => hK v' w' ?_ h7 h8
  unfold Own; rw [List.length_append, bvs_append]; exact h6
end
/-- A step of a list that grows: its row is the first one's or a new one. -/
def OwnAt (w : World) (v0 v : Value) : Prop := v.ownBlock = v0.ownBlock ∨ ∃ g, v.ownBlock = some g ∧ w.heap.size ≤ g
theorem grown_step {w wr w' : World} {v0 v : Value} (h : w.grownBy wr v0.ownBlock) (hv : OwnAt w v0 v) (G : wr.grownBy w' v.ownBlock) : w.grownBy w' v0.ownBlock :=
  ⟨G.os.trans h.os, G.tape.trans h.tape, G.output.trans h.output, Nat.le_trans h.size G.size, fun k hk hne => (G.block k (Nat.lt_of_lt_of_le hk h.size) (by
    rcases hv with hv | ⟨g, hg, hl⟩
    · rw [hv]; exact hne
    · rw [hg]; intro hx; cases hx; omega)).trans (h.block k hk hne)⟩
theorem grownBy_low {w w' : World} (h : Below w.heap.size w w') (r : Option Nat) : w.grownBy w' r := ⟨h.os, h.tape, h.output, h.size, fun k hk _ => h.block k hk⟩
theorem ownAt_step {w : World} {v0 v v' : Value} {s : Nat} (hv : OwnAt w v0 v) (hs : w.heap.size ≤ s) (h : v'.ownBlock = v.ownBlock ∨ v'.ownBlock = some s) : OwnAt w v0 v' := by
  rcases h with h | h
  · rcases hv with hv | ⟨g, hg, hl⟩
    · exact .inl (h.trans hv)
    · exact .inr ⟨g, h.trans hg, hl⟩
  · exact .inr ⟨_, h, hs⟩

set_option maxRecDepth 100000 in
set_option maxHeartbeats 1000000 in
theorem rjoined_any (base : Nat) (v0 : Value) (l : List UInt8) (ao : Option Addr) (n c : Nat) (m : List UInt8) (w : World) (hb : base ≤ w.heap.size) (ho : Own w base 5 v0 l) (hr : Row w ao n m)
    (hne : ∀ b o, ao = some ⟨b, o, none⟩ → 0 < n → v0.ownBlock ≠ some b) (hlen : l.length + n ≤ 140737488351300) :
    Calls Tryd.prog 51 #[v0, .slice ao n c] w fun e w' => (∃ v, e = .returned v ∧ Own w' base 5 v (l ++ m) ∧ OwnAt w v0 v) ∧ w.grownBy w' v0.ownBlock := by
  have h := Box.mk hr
  have hm := Box.mk hr.1
  have hN := Box.mk hne
  have O0 := Box.mk ho
  have hbb := Box.mk hb
  clear hr hne ho hb
  go_enter Tryd.func51, Tryd.ntmps51
  go_wp2
  go_loopw [0, 5] (fun v i wr => ∃ k : Nat, k ≤ n ∧ i = .int .i64 k ∧ Box (w.grownBy wr v0.ownBlock) ∧ Box (OwnAt w v0 v) ∧ Box (Own wr base 5 v (l ++ m.take k))) (fun v i _ => n - (intOf i).toNat)
  case atStart => exact ⟨0, Nat.zero_le _, rfl, ⟨World.grownBy.refl _ _⟩, ⟨.inl rfl⟩, ⟨by rw [List.take_zero, List.append_nil]; exact O0.out⟩⟩
  case round =>
    obtain ⟨k, hk, rfl, HG, HA, HO⟩ := hrel
    by_cases hlt : k < n
    · obtain ⟨b, o, rfl⟩ := h.out.at0 (by omega)
      have hkl : k < m.length := by rw [hm.out]; exact hlt
      have hbl := h.out.lt (by omega)
      have e0 : wr.cell? ⟨b, o + k, none⟩ = some (.int .u8 (m[k]'hkl).toNat) := (h.out.grown HG.out hbl (hN.out b o rfl (by omega))).cell k hkl
      obtain ⟨u, hu⟩ : ∃ u, m[k]'hkl = u := ⟨_, rfl⟩
      rw [hu] at e0
      have HU := Box.mk (show l ++ m.take (k + 1) = (l ++ m.take k) ++ [u] by rw [List.take_succ_eq_append_getElem hkl, hu, List.append_assoc])
      have hle := Box.mk (show (l ++ m.take k).length ≤ 140737488351300 by simp; omega)
      clear hu hkl hbl
      generalize l ++ m.take k = lk at *
      have hsz := Box.mk HG.out.size
      have R1 := Box.mk (Row.lit1 wr 5 u)
      have hw1 := Box.mk (show base ≤ (wr.alloc (.cells #[.int .u8 (u.toNat : Int)] 5)).heap.size by have := hsz.out; have := hbb.out; simp; omega)
      go_wp2_with ((with_reducible refine arm_append_at byteTyC (.tmp 12) (.tmp 17) ?_ rfl base _ lk ?_ (HO.out.alloc _) wr.heap.size 1 1 [u] ?_ R1.out (by have := hle.out; omega) hw1.out ?_); rfl; rfl; rfl)
      intro v' w' own' G at'
      have HG2 := Box.mk (grown_step (grown_step HG.out HA.out (grownBy_low (Below.refl_alloc wr (.cells #[.int .u8 (u.toNat : Int)] 5)) _)) HA.out G)
      have HA2 := Box.mk (ownAt_step (s := wr.heap.size + 1) HA.out (by have := hsz.out; omega) (by simpa using at'))
      have HO2 := Box.mk own'
      clear own' G at' HG HA HO
      go_wp2
      go_roundw
      case rel => exact ⟨k + 1, by omega, by go_num, HG2, HA2, ⟨by rw [HU.out]; exact HO2.out⟩⟩
      case measure => simp [intOf]; omega
    · obtain rfl : k = n := by omega
      have HO2 := HO.out
      rw [List.take_of_length_le (by rw [hm.out]; omega)] at HO2
      have HO3 := Box.mk HO2
      clear HO HO2
      go_wp2
      go_ret
      exact ⟨⟨_, rfl, HO3.out, HA.out⟩, HG.out⟩

theorem le4_vals (n : Nat) : [Value.int .u8 ((n : Int) % 256), Value.int .u8 ((n : Int) / 256 % 256), Value.int .u8 ((n : Int) / 65536 % 256), Value.int .u8 ((n : Int) / 16777216 % 256)] = bvs (le4 n) := by
  have h0 : ∀ m : Nat, ((UInt8.ofNat m).toNat : Int) = (m : Int) % 256 := fun m => by rw [UInt8.toNat_ofNat']; omega
  show _ = [bv _, bv _, bv _, bv _]
  unfold bv
  rw [h0, h0, h0, h0]
  rfl
set_option maxRecDepth 100000 in
set_option maxHeartbeats 1000000 in
theorem rfour_any (n : Nat) (hn : n ≤ 4096) (w : World) :
    Calls Tryd.prog 52 #[.int .i64 n] w fun e w' => (∃ g, e = .returned (.slice (some ⟨g, 0, none⟩) 4 4) ∧ w.heap.size ≤ g ∧ Row w' (some ⟨g, 0, none⟩) 4 (le4 n)) ∧ Below w.heap.size w w' := by
  go_enter Tryd.func52, Tryd.ntmps52
  go_wp2
  go_ret
  exact ⟨⟨w.heap.size, rfl, Nat.le_refl _, Row.lit w _ 5 (le4 n) (le4_vals n)⟩, Below.refl_alloc w _⟩
-- GEN LOAD
theorem own_base4 {w : World} {a b : Nat} {e : TypeId} {v : Value} {l : List UInt8} (h : Own w b e v l) (hab : a ≤ b) : Own w a e v l := by
  obtain ⟨hl, h⟩ := h
  refine ⟨hl, ?_⟩
  rcases h with h | ⟨g, cap, cur, rfl, h1, h2⟩
  · exact .inl h
  · exact .inr ⟨g, cap, cur, rfl, Nat.le_trans hab h1, h2⟩
theorem own_later {w w' : World} {base : Nat} {e : TypeId} {v : Value} {l : List UInt8} (h : Own w base e v l) (hb : Below w.heap.size w w') : Own w' base e v l :=
  h.below hb fun g hg => (h.lt g hg).2
set_option maxRecDepth 100000 in
set_option maxHeartbeats 4000000 in
theorem rload_leaf (x : NodeV) (w : World) (hk1 : x.kind = 1) (l : List UInt8) (h0 : Row w x.ao x.n l) (hb : x.n ≤ 140737488351232) :
    Calls Tryd.prog 38 #[.agg (nodeC x).toArray] w fun e w' => (∃ v, e = .returned v ∧ Own w' w.heap.size 5 v (x.key.1 ++ l)) ∧ Below w.heap.size w w' := by
  have f1 : (w.alloc (.cells (nodeC x).toArray 30)).heap[w.heap.size]? = some (.cells (nodeC x).toArray 30 (0, 0)) := heap_new rfl
  have B1 := Box.mk (Below.refl_alloc w (.cells (nodeC x).toArray 30))
  have s1 := Box.mk (show (w.alloc (.cells (nodeC x).toArray 30)).heap.size = w.heap.size + 1 by simp)
  have c0 : (w.alloc (.cells (nodeC x).toArray 30)).cell? ⟨w.heap.size, 0, none⟩ = some (.int .i64 1) := by rw [cell_of_row _ _ 0 _ _ _ f1, ← hk1]; rfl
  have C101 := Box.mk (show (w.alloc (.cells (nodeC x).toArray 30)).cell? ⟨w.heap.size, 101, none⟩ = some (.slice x.ao x.n x.c) by rw [cell_of_row _ _ 101 _ _ _ f1]; exact nodeC_val x)
  have r69 := Box.mk (rangeAt_cells f1 (cs := bvs x.key.1) fun j hj => nodeC_key x j (by rwa [length_bvs, x.key.2] at hj))
  have hwl := Box.mk (heap_lt f1)
  have hR := Box.mk h0
  have hl := Box.mk h0.1
  clear f1 hk1 h0
  go_enter Tryd.func38, Tryd.ntmps38
  go_upto_region 1 with fail
  generalize w.alloc (.cells (nodeC x).toArray 30) = w1 at *
  have HB := Box.mk (Below.refl w1.heap.size w1)
  have HO := Box.mk (show Own w1 w1.heap.size 5 (.slice none 0 0) [] from ⟨rfl, .inl ⟨rfl, rfl⟩⟩)
  go_wp2
  go_loopw [3, 4] (fun v i wr => ∃ k : Nat, k ≤ 32 ∧ i = .int .i64 k ∧ Box (Below w1.heap.size w1 wr) ∧ Box (Own wr w1.heap.size 5 v (x.key.1.take k))) (fun v i _ => 32 - (intOf i).toNat)
  case atStart => exact ⟨0, Nat.zero_le _, rfl, HB, ⟨by simpa using HO.out⟩⟩
  clear HB HO
  case round =>
    obtain ⟨k, hk, rfl, HB, HO⟩ := hrel
    by_cases hlt : k < 32
    · have hkl : k < x.key.1.length := by rw [x.key.2]; exact hlt
      have e0 : wr.cell? ⟨w.heap.size, 69 + k, none⟩ = some (.int .u8 (x.key.1[k]'hkl).toNat) := (HB.out.cell (p := ⟨w.heap.size, 69 + k, none⟩) hwl.out).trans (r69.out k _ (by rw [bvs_getElem?, List.getElem?_eq_getElem hkl]; rfl))
      obtain ⟨u, hu⟩ : ∃ u, x.key.1[k]'hkl = u := ⟨_, rfl⟩
      rw [hu] at e0
      have HU := Box.mk (show x.key.1.take (k + 1) = (x.key.1.take k) ++ [u] by rw [List.take_succ_eq_append_getElem hkl, hu])
      have hlen := Box.mk (show (x.key.1.take k).length ≤ 200 by simp; omega)
      have hsz := Box.mk HB.out.size
      clear hu hkl
      generalize x.key.1.take k = lk at *
      have R1 := Box.mk (Row.lit1 wr 5 u)
      have hw2 := Box.mk (show w1.heap.size ≤ (wr.alloc (.cells #[.int .u8 (u.toNat : Int)] 5)).heap.size by have := hsz.out; simp; omega)
      go_wp2_with ((with_reducible refine arm_append byteTyC (.tmp 14) (.tmp 19) ?_ rfl w1.heap.size _ lk ?_ (HO.out.alloc _) (some ⟨wr.heap.size, 0, none⟩) 1 1 [u] ?_ (by intro h; cases h) R1.out (by have := hlen.out; omega) hw2.out ?_); rfl; rfl; rfl)
      intro v' w' own' G
      have hB' := Box.mk ((HB.out.alloc hsz.out (.cells #[.int .u8 (u.toNat : Int)] 5)).grown G hw2.out fun k hk => (HO.out.lt k hk).1)
      have HO2 := Box.mk own'
      clear own' G HB HO
      go_wp2
      go_roundw
      case rel => exact ⟨k + 1, by omega, by go_num, hB', ⟨by rw [HU.out]; exact HO2.out⟩⟩
      case measure => simp [intOf]; omega
    · obtain rfl : k = 32 := by omega
      rw [show ((32 : Nat) : Int) = 32 from rfl]
      have HO5 := HO.out
      rw [List.take_of_length_le (by rw [x.key.2]; omega)] at HO5
      have HO := Box.mk HO5
      clear HO5
      have c1 := (HB.out.cell (p := ⟨w.heap.size, 101, none⟩) hwl.out).trans C101.out
      have b1 := Box.mk (B1.out.trans (HB.out.mono B1.out.size))
      have hj := Box.mk (fun v (hO : Own wr w1.heap.size 5 v x.key.1) => rjoined_any w1.heap.size v x.key.1 x.ao x.n x.c l wr HB.out.size hO (hR.out.old b1.out) (fun b o hx hn hv => by
        have h1 := hR.out
        rw [hx] at h1
        have h2 := h1.lt hn
        have h3 := (hO.lt b hv).1
        have := s1.out
        omega) (by rw [x.key.2]; omega))
      go_wp2_with (go_at_call 51; refine (calls_box (hj.out _ HO.out)).mono ?_)
      rintro e w2 ⟨⟨⟨v2, rfl, own2, at2⟩, G2⟩⟩
      have b2 := Box.mk (b1.out.grown G2 b1.out.size fun k hk => by have := (HO.out.lt k hk).1; have := s1.out; omega)
      have O2 := Box.mk (own_base4 own2 (a := w.heap.size) (by rw [s1.out]; omega))
      clear own2 at2 G2 hj HO
      go_wp2
      go_ret
      exact ⟨⟨_, rfl, O2.out⟩, b2.out⟩

set_option maxRecDepth 100000 in
set_option maxHeartbeats 4000000 in
theorem rload_branch (x : NodeV) (w : World) (hk1 : x.kind = 2) (lp rp lc rc : Nat) (h1 : x.left = lp) (h2 : x.right = rp) (h3 : x.lc = lc) (h4 : x.rc = rc) (b1 : lp ≤ 4096) (b2 : rp ≤ 4096) (b3 : lc ≤ 4096) (b4 : rc ≤ 4096) :
    Calls Tryd.prog 38 #[.agg (nodeC x).toArray] w fun e w' => (∃ v, e = .returned v ∧ Own w' w.heap.size 5 v (le4 lp ++ (le4 rp ++ (le4 lc ++ (le4 rc ++ (x.ls.1 ++ x.rs.1)))))) ∧ Below w.heap.size w w' := by
  have f1 : (w.alloc (.cells (nodeC x).toArray 30)).heap[w.heap.size]? = some (.cells (nodeC x).toArray 30 (0, 0)) := heap_new rfl
  have B1 := Box.mk (Below.refl_alloc w (.cells (nodeC x).toArray 30))
  have s1 := Box.mk (show (w.alloc (.cells (nodeC x).toArray 30)).heap.size = w.heap.size + 1 by simp)
  have c0 : (w.alloc (.cells (nodeC x).toArray 30)).cell? ⟨w.heap.size, 0, none⟩ = some (.int .i64 2) := by rw [cell_of_row _ _ 0 _ _ _ f1, ← hk1]; rfl
  have C1 := Box.mk (show (w.alloc (.cells (nodeC x).toArray 30)).cell? ⟨w.heap.size, 1, none⟩ = some (.int .i64 lp) by rw [cell_of_row _ _ 1 _ _ _ f1, ← h1]; rfl)
  have C2 := Box.mk (show (w.alloc (.cells (nodeC x).toArray 30)).cell? ⟨w.heap.size, 2, none⟩ = some (.int .i64 rp) by rw [cell_of_row _ _ 2 _ _ _ f1, ← h2]; rfl)
  have C3 := Box.mk (show (w.alloc (.cells (nodeC x).toArray 30)).cell? ⟨w.heap.size, 3, none⟩ = some (.int .i64 lc) by rw [cell_of_row _ _ 3 _ _ _ f1, ← h3]; rfl)
  have C4 := Box.mk (show (w.alloc (.cells (nodeC x).toArray 30)).cell? ⟨w.heap.size, 4, none⟩ = some (.int .i64 rc) by rw [cell_of_row _ _ 4 _ _ _ f1, ← h4]; rfl)
  have r5 := Box.mk (rangeAt_cells f1 (cs := bvs x.ls.1) fun j hj => nodeC_ls x j (by rwa [length_bvs, x.ls.2] at hj))
  have r37 := Box.mk (rangeAt_cells f1 (cs := bvs x.rs.1) fun j hj => nodeC_rs x j (by rwa [length_bvs, x.rs.2] at hj))
  have hwl := Box.mk (heap_lt f1)
  clear f1 hk1 h1 h2 h3 h4
  go_enter Tryd.func38, Tryd.ntmps38
  go_upto_region 1 with fail
  generalize w.alloc (.cells (nodeC x).toArray 30) = w1 at *
  have HB := Box.mk (Below.refl w1.heap.size w1)
  have HO := Box.mk (show Own w1 w1.heap.size 5 (.slice none 0 0) [] from ⟨rfl, .inl ⟨rfl, rfl⟩⟩)
  have c1 := (HB.out.cell (p := ⟨w.heap.size, 1, none⟩) hwl.out).trans C1.out
  have hf := Box.mk (fun W => rfour_any lp b1 W)
  go_wp2_with (go_at_call 52; refine (calls_box (hf.out _)).mono ?_)
  rintro e W1a ⟨⟨⟨g, rfl, hg, hrow⟩, hB⟩⟩
  have HB2 := Box.mk (HB.out.trans (hB.mono HB.out.size))
  have HO2 := Box.mk (own_later HO.out hB)
  have hrw := Box.mk hrow
  have hgg := Box.mk hg
  have hj := Box.mk (rjoined_any w1.heap.size (.slice none 0 0) [] (some ⟨g, 0, none⟩) 4 4 (le4 lp) W1a HB2.out.size HO2.out hrw.out (fun b o hx hn hv => by cases hx; have := (HO.out.lt _ hv).2; have := hgg.out; omega) (by simp))
  clear c1 hf hg hrow hB
  go_wp2_with (go_at_call 51; refine (calls_box hj.out).mono ?_)
  rintro e W1 ⟨⟨⟨v1, rfl, own2, at2⟩, G2⟩⟩
  have HB3 := Box.mk (HB2.out.grown G2 HB2.out.size fun k hk => (HO2.out.lt k hk).1)
  have HO3 := Box.mk own2
  clear HB HO HB2 HO2 own2 at2 G2 hj hrw hgg
  have HB := HB3
  have HO := HO3
  clear HB3 HO3
  have c1 := (HB.out.cell (p := ⟨w.heap.size, 2, none⟩) hwl.out).trans C2.out
  have hf := Box.mk (fun W => rfour_any rp b2 W)
  go_wp2_with (go_at_call 52; refine (calls_box (hf.out _)).mono ?_)
  rintro e W2a ⟨⟨⟨g, rfl, hg, hrow⟩, hB⟩⟩
  have HB2 := Box.mk (HB.out.trans (hB.mono HB.out.size))
  have HO2 := Box.mk (own_later HO.out hB)
  have hrw := Box.mk hrow
  have hgg := Box.mk hg
  have hj := Box.mk (rjoined_any w1.heap.size v1 ([] ++ le4 lp) (some ⟨g, 0, none⟩) 4 4 (le4 rp) W2a HB2.out.size HO2.out hrw.out (fun b o hx hn hv => by cases hx; have := (HO.out.lt _ hv).2; have := hgg.out; omega) (by simp [le4]))
  clear c1 hf hg hrow hB
  go_wp2_with (go_at_call 51; refine (calls_box hj.out).mono ?_)
  rintro e W2 ⟨⟨⟨v2, rfl, own2, at2⟩, G2⟩⟩
  have HB3 := Box.mk (HB2.out.grown G2 HB2.out.size fun k hk => (HO2.out.lt k hk).1)
  have HO3 := Box.mk own2
  clear HB HO HB2 HO2 own2 at2 G2 hj hrw hgg
  have HB := HB3
  have HO := HO3
  clear HB3 HO3
  have c1 := (HB.out.cell (p := ⟨w.heap.size, 3, none⟩) hwl.out).trans C3.out
  have hf := Box.mk (fun W => rfour_any lc b3 W)
  go_wp2_with (go_at_call 52; refine (calls_box (hf.out _)).mono ?_)
  rintro e W3a ⟨⟨⟨g, rfl, hg, hrow⟩, hB⟩⟩
  have HB2 := Box.mk (HB.out.trans (hB.mono HB.out.size))
  have HO2 := Box.mk (own_later HO.out hB)
  have hrw := Box.mk hrow
  have hgg := Box.mk hg
  have hj := Box.mk (rjoined_any w1.heap.size v2 (([] ++ le4 lp) ++ le4 rp) (some ⟨g, 0, none⟩) 4 4 (le4 lc) W3a HB2.out.size HO2.out hrw.out (fun b o hx hn hv => by cases hx; have := (HO.out.lt _ hv).2; have := hgg.out; omega) (by simp [le4]))
  clear c1 hf hg hrow hB
  go_wp2_with (go_at_call 51; refine (calls_box hj.out).mono ?_)
  rintro e W3 ⟨⟨⟨v3, rfl, own2, at2⟩, G2⟩⟩
  have HB3 := Box.mk (HB2.out.grown G2 HB2.out.size fun k hk => (HO2.out.lt k hk).1)
  have HO3 := Box.mk own2
  clear HB HO HB2 HO2 own2 at2 G2 hj hrw hgg
  have HB := HB3
  have HO := HO3
  clear HB3 HO3
  have c1 := (HB.out.cell (p := ⟨w.heap.size, 4, none⟩) hwl.out).trans C4.out
  have hf := Box.mk (fun W => rfour_any rc b4 W)
  go_wp2_with (go_at_call 52; refine (calls_box (hf.out _)).mono ?_)
  rintro e W4a ⟨⟨⟨g, rfl, hg, hrow⟩, hB⟩⟩
  have HB2 := Box.mk (HB.out.trans (hB.mono HB.out.size))
  have HO2 := Box.mk (own_later HO.out hB)
  have hrw := Box.mk hrow
  have hgg := Box.mk hg
  have hj := Box.mk (rjoined_any w1.heap.size v3 ((([] ++ le4 lp) ++ le4 rp) ++ le4 lc) (some ⟨g, 0, none⟩) 4 4 (le4 rc) W4a HB2.out.size HO2.out hrw.out (fun b o hx hn hv => by cases hx; have := (HO.out.lt _ hv).2; have := hgg.out; omega) (by simp [le4]))
  clear c1 hf hg hrow hB
  go_wp2_with (go_at_call 51; refine (calls_box hj.out).mono ?_)
  rintro e W4 ⟨⟨⟨v4, rfl, own2, at2⟩, G2⟩⟩
  have HB3 := Box.mk (HB2.out.grown G2 HB2.out.size fun k hk => (HO2.out.lt k hk).1)
  have HO3 := Box.mk own2
  clear HB HO HB2 HO2 own2 at2 G2 hj hrw hgg
  have HB := HB3
  have HO := HO3
  clear HB3 HO3
  have hO4 := HO.out
  obtain ⟨P4, hP4⟩ : ∃ P4, (((([] ++ le4 lp) ++ le4 rp) ++ le4 lc) ++ le4 rc) = P4 := ⟨_, rfl⟩
  rw [hP4] at hO4
  have HP4 := Box.mk hP4
  have hLlen := Box.mk (show P4.length = 16 by rw [← hP4]; rfl)
  clear HO hP4
  have HO := Box.mk hO4
  clear hO4
  go_wp2
  go_loopw [3, 5] (fun v i wr => ∃ k : Nat, k ≤ 32 ∧ i = .int .i64 k ∧ Box (Below w1.heap.size w1 wr) ∧ Box (Own wr w1.heap.size 5 v (P4 ++ x.ls.1.take k))) (fun v i _ => 32 - (intOf i).toNat)
  case atStart => exact ⟨0, Nat.zero_le _, rfl, HB, ⟨by simpa using HO.out⟩⟩
  clear HB HO
  case round =>
    obtain ⟨k, hk, rfl, HB, HO⟩ := hrel
    by_cases hlt : k < 32
    · have hkl : k < x.ls.1.length := by rw [x.ls.2]; exact hlt
      have e0 : wr.cell? ⟨w.heap.size, 5 + k, none⟩ = some (.int .u8 (x.ls.1[k]'hkl).toNat) := (HB.out.cell (p := ⟨w.heap.size, 5 + k, none⟩) hwl.out).trans (r5.out k _ (by rw [bvs_getElem?, List.getElem?_eq_getElem hkl]; rfl))
      obtain ⟨u, hu⟩ : ∃ u, x.ls.1[k]'hkl = u := ⟨_, rfl⟩
      rw [hu] at e0
      have HU := Box.mk (show P4 ++ x.ls.1.take (k + 1) = (P4 ++ x.ls.1.take k) ++ [u] by rw [List.take_succ_eq_append_getElem hkl, hu, List.append_assoc])
      have hlen := Box.mk (show (P4 ++ x.ls.1.take k).length ≤ 200 by have := hLlen.out; simp; omega)
      have hsz := Box.mk HB.out.size
      clear hu hkl
      generalize P4 ++ x.ls.1.take k = lk at *
      have R1 := Box.mk (Row.lit1 wr 5 u)
      have hw2 := Box.mk (show w1.heap.size ≤ (wr.alloc (.cells #[.int .u8 (u.toNat : Int)] 5)).heap.size by have := hsz.out; simp; omega)
      go_wp2_with ((with_reducible refine arm_append byteTyC (.tmp 49) (.tmp 54) ?_ rfl w1.heap.size _ lk ?_ (HO.out.alloc _) (some ⟨wr.heap.size, 0, none⟩) 1 1 [u] ?_ (by intro h; cases h) R1.out (by have := hlen.out; omega) hw2.out ?_); rfl; rfl; rfl)
      intro v' w' own' G
      have hB' := Box.mk ((HB.out.alloc hsz.out (.cells #[.int .u8 (u.toNat : Int)] 5)).grown G hw2.out fun k hk => (HO.out.lt k hk).1)
      have HO2 := Box.mk own'
      clear own' G HB HO
      go_wp2
      go_roundw
      case rel => exact ⟨k + 1, by omega, by go_num, hB', ⟨by rw [HU.out]; exact HO2.out⟩⟩
      case measure => simp [intOf]; omega
    · obtain rfl : k = 32 := by omega
      rw [show ((32 : Nat) : Int) = 32 from rfl]
      have HO5 := HO.out
      rw [List.take_of_length_le (by rw [x.ls.2]; omega)] at HO5
      have HO := Box.mk HO5
      clear HO5
      have hO5 := HO.out
      obtain ⟨P5, hP5⟩ : ∃ P5, P4 ++ x.ls.1 = P5 := ⟨_, rfl⟩
      rw [hP5] at hO5
      have HP5 := Box.mk hP5
      have hLlen2 := Box.mk (show P5.length = 48 by rw [← hP5, List.length_append, hLlen.out, x.ls.2])
      clear HO hP5 hLlen
      have hLlen := hLlen2
      have HO := Box.mk hO5
      clear hO5 hLlen2
      go_wp2
      obtain ⟨wz, hwz⟩ : ∃ y, y = wr := ⟨_, rfl⟩
      subst hwz
      go_loopw [3, 6] (fun v i wr => ∃ k : Nat, k ≤ 32 ∧ i = .int .i64 k ∧ Box (Below w1.heap.size w1 wr) ∧ Box (Own wr w1.heap.size 5 v (P5 ++ x.rs.1.take k))) (fun v i _ => 32 - (intOf i).toNat)
      case atStart => exact ⟨0, Nat.zero_le _, rfl, HB, ⟨by simpa using HO.out⟩⟩
      clear HB HO
      case round =>
        obtain ⟨k, hk, rfl, HB, HO⟩ := hrel
        by_cases hlt : k < 32
        · have hkl : k < x.rs.1.length := by rw [x.rs.2]; exact hlt
          have e0 : wr.cell? ⟨w.heap.size, 37 + k, none⟩ = some (.int .u8 (x.rs.1[k]'hkl).toNat) := (HB.out.cell (p := ⟨w.heap.size, 37 + k, none⟩) hwl.out).trans (r37.out k _ (by rw [bvs_getElem?, List.getElem?_eq_getElem hkl]; rfl))
          obtain ⟨u, hu⟩ : ∃ u, x.rs.1[k]'hkl = u := ⟨_, rfl⟩
          rw [hu] at e0
          have HU := Box.mk (show P5 ++ x.rs.1.take (k + 1) = (P5 ++ x.rs.1.take k) ++ [u] by rw [List.take_succ_eq_append_getElem hkl, hu, List.append_assoc])
          have hlen := Box.mk (show (P5 ++ x.rs.1.take k).length ≤ 200 by have := hLlen.out; simp; omega)
          have hsz := Box.mk HB.out.size
          clear hu hkl
          generalize P5 ++ x.rs.1.take k = lk at *
          have R1 := Box.mk (Row.lit1 wr 5 u)
          have hw2 := Box.mk (show w1.heap.size ≤ (wr.alloc (.cells #[.int .u8 (u.toNat : Int)] 5)).heap.size by have := hsz.out; simp; omega)
          go_wp2_with ((with_reducible refine arm_append byteTyC (.tmp 60) (.tmp 65) ?_ rfl w1.heap.size _ lk ?_ (HO.out.alloc _) (some ⟨wr.heap.size, 0, none⟩) 1 1 [u] ?_ (by intro h; cases h) R1.out (by have := hlen.out; omega) hw2.out ?_); rfl; rfl; rfl)
          intro v' w' own' G
          have hB' := Box.mk ((HB.out.alloc hsz.out (.cells #[.int .u8 (u.toNat : Int)] 5)).grown G hw2.out fun k hk => (HO.out.lt k hk).1)
          have HO2 := Box.mk own'
          clear own' G HB HO
          go_wp2
          go_roundw
          case rel => exact ⟨k + 1, by omega, by go_num, hB', ⟨by rw [HU.out]; exact HO2.out⟩⟩
          case measure => simp [intOf]; omega
        · obtain rfl : k = 32 := by omega
          rw [show ((32 : Nat) : Int) = 32 from rfl]
          have HO5 := HO.out
          rw [List.take_of_length_le (by rw [x.rs.2]; omega)] at HO5
          have HO := Box.mk HO5
          clear HO5
          have hO6 := HO.out
          have hfin : P5 ++ x.rs.1 = le4 lp ++ (le4 rp ++ (le4 lc ++ (le4 rc ++ (x.ls.1 ++ x.rs.1)))) := by rw [← HP5.out, ← HP4.out]; simp
          rw [hfin] at hO6
          have O2 := Box.mk (own_base4 hO6 (a := w.heap.size) (by rw [s1.out]; omega))
          have b2 := Box.mk (B1.out.trans (HB.out.mono B1.out.size))
          clear HO hO6 hfin
          go_wp2
          go_ret
          exact ⟨⟨_, rfl, O2.out⟩, b2.out⟩
end Go.Proofs.YteiepenanffhcaaDoor

/- Which nodes are right: the walks of the reference's child and Right. -/
namespace Go.Proofs.YteiepenanffhcaaDoor
open Go Go.RowKit
set_option linter.unusedVariables false

/-- Is a node right? -/
def rightB (x : NodeV) : Bool := (isLeafB x && decide (x.n ≤ 128)) || (isBrB x && brStands ⟨x.left, x.lc, x.ls⟩ ⟨x.right, x.rc, x.rs⟩)
set_option maxRecDepth 100000 in
set_option maxHeartbeats 2000000 in
theorem rchild_any (p q : Int) (d : D32) (w : World) :
    Calls Tryd.prog 50 #[.int .i64 p, .int .i64 q, .agg (dc d)] w fun e w' => e = .returned (.bool (chStands ⟨p, q, d⟩)) ∧ Below w.heap.size w w' := by
  have UD : Tryd.prog.underlying 27 = some (.array 32 5) := Tryd.underlying27
  have hiD : Hid ((Tryd.prog.info? 27).map (·.size) = some 32) := by unfold Hid; kernel_rfl
  have bzD : Tryd.prog.built 27 [] = some (dc zero32) := by kernel_rfl
  have hgD : Tryd.prog.eqGuardType Tryd.prog.depth 27 = false := by kernel_rfl
  have he : ∀ W, (Op.equalIn 10000 27 (.agg (dc d)) (.agg (dc zero32))).run Tryd.prog W = .ok (eqD d zero32) W := by
    obtain ⟨i5, hi5'⟩ := Option.isSome_iff_exists.1 (show (Tryd.prog.info? 5).isSome = true by kernel_rfl)
    exact fun W => equalIn_d32 (d := 9998) Tryd.underlying27 hi5' Tryd.underlying5 (by kernel_rfl) d zero32 W
  obtain ⟨r, hr⟩ : ∃ r, chStands ⟨p, q, d⟩ = r := ⟨_, rfl⟩
  rw [hr]
  have HR := Box.mk hr
  clear hr
  generalize hrd : eqD d zero32 = rd at he
  have HRD := Box.mk hrd
  clear hrd
  by_cases hp : p = 0
  · subst hp
    by_cases hq : q = 0
    · subst hq
      have hrr : r = rd := by
        rw [← HR.out, ← HRD.out]
        unfold chStands eqCh noChild
        simp
      subst hrr
      go_enter Tryd.func50, Tryd.ntmps50
      go_wp2_with (first
        | ((with_reducible refine wpList_load32g ?_ 27 (.tmp 5) ?_ w.heap.size 0 ?_ d 5 ?_ UD hiD ?_); rfl; rfl; rfl; exact rangeAt_block (heap_new rfl))
        | ((with_reducible refine wpList_builtg ?_ 27 [] ?_ [] ?_ (dc zero32) bzD ?_); rfl; rfl; rfl)
        | ((with_reducible refine wpList_yields ?_ (held_eql ?_ 27 27 (.tmp 12) (.tmp 13) ?_ d zero32 r ?_ ?_ hgD he) ?_); rfl; rfl; rfl; rfl; rfl))
      go_ret
      exact ⟨rfl, Below.refl_alloc w _⟩
    · have qf : (q == 0) = false := by rw [beq_eq_false_iff_ne]; exact hq
      have hrr : r = false := by
        rw [← HR.out]
        unfold chStands
        simp [eqCh, noChild, hq]
      subst hrr
      clear he HR HRD
      go_enter Tryd.func50, Tryd.ntmps50
      go_wp2
      go_ret
      exact ⟨rfl, Below.refl_alloc w _⟩
  · have pf : (p == 0) = false := by rw [beq_eq_false_iff_ne]; exact hp
    rcases Int.lt_or_le p 2 with k1 | k1
    · skip
      have hrr : r = false := by
        rw [← HR.out]
        unfold chStands
        simp [hp, Int.not_le.2 k1]
      subst hrr
      clear he HR HRD
      go_enter Tryd.func50, Tryd.ntmps50
      go_wp2
      go_ret
      exact ⟨rfl, Below.refl_alloc w _⟩
    · rcases (Int.lt_or_le p 4096).symm with k2 | k2
      · have k2' : ¬ p < 4096 := by omega
        have hrr : r = false := by
          rw [← HR.out]
          unfold chStands
          simp [hp, k2']
        subst hrr
        clear he HR HRD
        go_enter Tryd.func50, Tryd.ntmps50
        go_wp2
        go_ret
        exact ⟨rfl, Below.refl_alloc w _⟩
      · have k2' : p < 4096 := by omega
        rcases (Int.lt_or_le 0 q).symm with k3 | k3
        · have k3' : ¬ 0 < q := by omega
          have hrr : r = false := by
            rw [← HR.out]
            unfold chStands
            simp [hp, k3']
          subst hrr
          clear he HR HRD
          go_enter Tryd.func50, Tryd.ntmps50
          go_wp2
          go_ret
          exact ⟨rfl, Below.refl_alloc w _⟩
        · have k3' : 0 < q := by omega
          rcases Int.lt_or_le 4096 q with k4 | k4
          · skip
            have hrr : r = false := by
              rw [← HR.out]
              unfold chStands
              simp [hp, Int.not_le.2 k4]
            subst hrr
            clear he HR HRD
            go_enter Tryd.func50, Tryd.ntmps50
            go_wp2
            go_ret
            exact ⟨by show Ending.returned (Value.bool (decide (q ≤ 4096))) = _; rw [decide_eq_false (by omega)], Below.refl_alloc w _⟩
          · skip
            have hrr : r = true := by
              rw [← HR.out]
              unfold chStands
              simp [hp, k1, k2', k3', k4]
            subst hrr
            clear he HR HRD
            go_enter Tryd.func50, Tryd.ntmps50
            go_wp2
            go_ret
            exact ⟨rfl, Below.refl_alloc w _⟩
set_option maxRecDepth 100000 in
set_option maxHeartbeats 4000000 in
theorem rright_any (x : NodeV) (w : World) : Calls Tryd.prog 37 #[.agg (nodeC x).toArray] w fun e w' => e = .returned (.bool (rightB x)) ∧ Below w.heap.size w w' := by
  have UD : Tryd.prog.underlying 27 = some (.array 32 5) := Tryd.underlying27
  have UK : Tryd.prog.underlying 26 = some (.array 32 5) := Tryd.underlying26
  have hiD : Hid ((Tryd.prog.info? 27).map (·.size) = some 32) := by unfold Hid; kernel_rfl
  have hiK : Hid ((Tryd.prog.info? 26).map (·.size) = some 32) := by unfold Hid; kernel_rfl
  have bzD : Tryd.prog.built 27 [] = some (dc zero32) := by kernel_rfl
  have bzK : Tryd.prog.built 26 [] = some (dc zero32) := by kernel_rfl
  have hgD : Tryd.prog.eqGuardType Tryd.prog.depth 27 = false := by kernel_rfl
  have hgK : Tryd.prog.eqGuardType Tryd.prog.depth 26 = false := by kernel_rfl
  have eD : ∀ (x y : D32) (W : World), (Op.equalIn 10000 27 (.agg (dc x)) (.agg (dc y))).run Tryd.prog W = .ok (eqD x y) W := by
    obtain ⟨i5, hi5'⟩ := Option.isSome_iff_exists.1 (show (Tryd.prog.info? 5).isSome = true by kernel_rfl)
    exact fun x y W => equalIn_d32 (d := 9998) Tryd.underlying27 hi5' Tryd.underlying5 (by kernel_rfl) x y W
  have eK : ∀ (x y : D32) (W : World), (Op.equalIn 10000 26 (.agg (dc x)) (.agg (dc y))).run Tryd.prog W = .ok (eqD x y) W := by
    obtain ⟨i5, hi5'⟩ := Option.isSome_iff_exists.1 (show (Tryd.prog.info? 5).isSome = true by kernel_rfl)
    exact fun x y W => equalIn_d32 (d := 9998) Tryd.underlying26 hi5' Tryd.underlying5 (by kernel_rfl) x y W
  have g0 : (nodeC x).toArray[0]? = some (.int .i64 x.kind) := rfl
  have g1 : (nodeC x).toArray[1]? = some (.int .i64 x.left) := rfl
  have g2 : (nodeC x).toArray[2]? = some (.int .i64 x.right) := rfl
  have g3 : (nodeC x).toArray[3]? = some (.int .i64 x.lc) := rfl
  have g4 : (nodeC x).toArray[4]? = some (.int .i64 x.rc) := rfl
  have g101 : (nodeC x).toArray[101]? = some (.slice x.ao x.n x.c) := nodeC_val x
  have r5 : ∀ W : World, W.heap[w.heap.size]? = some (.cells (nodeC x).toArray 30 (0, 0)) → W.rangeAt w.heap.size 5 (bvs x.ls.1) := fun W hW => rangeAt_cells hW fun j hj => nodeC_ls x j (by rwa [length_bvs, x.ls.2] at hj)
  have r37 : ∀ W : World, W.heap[w.heap.size]? = some (.cells (nodeC x).toArray 30 (0, 0)) → W.rangeAt w.heap.size 37 (bvs x.rs.1) := fun W hW => rangeAt_cells hW fun j hj => nodeC_rs x j (by rwa [length_bvs, x.rs.2] at hj)
  have r69 : ∀ W : World, W.heap[w.heap.size]? = some (.cells (nodeC x).toArray 30 (0, 0)) → W.rangeAt w.heap.size 69 (bvs x.key.1) := fun W hW => rangeAt_cells hW fun j hj => nodeC_key x j (by rwa [length_bvs, x.key.2] at hj)
  have e1 := fun W => eD x.ls zero32 W
  have e2 := fun W => eD x.rs zero32 W
  have e3 := fun W => eK x.key zero32 W
  have R5 := Box.mk r5
  have R37 := Box.mk r37
  have R69 := Box.mk r69
  obtain ⟨r, hr⟩ : ∃ r, rightB x = r := ⟨_, rfl⟩
  rw [hr]
  have HR := Box.mk hr
  clear hr r5 r37 r69 eD eK
  generalize hd1 : eqD x.ls zero32 = b1 at *
  generalize hd2 : eqD x.rs zero32 = b2 at *
  generalize hd3 : eqD x.key zero32 = b3 at *
  have HD1 := Box.mk hd1
  have HD2 := Box.mk hd2
  have HD3 := Box.mk hd3
  clear hd1 hd2 hd3
  have hnz : (nodeC x).toArray.size = 102 := by rw [List.size_toArray, length_nodeC]
  generalize (nodeC x).toArray = cs at *
  have f1 : (w.alloc (.cells cs 30)).heap[w.heap.size]? = some (.cells cs 30 (0, 0)) := heap_new rfl
  have F1 := Box.mk f1
  have B1 := Box.mk (Below.refl_alloc w (.cells cs 30))
  have c0 : (w.alloc (.cells cs 30)).cell? ⟨w.heap.size, 0, none⟩ = some (.int .i64 x.kind) := by rw [cell_of_row _ _ 0 _ _ _ f1]; exact g0
  have c1 : (w.alloc (.cells cs 30)).cell? ⟨w.heap.size, 1, none⟩ = some (.int .i64 x.left) := by rw [cell_of_row _ _ 1 _ _ _ f1]; exact g1
  have c2 : (w.alloc (.cells cs 30)).cell? ⟨w.heap.size, 2, none⟩ = some (.int .i64 x.right) := by rw [cell_of_row _ _ 2 _ _ _ f1]; exact g2
  have c3 : (w.alloc (.cells cs 30)).cell? ⟨w.heap.size, 3, none⟩ = some (.int .i64 x.lc) := by rw [cell_of_row _ _ 3 _ _ _ f1]; exact g3
  have c4 : (w.alloc (.cells cs 30)).cell? ⟨w.heap.size, 4, none⟩ = some (.int .i64 x.rc) := by rw [cell_of_row _ _ 4 _ _ _ f1]; exact g4
  have c101 : (w.alloc (.cells cs 30)).cell? ⟨w.heap.size, 101, none⟩ = some (.slice x.ao x.n x.c) := by rw [cell_of_row _ _ 101 _ _ _ f1]; exact g101
  clear f1 g0 g1 g2 g3 g4 g101 hnz
  go_enter Tryd.func37, Tryd.ntmps37
  go_upto_region 1 with fail
  generalize w.alloc (.cells cs 30) = w1 at *
  have HL := Box.mk (fun W => rchild_any x.left x.lc x.ls W)
  have HRR := Box.mk (fun W => rchild_any x.right x.rc x.rs W)
  obtain ⟨p, hp⟩ : ∃ p, ((x.left == 0) && (x.right == 0) && (x.lc == 0) && (x.rc == 0)) = p := ⟨_, rfl⟩
  have HP := Box.mk hp
  clear hp
  have hpd : Box (decide (x.left = 0 ∧ x.right = 0 ∧ x.lc = 0 ∧ x.rc = 0) = p) := ⟨by rw [← HP.out]; by_cases a : x.left = 0 <;> by_cases b : x.right = 0 <;> by_cases c : x.lc = 0 <;> by_cases d : x.rc = 0 <;> simp [a, b, c, d]⟩
  by_cases hk : x.kind = 1
  · have hk2 : ¬ x.kind = 2 := by omega
    rw [hk] at c0
    go_upto_region 2 with fail
    go_cut [3] (fun s W => s = .bool p ∧ W = w1)
    case first =>
      cases k0 : (x.left == 0)
      · obtain rfl : p = false := by rw [← HP.out]; simp [k0]
        clear HP hpd HR hk hk2
        go_wp2
        go_meet
        exact ⟨rfl, rfl⟩
      · skip
        cases k1 : (x.right == 0)
        · obtain rfl : p = false := by rw [← HP.out]; simp [k0, k1]
          clear HP hpd HR hk hk2
          go_wp2
          go_meet
          exact ⟨rfl, rfl⟩
        · skip
          cases k2 : (x.lc == 0)
          · obtain rfl : p = false := by rw [← HP.out]; simp [k0, k1, k2]
            clear HP hpd HR hk hk2
            go_wp2
            go_meet
            exact ⟨rfl, rfl⟩
          · skip
            cases k3 : (x.rc == 0)
            · obtain rfl : p = false := by rw [← HP.out]; simp [k0, k1, k2, k3]
              clear HP hpd HR hk hk2
              go_wp2
              go_meet
              exact ⟨rfl, rfl⟩
            · skip
              obtain rfl : p = true := by rw [← HP.out]; simp [k0, k1, k2, k3]
              clear HP hpd HR hk hk2
              go_wp2
              go_meet
              exact ⟨rfl, rfl⟩
    obtain ⟨rfl, rfl⟩ := hcut
    go_upto_region 3 with fail
    go_cut [4] (fun s W => s = .bool (b1 && b2) ∧ W = wc)
    case first =>
      cases b1
      · skip
        go_wp2_with (first
          | ((with_reducible refine arm_load32 27 (.tmp 29) ?_ ?_ w.heap.size 5 ?_ x.ls 5 ?_ UD hiD ?_); rfl; rfl; rfl; exact R5.out _ F1.out)
          | ((with_reducible refine arm_load32 27 (.tmp 34) ?_ ?_ w.heap.size 37 ?_ x.rs 5 ?_ UD hiD ?_); rfl; rfl; rfl; exact R37.out _ F1.out)
          | ((with_reducible refine arm_built 27 [] ?_ ?_ [] ?_ (dc zero32) bzD ?_); rfl; rfl; rfl)
          | ((with_reducible refine arm_eql 27 27 (.tmp 30) (.tmp 31) ?_ ?_ (dc x.ls) (dc zero32) false ?_ ?_ hgD e1 ?_); rfl; rfl; rfl; rfl)
          | ((with_reducible refine arm_eql 27 27 (.tmp 35) (.tmp 36) ?_ ?_ (dc x.rs) (dc zero32) b2 ?_ ?_ hgD e2 ?_); rfl; rfl; rfl; rfl))
        go_meet
        exact ⟨rfl, rfl⟩
      · skip
        go_wp2_with (first
          | ((with_reducible refine arm_load32 27 (.tmp 29) ?_ ?_ w.heap.size 5 ?_ x.ls 5 ?_ UD hiD ?_); rfl; rfl; rfl; exact R5.out _ F1.out)
          | ((with_reducible refine arm_load32 27 (.tmp 34) ?_ ?_ w.heap.size 37 ?_ x.rs 5 ?_ UD hiD ?_); rfl; rfl; rfl; exact R37.out _ F1.out)
          | ((with_reducible refine arm_built 27 [] ?_ ?_ [] ?_ (dc zero32) bzD ?_); rfl; rfl; rfl)
          | ((with_reducible refine arm_eql 27 27 (.tmp 30) (.tmp 31) ?_ ?_ (dc x.ls) (dc zero32) true ?_ ?_ hgD e1 ?_); rfl; rfl; rfl; rfl)
          | ((with_reducible refine arm_eql 27 27 (.tmp 35) (.tmp 36) ?_ ?_ (dc x.rs) (dc zero32) b2 ?_ ?_ hgD e2 ?_); rfl; rfl; rfl; rfl))
        go_meet
        exact ⟨rfl, rfl⟩
    obtain ⟨rfl, rfl⟩ := hcut
    cases p
    · skip
      obtain rfl : r = false := by
        rw [← HR.out]
        unfold rightB isLeafB isBrB
        rw [HD1.out, HD2.out, HD3.out, hpd.out]
        simp [hk]
      clear HR HP hpd HL HRR
      go_wp2
      go_ret
      exact ⟨rfl, B1.out⟩
    · cases hz : (b1 && b2)
      · skip
        obtain rfl : r = false := by
          rw [← HR.out]
          unfold rightB isLeafB isBrB
          rw [HD1.out, HD2.out, HD3.out, hpd.out]
          cases b1 <;> cases b2 <;> simp_all
        clear HR HP hpd HL HRR
        go_wp2
        go_ret
        exact ⟨rfl, B1.out⟩
      · obtain ⟨rfl, rfl⟩ : b1 = true ∧ b2 = true := by cases b1 <;> cases b2 <;> simp_all
        clear hz
        rcases Nat.lt_or_ge 128 x.n with hn | hn
        · skip
          obtain rfl : r = false := by
            rw [← HR.out]
            unfold rightB isLeafB isBrB
            rw [HD1.out, HD2.out, HD3.out, hpd.out]
            simp [hk, Nat.not_le.2 hn]
          clear HR HP hpd HL HRR
          go_wp2
          go_ret
          exact ⟨(by first | rfl | (show Ending.returned (Value.bool (decide ((x.n : Int) ≤ 128))) = _; rw [decide_eq_false (by omega)])), B1.out⟩
        · skip
          obtain rfl : r = true := by
            rw [← HR.out]
            unfold rightB isLeafB isBrB
            rw [HD1.out, HD2.out, HD3.out, hpd.out]
            simp [hk, hn]
          clear HR HP hpd HL HRR
          go_wp2
          go_ret
          exact ⟨(by first | rfl | (show Ending.returned (Value.bool (decide ((x.n : Int) ≤ 128))) = _; rw [decide_eq_true (by omega)])), B1.out⟩
  · have k1f : (x.kind == 1) = false := by rw [beq_eq_false_iff_ne]; exact hk
    cases q1 : (x.kind != 2)
    · have hk2 : x.kind = 2 := by rw [bne_eq_false_iff_eq] at q1; exact q1
      cases b3
      · skip
        obtain rfl : r = false := by
          rw [← HR.out]
          unfold rightB isLeafB isBrB
          rw [HD1.out, HD2.out, HD3.out, hpd.out]
          simp [hk]
        clear HR HP hpd HL HRR hk hk2
        go_wp2_with (first
          | ((with_reducible refine arm_load32 26 (.tmp 53) ?_ ?_ w.heap.size 69 ?_ x.key 5 ?_ UK hiK ?_); rfl; rfl; rfl; exact R69.out _ F1.out)
          | ((with_reducible refine arm_built 26 [] ?_ ?_ [] ?_ (dc zero32) bzK ?_); rfl; rfl; rfl)
          | ((with_reducible refine arm_neq 26 26 (.tmp 54) (.tmp 55) ?_ ?_ (dc x.key) (dc zero32) true ?_ ?_ hgK e3 ?_); rfl; rfl; rfl; rfl))
        go_ret
        exact ⟨rfl, B1.out⟩
      · rcases Nat.eq_zero_or_pos x.n with hn0 | hn0
        · have hng : ¬ (0 : Int) < (x.n : Int) := by omega
          cases q2 : (x.left == x.right)
          · skip
            have hlr : ¬ x.left = x.right := by rw [beq_eq_false_iff_ne] at q2; exact q2
            clear hpd HP
            obtain ⟨l, hl⟩ : ∃ l, chStands ⟨x.left, x.lc, x.ls⟩ = l := ⟨_, rfl⟩
            obtain ⟨rr, hrr⟩ : ∃ l, chStands ⟨x.right, x.rc, x.rs⟩ = l := ⟨_, rfl⟩
            have Hl := Box.mk hl
            have Hr := Box.mk hrr
            simp only [hl] at HL
            simp only [hrr] at HRR
            clear hl hrr
            have HB := Box.mk (show r = (l && rr && decide (2 ≤ x.lc + x.rc) && decide (x.lc + x.rc ≤ 4096)) by
              rw [← HR.out]
              unfold rightB isLeafB isBrB brStands
              rw [HD1.out, HD2.out, HD3.out, Hl.out, Hr.out]
              have hne : (x.left != x.right) = true := by rw [bne_iff_ne]; exact hlr
              simp [hk2, hn0, hne])
            have Hcnt : Box (l = true → rr = true → wrap64 (x.lc + x.rc) = x.lc + x.rc) := ⟨fun h1 h2 => by
              have y1 := chStands_count (Hl.out.trans h1)
              have y2 := chStands_count (Hr.out.trans h2)
              simp only at y1 y2
              unfold wrap64; omega⟩
            clear hk hk2 hlr HR Hl Hr
            go_wp2_with (first
              | ((with_reducible refine arm_load32 26 (.tmp 53) ?_ ?_ w.heap.size 69 ?_ x.key 5 ?_ UK hiK ?_); rfl; rfl; rfl; exact R69.out _ F1.out)
              | ((with_reducible refine arm_built 26 [] ?_ ?_ [] ?_ (dc zero32) bzK ?_); rfl; rfl; rfl)
              | ((with_reducible refine arm_neq 26 26 (.tmp 54) (.tmp 55) ?_ ?_ (dc x.key) (dc zero32) false ?_ ?_ hgK e3 ?_); rfl; rfl; rfl; rfl)
              | ((with_reducible refine arm_load32 27 (.tmp 75) ?_ ?_ w.heap.size 5 ?_ x.ls 5 ?_ UD hiD ?_); rfl; rfl; rfl; exact R5.out _ F1.out)
              | (go_at_call 50; refine (calls_box (HL.out _)).mono ?_))
            rintro e w2 ⟨⟨rfl, hB⟩⟩
            have B2 := Box.mk (B1.out.trans (hB.mono B1.out.size))
            have hlt := heap_lt F1.out
            have F2 := Box.mk ((hB.block _ hlt).trans F1.out)
            have d2 := (hB.cell (p := ⟨w.heap.size, 2, none⟩) hlt).trans c2
            have d3 := (hB.cell (p := ⟨w.heap.size, 3, none⟩) hlt).trans c3
            have d4 := (hB.cell (p := ⟨w.heap.size, 4, none⟩) hlt).trans c4
            clear hB hlt c0 c1 c2 c3 c4 c101 hng
            go_wp2_with (first
              | ((with_reducible refine arm_load32 27 (.tmp 82) ?_ ?_ w.heap.size 37 ?_ x.rs 5 ?_ UD hiD ?_); rfl; rfl; rfl; exact R37.out _ F2.out)
              | (go_at_call 50; refine (calls_box (HRR.out _)).mono ?_))
            rintro e w3 ⟨⟨rfl, hB⟩⟩
            have B3 := Box.mk (B2.out.trans (hB.mono B2.out.size))
            have hlt := heap_lt F2.out
            have f3 := (hB.cell (p := ⟨w.heap.size, 3, none⟩) hlt).trans d3
            have f4 := (hB.cell (p := ⟨w.heap.size, 4, none⟩) hlt).trans d4
            clear hB hlt d2 d3 d4
            cases l
            · obtain rfl : r = false := HB.out
              clear HB Hcnt
              go_wp2
              go_ret
              exact ⟨rfl, B3.out⟩
            · cases rr
              · obtain rfl : r = false := HB.out
                clear HB Hcnt
                go_wp2
                go_ret
                exact ⟨rfl, B3.out⟩
              · have hw := Hcnt.out rfl rfl
                have HB2 := Box.mk (show r = (decide (2 ≤ x.lc + x.rc) && decide (x.lc + x.rc ≤ 4096)) from HB.out)
                clear HB Hcnt
                rcases Int.lt_or_le (x.lc + x.rc) 2 with m | m
                · obtain rfl : r = false := by rw [HB2.out, decide_eq_false (by omega)]; rfl
                  clear HB2
                  go_wp2
                  go_ret
                  exact ⟨rfl, B3.out⟩
                · rcases Int.lt_or_le 4096 (x.lc + x.rc) with m2 | m2
                  · obtain rfl : r = false := by rw [HB2.out, decide_eq_false (by omega : ¬ x.lc + x.rc ≤ 4096), Bool.and_false]
                    clear HB2
                    go_wp2
                    go_ret
                    exact ⟨(by first | rfl | (show Ending.returned (Value.bool (decide (x.lc + x.rc ≤ 4096))) = _; rw [decide_eq_false (by omega)])), B3.out⟩
                  · obtain rfl : r = true := by rw [HB2.out, decide_eq_true m, decide_eq_true m2]; rfl
                    clear HB2
                    go_wp2
                    go_ret
                    exact ⟨(by first | rfl | (show Ending.returned (Value.bool (decide (x.lc + x.rc ≤ 4096))) = _; rw [decide_eq_true (by omega)])), B3.out⟩
          · skip
            obtain rfl : r = false := by
              rw [← HR.out]
              unfold rightB isLeafB isBrB
              rw [HD1.out, HD2.out, HD3.out, hpd.out]
              have : x.left = x.right := by simpa using q2
              unfold brStands
              simp [hk, this]
            clear HR HP hpd HL HRR hk hk2
            go_wp2_with (first
              | ((with_reducible refine arm_load32 26 (.tmp 53) ?_ ?_ w.heap.size 69 ?_ x.key 5 ?_ UK hiK ?_); rfl; rfl; rfl; exact R69.out _ F1.out)
              | ((with_reducible refine arm_built 26 [] ?_ ?_ [] ?_ (dc zero32) bzK ?_); rfl; rfl; rfl)
              | ((with_reducible refine arm_neq 26 26 (.tmp 54) (.tmp 55) ?_ ?_ (dc x.key) (dc zero32) false ?_ ?_ hgK e3 ?_); rfl; rfl; rfl; rfl))
            go_ret
            exact ⟨rfl, B1.out⟩
        · have hng : (0 : Int) < (x.n : Int) := by omega
          skip
          obtain rfl : r = false := by
            rw [← HR.out]
            unfold rightB isLeafB isBrB
            rw [HD1.out, HD2.out, HD3.out, hpd.out]
            simp [hk, show ¬ x.n = 0 by omega]
          clear HR HP hpd HL HRR hk hk2
          go_wp2_with (first
            | ((with_reducible refine arm_load32 26 (.tmp 53) ?_ ?_ w.heap.size 69 ?_ x.key 5 ?_ UK hiK ?_); rfl; rfl; rfl; exact R69.out _ F1.out)
            | ((with_reducible refine arm_built 26 [] ?_ ?_ [] ?_ (dc zero32) bzK ?_); rfl; rfl; rfl)
            | ((with_reducible refine arm_neq 26 26 (.tmp 54) (.tmp 55) ?_ ?_ (dc x.key) (dc zero32) false ?_ ?_ hgK e3 ?_); rfl; rfl; rfl; rfl))
          go_ret
          exact ⟨rfl, B1.out⟩
    · have hk2 : ¬ x.kind = 2 := by rw [bne_iff_ne] at q1; exact q1
      skip
      obtain rfl : r = false := by
        rw [← HR.out]
        unfold rightB isLeafB isBrB
        rw [HD1.out, HD2.out, HD3.out, hpd.out]
        simp [hk, hk2]
      clear HR HP hpd HL HRR hk hk2
      go_wp2
      go_ret
      exact ⟨rfl, B1.out⟩
end Go.Proofs.YteiepenanffhcaaDoor
