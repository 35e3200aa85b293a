/- A keeper of lists: the walks of untouched, marked. -/
import Derived.Test.YtocfiabbhcgegaaJKeep
namespace Go.Proofs.Ytocfiabbhcgegaa.J
open Go Go.RowKit
set_option linter.unusedVariables false

theorem _root_.Go.Proofs.Ytocfiabbhcgegaa.OwnS.get {w : World} {base : Nat} {e : TypeId} {ao : Option Addr} {n c : Nat} {vs : List Value} (h : OwnS w base e (.slice ao n c) vs) (i : Nat) (hi : i < n) :
    ∃ g, ao = some ⟨g, 0, none⟩ ∧ ∃ hv : i < vs.length, w.cell? ⟨g, i, none⟩ = some vs[i] := by
  obtain ⟨ao2, c2, hv, _, _, hh⟩ := h.at
  rw [Value.slice.injEq] at hv
  obtain ⟨e1, e2, e3⟩ := hv
  rcases hh with ⟨_, h2, _⟩ | ⟨g, h1, h2⟩
  · rw [h2] at e2; simp at e2; omega
  · exact ⟨g, e1.trans h1, by omega, h2 i (by omega)⟩

theorem ent_shape {w : World} {base : Nat} {e : TypeId} {x : Ent} (h : Own w base e x.1 x.2) : ∃ a m c l, x = (.slice a m c, l) ∧ Row w a m l ∧ l.length = m ∧ Own w base e (.slice a m c) l := by
  obtain ⟨v, l⟩ := x
  obtain ⟨a, c, hv⟩ := own_sh h
  have hv' : v = .slice a l.length c := hv
  subst hv'
  exact ⟨a, l.length, c, l, rfl, (own_rd h).1, rfl, h⟩

set_option maxRecDepth 100000 in
set_option maxHeartbeats 4000000 in
theorem untouched_any (base p : Nat) (vL vW : Value) (ls ws : List Ent) (w : World) (hk : Keeper KT 26 5 w base p vL vW ls ws) (hs : ls.map (·.2) = ws.map (·.2)) (hl : ∀ x ∈ ls, x.2.length ≤ 140737488351400) (hn : ls.length ≤ 1099511627776) :
    Calls Try.prog 10 #[.pointer (some ⟨p, 0, none⟩)] w fun e w' => e = .returned (.bool true) ∧ ∃ q, w' = w.drewN q := by
  obtain ⟨aL, nL, cL, rfl, hnL⟩ := hk.ownL.sl
  obtain ⟨aW, nW, cW, rfl, hnW⟩ := hk.ownW.sl
  have HK := Box.mk hk
  have c0 : w.cell? ⟨p, 0, none⟩ = some (.slice aL nL cL) := by rw [cell_of_row w p 0 _ _ _ hk.blk]; rfl
  have c1 : w.cell? ⟨p, 1, none⟩ = some (.slice aW nW cW) := by rw [cell_of_row w p 1 _ _ _ hk.blk]; rfl
  have hLW := Box.mk (show nW = nL by
    have := congrArg List.length hs
    simp only [List.length_map] at this
    have h1 := hnL.out.1; have h2 := hnW.out.1
    simp only [List.length_map] at h1 h2
    omega)
  have hLl := Box.mk (show nL = ls.length by have h1 := hnL.out.1; simpa using h1)
  have HS := Box.mk hs
  have HL := Box.mk hl
  have hnn : nL ≤ 1099511627776 := by rw [hLl.out]; exact hn
  clear hk hs hl hn
  go_enter Try.func10, Try.ntmps10
  go_wp2
  go_loopw [3] (fun i wr => ∃ k : Nat, k ≤ nL ∧ i = .int .i64 k ∧ Box (∃ q, wr = w.drewN q)) (fun i _ => nL - (intOf i).toNat)
  case atStart => exact ⟨0, Nat.zero_le _, rfl, ⟨0, rfl⟩⟩
  case round =>
    obtain ⟨k, hk, rfl, hq⟩ := hrel
    obtain ⟨q0, rfl⟩ := hq.out
    by_cases hlt : k < nL
    · obtain ⟨gL, rfl, hv1, e1⟩ := HK.out.ownL.get k hlt
      obtain ⟨gW, rfl, hv2, e2⟩ := HK.out.ownW.get k (by rw [hLW.out]; exact hlt)
      have hkl : k < ls.length := by simpa using hv1
      have hkw : k < ws.length := by simpa using hv2
      simp only [List.getElem_map] at e1 e2
      have o1 := HK.out.eachL ls[k] (List.getElem_mem hkl)
      have o2 := HK.out.eachW ws[k] (List.getElem_mem hkw)
      have hsame : ls[k].2 = ws[k].2 := by
        have h := congrArg (fun l : List (List UInt8) => l[k]?) HS.out
        simpa [hkl, hkw] using h
      have hbd := HL.out ls[k] (List.getElem_mem hkl)
      obtain ⟨a1, m1, b1, l1, hx, r1, hm1, _⟩ := ent_shape o1
      obtain ⟨a2, m2, b2, l2, hy, r2, hm2, _⟩ := ent_shape o2
      rw [hx] at e1 hsame hbd
      rw [hy] at e2 hsame
      simp only at e1 e2 hsame hbd
      subst hsame
      have hm12 : m2 = m1 := by omega
      subst hm12
      rw [hm1] at hbd
      have hSB := Box.mk (fun x => sameBytes_any a1 a2 m2 b1 m2 b2 l1 l1 (w.drewN x) (r1.drewN x) (r2.drewN x) (by unfold maxLen; omega) (by unfold maxLen; omega))
      rw [eqB_true rfl] at hSB
      have k0 : (0 : Int) ≤ (k : Int) := by omega
      have k1 : (k : Int) < (nL : Int) := by omega
      have k2 : (k : Int) < (nW : Int) := by rw [hLW.out]; omega
      clear o1 o2 hv1 hv2 hkl hkw r1 r2 hbd hx hy hm1 hm2
      go_wp2_with fail
      refine wp_region_class (fun q => w.drewN (q0 + q)) (by kernel_rfl) (by kernel_rfl) ⟨1, rfl⟩ ?_
      repeat (go_big_quiet_step (fail))
      go_big_quiet_step (exact (hSB.out _).mono fun e w' h => ⟨h.1, by obtain ⟨q, hq⟩ := h.2; exact ⟨_, by rw [hq, World.drewN_drewN, Nat.add_assoc]⟩⟩)
      repeat (go_big_quiet_step (fail))
      refine wpQuiet_nil ?_
      rintro _ ⟨nq, rfl⟩
      go_wp2
      go_roundw
      case rel => exact ⟨k + 1, by omega, by go_num, ⟨_, rfl⟩⟩
      case measure => simp [intOf]; omega
    · go_wp2
      go_ret
      exact ⟨rfl, _, rfl⟩

/-- A list full of marks. -/
def marksL (i m : Nat) : List UInt8 := (List.range m).map (markB i)
theorem length_marksL (i m : Nat) : (marksL i m).length = m := by simp [marksL]
theorem marksL_succ (i m : Nat) : marksL i (m + 1) = marksL i m ++ [markB i m] := by simp [marksL, List.range_succ]
/-- A list of slices each of which is full of marks. -/
def MarkedAt (w : World) (ao : Option Addr) (n : Nat) : Prop :=
  ∀ i, i < n → ∃ g, ao = some ⟨g, 0, none⟩ ∧ ∃ a m c, w.cell? ⟨g, i, none⟩ = some (.slice a m c) ∧ Row w a m (marksL i m) ∧ m ≤ 140737488355328

set_option maxRecDepth 100000 in
set_option maxHeartbeats 4000000 in
theorem marked_any (ao : Option Addr) (n c : Nat) (w : World) (hX : MarkedAt w ao n) (hn : n ≤ 1099511627776) :
    Calls Try.prog 30 #[.slice ao n c] w fun e w' => e = .returned (.bool true) ∧ ∃ q, w' = w.drewN q := by
  have HX := Box.mk hX
  clear hX
  go_enter Try.func30, Try.ntmps30
  go_wp2
  go_loopw [3, 4] (fun i t4 wr => ∃ k : Nat, k ≤ n ∧ i = .int .i64 k ∧ Box (∃ q, wr = w.drewN q)) (fun i _ _ => n - (intOf i).toNat)
  case atStart => exact ⟨0, Nat.zero_le _, rfl, ⟨0, rfl⟩⟩
  case round =>
    obtain ⟨k, hk, rfl, hq⟩ := hrel
    obtain ⟨q0, rfl⟩ := hq.out
    by_cases hlt : k < n
    · obtain ⟨g, rfl, a, m, c', e1, hr, hm⟩ := HX.out k hlt
      have HR := Box.mk hr
      have k0 : (0 : Int) ≤ (k : Int) := by omega
      have k1 : (k : Int) < (n : Int) := by omega
      have hkb := Box.mk (show k ≤ 140737488355328 by omega)
      have hmb := Box.mk hm
      clear hr hm
      go_wp2
      obtain ⟨wz, hwz⟩ : ∃ y, y = w.drewN q0 := ⟨_, rfl⟩
      rw [← hwz]
      have HWZ := Box.mk hwz
      clear hwz
      go_loopw [4] (fun i wr => ∃ j : Nat, j ≤ m ∧ i = .int .i64 j ∧ Box (∃ q, wr = w.drewN q)) (fun i _ => m - (intOf i).toNat)
      case atStart => exact ⟨0, Nat.zero_le _, rfl, ⟨q0, HWZ.out⟩⟩
      case round =>
        obtain ⟨j, hj, rfl, hq2⟩ := hrel
        obtain ⟨q1, rfl⟩ := hq2.out
        by_cases hjt : j < m
        · obtain ⟨b, o, rfl⟩ := HR.out.at0 (by omega)
          have hjl : j < (marksL k m).length := by rw [length_marksL]; exact hjt
          have e2 : w.cell? ⟨b, o + j, none⟩ = some (.int .u8 ((markB k j).toNat : Int)) := by
            rw [HR.out.cell j hjl]
            simp [marksL]
          have j0 : (0 : Int) ≤ (j : Int) := by omega
          have j1 : (j : Int) < (m : Int) := by omega
          have hmk := Box.mk (fun x => mark_any k j hkb.out (by have := hmb.out; omega) (w.drewN x))
          generalize (markB k j).toNat = u at *
          clear hjl
          go_wp2_with fail
          refine wp_region_class (fun q => w.drewN (q1 + q)) (by kernel_rfl) (by kernel_rfl) ⟨1, rfl⟩ ?_
          repeat (go_big_quiet_step (fail))
          go_big_quiet_step (exact (hmk.out _).mono fun e w' h => ⟨h.1, _, h.2⟩)
          repeat (go_big_quiet_step (fail))
          refine wpQuiet_nil ?_
          rintro _ ⟨nq, rfl⟩
          have hj1 := IntWalk.i64_in ((j : Int) + 1) (by have := hmb.out; omega)
          go_wp2
          go_roundw
          case rel => exact ⟨j + 1, by omega, by go_num, ⟨_, rfl⟩⟩
          case measure => simp [intOf]; omega
        · go_wp2
          go_roundw
          case rel => exact ⟨k + 1, by omega, by go_num, ⟨_, rfl⟩⟩
          case measure => simp [intOf]; omega
    · go_wp2
      go_ret
      exact ⟨rfl, _, rfl⟩
end Go.Proofs.Ytocfiabbhcgegaa.J
