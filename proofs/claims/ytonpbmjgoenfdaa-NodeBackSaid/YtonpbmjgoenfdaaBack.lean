/- NodeBack: the walk of the law. -/
import Derived.Test.YtonpbmjgoenfdaaBackP
namespace Go.Proofs.Ytonpbmjgoenfdaa
open Go Go.RowKit
set_option linter.unusedVariables false

theorem heap_lt_below {w W : World} {g B : Nat} (h : g < w.heap.size) (hB : Below B w W) : g < W.heap.size := Nat.lt_of_lt_of_le h hB.size

set_option maxRecDepth 100000 in
set_option maxHeartbeats 4000000 in
theorem back_walk (x : NodeV) (q1 : inI64 x.left) (q2 : inI64 x.right) (q3 : inI64 x.lc) (q4 : inI64 x.rc) (lx : List UInt8) (kind : Int) (ao : Option Addr) (n c : Nat) (l : List UInt8) (w : World)
    (hx : Row w x.ao x.n lx) (hnx : x.ao = none → x.n = 0 ∧ x.c = 0) (hbx : x.n ≤ 140737488351232)
    (h : Row w ao n l) (hn : ao = none → n = 0 ∧ c = 0) (hle : n ≤ c) (hmx : c ≤ 140737488351232) :
    Calls Try.prog 8 #[.agg (nodeC x).toArray, .int .i64 kind, .slice ao n c] w fun e w' => e = .returned (.bool true) ∧ Below w.heap.size w w' := by
  have hz35 : ∀ W : World, (zeroValue 35).run Try.prog W = .ok (.agg (nodeC noNode).toArray) W := fun W => by kernel_rfl
  have hb35 : Box (Try.prog.built 35 [] = some (nodeC noNode).toArray) := ⟨by kernel_rfl⟩
  have hE : Box (∀ W, Below w.heap.size w W → _) := ⟨fun W hW => encode_any x q1 q2 q3 q4 lx W (hx.old hW) hnx hbx⟩
  have hR : Box (∀ W, _) := ⟨fun W => right_any x W⟩
  have hD : Box (∀ W, Below w.heap.size w W → _) := ⟨fun W hW => decode_any kind ao n c l W (h.old hW) hn hle (by omega) (by omega)⟩
  have hsz := nodeSize
  have hal := nodeC_all
  have hi := hsz x
  have hi0 := hsz noNode
  have ha0 := Box.mk (hal noNode)
  have HN : lx.length = x.n := hx.1
  have HXB : Box (∀ W, Below w.heap.size w W → Row W x.ao x.n lx) := ⟨fun W hW => hx.old hW⟩
  have HLB : Box (∀ W, Below w.heap.size w W → Row W ao n l) := ⟨fun W hW => h.old hW⟩
  have hss : Box (∀ y : NodeV, (nodeC noNode).toArray.size = (nodeC y).toArray.size) := ⟨fun y => (nodeSize2 noNode y).out⟩
  have hS : Box (∀ (y : NodeV) (ly : List UInt8) (W : World), Row W y.ao y.n ly → y.n ≤ maxLen → Row W x.ao x.n lx → _) := ⟨fun y ly W hy my hx' => sameNode_any y x ly lx W hy hx' my (by unfold maxLen; omega)⟩
  have hS0 : Box (∀ (W : World), _) := ⟨fun W => sameNode_any noNode noNode [] [] W (Row.nil) (Row.nil) (Nat.zero_le _) (Nat.zero_le _)⟩
  have hEY : Box (∀ (y : NodeV) (ly : List UInt8), inI64 y.left → inI64 y.right → inI64 y.lc → inI64 y.rc → ∀ W, Row W y.ao y.n ly → (y.ao = none → y.n = 0 ∧ y.c = 0) → y.n ≤ 140737488351232 → _) := ⟨fun y ly a b c d W hy hny hby => encode_any y a b c d ly W hy hny hby⟩
  have hRY : Box (∀ (y : NodeV) W, _) := ⟨fun y W => right_any y W⟩
  have hDX : Box (∀ (t : List UInt8) (g cap : Nat) W, Row W (some ⟨g, 0, none⟩) t.length t → t.length ≤ cap → cap ≤ maxLen → t.length ≤ 140737488351232 → _) := ⟨fun t g cap W ht h1 h2 h3 => decode_any x.kind (some ⟨g, 0, none⟩) t.length cap t W ht (fun h => by cases h) h1 h3 h2⟩
  have hB0 : Box (Below w.heap.size w (w.alloc (.cells (nodeC x).toArray 35))) := ⟨Below.refl_alloc w _⟩
  have F0 : Box ((w.alloc (.cells (nodeC x).toArray 35)).heap[w.heap.size]? = some (.cells (nodeC x).toArray 35 (0, 0))) := ⟨heap_new rfl⟩
  have c0 : Box (∀ W : World, W.heap[w.heap.size]? = some (.cells (nodeC x).toArray 35 (0, 0)) → W.cell? ⟨w.heap.size, 0, none⟩ = some (.int .i64 x.kind)) := ⟨fun W hW => by rw [cell_of_row _ _ 0 _ _ _ hW]; rfl⟩
  have hback := Box.mk (back_right x lx HN)
  have HLM := Box.mk (show (decL kind l).length ≤ 140737488351232 by have := decL_le kind l; have := h.1; omega)
  have HNC := Box.mk (show n ≤ c ∧ c ≤ 140737488351232 from ⟨hle, hmx⟩)
  clear hx hnx h hn HN hbx hle hmx q1 q2 q3 q4 hsz hal
  generalize hrx : rightB x = rx at *
  have HRX := Box.mk hrx
  clear hrx
  generalize hcx : (nodeC x).toArray = cx at *
  generalize hzn : (nodeC noNode).toArray = zn at *
  have HCX := Box.mk hcx
  have HZN := Box.mk hzn
  clear hcx hzn
  go_enter Try.func8, Try.ntmps8
  go_upto_region 1 with fail
  generalize w.alloc (.cells cx 35) = w0 at *
  go_upto_region 2 with (first
    | ((with_reducible refine arm_row 35 (.tmp 3) ?_ ?_ w.heap.size ?_ 35 cx (0, 0) _ F0.out Try.underlying35 rfl hi.out ?_); rfl; rfl; rfl)
    | (go_at_call 16; refine (calls_box (hE.out _ hB0.out)).mono ?_))
  rintro e w1 ⟨⟨he, hB⟩⟩
  have b1 : Box (Below w.heap.size w w1) := ⟨hB0.out.trans (hB.mono hB0.out.size)⟩
  have F1 : Box (w1.heap[w.heap.size]? = some (.cells cx 35 (0, 0))) := ⟨(hB.block _ (heap_lt F0.out)).trans F0.out⟩
  obtain ⟨tv, er, rfl, ht⟩ : ∃ tv er, e = .returned (.tuple #[tv, .int .i64 er]) ∧ Box ((rx = true ∧ er = 0 ∧ ∃ g cap, tv = .slice (some ⟨g, 0, none⟩) (encT x lx).length cap ∧ Own w1 w0.heap.size 5 (.slice (some ⟨g, 0, none⟩) (encT x lx).length cap) (encT x lx)) ∨ (rx = false ∧ er = 90 ∧ tv = .slice none 0 0)) := by
    rcases he with ⟨hr, g, cap, rfl, own⟩ | ⟨hr, rfl⟩
    · exact ⟨_, _, rfl, ⟨.inl ⟨hr, rfl, g, cap, rfl, own⟩⟩⟩
    · exact ⟨_, _, rfl, ⟨.inr ⟨hr, rfl, rfl⟩⟩⟩
  have hb01 : Box (Below w0.heap.size w0 w1) := ⟨hB⟩
  have hw0 : Box (w.heap.size ≤ w0.heap.size) := ⟨hB0.out.size⟩
  clear he hB hB0 F0 hE
  go_upto_if 21 with (first
    | ((with_reducible refine arm_row 35 (.tmp 3) ?_ ?_ w.heap.size ?_ 35 cx (0, 0) _ F1.out Try.underlying35 rfl hi.out ?_); rfl; rfl; rfl)
    | (go_at_call 17; refine (calls_box (hR.out _)).mono ?_))
  rintro e w2 ⟨⟨rfl, hB⟩⟩
  have b2 : Box (Below w1.heap.size w1 w2) := ⟨hB⟩
  have F2 : Box (w2.heap[w.heap.size]? = some (.cells cx 35 (0, 0))) := ⟨(hB.block _ (heap_lt F1.out)).trans F1.out⟩
  clear hB
  go_upto_if 21 with fail
  go_cut [6] (fun s W => s = .bool false ∧ Below w1.heap.size w1 W)
  case first =>
    rcases ht.out with ⟨rfl, rfl, g, cap, rfl, own⟩ | ⟨rfl, rfl, rfl⟩
    · have hr : rightB x = true := HRX.out
      have own1 := own.row
      obtain ⟨hok, h246, hsame⟩ := hback.out rfl
      have hD1 : Box (∀ W, Below w1.heap.size w1 W → _) := ⟨fun W hW => hDX.out (encT x lx) g cap W (own1.1.old hW) own1.2.2.2.1 own1.2.2.2.2 (by omega)⟩
      rw [hok, if_pos rfl] at hD1
      have hcx0 := c0.out
      clear ht hEY hRY hS0 hD HLB hDX hback hR
      have HSM := Box.mk hsame
      have H246 := Box.mk h246
      clear hsame h246 own own1 hok
      generalize encT x lx = t at *
      generalize (decL x.kind t) = ly at *
      have k2 : w2.cell? ⟨w.heap.size, 0, none⟩ = some (.int .i64 x.kind) := hcx0 _ F2.out
      clear hcx0
      go_wp2_with (go_at_call 18; refine (calls_box (hD1.out _ b2.out)).mono ?_)
      rintro e w3 ⟨⟨⟨ao', c', rfl, own⟩, hB⟩⟩
      have b3 : Box (Below w1.heap.size w1 w3) := ⟨b2.out.trans (hB.mono b2.out.size)⟩
      have F3 : Box (w3.heap[w.heap.size]? = some (.cells cx 35 (0, 0))) := ⟨(hB.block _ (heap_lt F2.out)).trans F2.out⟩
      have hsm := Box.mk (HSM.out ao' c')
      clear hB k2 HSM
      obtain ⟨rowY, _, _⟩ : Row w3 (decY x.kind t ao' c').ao (decY x.kind t ao' c').n ly ∧ (decY x.kind t ao' c').n ≤ maxLen ∧ True := by
        obtain ⟨ao2, cap2, hv, hr2, hm2, hc2, _⟩ := own.open
        rw [Value.slice.injEq] at hv
        obtain ⟨e1, e2, e3⟩ := hv
        rw [e1, e2]
        exact ⟨hr2, by omega, trivial⟩
      have HY := Box.mk rowY
      clear own rowY
      have hsY := Box.mk (fun (W : World) (hW : Below w3.heap.size w3 W) => hS.out (decY x.kind t ao' c') ly W (HY.out.old hW) (by assumption) (HXB.out _ (b1.out.trans ((b3.out.trans (hW.mono b3.out.size)).mono b1.out.size))))
      rw [hsm.out] at hsY
      have hiy := Box.mk (hi0.out.trans (congrArg some (hss.out (decY x.kind t ao' c'))))
      have hsy := Box.mk (hss.out (decY x.kind t ao' c'))
      have hay := Box.mk (nodeC_all (decY x.kind t ao' c'))
      generalize (nodeC (decY x.kind t ao' c')).toArray = cy at *
      have F4 : Box ((w3.alloc (.cells zn 35)).heap[w3.heap.size]? = some (.cells zn 35 (0, 0))) := ⟨heap_new rfl⟩
      go_wp2_with ((with_reducible refine wpList_store_row rfl 35 (.tmp 9) (.tmp 27) ?_ w3.heap.size zn cy 35 ?_ ?_ F4.out hsy.out hiy.out hay.out ?_); rfl; rfl; rfl)
      intro w4 g4 G4
      have b4 : Box (Below w3.heap.size w3 w4) := ⟨(Below.refl_alloc w3 (.cells zn 35)).grown G4 (by simp) (fun k hk => by cases hk; exact Nat.le_refl _)⟩
      have l03 : w.heap.size < w3.heap.size := heap_lt F3.out
      have F4' : Box (w4.heap[w.heap.size]? = some (.cells cx 35 (0, 0))) := ⟨(b4.out.block _ l03).trans F3.out⟩
      have hsY4 := Box.mk (hsY.out w4 b4.out)
      have h246i : (decide ((t.length : Int) > 246)) = false := by have := H246.out; rw [decide_eq_false]; omega
      have b14 : Box (Below w1.heap.size w1 w4) := ⟨b3.out.trans (b4.out.mono b3.out.size)⟩
      clear G4 hsY hsm hay hsy F4 F3 F2
      have hlt246 : ¬ (246 < (t.length : Int)) := by have := H246.out; omega
      have H246' := Box.mk hlt246
      clear hlt246 h246i
      go_wp2_with (first
        | ((with_reducible refine arm_row 35 (.tmp 9) ?_ ?_ w3.heap.size ?_ 35 cy (0, 0) _ g4.out Try.underlying35 rfl hiy.out ?_); rfl; rfl; rfl)
        | ((with_reducible refine arm_row 35 (.tmp 3) ?_ ?_ w.heap.size ?_ 35 cx (0, 0) _ F4'.out Try.underlying35 rfl hi.out ?_); rfl; rfl; rfl)
        | (go_at_call 19; refine (calls_box (hsY4.out)).mono ?_))
      rintro e w5 ⟨⟨rfl, hB⟩⟩
      have b5 : Box (Below w1.heap.size w1 w5) := ⟨b14.out.trans (hB.mono b14.out.size)⟩
      clear hB
      have hle246 : (t.length : Int) ≤ 246 := by have := H246.out; omega
      go_wp2
      go_meet
      exact ⟨rfl, b5.out⟩
    · clear hEY hRY hS0 hD HLB hDX hback hS hss c0
      go_wp2
      go_meet
      exact ⟨rfl, b2.out⟩
  obtain ⟨rfl, hBc⟩ := hcut
  have bc : Box (Below w.heap.size w wc) := ⟨b1.out.trans (hBc.mono b1.out.size)⟩
  obtain ⟨er2, her⟩ : ∃ z, (if decOk kind l = true then (0 : Int) else 90) = z := ⟨_, rfl⟩
  rw [her] at hD
  have HER := Box.mk her
  clear her
  clear hBc ht hR hS hDX c0 hback HXB F1 F2 b1 b2 hb01 hw0 hi HCX HRX
  go_wp2_with (go_at_call 18; refine (calls_box (hD.out _ bc.out)).mono ?_)
  rintro e w3 ⟨⟨⟨ao', c', rfl, own⟩, hB⟩⟩
  have b3 : Box (Below w.heap.size w w3) := ⟨bc.out.trans (hB.mono bc.out.size)⟩
  have OWN := Box.mk own
  obtain ⟨iy1, iy2, iy3, iy4⟩ := decY_in kind l ao' c'
  have hiy := Box.mk (hi0.out.trans (congrArg some (hss.out (decY kind l ao' c'))))
  have hsy := Box.mk (hss.out (decY kind l ao' c'))
  have hay := Box.mk (nodeC_all (decY kind l ao' c'))
  have FB := Box.mk (back_ok kind l ao' c')
  have FN := Box.mk (back_no kind l ao' c')
  have hE : Box (∀ W, Below w3.heap.size w3 W → _) := ⟨fun W hW => hEY.out (decY kind l ao' c') (decL kind l) iy1 iy2 iy3 iy4 W ((own_read own).1.old hW) (own_none own) (by have := (own_read own).2.1; have := HLM.out; omega)⟩
  have hR : Box (∀ W, _) := ⟨fun W => hRY.out (decY kind l ao' c') W⟩
  have hk : Box (∀ W : World, W.heap[w3.heap.size]? = some (.cells (nodeC (decY kind l ao' c')).toArray 35 (0, 0)) → W.cell? ⟨w3.heap.size, 0, none⟩ = some (.int .i64 (decY kind l ao' c').kind)) := ⟨fun W hW => by rw [cell_of_row _ _ 0 _ _ _ hW]; rfl⟩
  have F4 : Box ((w3.alloc (.cells zn 35)).heap[w3.heap.size]? = some (.cells zn 35 (0, 0))) := ⟨heap_new rfl⟩
  clear hB own iy1 iy2 iy3 iy4 hD hEY hRY HLM hss
  cases hok : decOk kind l
  · obtain ⟨y0, l0⟩ := FN.out hok
    obtain rfl : er2 = 90 := by rw [← HER.out, hok]; rfl
    rw [y0, HZN.out]
    have hS1 := Box.mk (fun W => hS0.out W)
    rw [noNode_same] at hS1
    clear HER hiy hsy hay hok y0 l0 FB FN OWN hS0 hE hR HZN hk HLB
    go_wp2_with ((with_reducible refine wpList_store_row rfl 35 (.tmp 11) (.tmp 57) ?_ w3.heap.size zn zn 35 ?_ ?_ F4.out rfl hi0.out ha0.out ?_); rfl; rfl; rfl)
    intro w4 g4 G4
    have b4 : Box (Below w.heap.size w w4) := ⟨b3.out.trans (((Below.refl_alloc w3 (.cells zn 35)).grown G4 (by simp) (fun k hk => by cases hk; exact Nat.le_refl _)).mono b3.out.size)⟩
    clear G4
    go_wp2_with (first
      | ((with_reducible refine arm_row 35 (.tmp 11) ?_ ?_ w3.heap.size ?_ 35 zn (0, 0) _ g4.out Try.underlying35 rfl hi0.out ?_); rfl; rfl; rfl)
      | ((with_reducible refine arm_built 35 [] ?_ ?_ [] ?_ zn hb35.out ?_); rfl; rfl; rfl)
      | (go_at_call 19; refine (calls_box (hS1.out _)).mono ?_))
    rintro e w5 ⟨⟨rfl, hB⟩⟩
    have b5 : Box (Below w.heap.size w w5) := ⟨b4.out.trans (hB.mono b4.out.size)⟩
    clear hB
    go_wp2
    go_ret
    exact ⟨rfl, b5.out⟩
  · obtain ⟨hr1, hk1, ht1⟩ := FB.out hok
    obtain rfl : er2 = 0 := by rw [← HER.out, hok]; rfl
    rw [hr1] at hR
    rw [hr1, ht1] at hE
    rw [hk1] at hk
    clear HER FB FN hok hr1 hk1 ht1 OWN hS0 HZN
    generalize (nodeC (decY kind l ao' c')).toArray = cy at *
    go_wp2_with ((with_reducible refine wpList_store_row rfl 35 (.tmp 11) (.tmp 57) ?_ w3.heap.size zn cy 35 ?_ ?_ F4.out hsy.out hiy.out hay.out ?_); rfl; rfl; rfl)
    intro w4 g4 G4
    have b34 : Box (Below w3.heap.size w3 w4) := ⟨(Below.refl_alloc w3 (.cells zn 35)).grown G4 (by simp) (fun k hk => by cases hk; exact Nat.le_refl _)⟩
    clear G4
    have F4c : Box (w4.heap[w3.heap.size]? = some (.cells cy 35 (0, 0))) := ⟨g4.out⟩
    go_wp2_with (first
      | ((with_reducible refine arm_row 35 (.tmp 11) ?_ ?_ w3.heap.size ?_ 35 cy (0, 0) _ F4c.out Try.underlying35 rfl hiy.out ?_); rfl; rfl; rfl)
      | (go_at_call 16; refine (calls_box (hE.out _ b34.out)).mono ?_))
    rintro e w5 ⟨⟨he, hB⟩⟩
    have b35 : Box (Below w3.heap.size w3 w5) := ⟨b34.out.trans (hB.mono b34.out.size)⟩
    have F5 : Box (w5.heap[w3.heap.size]? = some (.cells cy 35 (0, 0))) := ⟨(hB.block _ (heap_lt F4c.out)).trans F4c.out⟩
    obtain ⟨g, cap, rfl, own⟩ : ∃ g cap, e = .returned (.tuple #[.slice (some ⟨g, 0, none⟩) l.length cap, .int .i64 0]) ∧ Own w5 w4.heap.size 5 (.slice (some ⟨g, 0, none⟩) l.length cap) l := by
      rcases he with ⟨_, h⟩ | ⟨h, _⟩
      · exact h
      · cases h
    have OW := Box.mk own.row
    clear he hB own hE
    go_wp2_with (first
      | ((with_reducible refine arm_row 35 (.tmp 11) ?_ ?_ w3.heap.size ?_ 35 cy (0, 0) _ F5.out Try.underlying35 rfl hiy.out ?_); rfl; rfl; rfl)
      | (go_at_call 17; refine (calls_box (hR.out _)).mono ?_))
    rintro e w6 ⟨⟨rfl, hB⟩⟩
    have b36 : Box (Below w3.heap.size w3 w6) := ⟨b35.out.trans (hB.mono b35.out.size)⟩
    have F6 : w6.heap[w3.heap.size]? = some (.cells cy 35 (0, 0)) := (hB.block _ (heap_lt F5.out)).trans F5.out
    have k6 : w6.cell? ⟨w3.heap.size, 0, none⟩ = some (.int .i64 kind) := hk.out w6 F6
    have R6 := Box.mk (OW.out.1.old hB)
    have b6 : Box (Below w.heap.size w w6) := ⟨b3.out.trans (b36.out.mono b3.out.size)⟩
    have L6 := Box.mk (HLB.out w6 b6.out)
    have hn1 := Box.mk (show l.length ≤ maxLen by have := OW.out; omega)
    have hn2 := Box.mk (show n ≤ maxLen by have := HNC.out; unfold maxLen; omega)
    clear hB F6
    go_wp2_with (go_at_call 12; refine (calls_box (sameBytes_any _ _ _ _ _ _ l l _ R6.out L6.out hn1.out hn2.out)).mono ?_)
    rintro e w7 ⟨⟨rfl, qq, rfl⟩⟩
    have heq := eqB_true (rfl : l = l)
    rw [heq]
    go_wp2
    go_ret
    exact ⟨rfl, below_drewN' b6.out qq⟩
end Go.Proofs.Ytonpbmjgoenfdaa
