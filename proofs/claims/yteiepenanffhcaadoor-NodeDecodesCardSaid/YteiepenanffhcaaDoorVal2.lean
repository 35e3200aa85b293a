/- One play of a call that is handed a list: Decode. -/
import Derived.Test.YteiepenanffhcaaDoorRDecB
import Derived.Test.YteiepenanffhcaaDoorBackP
namespace Go.Proofs.YteiepenanffhcaaDoor
open Go Go.RowKit
set_option linter.unusedVariables false

theorem rdec_none (kind : Int) (ao : Option Addr) (n c : Nat) (w : World) (h : (kind = 1 ∧ n < 32) ∨ (kind = 2 ∧ n < 80) ∨ (kind = 2 ∧ 80 < n) ∨ ((kind == 1) = false ∧ (kind == 2) = false)) :
    Calls Tryd.prog 21 #[.int .i64 kind, .slice ao n c] w fun e w' => e = .returned (.tuple #[.agg (nodeC noNode).toArray, .int .i64 90]) ∧ Below w.heap.size w w' := by
  rcases h with ⟨rfl, h⟩ | ⟨rfl, h⟩ | ⟨rfl, h⟩ | ⟨h1, h2⟩
  · exact rdec_one_short ao n c w h
  · exact rdec_two_short ao n c w h
  · exact rdec_two_long ao n c w h
  · exact rdec_other kind ao n c w h1 (by rw [bne_iff_ne]; rw [beq_eq_false_iff_ne] at h2; exact h2)
theorem rdec_leaf2 (b o m c : Nat) (l : List UInt8) (w : World) (h : Row w (some ⟨b, o, none⟩) (m + 32) l) :
    Calls Tryd.prog 21 #[.int .i64 1, .slice (some ⟨b, o, none⟩) (m + 32) c] w fun e w' =>
      (if m ≤ 128 then ∃ ao' c'', e = .returned (.tuple #[.agg (nodeC ⟨1, 0, 0, 0, 0, zero32, zero32, keyOf l, ao', m, c''⟩).toArray, .int .i64 0]) ∧ Own w' w.heap.size 5 (.slice ao' m c'') (l.drop 32)
        else e = .returned (.tuple #[.agg (nodeC noNode).toArray, .int .i64 90])) ∧ Below w.heap.size w w' := by
  by_cases h128 : m ≤ 128
  · refine (rdec_leaf b o (m + 32) c l w h (by omega) (by omega)).mono fun e w' ⟨⟨ao', c', he, ho⟩, hB⟩ => ⟨?_, hB⟩
    rw [if_pos h128]
    rw [Nat.add_sub_cancel] at he ho
    exact ⟨ao', c', he, ho⟩
  · refine (rdec_one_long (some ⟨b, o, none⟩) (m + 32) c w (by omega)).mono fun e w' ⟨he, hB⟩ => ⟨?_, hB⟩
    rw [if_neg h128]
    exact he

/-- The reference's Decode. -/
theorem rdec_any (kind : Int) (ao : Option Addr) (n c : Nat) (l : List UInt8) (w : World) (h : Row w ao n l) (hn : ao = none → n = 0 ∧ c = 0) (hle : n ≤ c) (hmx : n ≤ 140737488351232) (hmax : c ≤ 9223372036854775807) :
    Calls Tryd.prog 21 #[.int .i64 kind, .slice ao n c] w fun e w' =>
      (∃ ao' c', e = .returned (.tuple #[.agg (nodeC (decY kind l ao' c')).toArray, .int .i64 (if decOk kind l = true then 0 else 90)]) ∧
        Own w' w.heap.size 5 (.slice (decY kind l ao' c').ao (decY kind l ao' c').n (decY kind l ao' c').c) (decL kind l)) ∧ Below w.heap.size w w' := by
  have hl := h.1
  have none_ : ((kind = 1 ∧ n < 32) ∨ (kind = 2 ∧ n < 80) ∨ (kind = 2 ∧ 80 < n) ∨ ((kind == 1) = false ∧ (kind == 2) = false)) → decOk kind l = false → _ := fun hh hok =>
    (rdec_none kind ao n c w hh).mono (R' := fun e w' => (∃ ao' c', e = .returned (.tuple #[.agg (nodeC (decY kind l ao' c')).toArray, .int .i64 (if decOk kind l = true then 0 else 90)]) ∧
        Own w' w.heap.size 5 (.slice (decY kind l ao' c').ao (decY kind l ao' c').n (decY kind l ao' c').c) (decL kind l)) ∧ Below w.heap.size w w') (by
      rintro e w' ⟨rfl, hB⟩
      refine ⟨⟨none, 0, ?_, ?_⟩, hB⟩
      · rw [(back_no kind l none 0 hok).1, hok]; rfl
      · rw [(back_no kind l none 0 hok).1, (back_no kind l none 0 hok).2]; exact own_nil _ _ _)
  by_cases k1 : kind = 1
  · rcases Nat.lt_or_ge n 32 with h32 | h32
    · exact none_ (.inl ⟨k1, h32⟩) (by unfold decOk; rw [decide_eq_false (show ¬ 32 ≤ l.length by omega), decide_eq_false (show ¬ kind = 2 by omega)]; simp)
    · obtain ⟨b, o, rfl⟩ := h.at0 (by omega)
      obtain ⟨m, rfl⟩ : ∃ m, n = m + 32 := ⟨n - 32, by omega⟩
      obtain ⟨c', rfl⟩ : ∃ c', c = c' + 32 := ⟨c - 32, by omega⟩
      subst k1
      refine (rdec_leaf2 b o m (c' + 32) l w h).mono ?_
      rintro e w' ⟨he, hB⟩
      refine ⟨?_, hB⟩
      rcases Nat.lt_or_ge 128 m with h128 | h128
      · rw [if_neg (by omega)] at he
        have hok : decOk 1 l = false := by unfold decOk; rw [decide_eq_false (show ¬ l.length ≤ 160 by omega)]; simp
        refine ⟨none, 0, ?_, ?_⟩
        · rw [(back_no 1 l none 0 hok).1, hok]; exact he
        · rw [(back_no 1 l none 0 hok).1, (back_no 1 l none 0 hok).2]; exact own_nil _ _ _
      · rw [if_pos h128] at he
        obtain ⟨ao', c'', he, own⟩ := he
        have hok : decOk 1 l = true := by unfold decOk; rw [decide_eq_true (show 32 ≤ l.length by omega), decide_eq_true (show l.length ≤ 160 by omega)]; simp
        have hy : decY 1 l ao' c'' = ⟨1, 0, 0, 0, 0, zero32, zero32, keyOf l, ao', m, c''⟩ := by unfold decY; rw [if_pos hok, if_pos rfl, hl, Nat.add_sub_cancel]
        have hd : decL 1 l = l.drop 32 := by unfold decL; rw [hok]; rfl
        refine ⟨ao', c'', ?_, ?_⟩
        · rw [hy, hok]; exact he
        · rw [hy, hd]; exact own
  · by_cases k2 : kind = 2
    · rcases Nat.lt_trichotomy n 80 with h80 | h80 | h80
      · exact none_ (.inr (.inl ⟨k2, h80⟩)) (by unfold decOk; rw [decide_eq_false k1, decide_eq_false (show ¬ l.length = 80 by omega)]; simp)
      · obtain ⟨b, o, rfl⟩ := h.at0 (by omega)
        subst h80
        obtain ⟨c', rfl⟩ : ∃ c', c = c' + 80 := ⟨c - 80, by omega⟩
        subst k2
        refine (rdec_branch b o (c' + 80) l w h).mono ?_
        rintro e w' ⟨he, hB⟩
        refine ⟨?_, hB⟩
        cases hs : brStands (chL l) (chR l)
        · rw [hs] at he
          have hok : decOk 2 l = false := by unfold decOk; rw [hs]; simp
          refine ⟨none, 0, ?_, ?_⟩
          · rw [(back_no 2 l none 0 hok).1, hok]; simpa using he
          · rw [(back_no 2 l none 0 hok).1, (back_no 2 l none 0 hok).2]; exact own_nil _ _ _
        · rw [hs, if_pos rfl] at he
          have hok : decOk 2 l = true := by unfold decOk; rw [hs, decide_eq_true hl]; simp
          have hy : decY 2 l none 0 = brNode l := by unfold decY; rw [if_pos hok]; rfl
          have hd : decL 2 l = [] := by unfold decL; rw [hok]; rfl
          refine ⟨none, 0, ?_, ?_⟩
          · rw [hy, hok]; exact he
          · rw [hy, hd]; exact own_nil _ _ _
      · exact none_ (.inr (.inr (.inl ⟨k2, h80⟩))) (by unfold decOk; rw [decide_eq_false k1, decide_eq_false (show ¬ l.length = 80 by omega)]; simp)
    · exact none_ (.inr (.inr (.inr ⟨by rw [beq_eq_false_iff_ne]; exact k1, by rw [beq_eq_false_iff_ne]; exact k2⟩))) (by unfold decOk; rw [decide_eq_false k1, decide_eq_false k2]; simp)

theorem dec_same (kind : Int) (l : List UInt8) (a1 a2 : Option Addr) (c1 c2 : Nat) : eqNode (decY kind l a1 c1) (decY kind l a2 c2) (decL kind l) (decL kind l) = true := by
  unfold decY
  split
  · split
    · unfold eqNode eqInts; simp only [eqD_refl, eqB_true rfl]; rfl
    · unfold eqNode eqInts; simp only [eqD_refl, eqB_true rfl]; simp
  · unfold eqNode eqInts; simp only [eqD_refl, eqB_true rfl]; simp

set_option maxRecDepth 100000 in
set_option maxHeartbeats 4000000 in
theorem valuePlay_dec (o : OpV) (hk : o.kind = 2) (n : Nat) (hn : n ≤ 140737488351232) (L : List UInt8) (hL : L.length = n) (g : Nat) (a1 : Option Addr) (c1 : Nat) (w : World)
    (hg0 : w.heap[g]? = some (.cells (bvs (roomyL L)).toArray 5 (0, 0))) (hrow : Row w a1 n L) (hnone : a1 = none → n = 0 ∧ c1 = 0) (hle : n ≤ c1) (hmax : c1 ≤ maxLen) :
    Calls Tryd.prog 14 #[.agg (opC o).toArray, .slice (some ⟨g, 0, none⟩) (n + 100) (n + 100), .slice a1 n c1] w fun e W' => e = .returned (.bool true) ∧ Below w.heap.size w W' := by
  have hz30 : ∀ W : World, (zeroValue 30).run Tryd.prog W = .ok (.agg (nodeC noNode).toArray) W := fun W => by kernel_rfl
  have hsz := nodeSize
  have hss := nodeSize2
  have hal : ∀ x : NodeV, Box ((nodeC x).toArray.all (·.oneCell') = true) := fun x => ⟨nodeC_all x⟩
  have bel0 := Below.refl_alloc w (.cells (opC o).toArray 32)
  have F0 : Box ((w.alloc (.cells (opC o).toArray 32)).heap[w.heap.size]? = some (.cells (opC o).toArray 32 (0, 0))) := ⟨heap_new rfl⟩
  have c0 : (w.alloc (.cells (opC o).toArray 32)).cell? ⟨w.heap.size, 0, none⟩ = some (.int .i64 2) := by rw [cell_of_row _ _ 0 _ _ _ F0.out, ← hk]; rfl
  have CC2 := Box.mk (show (w.alloc (.cells (opC o).toArray 32)).cell? ⟨w.heap.size, 2, none⟩ = some (.int .i64 o.n) by rw [cell_of_row _ _ 2 _ _ _ F0.out]; rfl)
  have HG := Box.mk ((bel0.block g (heap_lt hg0)).trans hg0)
  have HR := Box.mk (hrow.old bel0)
  have B0 := Box.mk bel0
  have HL := Box.mk hL
  have Hnone := Box.mk hnone
  have Hmax := Box.mk hmax
  have Hle := Box.mk hle
  have hlt := Box.mk (heap_lt F0.out)
  have hgl := Box.mk (heap_lt HG.out)
  have hcut : (n : Int) ≤ (n : Int) + 100 := by omega
  clear hrow hnone hmax hle hg0 hL bel0 F0 hk
  generalize (opC o).toArray = cs at *
  go_enter Tryd.func14, Tryd.ntmps14
  go_upto_region 1 with fail
  generalize w.alloc (.cells cs 32) = w1 at *
  go_upto_region 13 with fail
  have hA := Box.mk (decode_any o.n (some ⟨g, 0, none⟩) n (n + 100) L w1 (row_front HG.out HL.out) (by intro h; cases h) (by omega) hn (by omega))
  have hB0 := Box.mk (fun W (hW : Below w1.heap.size w1 W) => rdec_any o.n a1 n c1 L W (HR.out.old hW) Hnone.out Hle.out hn (by have := Hmax.out; unfold maxLen at this; omega))
  have her : ∃ er : Int, (if decOk o.n L = true then (0 : Int) else 90) = er := ⟨_, rfl⟩
  obtain ⟨er, her⟩ := her
  rw [her] at hA
  simp only [her] at hB0
  clear her
  have c2 := CC2.out
  go_wp2_with (go_at_call 20; refine (calls_box hA.out).mono ?_)
  rintro e w2 ⟨⟨⟨aA, cA, rfl, ownA⟩, hB⟩⟩
  have b2 := Box.mk hB
  have OA := Box.mk ownA
  have c2' := Box.mk ((hB.cell (p := ⟨w.heap.size, 2, none⟩) hlt.out).trans CC2.out)
  clear hB ownA hA c2
  obtain ⟨xa, hxa⟩ : ∃ xa, decY o.n L aA cA = xa := ⟨_, rfl⟩
  rw [hxa] at OA ⊢
  have HXA := Box.mk hxa
  clear hxa
  go_wp2_with ((with_reducible refine arm_store_row 30 (.tmp 15) (.tmp 60) ?_ rfl w2.heap.size (nodeC noNode).toArray (nodeC xa).toArray 30 ?_ ?_ ?_ (hss _ _).out (hsz _).out (hal _).out ?_); rfl; rfl; rfl; exact heap_new rfl)
  intro w3 g3 G3
  have B23 : Below w2.heap.size w2 w3 := (Below.refl_alloc w2 (.cells (nodeC noNode).toArray 30)).grown G3 (by simp) (fun k hk => by cases hk; omega)
  have b3 := Box.mk (b2.out.trans (B23.mono b2.out.size))
  have x3 := Box.mk (show w3.heap[w2.heap.size]? = some (.cells (nodeC xa).toArray 30 (0, 0)) from g3.out)
  have O3 := Box.mk (own_later OA.out B23)
  have c3 := (B23.cell (p := ⟨w.heap.size, 2, none⟩) (block_lt_of_cell c2'.out)).trans c2'.out
  have hB := Box.mk (hB0.out w3 b3.out)
  clear g3 G3 B23 OA c2' b2 hB0
  go_wp2_with (go_at_call 21; refine (calls_box hB.out).mono ?_)
  rintro e w4 ⟨⟨⟨aB, cB, rfl, ownB⟩, hBB⟩⟩
  have b4 := Box.mk (b3.out.trans (hBB.mono b3.out.size))
  have x4 := Box.mk ((hBB.block _ (heap_lt x3.out)).trans x3.out)
  have O4 := Box.mk (own_later O3.out hBB)
  have OB := Box.mk ownB
  clear hBB ownB hB c3 b3 x3 O3
  obtain ⟨xb, hxb⟩ : ∃ xb, decY o.n L aB cB = xb := ⟨_, rfl⟩
  rw [hxb] at OB ⊢
  have hsame := Box.mk (show eqNode xa xb (decL o.n L) (decL o.n L) = true by rw [← HXA.out, ← hxb]; exact dec_same _ _ _ _ _ _)
  clear hxb
  go_wp2_with ((with_reducible refine arm_store_row 30 (.tmp 17) (.tmp 67) ?_ rfl w4.heap.size (nodeC noNode).toArray (nodeC xb).toArray 30 ?_ ?_ ?_ (hss _ _).out (hsz _).out (hal _).out ?_); rfl; rfl; rfl; exact heap_new rfl)
  intro w5 g5 G5
  have B45 : Below w4.heap.size w4 w5 := (Below.refl_alloc w4 (.cells (nodeC noNode).toArray 30)).grown G5 (by simp) (fun k hk => by cases hk; omega)
  have b5 := Box.mk (b4.out.trans (B45.mono b4.out.size))
  have y5 := Box.mk (show w5.heap[w4.heap.size]? = some (.cells (nodeC xb).toArray 30 (0, 0)) from g5.out)
  have x5 := Box.mk ((B45.block _ (heap_lt x4.out)).trans x4.out)
  have RA := own_read (own_later O4.out B45)
  have RB := own_read (own_later OB.out B45)
  have hS := Box.mk (sameNode_any xa xb (decL o.n L) (decL o.n L) w5 RA.1 RB.1 (Nat.le_trans RA.2.2.1 RA.2.2.2) (Nat.le_trans RB.2.2.1 RB.2.2.2))
  rw [hsame.out] at hS
  have iA := hsz xa
  have iB := hsz xb
  clear g5 G5 B45 O4 OB b4 x4 RA RB hsz hss hal
  generalize (nodeC xa).toArray = csA at *
  generalize (nodeC xb).toArray = csB at *
  go_wp2_with (first
    | ((with_reducible refine arm_row 30 (.tmp 15) ?_ ?_ w2.heap.size ?_ 30 csA (0, 0) _ x5.out Tryd.underlying30 rfl iA.out ?_); rfl; rfl; rfl)
    | ((with_reducible refine arm_row 30 (.tmp 17) ?_ ?_ w4.heap.size ?_ 30 csB (0, 0) _ y5.out Tryd.underlying30 rfl iB.out ?_); rfl; rfl; rfl)
    | (go_at_call 22; refine (calls_box hS.out).mono ?_))
  rintro e w8 ⟨⟨rfl, hB8⟩⟩
  have b8 := Box.mk (b5.out.trans (hB8.mono b5.out.size))
  have hRI := Box.mk (roomyIs_any (some ⟨g, 0, none⟩) a1 (n + 100) (n + 100) n c1 (roomyL L) L _ (row_whole ((b8.out.block g hgl.out).trans HG.out) HL.out) (HR.out.old b8.out) (by unfold maxLen; omega) hn)
  rw [eqB_true rfl] at hRI
  clear hS hB8 b5 x5 y5
  go_wp2_with (go_at_call 27; refine (calls_box hRI.out).mono ?_)
  rintro e W9 ⟨⟨rfl, hB9⟩⟩
  have B9 := Box.mk (B0.out.trans ((b8.out.trans (hB9.mono b8.out.size)).mono B0.out.size))
  clear hB9
  go_wp2
  go_ret
  exact ⟨rfl, B9.out⟩
end Go.Proofs.YteiepenanffhcaaDoor
