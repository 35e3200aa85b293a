/- Leaves and branches as bytes: the walks of lay; a law for one operation out of the law for a list. -/
import Derived.Test.YtocfiabbhcgegaaNode
import Derived.Test.YtocfiabbhcgegaaText
namespace Go.Proofs.Ytocfiabbhcgegaa
open Go Go.RowKit
set_option linter.unusedVariables false

section
variable {P : Program}
theorem oper_mono2 {o : Oper} {a : Act} {w : World} {K K' : Act → World → Prop} {Q Q' : Exit → Act → World → Prop} (h : ∀ a w, K a w → K' a w) (hq : ∀ e a w, e ≠ .normal → Q e a w → Q' e a w)
    (hh : o.wp P a w K Q) : o.wp P a w K' Q' := by
  have hl : LetsOut Q → LetsOut Q' := fun ⟨a, w, x⟩ => ⟨a, w, hq _ _ _ (by intro e; cases e) x⟩
  unfold Oper.wp at *
  generalize (execOp a.eval o).run P w = r at *
  cases r with
  | ok n w' =>
    cases n <;> simp only [Oper.upon] at hh ⊢ <;>
      first
        | exact h _ _ hh
        | exact Calls.mono hh (fun e w'' he => by cases e <;> first | exact h _ _ he | exact hq _ _ _ (by intro e; cases e) he | exact hl he)
        | exact Rows.mono hh (fun _ _ he => h _ _ he)
  | halt x w' => cases x <;> simp only [Oper.upon] at hh ⊢ <;> first | exact hh | exact hq _ _ _ (by intro e; cases e) hh | exact hl hh
/-- From the law for a list of operations to one operation of a region that draws. -/
theorem oper_of_list {o : Oper} {a : Act} {w : World} {K : Act → World → Prop} {Q : Exit → Act → World → Prop} (hg : o.guard = none)
    (h : wpList P #[] (fun e a w => e = .normal ∧ K a w) [o] a w) : o.wp P a w K Q := by
  have hw : Region.wanted o (yielded #[] a.tmps) = true := by simp [Region.wanted, hg]
  unfold wpList at h
  rw [if_pos hw] at h
  rcases h with h | ⟨_, a', w', h, _⟩
  · exact oper_mono2 (fun a w h => h.2) (fun e a w h1 h2 => absurd h2.1 h1) h
  · cases h
end
/-- The cells of a leaf. -/
def leafC (k : D32) (v : Value) : List Value := bvs k.1 ++ [v]
theorem length_leafC (k : D32) (v : Value) : (leafC k v).length = 33 := by simp [leafC, k.2]
theorem leafC_32 (k : D32) (v : Value) : (leafC k v).toArray[32]? = some v := by
  rw [← Array.getElem?_toList]
  show (bvs k.1 ++ [v])[32]? = _
  rw [List.getElem?_append_right (by rw [length_bvs, k.2]; omega), length_bvs, k.2]
  rfl
theorem leafC_take (k : D32) (v : Value) : ((leafC k v).toArray.toList.drop 0).take k.1.length = bvs k.1 := by
  show (bvs k.1 ++ [v]).take k.1.length = _
  rw [← length_bvs k.1, List.take_left']
  rfl


set_option maxHeartbeats 800000 in
theorem leaf_stands (k : D32) (ao : Option Addr) (n c : Nat) (w : World) : Calls Try.prog 59 #[.agg (leafC k (.slice ao n c)).toArray] w fun e w' => e = .returned (.bool (decide (n ≤ 128))) ∧ Below w.heap.size w w' := by
  have h := leafC_32 k (.slice ao n c)
  generalize (leafC k (.slice ao n c)).toArray = cs at *
  go_enter Try.func59, Try.ntmps59
  go_wp2
  go_ret
  exact ⟨by simp <;> omega, Below.refl_alloc w _⟩

set_option maxRecDepth 100000 in
set_option maxHeartbeats 800000 in
theorem leaf_lay (k : D32) (ao : Option Addr) (n c : Nat) (l : List UInt8) (w : World) (h : Row w ao n l) (hn : ao = none → n = 0 ∧ c = 0) (hb : n ≤ 140737488351232) :
    Calls Try.prog 58 #[.agg (leafC k (.slice ao n c)).toArray] w fun e w' => ∃ g cap, e = .returned (.slice (some ⟨g, 0, none⟩) (32 + n) cap) ∧ Own w' w.heap.size 5 (.slice (some ⟨g, 0, none⟩) (32 + n) cap) (k.1 ++ l) ∧ Below w.heap.size w w' := by
  have h32 := leafC_32 k (.slice ao n c)
  have htk := leafC_take k (.slice ao n c)
  have hrow0 : Row (w.alloc (.cells (leafC k (.slice ao n c)).toArray 75)) (some ⟨w.heap.size, 0, none⟩) k.1.length k.1 := Row.of_block (heap_alloc_new w _) htk
  rw [k.2] at hrow0
  have hc0 : (w.alloc (.cells (leafC k (.slice ao n c)).toArray 75)).cell? ⟨w.heap.size, 32, none⟩ = some (.slice ao n c) := by
    rw [cell_of_row _ w.heap.size 32 _ 75 (0, 0) (heap_alloc_new w _)]
    exact h32
  have hk2 := Box.mk k.2
  have hb0 : Below w.heap.size w (w.alloc (.cells (leafC k (.slice ao n c)).toArray 75)) := Below.refl_alloc w _
  generalize (leafC k (.slice ao n c)).toArray = cs at *
  have hal : Try.prog.arrayLen 44 = 32 := by kernel_rfl
  have hni : (n : Int) ≤ 140737488351232 := by omega
  have hn0 : (0 : Int) ≤ (n : Int) := by omega
  have hwr : IntKind.i64.wrap ((32 : Int) + (n : Int)) = (32 : Int) + (n : Int) := by rw [IntKind.wrap_i64]; omega
  have HB := Box.mk hb0
  have HC := Box.mk hc0
  have HR := Box.mk hrow0
  have hz1 : w.heap.size < (w.alloc (.cells cs 75)).heap.size := by simp
  have HZ := Box.mk hz1
  clear hb0 hc0 hrow0 hz1 h32 htk
  go_enter Try.func58, Try.ntmps58
  go_wp2_with fail
  generalize hw1 : w.alloc (.cells cs 75) = w1 at *
  have hzz : w.heap.size ≤ w1.heap.size := Nat.le_of_lt HZ.out
  clear hw1
  refine held_begin (fun W => Below w1.heap.size w1 W) (by kernel_rfl) (Below.refl _ w1).drew (fun hH => ?_)
  refine held_take 0 (.pointer (some ⟨w.heap.size, 32, none⟩)) rfl (by kernel_rfl) (by kernel_rfl) (by kernel_rfl) (held_pure (by rfl) (fun W => by go_simp)) (by assumption) ?_
  try simp only [Act.put, List.setIfInBounds_toArray, List.set_cons_zero, List.set_cons_succ]
  refine held_take 1 (.slice ao n c) rfl (by kernel_rfl) (by kernel_rfl) (by kernel_rfl) (Or.inl ⟨by rfl, fun W hS => by have hc' : W.cell? ⟨w.heap.size, 32, none⟩ = some (.slice ao n c) := (hS.cell (p := ⟨w.heap.size, 32, none⟩) HZ.out).trans HC.out; go_simp⟩) (by assumption) ?_
  try simp only [Act.put, List.setIfInBounds_toArray, List.set_cons_zero, List.set_cons_succ]
  refine held_take 2 (.int .i64 (n : Int)) rfl (by kernel_rfl) (by kernel_rfl) (by kernel_rfl) (held_pure (by rfl) (fun W => by go_simp)) (by assumption) ?_
  try simp only [Act.put, List.setIfInBounds_toArray, List.set_cons_zero, List.set_cons_succ]
  refine held_take 3 (.int .i64 ((32 : Int) + (n : Int))) rfl (by kernel_rfl) (by kernel_rfl) (by kernel_rfl) (held_pure (by rfl) (fun W => by go_simp)) (by assumption) ?_
  try simp only [Act.put, List.setIfInBounds_toArray, List.set_cons_zero, List.set_cons_succ]
  refine held_take 5 (.pointer (some ⟨w.heap.size, 0, none⟩)) rfl (by kernel_rfl) (by kernel_rfl) (by kernel_rfl) (held_pure (by rfl) (fun W => by go_simp)) (by assumption) ?_
  try simp only [Act.put, List.setIfInBounds_toArray, List.set_cons_zero, List.set_cons_succ]
  refine held_take 6 (.slice (some ⟨w.heap.size, 0, none⟩) 32 32) rfl (by kernel_rfl) (by kernel_rfl) (by kernel_rfl) (held_pure (by rfl) (fun W => by go_simp)) (by assumption) ?_
  try simp only [Act.put, List.setIfInBounds_toArray, List.set_cons_zero, List.set_cons_succ]
  refine held_take 8 (.pointer (some ⟨w.heap.size, 32, none⟩)) rfl (by kernel_rfl) (by kernel_rfl) (by kernel_rfl) (held_pure (by rfl) (fun W => by go_simp)) (by assumption) ?_
  try simp only [Act.put, List.setIfInBounds_toArray, List.set_cons_zero, List.set_cons_succ]
  refine held_take 9 (.slice ao n c) rfl (by kernel_rfl) (by kernel_rfl) (by kernel_rfl) (Or.inl ⟨by rfl, fun W hS => by have hc' : W.cell? ⟨w.heap.size, 32, none⟩ = some (.slice ao n c) := (hS.cell (p := ⟨w.heap.size, 32, none⟩) HZ.out).trans HC.out; go_simp⟩) (by assumption) ?_
  try simp only [Act.put, List.setIfInBounds_toArray, List.set_cons_zero, List.set_cons_succ]
  generalize hw2 : w1.drew = w2 at *
  have hd : Below w1.heap.size w1 w2 := hH
  have zd : w.heap.size ≤ w2.heap.size := Nat.le_trans hzz hd.size
  clear hw2
  refine held_step 4 (by kernel_rfl) rfl (by rfl) (fun K hK => ?_)
  refine oper_of_list rfl ?_
  refine wpList_make_bytes byteTy _ rfl _ _ rfl w.heap.size _ _ _ (32 + n) rfl rfl (by go_num) (by omega) zd ?_
  intro w3 own3 G3 z3
  refine ⟨rfl, ?_⟩
  refine hK.out _ _ (hH.grown G3 hH.size (fun k hk => by cases hk)) (fun hH4 => ?_)
  clear hK K
  try simp only [Act.put, List.setIfInBounds_toArray, List.set_cons_zero, List.set_cons_succ]
  have b3 : Below w.heap.size w w3 := (HB.out.trans (hH4.mono hzz))
  refine held_step 7 (by kernel_rfl) rfl (by rfl) (fun K hK => ?_)
  refine oper_of_list rfl ?_
  refine wpList_append_room byteTy _ rfl (.tmp 7) (.tmp 9) rfl w.heap.size _ 0 (32 + n) [] rfl rfl own3 (some ⟨w.heap.size, 0, none⟩) 32 32 k.1 rfl (fun h => by cases h) (HR.out.below hH4 (fun b o e => by cases e; exact HZ.out)) (by omega) ?_
  intro w4 own4 G4
  refine ⟨rfl, ?_⟩
  refine hK.out _ _ (hH4.grown G4 hH4.size (fun k hk => by cases hk; exact hd.size)) (fun hH7 => ?_)
  clear hK K
  try simp only [Act.put, List.setIfInBounds_toArray, List.set_cons_zero, List.set_cons_succ]
  have b4 : Below w.heap.size w w4 := (HB.out.trans (hH7.mono hzz))
  refine held_step 10 (by kernel_rfl) rfl (by rfl) (fun K hK => ?_)
  refine oper_of_list rfl ?_
  refine wpList_append_room byteTy _ rfl (.tmp 10) (.tmp 12) rfl w.heap.size _ 32 (32 + n) _ rfl (by simp [hk2.out]) own4 ao n c l rfl hn (h.old b4) (by omega) ?_
  intro w5 own5 G5
  refine ⟨rfl, ?_⟩
  refine hK.out _ _ (hH7.grown G5 hH7.size (fun k hk => by cases hk; exact hd.size)) (fun hH10 => ?_)
  clear hK K
  try simp only [Act.put, List.setIfInBounds_toArray, List.set_cons_zero, List.set_cons_succ]
  refine held_take 11 (.slice (some ⟨w2.heap.size, 0, none⟩) (32 + n) (32 + n)) rfl (by kernel_rfl) (by kernel_rfl) (by kernel_rfl) (held_pure (by rfl) (fun W => by go_simp)) (by assumption) ?_
  try simp only [Act.put, List.setIfInBounds_toArray, List.set_cons_zero, List.set_cons_succ]
  refine held_done (by kernel_rfl) ?_ _
  have b5 : Below w.heap.size w w5 := (HB.out.trans (hH10.mono hzz))
  go_wp2
  go_ret
  exact ⟨_, _, rfl, by simpa using own5, b5⟩
end Go.Proofs.Ytocfiabbhcgegaa
