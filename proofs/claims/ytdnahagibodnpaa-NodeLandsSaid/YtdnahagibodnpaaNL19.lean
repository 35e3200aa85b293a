/- Texts joined: Encode. -/
import Derived.Test.YtdnahagibodnpaaNL18
/- Nodes as pages' loads: the walk of node.Encode. -/
namespace Go.Proofs.Ytdnahagibodnpaa
set_option linter.unusedSectionVars false
set_option linter.unusedSimpArgs false
open Go Go.RowKit
set_option linter.unusedVariables false
theorem own_base {w : World} {a b : Nat} {e : TypeId} {v : Value} {l : List UInt8} (h : Own w b e v l) (hab : a ≤ b) : Own w a e v l := by
  obtain ⟨hl, h⟩ := h
  refine ⟨hl, ?_⟩
  rcases h with h | ⟨g, cap, cur, rfl, h1, h2⟩
  · exact .inl h
  · exact .inr ⟨g, cap, cur, rfl, Nat.le_trans hab h1, h2⟩
set_option maxRecDepth 100000 in
set_option maxHeartbeats 2000000 in
theorem encode_leaf (x : NodeV) (q1 : inI64 x.left) (q2 : inI64 x.right) (q3 : inI64 x.lc) (q4 : inI64 x.rc) (hx : isLeafB x = true) (l : List UInt8) (w : World) (h : Row w x.ao x.n l) (hn : x.ao = none → x.n = 0 ∧ x.c = 0) (hb : x.n ≤ 140737488351232) :
    Calls Try.prog 7 #[.agg (nodeC x).toArray] w fun e w' =>
      (if x.n ≤ 128 then ∃ g cap, e = .returned (.tuple #[.slice (some ⟨g, 0, none⟩) (32 + x.n) cap, .int .i64 0]) ∧ Own w' w.heap.size 5 (.slice (some ⟨g, 0, none⟩) (32 + x.n) cap) (x.key.1 ++ l)
        else e = .returned (.tuple #[.slice none 0 0, .int .i64 90])) ∧ Below w.heap.size w w' := by
  have hf := fun W => formOf_any x q1 q2 q3 q4 W
  have hv : formV x = .iface 89 (.agg (leafC x.key x.val).toArray) := by unfold formV; rw [if_pos hx]
  rw [hv] at hf
  clear hv hx q1 q2 q3 q4
  have hs := fun W => leaf_stands x.key x.ao x.n x.c W
  have hl := fun W (hW : Row W x.ao x.n l) => leaf_lay x.key x.ao x.n x.c l W hW hn hb
  have hval : x.val = .slice x.ao x.n x.c := rfl
  rw [hval] at hf
  have hi35 : Box ((Try.prog.info? 39).map (·.size) = some (nodeC x).toArray.size) := ⟨by
    have h : (Try.prog.info? 39).map (·.size) = some 102 := by kernel_rfl
    rw [h, List.size_toArray, length_nodeC]⟩
  generalize (leafC x.key (.slice x.ao x.n x.c)).toArray = lf at *
  generalize (nodeC x).toArray = cs at *
  clear hval
  have m1 : ∀ (fuel : Nat) (W : World), (method (fuel + 1) 89 (.agg lf) "ledger/node.stands").run Try.prog W = .ok (72, .agg lf) W := fun fuel W => by kernel_rfl
  have m2 : ∀ (fuel : Nat) (W : World), (method (fuel + 1) 89 (.agg lf) "ledger/node.lay").run Try.prog W = .ok (71, .agg lf) W := fun fuel W => by kernel_rfl
  by_cases h128 : x.n ≤ 128
  · simp only [if_pos h128]
    rw [show decide (x.n ≤ 128) = true from decide_eq_true h128] at hs
    go_enter Try.func7, Try.ntmps7
    go_wp2_with (first
      | ((with_reducible refine wpList_load_row rfl 39 (.tmp 1) ?_ w.heap.size ?_ 39 cs (0, 0) _ ?_ Try.underlying39 rfl hi35.out ?_); rfl; rfl; exact heap_new rfl)
      | (go_at_call 22; refine (hf _).mono ?_))
    rintro e w1 ⟨rfl, hB⟩
    have b1 : Below w.heap.size w w1 := (Below.refl_alloc w _).trans (hB.mono (by simp))
    clear hB hf
    go_wp2_with (go_at_call 72; refine (hs _).mono ?_)
    rintro e w2 ⟨rfl, hB⟩
    have b2 : Below w.heap.size w w2 := b1.trans (hB.mono b1.size)
    clear hB hs b1
    go_wp2_with (go_at_call 71; refine (hl _ (h.old b2)).mono ?_)
    rintro e w3 ⟨g, cap, rfl, own, hB⟩
    have b3 : Below w.heap.size w w3 := b2.trans (hB.mono b2.size)
    go_wp2
    go_ret2
    exact ⟨⟨g, cap, rfl, own_base own b2.size⟩, b3⟩
  · simp only [if_neg h128]
    rw [show decide (x.n ≤ 128) = false from decide_eq_false h128] at hs
    go_enter Try.func7, Try.ntmps7
    go_wp2_with (first
      | ((with_reducible refine wpList_load_row rfl 39 (.tmp 1) ?_ w.heap.size ?_ 39 cs (0, 0) _ ?_ Try.underlying39 rfl hi35.out ?_); rfl; rfl; exact heap_new rfl)
      | (go_at_call 22; refine (hf _).mono ?_))
    rintro e w1 ⟨rfl, hB⟩
    have b1 : Below w.heap.size w w1 := (Below.refl_alloc w _).trans (hB.mono (by simp))
    clear hB hf
    go_wp2_with (go_at_call 72; refine (hs _).mono ?_)
    rintro e w2 ⟨rfl, hB⟩
    have b2 : Below w.heap.size w w2 := b1.trans (hB.mono b1.size)
    go_wp2
    go_ret2
    exact ⟨rfl, b2⟩
def brEnc (x : NodeV) : List UInt8 := brT ⟨x.left, x.lc, x.ls⟩ ⟨x.right, x.rc, x.rs⟩ x.left.toNat x.right.toNat x.lc.toNat x.rc.toNat
theorem chStands_page {c : Child} (h : chStands c = true) : 0 ≤ c.page ∧ c.page ≤ 4096 := by
  unfold chStands at h
  split at h
  · omega
  · simp only [Bool.and_eq_true, decide_eq_true_eq] at h
    omega
set_option maxRecDepth 100000 in
set_option maxHeartbeats 2000000 in
theorem encode_branch (x : NodeV) (q1 : inI64 x.left) (q2 : inI64 x.right) (q3 : inI64 x.lc) (q4 : inI64 x.rc) (hx0 : isLeafB x = false) (hx : isBrB x = true) (w : World) :
    Calls Try.prog 7 #[.agg (nodeC x).toArray] w fun e w' =>
      (if brStands ⟨x.left, x.lc, x.ls⟩ ⟨x.right, x.rc, x.rs⟩ = true then ∃ g cap, e = .returned (.tuple #[.slice (some ⟨g, 0, none⟩) 80 cap, .int .i64 0]) ∧ Own w' w.heap.size 5 (.slice (some ⟨g, 0, none⟩) 80 cap) (brEnc x)
        else e = .returned (.tuple #[.slice none 0 0, .int .i64 90])) ∧ Below w.heap.size w w' := by
  have hf := fun W => formOf_any x q1 q2 q3 q4 W
  have hv : formV x = .iface 93 (.agg (brC ⟨x.left, x.lc, x.ls⟩ ⟨x.right, x.rc, x.rs⟩).toArray) := by unfold formV; rw [hx0, if_neg (by decide), if_pos hx]
  rw [hv] at hf
  clear hv hx q1 q2 q3 q4
  have hs := fun W => branch_stands ⟨x.left, x.lc, x.ls⟩ ⟨x.right, x.rc, x.rs⟩ W
  have hi35 : Box ((Try.prog.info? 39).map (·.size) = some (nodeC x).toArray.size) := ⟨by
    have h : (Try.prog.info? 39).map (·.size) = some 102 := by kernel_rfl
    rw [h, List.size_toArray, length_nodeC]⟩
  have hl : brStands ⟨x.left, x.lc, x.ls⟩ ⟨x.right, x.rc, x.rs⟩ = true → ∀ W, Calls Try.prog 74 #[.agg (brC ⟨x.left, x.lc, x.ls⟩ ⟨x.right, x.rc, x.rs⟩).toArray] W fun e w' => ∃ g cap, e = .returned (.slice (some ⟨g, 0, none⟩) 80 cap) ∧ Own w' W.heap.size 5 (.slice (some ⟨g, 0, none⟩) 80 cap) (brEnc x) ∧ Below W.heap.size W w' := fun hb W => by
    unfold brStands at hb
    simp only [Bool.and_eq_true] at hb
    have p1 := chStands_page hb.1.1.1.1
    have p2 := chStands_page hb.1.1.1.2
    have p3 := chStands_count hb.1.1.1.1
    have p4 := chStands_count hb.1.1.1.2
    simp only at p1 p2 p3 p4
    exact branch_lay ⟨x.left, x.lc, x.ls⟩ ⟨x.right, x.rc, x.rs⟩ x.left.toNat x.right.toNat x.lc.toNat x.rc.toNat (by simp only; omega) (by simp only; omega) (by simp only; omega) (by simp only; omega) (by omega) (by omega) (by omega) (by omega) W
  generalize (brC ⟨x.left, x.lc, x.ls⟩ ⟨x.right, x.rc, x.rs⟩).toArray = lf at *
  generalize (nodeC x).toArray = cs at *
  have m1 : ∀ (fuel : Nat) (W : World), (method (fuel + 1) 93 (.agg lf) "ledger/node.stands").run Try.prog W = .ok (75, .agg lf) W := fun fuel W => by kernel_rfl
  have m2 : ∀ (fuel : Nat) (W : World), (method (fuel + 1) 93 (.agg lf) "ledger/node.lay").run Try.prog W = .ok (74, .agg lf) W := fun fuel W => by kernel_rfl
  generalize brStands ⟨x.left, x.lc, x.ls⟩ ⟨x.right, x.rc, x.rs⟩ = st at *
  generalize brEnc x = be at *
  cases st
  · clear hl hx0
    simp only [Bool.false_eq_true, if_false]
    go_enter Try.func7, Try.ntmps7
    go_wp2_with (first
      | ((with_reducible refine wpList_load_row rfl 39 (.tmp 1) ?_ w.heap.size ?_ 39 cs (0, 0) _ ?_ Try.underlying39 rfl hi35.out ?_); rfl; rfl; exact heap_new rfl)
      | (go_at_call 22; refine (hf _).mono ?_))
    rintro e w1 ⟨rfl, hB⟩
    have b1 : Below w.heap.size w w1 := (Below.refl_alloc w _).trans (hB.mono (by simp))
    clear hB hf
    go_wp2_with (go_at_call 75; refine (hs _).mono ?_)
    rintro e w2 ⟨rfl, hB⟩
    have b2 : Below w.heap.size w w2 := b1.trans (hB.mono b1.size)
    go_wp2
    go_ret2
    exact ⟨rfl, b2⟩
  · have hl' := hl rfl
    clear hl hx0
    simp only [if_true]
    go_enter Try.func7, Try.ntmps7
    go_wp2_with (first
      | ((with_reducible refine wpList_load_row rfl 39 (.tmp 1) ?_ w.heap.size ?_ 39 cs (0, 0) _ ?_ Try.underlying39 rfl hi35.out ?_); rfl; rfl; exact heap_new rfl)
      | (go_at_call 22; refine (hf _).mono ?_))
    rintro e w1 ⟨rfl, hB⟩
    have b1 : Below w.heap.size w w1 := (Below.refl_alloc w _).trans (hB.mono (by simp))
    clear hB hf
    go_wp2_with (go_at_call 75; refine (hs _).mono ?_)
    rintro e w2 ⟨rfl, hB⟩
    have b2 : Below w.heap.size w w2 := b1.trans (hB.mono b1.size)
    clear hB hs b1
    go_wp2_with (go_at_call 74; refine (hl' _).mono ?_)
    rintro e w3 ⟨g, cap, rfl, own, hB⟩
    have b3 : Below w.heap.size w w3 := b2.trans (hB.mono b2.size)
    go_wp2
    go_ret2
    exact ⟨⟨g, cap, rfl, own_base own b2.size⟩, b3⟩
set_option maxRecDepth 100000 in
set_option maxHeartbeats 2000000 in
theorem encode_none (x : NodeV) (q1 : inI64 x.left) (q2 : inI64 x.right) (q3 : inI64 x.lc) (q4 : inI64 x.rc) (hx0 : isLeafB x = false) (hx : isBrB x = false) (w : World) :
    Calls Try.prog 7 #[.agg (nodeC x).toArray] w fun e w' => e = .returned (.tuple #[.slice none 0 0, .int .i64 90]) ∧ Below w.heap.size w w' := by
  have hf := fun W => formOf_any x q1 q2 q3 q4 W
  have hv : formV x = .nilIface := by unfold formV; rw [hx0, if_neg (by decide), hx, if_neg (by decide)]
  rw [hv] at hf
  have hi35 : Box ((Try.prog.info? 39).map (·.size) = some (nodeC x).toArray.size) := ⟨by
    have h : (Try.prog.info? 39).map (·.size) = some 102 := by kernel_rfl
    rw [h, List.size_toArray, length_nodeC]⟩
  clear hv hx hx0 q1 q2 q3 q4
  generalize (nodeC x).toArray = cs at *
  go_enter Try.func7, Try.ntmps7
  go_wp2_with (first
    | ((with_reducible refine wpList_load_row rfl 39 (.tmp 1) ?_ w.heap.size ?_ 39 cs (0, 0) _ ?_ Try.underlying39 rfl hi35.out ?_); rfl; rfl; exact heap_new rfl)
    | (go_at_call 22; refine (hf _).mono ?_))
  rintro e w1 ⟨rfl, hB⟩
  have b1 : Below w.heap.size w w1 := (Below.refl_alloc w _).trans (hB.mono (by simp))
  go_wp2
  go_ret2
  exact ⟨rfl, b1⟩
end Go.Proofs.Ytdnahagibodnpaa
