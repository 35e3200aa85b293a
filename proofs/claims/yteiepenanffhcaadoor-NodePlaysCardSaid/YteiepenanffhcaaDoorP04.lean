/- Texts joined: Encode, Read, ReadB. -/
import Derived.Test.YteiepenanffhcaaDoorP03
/- Nodes as pages' loads: the walk of node.Encode. -/
namespace Go.Proofs.YteiepenanffhcaaDoor
open Go Go.RowKit
set_option linter.unusedVariables false

theorem own_base {w : World} {a b : Nat} {e : TypeId} {v : Value} {l : List UInt8} (h : Own w b e v l) (hab : a ≤ b) : Own w a e v l := by
  obtain ⟨hl, h⟩ := h
  refine ⟨hl, ?_⟩
  rcases h with h | ⟨g, cap, cur, rfl, h1, h2⟩
  · exact .inl h
  · exact .inr ⟨g, cap, cur, rfl, Nat.le_trans hab h1, h2⟩

set_option maxRecDepth 100000 in
set_option maxHeartbeats 2000000 in
theorem encode_leaf (x : NodeV) (q1 : inI64 x.left) (q2 : inI64 x.right) (q3 : inI64 x.lc) (q4 : inI64 x.rc) (hx : isLeafB x = true) (l : List UInt8) (w : World) (h : Row w x.ao x.n l) (hn : x.ao = none → x.n = 0 ∧ x.c = 0) (hb : x.n ≤ 140737488351232) :
    Calls Tryd.prog 17 #[.agg (nodeC x).toArray] w fun e w' =>
      (if x.n ≤ 128 then ∃ g cap, e = .returned (.tuple #[.slice (some ⟨g, 0, none⟩) (32 + x.n) cap, .int .i64 0]) ∧ Own w' w.heap.size 5 (.slice (some ⟨g, 0, none⟩) (32 + x.n) cap) (x.key.1 ++ l)
        else e = .returned (.tuple #[.slice none 0 0, .int .i64 90])) ∧ Below w.heap.size w w' := by
  have hf := fun W => formOf_any x q1 q2 q3 q4 W
  have hv : formV x = .iface 73 (.agg (leafC x.key x.val).toArray) := by unfold formV; rw [if_pos hx]
  rw [hv] at hf
  clear hv hx q1 q2 q3 q4
  have hs := fun W => leaf_stands x.key x.ao x.n x.c W
  have hl := fun W (hW : Row W x.ao x.n l) => leaf_lay x.key x.ao x.n x.c l W hW hn hb
  have hval : x.val = .slice x.ao x.n x.c := rfl
  rw [hval] at hf
  have hi35 : Box ((Tryd.prog.info? 30).map (·.size) = some (nodeC x).toArray.size) := ⟨by
    have h : (Tryd.prog.info? 30).map (·.size) = some 102 := by kernel_rfl
    rw [h, List.size_toArray, length_nodeC]⟩
  generalize (leafC x.key (.slice x.ao x.n x.c)).toArray = lf at *
  generalize (nodeC x).toArray = cs at *
  clear hval
  have m1 : ∀ (fuel : Nat) (W : World), (method (fuel + 1) 73 (.agg lf) "ledger/node.stands").run Tryd.prog W = .ok (82, .agg lf) W := fun fuel W => by kernel_rfl
  have m2 : ∀ (fuel : Nat) (W : World), (method (fuel + 1) 73 (.agg lf) "ledger/node.lay").run Tryd.prog W = .ok (81, .agg lf) W := fun fuel W => by kernel_rfl
  by_cases h128 : x.n ≤ 128
  · simp only [if_pos h128]
    rw [show decide (x.n ≤ 128) = true from decide_eq_true h128] at hs
    go_enter Tryd.func17, Tryd.ntmps17
    go_wp2_with (first
      | ((with_reducible refine wpList_load_row rfl 30 (.tmp 1) ?_ w.heap.size ?_ 30 cs (0, 0) _ ?_ Tryd.underlying30 rfl hi35.out ?_); rfl; rfl; exact heap_new rfl)
      | (go_at_call 36; refine (hf _).mono ?_))
    rintro e w1 ⟨rfl, hB⟩
    have b1 : Below w.heap.size w w1 := (Below.refl_alloc w _).trans (hB.mono (by simp))
    clear hB hf
    go_wp2_with (go_at_call 82; refine (hs _).mono ?_)
    rintro e w2 ⟨rfl, hB⟩
    have b2 : Below w.heap.size w w2 := b1.trans (hB.mono b1.size)
    clear hB hs b1
    go_wp2_with (go_at_call 81; refine (hl _ (h.old b2)).mono ?_)
    rintro e w3 ⟨g, cap, rfl, own, hB⟩
    have b3 : Below w.heap.size w w3 := b2.trans (hB.mono b2.size)
    go_wp2
    go_ret2
    exact ⟨⟨g, cap, rfl, own_base own b2.size⟩, b3⟩
  · simp only [if_neg h128]
    rw [show decide (x.n ≤ 128) = false from decide_eq_false h128] at hs
    go_enter Tryd.func17, Tryd.ntmps17
    go_wp2_with (first
      | ((with_reducible refine wpList_load_row rfl 30 (.tmp 1) ?_ w.heap.size ?_ 30 cs (0, 0) _ ?_ Tryd.underlying30 rfl hi35.out ?_); rfl; rfl; exact heap_new rfl)
      | (go_at_call 36; refine (hf _).mono ?_))
    rintro e w1 ⟨rfl, hB⟩
    have b1 : Below w.heap.size w w1 := (Below.refl_alloc w _).trans (hB.mono (by simp))
    clear hB hf
    go_wp2_with (go_at_call 82; refine (hs _).mono ?_)
    rintro e w2 ⟨rfl, hB⟩
    have b2 : Below w.heap.size w w2 := b1.trans (hB.mono b1.size)
    go_wp2
    go_ret2
    exact ⟨rfl, b2⟩

/-- What a branch's form is worth as a node. -/
def brEnc (x : NodeV) : List UInt8 := brT ⟨x.left, x.lc, x.ls⟩ ⟨x.right, x.rc, x.rs⟩ x.left.toNat x.right.toNat x.lc.toNat x.rc.toNat
theorem chStands_page {c : Child} (h : chStands c = true) : 0 ≤ c.page ∧ c.page ≤ 4096 := by
  unfold chStands at h
  split at h
  · omega
  · simp only [Bool.and_eq_true, decide_eq_true_eq] at h
    omega

set_option maxRecDepth 100000 in
set_option maxHeartbeats 2000000 in
theorem encode_branch (x : NodeV) (q1 : inI64 x.left) (q2 : inI64 x.right) (q3 : inI64 x.lc) (q4 : inI64 x.rc) (hx0 : isLeafB x = false) (hx : isBrB x = true) (w : World) :
    Calls Tryd.prog 17 #[.agg (nodeC x).toArray] w fun e w' =>
      (if brStands ⟨x.left, x.lc, x.ls⟩ ⟨x.right, x.rc, x.rs⟩ = true then ∃ g cap, e = .returned (.tuple #[.slice (some ⟨g, 0, none⟩) 80 cap, .int .i64 0]) ∧ Own w' w.heap.size 5 (.slice (some ⟨g, 0, none⟩) 80 cap) (brEnc x)
        else e = .returned (.tuple #[.slice none 0 0, .int .i64 90])) ∧ Below w.heap.size w w' := by
  have hf := fun W => formOf_any x q1 q2 q3 q4 W
  have hv : formV x = .iface 77 (.agg (brC ⟨x.left, x.lc, x.ls⟩ ⟨x.right, x.rc, x.rs⟩).toArray) := by unfold formV; rw [hx0, if_neg (by decide), if_pos hx]
  rw [hv] at hf
  clear hv hx q1 q2 q3 q4
  have hs := fun W => branch_stands ⟨x.left, x.lc, x.ls⟩ ⟨x.right, x.rc, x.rs⟩ W
  have hi35 : Box ((Tryd.prog.info? 30).map (·.size) = some (nodeC x).toArray.size) := ⟨by
    have h : (Tryd.prog.info? 30).map (·.size) = some 102 := by kernel_rfl
    rw [h, List.size_toArray, length_nodeC]⟩
  have hl : brStands ⟨x.left, x.lc, x.ls⟩ ⟨x.right, x.rc, x.rs⟩ = true → ∀ W, Calls Tryd.prog 84 #[.agg (brC ⟨x.left, x.lc, x.ls⟩ ⟨x.right, x.rc, x.rs⟩).toArray] W fun e w' => ∃ g cap, e = .returned (.slice (some ⟨g, 0, none⟩) 80 cap) ∧ Own w' W.heap.size 5 (.slice (some ⟨g, 0, none⟩) 80 cap) (brEnc x) ∧ Below W.heap.size W w' := fun hb W => by
    unfold brStands at hb
    simp only [Bool.and_eq_true] at hb
    have p1 := chStands_page hb.1.1.1.1
    have p2 := chStands_page hb.1.1.1.2
    have p3 := chStands_count hb.1.1.1.1
    have p4 := chStands_count hb.1.1.1.2
    simp only at p1 p2 p3 p4
    exact branch_lay ⟨x.left, x.lc, x.ls⟩ ⟨x.right, x.rc, x.rs⟩ x.left.toNat x.right.toNat x.lc.toNat x.rc.toNat (by simp only; omega) (by simp only; omega) (by simp only; omega) (by simp only; omega) (by omega) (by omega) (by omega) (by omega) W
  generalize (brC ⟨x.left, x.lc, x.ls⟩ ⟨x.right, x.rc, x.rs⟩).toArray = lf at *
  generalize (nodeC x).toArray = cs at *
  have m1 : ∀ (fuel : Nat) (W : World), (method (fuel + 1) 77 (.agg lf) "ledger/node.stands").run Tryd.prog W = .ok (85, .agg lf) W := fun fuel W => by kernel_rfl
  have m2 : ∀ (fuel : Nat) (W : World), (method (fuel + 1) 77 (.agg lf) "ledger/node.lay").run Tryd.prog W = .ok (84, .agg lf) W := fun fuel W => by kernel_rfl
  generalize brStands ⟨x.left, x.lc, x.ls⟩ ⟨x.right, x.rc, x.rs⟩ = st at *
  generalize brEnc x = be at *
  cases st
  · clear hl hx0
    simp only [Bool.false_eq_true, if_false]
    go_enter Tryd.func17, Tryd.ntmps17
    go_wp2_with (first
      | ((with_reducible refine wpList_load_row rfl 30 (.tmp 1) ?_ w.heap.size ?_ 30 cs (0, 0) _ ?_ Tryd.underlying30 rfl hi35.out ?_); rfl; rfl; exact heap_new rfl)
      | (go_at_call 36; refine (hf _).mono ?_))
    rintro e w1 ⟨rfl, hB⟩
    have b1 : Below w.heap.size w w1 := (Below.refl_alloc w _).trans (hB.mono (by simp))
    clear hB hf
    go_wp2_with (go_at_call 85; refine (hs _).mono ?_)
    rintro e w2 ⟨rfl, hB⟩
    have b2 : Below w.heap.size w w2 := b1.trans (hB.mono b1.size)
    go_wp2
    go_ret2
    exact ⟨rfl, b2⟩
  · have hl' := hl rfl
    clear hl hx0
    simp only [if_true]
    go_enter Tryd.func17, Tryd.ntmps17
    go_wp2_with (first
      | ((with_reducible refine wpList_load_row rfl 30 (.tmp 1) ?_ w.heap.size ?_ 30 cs (0, 0) _ ?_ Tryd.underlying30 rfl hi35.out ?_); rfl; rfl; exact heap_new rfl)
      | (go_at_call 36; refine (hf _).mono ?_))
    rintro e w1 ⟨rfl, hB⟩
    have b1 : Below w.heap.size w w1 := (Below.refl_alloc w _).trans (hB.mono (by simp))
    clear hB hf
    go_wp2_with (go_at_call 85; refine (hs _).mono ?_)
    rintro e w2 ⟨rfl, hB⟩
    have b2 : Below w.heap.size w w2 := b1.trans (hB.mono b1.size)
    clear hB hs b1
    go_wp2_with (go_at_call 84; refine (hl' _).mono ?_)
    rintro e w3 ⟨g, cap, rfl, own, hB⟩
    have b3 : Below w.heap.size w w3 := b2.trans (hB.mono b2.size)
    go_wp2
    go_ret2
    exact ⟨⟨g, cap, rfl, own_base own b2.size⟩, b3⟩

set_option maxRecDepth 100000 in
set_option maxHeartbeats 2000000 in
theorem encode_none (x : NodeV) (q1 : inI64 x.left) (q2 : inI64 x.right) (q3 : inI64 x.lc) (q4 : inI64 x.rc) (hx0 : isLeafB x = false) (hx : isBrB x = false) (w : World) :
    Calls Tryd.prog 17 #[.agg (nodeC x).toArray] w fun e w' => e = .returned (.tuple #[.slice none 0 0, .int .i64 90]) ∧ Below w.heap.size w w' := by
  have hf := fun W => formOf_any x q1 q2 q3 q4 W
  have hv : formV x = .nilIface := by unfold formV; rw [hx0, if_neg (by decide), hx, if_neg (by decide)]
  rw [hv] at hf
  have hi35 : Box ((Tryd.prog.info? 30).map (·.size) = some (nodeC x).toArray.size) := ⟨by
    have h : (Tryd.prog.info? 30).map (·.size) = some 102 := by kernel_rfl
    rw [h, List.size_toArray, length_nodeC]⟩
  clear hv hx hx0 q1 q2 q3 q4
  generalize (nodeC x).toArray = cs at *
  go_enter Tryd.func17, Tryd.ntmps17
  go_wp2_with (first
    | ((with_reducible refine wpList_load_row rfl 30 (.tmp 1) ?_ w.heap.size ?_ 30 cs (0, 0) _ ?_ Tryd.underlying30 rfl hi35.out ?_); rfl; rfl; exact heap_new rfl)
    | (go_at_call 36; refine (hf _).mono ?_))
  rintro e w1 ⟨rfl, hB⟩
  have b1 : Below w.heap.size w w1 := (Below.refl_alloc w _).trans (hB.mono (by simp))
  go_wp2
  go_ret2
  exact ⟨rfl, b1⟩
end Go.Proofs.YteiepenanffhcaaDoor

/- Pages' loads as forms: the walks of node.four, node.read. -/
namespace Go.Proofs.YteiepenanffhcaaDoor
open Go Go.RowKit
set_option linter.unusedVariables false

/-- Four bytes as a number. -/
def dec4 (l : List UInt8) : Nat := (l.getD 0 0).toNat + 256 * (l.getD 1 0).toNat + 65536 * (l.getD 2 0).toNat + 16777216 * (l.getD 3 0).toNat

theorem or_nat (a b : Nat) (ha : a < 2 ^ 62) (hb : b < 2 ^ 62) : bits .or .i64 (a : Int) (b : Int) = ((a ||| b : Nat) : Int) := by
  have hw : bits .or .i64 (a : Int) (b : Int) = IntKind.i64.wrap (((BitVec.ofInt 64 (a : Int) ||| BitVec.ofInt 64 (b : Int)).toNat : Nat) : Int) := rfl
  have h1 : (BitVec.ofInt 64 (a : Int)).toNat = a := by simp; omega
  have h2 : (BitVec.ofInt 64 (b : Int)).toNat = b := by simp; omega
  have h3 : a ||| b < 2 ^ 62 := Nat.or_lt_two_pow ha hb
  rw [hw, BitVec.toNat_or, h1, h2, IntKind.wrap_i64]
  omega
theorem or_add (a b k : Nat) (ha : a < 2 ^ k) (hb : b * 2 ^ k < 2 ^ 62) (hk : k ≤ 62) : bits .or .i64 (a : Int) ((b : Int) * ((2 ^ k : Nat) : Int)) = ((a + b * 2 ^ k : Nat) : Int) := by
  have h1 : a < 2 ^ 62 := Nat.lt_of_lt_of_le ha (Nat.pow_le_pow_right (by omega) hk)
  rw [← Int.natCast_mul, or_nat a (b * 2 ^ k) h1 hb, Nat.or_comm, Nat.mul_comm b, ← Nat.two_pow_add_eq_or_of_lt ha, Nat.add_comm]

set_option maxRecDepth 100000 in
set_option maxHeartbeats 2000000 in
theorem four_any (b o n c : Nat) (l : List UInt8) (w : World) (h : Row w (some ⟨b, o, none⟩) n l) (hn : 4 ≤ n) :
    Calls Tryd.prog 53 #[.slice (some ⟨b, o, none⟩) n c] w fun e w' => e = .returned (.int .i64 (dec4 l : Int)) ∧ ∃ q, w' = w.drewN q := by
  have hl := h.1
  have c0 := h.cell 0 (by omega)
  have c1 := h.cell 1 (by omega)
  have c2 := h.cell 2 (by omega)
  have c3 := h.cell 3 (by omega)
  have hd : dec4 l = (l[0]).toNat + 256 * (l[1]).toNat + 65536 * (l[2]).toNat + 16777216 * (l[3]).toNat := by
    unfold dec4
    simp [List.getD, show 0 < l.length by omega, show 1 < l.length by omega, show 2 < l.length by omega, show 3 < l.length by omega]
  rw [hd]
  generalize l[0] = x0 at *
  generalize l[1] = x1 at *
  generalize l[2] = x2 at *
  generalize l[3] = x3 at *
  have y0 := x0.toNat_lt
  have y1 := x1.toNat_lt
  have y2 := x2.toNat_lt
  have y3 := x3.toNat_lt
  have hn0 : (0 : Int) < n := by omega
  have hn1 : (1 : Int) < n := by omega
  have hn2 : (2 : Int) < n := by omega
  have hn3 : (3 : Int) < n := by omega
  clear h hl hd
  rw [Nat.add_zero] at c0
  go_enter Tryd.func53, Tryd.ntmps53
  go_wp2
  go_quiet (fail)
  go_wp2
  go_ret
  refine ⟨?_, _, rfl⟩
  have e1 := or_add x0.toNat x1.toNat 8 (by omega) (by omega) (by omega)
  have e2 := or_add (x0.toNat + x1.toNat * 2 ^ 8) x2.toNat 16 (by omega) (by omega) (by omega)
  have e3 := or_add (x0.toNat + x1.toNat * 2 ^ 8 + x2.toNat * 2 ^ 16) x3.toNat 24 (by omega) (by omega) (by omega)
  show Ending.returned (.int .i64 (bits .or .i64 (bits .or .i64 (bits .or .i64 (x0.toNat : Int) ((x1.toNat : Int) * 256)) ((x2.toNat : Int) * 65536)) ((x3.toNat : Int) * 16777216))) = _
  rw [show (256 : Int) = ((2 ^ 8 : Nat) : Int) from rfl, show (65536 : Int) = ((2 ^ 16 : Nat) : Int) from rfl, show (16777216 : Int) = ((2 ^ 24 : Nat) : Int) from rfl, e1, e2, e3]
  congr 2
  omega

theorem built_leaf0 (ao : Option Addr) (n c : Nat) : Tryd.prog.built 73 [(1, .slice ao n c)] = some (leafC zero32 (.slice ao n c)).toArray := by kernel_rfl
theorem leafC_all (k : D32) (ao : Option Addr) (n c : Nat) : (leafC k (.slice ao n c)).toArray.all (·.oneCell') = true := by
  rw [Array.all_eq_true_iff_forall_mem]
  intro v hv
  have hv' : v ∈ leafC k (.slice ao n c) := by simpa using hv
  unfold leafC at hv'
  rcases List.mem_append.1 hv' with h | h
  · exact bvs_oneCell _ v h
  · rw [List.mem_singleton.1 h]; rfl
/-- The first bytes of a load as a key. -/
def keyOf (l : List UInt8) : D32 := ⟨(l ++ List.replicate 32 0).take 32, by simp⟩
theorem keyOf_eq {l : List UInt8} (h : 32 ≤ l.length) : (keyOf l).1 = l.take 32 := by
  show (l ++ List.replicate 32 0).take 32 = _
  rw [List.take_append_of_le_length h]
theorem splice_leaf (l : List UInt8) (v : Value) (h : 32 ≤ l.length) : splice (leafC zero32 v) 0 (bvs (l.take 32)) = leafC (keyOf l) v := by
  have h1 : (bvs (l.take 32)).length = 32 := by rw [length_bvs, List.length_take]; omega
  unfold splice leafC
  rw [h1, List.take_zero, List.nil_append, keyOf_eq h, Nat.zero_add, List.drop_append, List.drop_of_length_le (by simp [zero32]), List.nil_append]
  simp [zero32]

set_option maxRecDepth 100000 in
set_option maxHeartbeats 2000000 in
theorem read_leaf (b o o' m c' : Nat) (l : List UInt8) (w : World) (h : Row w (some ⟨b, o, none⟩) (m + 32) l) (hmc : m ≤ c') (hmax : c' + 32 ≤ 9223372036854775807) (hc : (c' = 0 ∧ o' = o) ∨ (0 < c' ∧ o' = o + 32)) :
    Calls Tryd.prog 39 #[.int .i64 1, .slice (some ⟨b, o, none⟩) (m + 32) (c' + 32)] w fun e w' => e = .returned (.iface 73 (.agg (leafC (keyOf l) (.slice (some ⟨b, o', none⟩) m c')).toArray)) ∧ Below w.heap.size w w' := by
  have hl := h.1
  have hz : ∀ W : World, (zeroValue 73).run Tryd.prog W = .ok (.agg (leafC zero32 (.slice none 0 0)).toArray) W := fun W => by kernel_rfl
  have hbl := built_leaf0 (some ⟨b, o', none⟩) m c'
  have hsp := splice_leaf l (.slice (some ⟨b, o', none⟩) m c') (by omega)
  have hall := leafC_all zero32 (some ⟨b, o', none⟩) m c'
  have hi : ∀ k : D32, ∀ v, Box ((Tryd.prog.info? 73).map (·.size) = some (leafC k v).toArray.size) := fun k v => ⟨by
    have h : (Tryd.prog.info? 73).map (·.size) = some 33 := by kernel_rfl
    rw [h, List.size_toArray, length_leafC]⟩
  have hi1 := hi zero32 (.slice (some ⟨b, o', none⟩) m c')
  have hi2 := hi (keyOf l) (.slice (some ⟨b, o', none⟩) m c')
  have hs12 : Box ((leafC zero32 (.slice none 0 0)).toArray.size = (leafC zero32 (.slice (some ⟨b, o', none⟩) m c')).toArray.size) := ⟨by rw [List.size_toArray, List.size_toArray, length_leafC, length_leafC]⟩
  have hlen33 : Box ((leafC zero32 (.slice (some ⟨b, o', none⟩) m c')).length = 33) := ⟨length_leafC _ _⟩
  have hrow := h.take 32 (by omega)
  have ht32 : (l.take 32).length = 32 := by rw [List.length_take]; omega
  have hal : Tryd.prog.arrayLen 26 = 32 := by kernel_rfl
  have hu : Tryd.prog.underlying 28 = some (.slice 5) := Tryd.underlying28
  have hsz : Box ((Tryd.prog.info? 5).map (·.size) = some 1) := ⟨by kernel_rfl⟩
  have HS := Box.mk hsp
  have HBL := Box.mk hbl
  have HALL := Box.mk hall
  have HROW := Box.mk hrow
  have HT := Box.mk ht32
  have hblt := h.lt (by omega)
  clear hsp hbl hall hi h hrow ht32 hl
  generalize (leafC zero32 (.slice none 0 0)).toArray = zc at *
  generalize hlz : leafC zero32 (.slice (some ⟨b, o', none⟩) m c') = lz at *
  generalize hlk : leafC (keyOf l) (.slice (some ⟨b, o', none⟩) m c') = lk at *
  clear hlz hlk
  have hmin : (l.take 32).length = Nat.min (m + 32) 32 := by rw [HT.out]; simp only [Nat.min_def]; split <;> omega
  have HMIN := Box.mk hmin
  have hfit : 0 + (l.take 32).length ≤ lz.length := by rw [HT.out, hlen33.out]; omega
  have HFIT := Box.mk hfit
  clear hmin hfit
  rcases hc with ⟨hc, ho⟩ | ⟨hc, ho⟩
  · have hm0 : m = 0 := by omega
    subst ho hc hm0
    go_enter Tryd.func39, Tryd.ntmps39
    go_wp2_with (first
      | (refine wpList_builtg ?_ 73 [(1, .tmp 16)] ?_ [(1, .slice (some ⟨b, _, none⟩) 0 _)] ?_ lz.toArray HBL.out ?_; rfl; rfl; rfl)
      | (refine wpList_store_row rfl 73 (.tmp 5) (.tmp 17) ?_ w.heap.size zc lz.toArray 73 ?_ ?_ ?_ hs12.out hi1.out HALL.out ?_; rfl; rfl; rfl; exact heap_new rfl))
    intro w1 g1 G1
    have b1 : Below w.heap.size w w1 := (Below.refl_alloc w _).grown G1 (by simp) (fun k hk => by cases hk; omega)
    have r1 := Box.mk (HROW.out.old b1)
    have hrow1 : Row w1 (some ⟨b, o', none⟩) (l.take 32).length (l.take 32) := by rw [HT.out]; exact r1.out
    have HR1 := Box.mk hrow1
    clear hrow1 G1 r1
    go_wp2_with (refine wpList_copy_bytes rfl (.tmp 19) (.tmp 20) 28 28 ?_ hu hsz.out (some ⟨w.heap.size, 0, none⟩) (some ⟨b, o', none⟩) 32 32 32 32 ?_ ?_ w.heap.size 0 lz 73 g1.out (l.take 32) ?_ (fun _ => rfl) HR1.out ?_ ?_; rfl; rfl; rfl; exact HMIN.out; exact HFIT.out)
    intro w2 g2 G2
    have b2 : Below w.heap.size w w2 := b1.grown G2 b1.size (fun k hk => by cases hk; omega)
    have g3 : Box (w2.heap[w.heap.size]? = some (.cells lk.toArray 73 (0, 0))) := ⟨by rw [← HS.out]; exact g2.out⟩
    clear g2 G2
    go_wp2_with (refine wpList_load_row rfl 73 (.tmp 5) ?_ w.heap.size ?_ 73 lk.toArray (0, 0) _ g3.out Tryd.underlying73 rfl hi2.out ?_; rfl; rfl)
    go_ret
    exact ⟨rfl, b2⟩
  · subst ho
    go_enter Tryd.func39, Tryd.ntmps39
    go_wp2_with (first
      | (refine wpList_builtg ?_ 73 [(1, .tmp 16)] ?_ [(1, .slice (some ⟨b, _, none⟩) m _)] ?_ lz.toArray HBL.out ?_; rfl; rfl; rfl)
      | (refine wpList_store_row rfl 73 (.tmp 5) (.tmp 17) ?_ w.heap.size zc lz.toArray 73 ?_ ?_ ?_ hs12.out hi1.out HALL.out ?_; rfl; rfl; rfl; exact heap_new rfl))
    intro w1 g1 G1
    have b1 : Below w.heap.size w w1 := (Below.refl_alloc w _).grown G1 (by simp) (fun k hk => by cases hk; omega)
    have r1 := Box.mk (HROW.out.old b1)
    have hrow1 : Row w1 (some ⟨b, o, none⟩) (l.take 32).length (l.take 32) := by rw [HT.out]; exact r1.out
    have HR1 := Box.mk hrow1
    clear hrow1 G1 r1
    go_wp2_with (refine wpList_copy_bytes rfl (.tmp 19) (.tmp 20) 28 28 ?_ hu hsz.out (some ⟨w.heap.size, 0, none⟩) (some ⟨b, o, none⟩) 32 32 (m + 32) (c' + 32) ?_ ?_ w.heap.size 0 lz 73 g1.out (l.take 32) ?_ (fun _ => rfl) HR1.out ?_ ?_; rfl; rfl; rfl; exact HMIN.out; exact HFIT.out)
    intro w2 g2 G2
    have b2 : Below w.heap.size w w2 := b1.grown G2 b1.size (fun k hk => by cases hk; omega)
    have g3 : Box (w2.heap[w.heap.size]? = some (.cells lk.toArray 73 (0, 0))) := ⟨by rw [← HS.out]; exact g2.out⟩
    clear g2 G2
    go_wp2_with (refine wpList_load_row rfl 73 (.tmp 5) ?_ w.heap.size ?_ 73 lk.toArray (0, 0) _ g3.out Tryd.underlying73 rfl hi2.out ?_; rfl; rfl)
    go_ret
    exact ⟨rfl, b2⟩
end Go.Proofs.YteiepenanffhcaaDoor

/- A branch's load as a form: the walk of node.read at kind 2. -/
namespace Go.Proofs.YteiepenanffhcaaDoor
open Go Go.RowKit
set_option linter.unusedVariables false

/-- The children that a load tells. -/
def chL (l : List UInt8) : Child := ⟨(dec4 l : Int), (dec4 (l.drop 8) : Int), keyOf (l.drop 16)⟩
def chR (l : List UInt8) : Child := ⟨(dec4 (l.drop 4) : Int), (dec4 (l.drop 12) : Int), keyOf (l.drop 48)⟩
theorem below_drewN' {B : Nat} {w w' : World} (h : Below B w w') (q : Nat) : Below B w (w'.drewN q) := ⟨h.os, h.tape, h.output, h.size, h.block⟩
theorem build_any {P : Program} {o : Oper} {a : Act} {W : World} {t : TypeId} (hg : o.guard = none) (parts : List (Nat × Operand)) (ps : List (Nat × Value)) (ho : o.op = .build t parts.toArray) (hp : (parts.map fun p => (p.1, a.eval p.2)) = ps) {cells : Array Value} (hc : P.built t ps = some cells) :
    (execOp a.eval o).run P W = .ok (.value (.agg cells)) W := by
  have hm : (parts.toArray.map fun (i, x) => (i, a.eval x)).toList = ps := by rw [← hp]; simp
  unfold execOp
  simp only [ho, Sem.run_bind, run_build W t _ cells (by rw [hm]; exact hc), Result.andThen_ok]
  rfl
theorem built_child0 (p c : Int) : Tryd.prog.built 75 [(0, .int .i64 p), (1, .int .i64 c)] = some (chC ⟨p, c, zero32⟩).toArray := by kernel_rfl
theorem brC_all (l r : Child) : (brC l r).toArray.all (·.oneCell') = true := by
  rw [Array.all_eq_true_iff_forall_mem]
  intro v hv
  have h1 := chC_all l
  have h2 := chC_all r
  rw [Array.all_eq_true_iff_forall_mem] at h1 h2
  have hv' : v ∈ chC l ++ chC r := by simpa [brC] using hv
  rcases List.mem_append.1 hv' with h | h
  · exact h1 v (by simpa using h)
  · exact h2 v (by simpa using h)

theorem splice_l (p c : Int) (d : D32) (r : Child) : splice (brC ⟨p, c, zero32⟩ r) 2 (bvs d.1) = brC ⟨p, c, d⟩ r := by
  have h1 : (bvs d.1).length = 32 := by rw [length_bvs, d.2]
  have h2 : (bvs zero32.1).length = 32 := by rw [length_bvs, zero32.2]
  unfold splice
  rw [h1]
  show [Value.int .i64 p, .int .i64 c] ++ (bvs d.1 ++ (bvs zero32.1 ++ chC r).drop 32) = _
  rw [List.drop_append, List.drop_of_length_le (by omega), h2]
  rfl
theorem splice_r (l : Child) (p c : Int) (d : D32) : splice (brC l ⟨p, c, zero32⟩) 36 (bvs d.1) = brC l ⟨p, c, d⟩ := by
  have h1 : (bvs d.1).length = 32 := by rw [length_bvs, d.2]
  have h2 : (bvs zero32.1).length = 32 := by rw [length_bvs, zero32.2]
  have h3 := length_chC l
  unfold splice
  rw [h1]
  show (chC l ++ ([Value.int .i64 p, .int .i64 c] ++ bvs zero32.1)).take 36 ++ (bvs d.1 ++ (chC l ++ ([Value.int .i64 p, .int .i64 c] ++ bvs zero32.1)).drop 68) = chC l ++ ([Value.int .i64 p, .int .i64 c] ++ bvs d.1)
  rw [List.take_append, List.drop_append, h3, List.take_of_length_le (by omega), List.drop_of_length_le (by omega), List.drop_of_length_le (by simp [h2])]
  simp

set_option maxRecDepth 100000 in
set_option maxHeartbeats 4000000 in
theorem read_branch (b o c' : Nat) (l : List UInt8) (w : World) (h : Row w (some ⟨b, o, none⟩) 80 l) (hmax : c' + 80 ≤ 9223372036854775807) :
    Calls Tryd.prog 39 #[.int .i64 2, .slice (some ⟨b, o, none⟩) 80 (c' + 80)] w fun e w' => e = .returned (.iface 77 (.agg (brC (chL l) (chR l)).toArray)) ∧ Below w.heap.size w w' := by
  have hz : ∀ W : World, (zeroValue 77).run Tryd.prog W = .ok (.agg (brC noChild noChild).toArray) W := fun W => by kernel_rfl
  have hblt := h.lt (by omega)
  have r4 := h.drop 4 (by omega)
  have r8 := h.drop 8 (by omega)
  have r12 := h.drop 12 (by omega)
  have r16 := h.drop 16 (by omega)
  have r48 := h.drop 48 (by omega)
  have q0 : ∀ W, Below w.heap.size w W → _ := fun W hW => four_any b o 80 (c' + 80) l W (h.old hW) (by omega)
  have q4 : ∀ W, Below w.heap.size w W → _ := fun W hW => four_any b (o + 4) 76 (c' + 76) _ W (r4.old hW) (by omega)
  have q8 : ∀ W, Below w.heap.size w W → _ := fun W hW => four_any b (o + 8) 72 (c' + 72) _ W (r8.old hW) (by omega)
  have q12 : ∀ W, Below w.heap.size w W → _ := fun W hW => four_any b (o + 12) 68 (c' + 68) _ W (r12.old hW) (by omega)
  have hb1 := built_child0 (dec4 l : Int) (dec4 (l.drop 8) : Int)
  have hb2 := built_child0 (dec4 (l.drop 4) : Int) (dec4 (l.drop 12) : Int)
  have hb3 := built_branch ⟨(dec4 l : Int), (dec4 (l.drop 8) : Int), zero32⟩ ⟨(dec4 (l.drop 4) : Int), (dec4 (l.drop 12) : Int), zero32⟩
  have hi81 : ∀ a d : Child, Box ((Tryd.prog.info? 77).map (·.size) = some (brC a d).toArray.size) := fun a d => ⟨by
    have h : (Tryd.prog.info? 77).map (·.size) = some 68 := by kernel_rfl
    rw [h, List.size_toArray, length_brC]⟩
  have hs81 : ∀ a d a' d' : Child, Box ((brC a d).toArray.size = (brC a' d').toArray.size) := fun a d a' d' => ⟨by rw [List.size_toArray, List.size_toArray, length_brC, length_brC]⟩
  have hall : ∀ a d : Child, Box ((brC a d).toArray.all (·.oneCell') = true) := fun a d => ⟨brC_all a d⟩
  obtain ⟨p0, hp0⟩ : ∃ x, dec4 l = x := ⟨_, rfl⟩
  obtain ⟨p4, hp4⟩ : ∃ x, dec4 (l.drop 4) = x := ⟨_, rfl⟩
  obtain ⟨p8, hp8⟩ : ∃ x, dec4 (l.drop 8) = x := ⟨_, rfl⟩
  obtain ⟨p12, hp12⟩ : ∃ x, dec4 (l.drop 12) = x := ⟨_, rfl⟩
  have HL : Box (chL l = ⟨(p0 : Int), (p8 : Int), keyOf (l.drop 16)⟩) := ⟨by unfold chL; rw [hp0, hp8]⟩
  have HR : Box (chR l = ⟨(p4 : Int), (p12 : Int), keyOf (l.drop 48)⟩) := ⟨by unfold chR; rw [hp4, hp12]⟩
  rw [hp0] at q0 hb1 hb3
  rw [hp4] at q4 hb2 hb3
  rw [hp8] at q8 hb1 hb3
  rw [hp12] at q12 hb2 hb3
  rw [HL.out, HR.out]
  clear hp0 hp4 hp8 hp12
  have R16 := Box.mk r16
  have R48 := Box.mk r48
  have HB1 := Box.mk hb1
  have HB2 := Box.mk hb2
  have HB3 := Box.mk hb3
  have Q0 := Box.mk q0
  have Q4 := Box.mk q4
  have Q8 := Box.mk q8
  have Q12 := Box.mk q12
  have HZ := Box.mk hz
  have ll := Box.mk h.1
  clear r4 r8 r12 r16 r48 hb1 hb2 hb3 q0 q4 q8 q12 h
  generalize hk1 : (chC ⟨(p0 : Int), (p8 : Int), zero32⟩).toArray = k1 at *
  generalize hk2 : (chC ⟨(p4 : Int), (p12 : Int), zero32⟩).toArray = k2 at *
  go_enter Tryd.func39, Tryd.ntmps39
  go_upto_region 6 with fail
  go_cut [6] (fun s W => s = .pointer (some ⟨w.heap.size, 0, none⟩) ∧ Hid (W.heap[w.heap.size]? = some (.cells (brC ⟨(p0 : Int), (p8 : Int), zero32⟩ ⟨(p4 : Int), (p12 : Int), zero32⟩).toArray 77 (0, 0))) ∧ Below w.heap.size w W)
  case first =>
    go_wp2_with fail
    refine held_begin (fun W => Below w.heap.size w W) (by kernel_rfl) (Below.refl _ w).drew (fun hH0 => ?_)
    refine held_take 0 (.slice (some ⟨b, o, none⟩) 80 (c' + 80)) rfl (by kernel_rfl) (by kernel_rfl) (by kernel_rfl) (held_move (by rfl) (.tmp 1) rfl rfl) (by assumption) ?_
    try simp only [Act.put, List.setIfInBounds_toArray, List.set_cons_zero, List.set_cons_succ]
    refine held_take 2 (.slice (some ⟨b, o, none⟩) 80 (c' + 80)) rfl (by kernel_rfl) (by kernel_rfl) (by kernel_rfl) (held_move (by rfl) (.tmp 1) rfl rfl) (by assumption) ?_
    try simp only [Act.put, List.setIfInBounds_toArray, List.set_cons_zero, List.set_cons_succ]
    refine held_take 3 (.slice (some ⟨b, o + 8, none⟩) 72 (c' + 72)) rfl (by kernel_rfl) (by kernel_rfl) (by kernel_rfl) (held_pure (by rfl) (fun W => by go_simp)) (by assumption) ?_
    try simp only [Act.put, List.setIfInBounds_toArray, List.set_cons_zero, List.set_cons_succ]
    refine held_take 6 (.slice (some ⟨b, o, none⟩) 80 (c' + 80)) rfl (by kernel_rfl) (by kernel_rfl) (by kernel_rfl) (held_move (by rfl) (.tmp 1) rfl rfl) (by assumption) ?_
    try simp only [Act.put, List.setIfInBounds_toArray, List.set_cons_zero, List.set_cons_succ]
    refine held_take 7 (.slice (some ⟨b, o + 4, none⟩) 76 (c' + 76)) rfl (by kernel_rfl) (by kernel_rfl) (by kernel_rfl) (held_pure (by rfl) (fun W => by go_simp)) (by assumption) ?_
    try simp only [Act.put, List.setIfInBounds_toArray, List.set_cons_zero, List.set_cons_succ]
    refine held_take 9 (.slice (some ⟨b, o, none⟩) 80 (c' + 80)) rfl (by kernel_rfl) (by kernel_rfl) (by kernel_rfl) (held_move (by rfl) (.tmp 1) rfl rfl) (by assumption) ?_
    try simp only [Act.put, List.setIfInBounds_toArray, List.set_cons_zero, List.set_cons_succ]
    refine held_take 10 (.slice (some ⟨b, o + 12, none⟩) 68 (c' + 68)) rfl (by kernel_rfl) (by kernel_rfl) (by kernel_rfl) (held_pure (by rfl) (fun W => by go_simp)) (by assumption) ?_
    try simp only [Act.put, List.setIfInBounds_toArray, List.set_cons_zero, List.set_cons_succ]
    have hz0 : w.drew.heap.size = w.heap.size := rfl
    generalize w.drew = W0 at *
    refine held_step2 1 14 (by kernel_rfl) rfl rfl (by rfl) (by rfl) (fun K hK => ?_) (fun K hK => ?_)
    · skip
      go_simp
      refine (Q0.out _ hH0).mono ?_
      rintro e V1 ⟨rfl, qq, hV⟩
      dsimp only
      refine hK.out _ _ (by rw [hV]; exact below_drewN' hH0 qq) (fun hH1 => ?_)
      have hz1 : V1.heap.size = w.heap.size := by rw [hV]; exact hz0
      clear hK K hV
      try simp only [Act.put, List.setIfInBounds_toArray, List.set_cons_zero, List.set_cons_succ]
      refine held_step2 4 14 (by kernel_rfl) rfl rfl (by rfl) (by rfl) (fun K hK => ?_) (fun K hK => ?_)
      · skip
        go_simp
        refine (Q8.out _ hH1).mono ?_
        rintro e V2 ⟨rfl, qq, hV⟩
        dsimp only
        refine hK.out _ _ (by rw [hV]; exact below_drewN' hH1 qq) (fun hH2 => ?_)
        have hz2 : V2.heap.size = w.heap.size := by rw [hV]; exact hz1
        clear hK K hV
        try simp only [Act.put, List.setIfInBounds_toArray, List.set_cons_zero, List.set_cons_succ]
        refine held_take 5 (.agg k1) rfl (by kernel_rfl) (by kernel_rfl) (by kernel_rfl) (Or.inl ⟨by rfl, fun W hS => by have hx := HB1.out; exact build_any rfl _ _ rfl rfl hx⟩) (by assumption) ?_
        try simp only [Act.put, List.setIfInBounds_toArray, List.set_cons_zero, List.set_cons_succ]
        refine held_step2 8 14 (by kernel_rfl) rfl rfl (by rfl) (by rfl) (fun K hK => ?_) (fun K hK => ?_)
        · skip
          go_simp
          refine (Q4.out _ hH2).mono ?_
          rintro e V3 ⟨rfl, qq, hV⟩
          dsimp only
          refine hK.out _ _ (by rw [hV]; exact below_drewN' hH2 qq) (fun hH3 => ?_)
          have hz3 : V3.heap.size = w.heap.size := by rw [hV]; exact hz2
          clear hK K hV
          try simp only [Act.put, List.setIfInBounds_toArray, List.set_cons_zero, List.set_cons_succ]
          refine held_step2 11 14 (by kernel_rfl) rfl rfl (by rfl) (by rfl) (fun K hK => ?_) (fun K hK => ?_)
          · skip
            go_simp
            refine (Q12.out _ hH3).mono ?_
            rintro e V4 ⟨rfl, qq, hV⟩
            dsimp only
            refine hK.out _ _ (by rw [hV]; exact below_drewN' hH3 qq) (fun hH4 => ?_)
            have hz4 : V4.heap.size = w.heap.size := by rw [hV]; exact hz3
            clear hK K hV
            try simp only [Act.put, List.setIfInBounds_toArray, List.set_cons_zero, List.set_cons_succ]
            refine held_take 12 (.agg k2) rfl (by kernel_rfl) (by kernel_rfl) (by kernel_rfl) (Or.inl ⟨by rfl, fun W hS => by have hx := HB2.out; exact build_any rfl _ _ rfl rfl hx⟩) (by assumption) ?_
            try simp only [Act.put, List.setIfInBounds_toArray, List.set_cons_zero, List.set_cons_succ]
            refine held_take 13 (.agg (brC ⟨(p0 : Int), (p8 : Int), zero32⟩ ⟨(p4 : Int), (p12 : Int), zero32⟩).toArray) rfl (by kernel_rfl) (by kernel_rfl) (by kernel_rfl) (Or.inl ⟨by rfl, fun W hS => by have hx := HB3.out; exact build_any rfl _ _ rfl rfl hx⟩) (by assumption) ?_
            try simp only [Act.put, List.setIfInBounds_toArray, List.set_cons_zero, List.set_cons_succ]
            refine held_step 14 (by kernel_rfl) rfl (by rfl) (fun K hK => ?_)
            go_simp
            refine hK.out _ _ (hH4.alloc hH4.size _) (fun hH5 => ?_)
            have HA5 : Box ((V4.alloc (.cells (brC noChild noChild).toArray 77)).heap[w.heap.size]? = some (.cells (brC noChild noChild).toArray 77 (0, 0))) := ⟨heap_new hz4.symm⟩
            generalize V4.alloc (.cells (brC noChild noChild).toArray 77) = V5 at *
            clear hK K
            try simp only [Act.put, List.setIfInBounds_toArray, List.set_cons_zero, List.set_cons_succ]
            refine held_step 15 (by kernel_rfl) rfl (by rfl) (fun K hK => ?_)
            refine oper_of_list rfl ?_
            refine wpList_store_row rfl 77 (.tmp 6) (.tmp 45) rfl w.heap.size (brC noChild noChild).toArray (brC ⟨(p0 : Int), (p8 : Int), zero32⟩ ⟨(p4 : Int), (p12 : Int), zero32⟩).toArray 77 rfl rfl HA5.out (hs81 _ _ _ _).out (hi81 _ _).out (hall _ _).out ?_
            intro wz gz Gz
            refine ⟨rfl, ?_⟩
            refine hK.out _ _ (hH5.grown Gz hH5.size (fun k hk => by cases hk; exact Nat.le_refl _)) (fun hHz => ?_)
            clear hK K
            try simp only [Act.put]
            refine held_done (by kernel_rfl) ?_ _
            go_wp2_with fail
            go_meet
            exact ⟨rfl, gz, hHz⟩
          · skip
            go_simp
            refine hK.out _ _ (hH3.alloc hH3.size _) (fun hH6 => ?_)
            have HA6 : Box ((V3.alloc (.cells (brC noChild noChild).toArray 77)).heap[w.heap.size]? = some (.cells (brC noChild noChild).toArray 77 (0, 0))) := ⟨heap_new hz3.symm⟩
            generalize V3.alloc (.cells (brC noChild noChild).toArray 77) = V6 at *
            clear hK K
            try simp only [Act.put, List.setIfInBounds_toArray, List.set_cons_zero, List.set_cons_succ]
            refine held_step 11 (by kernel_rfl) rfl (by rfl) (fun K hK => ?_)
            go_simp
            refine (Q12.out _ hH6).mono ?_
            rintro e V7 ⟨rfl, qq, hV⟩
            dsimp only
            refine hK.out _ _ (by rw [hV]; exact below_drewN' hH6 qq) (fun hH7 => ?_)
            have HA7 : Box (V7.heap[w.heap.size]? = some (.cells (brC noChild noChild).toArray 77 (0, 0))) := ⟨by rw [hV]; exact HA6.out⟩
            clear hK K hV
            try simp only [Act.put, List.setIfInBounds_toArray, List.set_cons_zero, List.set_cons_succ]
            refine held_take 12 (.agg k2) rfl (by kernel_rfl) (by kernel_rfl) (by kernel_rfl) (Or.inl ⟨by rfl, fun W hS => by have hx := HB2.out; exact build_any rfl _ _ rfl rfl hx⟩) (by assumption) ?_
            try simp only [Act.put, List.setIfInBounds_toArray, List.set_cons_zero, List.set_cons_succ]
            refine held_take 13 (.agg (brC ⟨(p0 : Int), (p8 : Int), zero32⟩ ⟨(p4 : Int), (p12 : Int), zero32⟩).toArray) rfl (by kernel_rfl) (by kernel_rfl) (by kernel_rfl) (Or.inl ⟨by rfl, fun W hS => by have hx := HB3.out; exact build_any rfl _ _ rfl rfl hx⟩) (by assumption) ?_
            try simp only [Act.put, List.setIfInBounds_toArray, List.set_cons_zero, List.set_cons_succ]
            refine held_step 15 (by kernel_rfl) rfl (by rfl) (fun K hK => ?_)
            refine oper_of_list rfl ?_
            refine wpList_store_row rfl 77 (.tmp 6) (.tmp 45) rfl w.heap.size (brC noChild noChild).toArray (brC ⟨(p0 : Int), (p8 : Int), zero32⟩ ⟨(p4 : Int), (p12 : Int), zero32⟩).toArray 77 rfl rfl HA7.out (hs81 _ _ _ _).out (hi81 _ _).out (hall _ _).out ?_
            intro wz gz Gz
            refine ⟨rfl, ?_⟩
            refine hK.out _ _ (hH7.grown Gz hH7.size (fun k hk => by cases hk; exact Nat.le_refl _)) (fun hHz => ?_)
            clear hK K
            try simp only [Act.put]
            refine held_done (by kernel_rfl) ?_ _
            go_wp2_with fail
            go_meet
            exact ⟨rfl, gz, hHz⟩
        · skip
          go_simp
          refine hK.out _ _ (hH2.alloc hH2.size _) (fun hH8 => ?_)
          have HA8 : Box ((V2.alloc (.cells (brC noChild noChild).toArray 77)).heap[w.heap.size]? = some (.cells (brC noChild noChild).toArray 77 (0, 0))) := ⟨heap_new hz2.symm⟩
          generalize V2.alloc (.cells (brC noChild noChild).toArray 77) = V8 at *
          clear hK K
          try simp only [Act.put, List.setIfInBounds_toArray, List.set_cons_zero, List.set_cons_succ]
          refine held_step 8 (by kernel_rfl) rfl (by rfl) (fun K hK => ?_)
          go_simp
          refine (Q4.out _ hH8).mono ?_
          rintro e V9 ⟨rfl, qq, hV⟩
          dsimp only
          refine hK.out _ _ (by rw [hV]; exact below_drewN' hH8 qq) (fun hH9 => ?_)
          have HA9 : Box (V9.heap[w.heap.size]? = some (.cells (brC noChild noChild).toArray 77 (0, 0))) := ⟨by rw [hV]; exact HA8.out⟩
          clear hK K hV
          try simp only [Act.put, List.setIfInBounds_toArray, List.set_cons_zero, List.set_cons_succ]
          refine held_step 11 (by kernel_rfl) rfl (by rfl) (fun K hK => ?_)
          go_simp
          refine (Q12.out _ hH9).mono ?_
          rintro e V10 ⟨rfl, qq, hV⟩
          dsimp only
          refine hK.out _ _ (by rw [hV]; exact below_drewN' hH9 qq) (fun hH10 => ?_)
          have HA10 : Box (V10.heap[w.heap.size]? = some (.cells (brC noChild noChild).toArray 77 (0, 0))) := ⟨by rw [hV]; exact HA9.out⟩
          clear hK K hV
          try simp only [Act.put, List.setIfInBounds_toArray, List.set_cons_zero, List.set_cons_succ]
          refine held_take 12 (.agg k2) rfl (by kernel_rfl) (by kernel_rfl) (by kernel_rfl) (Or.inl ⟨by rfl, fun W hS => by have hx := HB2.out; exact build_any rfl _ _ rfl rfl hx⟩) (by assumption) ?_
          try simp only [Act.put, List.setIfInBounds_toArray, List.set_cons_zero, List.set_cons_succ]
          refine held_take 13 (.agg (brC ⟨(p0 : Int), (p8 : Int), zero32⟩ ⟨(p4 : Int), (p12 : Int), zero32⟩).toArray) rfl (by kernel_rfl) (by kernel_rfl) (by kernel_rfl) (Or.inl ⟨by rfl, fun W hS => by have hx := HB3.out; exact build_any rfl _ _ rfl rfl hx⟩) (by assumption) ?_
          try simp only [Act.put, List.setIfInBounds_toArray, List.set_cons_zero, List.set_cons_succ]
          refine held_step 15 (by kernel_rfl) rfl (by rfl) (fun K hK => ?_)
          refine oper_of_list rfl ?_
          refine wpList_store_row rfl 77 (.tmp 6) (.tmp 45) rfl w.heap.size (brC noChild noChild).toArray (brC ⟨(p0 : Int), (p8 : Int), zero32⟩ ⟨(p4 : Int), (p12 : Int), zero32⟩).toArray 77 rfl rfl HA10.out (hs81 _ _ _ _).out (hi81 _ _).out (hall _ _).out ?_
          intro wz gz Gz
          refine ⟨rfl, ?_⟩
          refine hK.out _ _ (hH10.grown Gz hH10.size (fun k hk => by cases hk; exact Nat.le_refl _)) (fun hHz => ?_)
          clear hK K
          try simp only [Act.put]
          refine held_done (by kernel_rfl) ?_ _
          go_wp2_with fail
          go_meet
          exact ⟨rfl, gz, hHz⟩
      · skip
        go_simp
        refine hK.out _ _ (hH1.alloc hH1.size _) (fun hH11 => ?_)
        have HA11 : Box ((V1.alloc (.cells (brC noChild noChild).toArray 77)).heap[w.heap.size]? = some (.cells (brC noChild noChild).toArray 77 (0, 0))) := ⟨heap_new hz1.symm⟩
        generalize V1.alloc (.cells (brC noChild noChild).toArray 77) = V11 at *
        clear hK K
        try simp only [Act.put, List.setIfInBounds_toArray, List.set_cons_zero, List.set_cons_succ]
        refine held_step 4 (by kernel_rfl) rfl (by rfl) (fun K hK => ?_)
        go_simp
        refine (Q8.out _ hH11).mono ?_
        rintro e V12 ⟨rfl, qq, hV⟩
        dsimp only
        refine hK.out _ _ (by rw [hV]; exact below_drewN' hH11 qq) (fun hH12 => ?_)
        have HA12 : Box (V12.heap[w.heap.size]? = some (.cells (brC noChild noChild).toArray 77 (0, 0))) := ⟨by rw [hV]; exact HA11.out⟩
        clear hK K hV
        try simp only [Act.put, List.setIfInBounds_toArray, List.set_cons_zero, List.set_cons_succ]
        refine held_take 5 (.agg k1) rfl (by kernel_rfl) (by kernel_rfl) (by kernel_rfl) (Or.inl ⟨by rfl, fun W hS => by have hx := HB1.out; exact build_any rfl _ _ rfl rfl hx⟩) (by assumption) ?_
        try simp only [Act.put, List.setIfInBounds_toArray, List.set_cons_zero, List.set_cons_succ]
        refine held_step 8 (by kernel_rfl) rfl (by rfl) (fun K hK => ?_)
        go_simp
        refine (Q4.out _ hH12).mono ?_
        rintro e V13 ⟨rfl, qq, hV⟩
        dsimp only
        refine hK.out _ _ (by rw [hV]; exact below_drewN' hH12 qq) (fun hH13 => ?_)
        have HA13 : Box (V13.heap[w.heap.size]? = some (.cells (brC noChild noChild).toArray 77 (0, 0))) := ⟨by rw [hV]; exact HA12.out⟩
        clear hK K hV
        try simp only [Act.put, List.setIfInBounds_toArray, List.set_cons_zero, List.set_cons_succ]
        refine held_step 11 (by kernel_rfl) rfl (by rfl) (fun K hK => ?_)
        go_simp
        refine (Q12.out _ hH13).mono ?_
        rintro e V14 ⟨rfl, qq, hV⟩
        dsimp only
        refine hK.out _ _ (by rw [hV]; exact below_drewN' hH13 qq) (fun hH14 => ?_)
        have HA14 : Box (V14.heap[w.heap.size]? = some (.cells (brC noChild noChild).toArray 77 (0, 0))) := ⟨by rw [hV]; exact HA13.out⟩
        clear hK K hV
        try simp only [Act.put, List.setIfInBounds_toArray, List.set_cons_zero, List.set_cons_succ]
        refine held_take 12 (.agg k2) rfl (by kernel_rfl) (by kernel_rfl) (by kernel_rfl) (Or.inl ⟨by rfl, fun W hS => by have hx := HB2.out; exact build_any rfl _ _ rfl rfl hx⟩) (by assumption) ?_
        try simp only [Act.put, List.setIfInBounds_toArray, List.set_cons_zero, List.set_cons_succ]
        refine held_take 13 (.agg (brC ⟨(p0 : Int), (p8 : Int), zero32⟩ ⟨(p4 : Int), (p12 : Int), zero32⟩).toArray) rfl (by kernel_rfl) (by kernel_rfl) (by kernel_rfl) (Or.inl ⟨by rfl, fun W hS => by have hx := HB3.out; exact build_any rfl _ _ rfl rfl hx⟩) (by assumption) ?_
        try simp only [Act.put, List.setIfInBounds_toArray, List.set_cons_zero, List.set_cons_succ]
        refine held_step 15 (by kernel_rfl) rfl (by rfl) (fun K hK => ?_)
        refine oper_of_list rfl ?_
        refine wpList_store_row rfl 77 (.tmp 6) (.tmp 45) rfl w.heap.size (brC noChild noChild).toArray (brC ⟨(p0 : Int), (p8 : Int), zero32⟩ ⟨(p4 : Int), (p12 : Int), zero32⟩).toArray 77 rfl rfl HA14.out (hs81 _ _ _ _).out (hi81 _ _).out (hall _ _).out ?_
        intro wz gz Gz
        refine ⟨rfl, ?_⟩
        refine hK.out _ _ (hH14.grown Gz hH14.size (fun k hk => by cases hk; exact Nat.le_refl _)) (fun hHz => ?_)
        clear hK K
        try simp only [Act.put]
        refine held_done (by kernel_rfl) ?_ _
        go_wp2_with fail
        go_meet
        exact ⟨rfl, gz, hHz⟩
    · skip
      go_simp
      refine hK.out _ _ (hH0.alloc hH0.size _) (fun hH15 => ?_)
      have HA15 : Box ((W0.alloc (.cells (brC noChild noChild).toArray 77)).heap[w.heap.size]? = some (.cells (brC noChild noChild).toArray 77 (0, 0))) := ⟨heap_new hz0.symm⟩
      generalize W0.alloc (.cells (brC noChild noChild).toArray 77) = V15 at *
      clear hK K
      try simp only [Act.put, List.setIfInBounds_toArray, List.set_cons_zero, List.set_cons_succ]
      refine held_step 1 (by kernel_rfl) rfl (by rfl) (fun K hK => ?_)
      go_simp
      refine (Q0.out _ hH15).mono ?_
      rintro e V16 ⟨rfl, qq, hV⟩
      dsimp only
      refine hK.out _ _ (by rw [hV]; exact below_drewN' hH15 qq) (fun hH16 => ?_)
      have HA16 : Box (V16.heap[w.heap.size]? = some (.cells (brC noChild noChild).toArray 77 (0, 0))) := ⟨by rw [hV]; exact HA15.out⟩
      clear hK K hV
      try simp only [Act.put, List.setIfInBounds_toArray, List.set_cons_zero, List.set_cons_succ]
      refine held_step 4 (by kernel_rfl) rfl (by rfl) (fun K hK => ?_)
      go_simp
      refine (Q8.out _ hH16).mono ?_
      rintro e V17 ⟨rfl, qq, hV⟩
      dsimp only
      refine hK.out _ _ (by rw [hV]; exact below_drewN' hH16 qq) (fun hH17 => ?_)
      have HA17 : Box (V17.heap[w.heap.size]? = some (.cells (brC noChild noChild).toArray 77 (0, 0))) := ⟨by rw [hV]; exact HA16.out⟩
      clear hK K hV
      try simp only [Act.put, List.setIfInBounds_toArray, List.set_cons_zero, List.set_cons_succ]
      refine held_take 5 (.agg k1) rfl (by kernel_rfl) (by kernel_rfl) (by kernel_rfl) (Or.inl ⟨by rfl, fun W hS => by have hx := HB1.out; exact build_any rfl _ _ rfl rfl hx⟩) (by assumption) ?_
      try simp only [Act.put, List.setIfInBounds_toArray, List.set_cons_zero, List.set_cons_succ]
      refine held_step 8 (by kernel_rfl) rfl (by rfl) (fun K hK => ?_)
      go_simp
      refine (Q4.out _ hH17).mono ?_
      rintro e V18 ⟨rfl, qq, hV⟩
      dsimp only
      refine hK.out _ _ (by rw [hV]; exact below_drewN' hH17 qq) (fun hH18 => ?_)
      have HA18 : Box (V18.heap[w.heap.size]? = some (.cells (brC noChild noChild).toArray 77 (0, 0))) := ⟨by rw [hV]; exact HA17.out⟩
      clear hK K hV
      try simp only [Act.put, List.setIfInBounds_toArray, List.set_cons_zero, List.set_cons_succ]
      refine held_step 11 (by kernel_rfl) rfl (by rfl) (fun K hK => ?_)
      go_simp
      refine (Q12.out _ hH18).mono ?_
      rintro e V19 ⟨rfl, qq, hV⟩
      dsimp only
      refine hK.out _ _ (by rw [hV]; exact below_drewN' hH18 qq) (fun hH19 => ?_)
      have HA19 : Box (V19.heap[w.heap.size]? = some (.cells (brC noChild noChild).toArray 77 (0, 0))) := ⟨by rw [hV]; exact HA18.out⟩
      clear hK K hV
      try simp only [Act.put, List.setIfInBounds_toArray, List.set_cons_zero, List.set_cons_succ]
      refine held_take 12 (.agg k2) rfl (by kernel_rfl) (by kernel_rfl) (by kernel_rfl) (Or.inl ⟨by rfl, fun W hS => by have hx := HB2.out; exact build_any rfl _ _ rfl rfl hx⟩) (by assumption) ?_
      try simp only [Act.put, List.setIfInBounds_toArray, List.set_cons_zero, List.set_cons_succ]
      refine held_take 13 (.agg (brC ⟨(p0 : Int), (p8 : Int), zero32⟩ ⟨(p4 : Int), (p12 : Int), zero32⟩).toArray) rfl (by kernel_rfl) (by kernel_rfl) (by kernel_rfl) (Or.inl ⟨by rfl, fun W hS => by have hx := HB3.out; exact build_any rfl _ _ rfl rfl hx⟩) (by assumption) ?_
      try simp only [Act.put, List.setIfInBounds_toArray, List.set_cons_zero, List.set_cons_succ]
      refine held_step 15 (by kernel_rfl) rfl (by rfl) (fun K hK => ?_)
      refine oper_of_list rfl ?_
      refine wpList_store_row rfl 77 (.tmp 6) (.tmp 45) rfl w.heap.size (brC noChild noChild).toArray (brC ⟨(p0 : Int), (p8 : Int), zero32⟩ ⟨(p4 : Int), (p12 : Int), zero32⟩).toArray 77 rfl rfl HA19.out (hs81 _ _ _ _).out (hi81 _ _).out (hall _ _).out ?_
      intro wz gz Gz
      refine ⟨rfl, ?_⟩
      refine hK.out _ _ (hH19.grown Gz hH19.size (fun k hk => by cases hk; exact Nat.le_refl _)) (fun hHz => ?_)
      clear hK K
      try simp only [Act.put]
      refine held_done (by kernel_rfl) ?_ _
      go_wp2_with fail
      go_meet
      exact ⟨rfl, gz, hHz⟩
  obtain ⟨rfl, g1, b1⟩ := hcut
  have hal : Tryd.prog.arrayLen 27 = 32 := by kernel_rfl
  have hu : Tryd.prog.underlying 28 = some (.slice 5) := Tryd.underlying28
  have hsz : Box ((Tryd.prog.info? 5).map (·.size) = some 1) := ⟨by kernel_rfl⟩
  have hl80 := ll.out
  have ht16 : ((l.drop 16).take 32).length = 32 := by rw [List.length_take, List.length_drop]; omega
  have ht48 : ((l.drop 48).take 32).length = 32 := by rw [List.length_take, List.length_drop]; omega
  have hk16 : (keyOf (l.drop 16)).1 = (l.drop 16).take 32 := keyOf_eq (by rw [List.length_drop]; omega)
  have hk48 : (keyOf (l.drop 48)).1 = (l.drop 48).take 32 := keyOf_eq (by rw [List.length_drop]; omega)
  have S16 : Box (splice (brC ⟨(p0 : Int), (p8 : Int), zero32⟩ ⟨(p4 : Int), (p12 : Int), zero32⟩) 2 (bvs ((l.drop 16).take 32)) = brC ⟨(p0 : Int), (p8 : Int), keyOf (l.drop 16)⟩ ⟨(p4 : Int), (p12 : Int), zero32⟩) := ⟨by rw [← hk16]; exact splice_l _ _ _ _⟩
  have S48 : Box (splice (brC ⟨(p0 : Int), (p8 : Int), keyOf (l.drop 16)⟩ ⟨(p4 : Int), (p12 : Int), zero32⟩) 36 (bvs ((l.drop 48).take 32)) = brC ⟨(p0 : Int), (p8 : Int), keyOf (l.drop 16)⟩ ⟨(p4 : Int), (p12 : Int), keyOf (l.drop 48)⟩) := ⟨by rw [← hk48]; exact splice_r _ _ _ _⟩
  have T16 := Box.mk ht16
  have T48 := Box.mk ht48
  have L16 : Box ((brC ⟨(p0 : Int), (p8 : Int), zero32⟩ ⟨(p4 : Int), (p12 : Int), zero32⟩).length = 68) := ⟨length_brC _ _⟩
  have L48 : Box ((brC ⟨(p0 : Int), (p8 : Int), keyOf (l.drop 16)⟩ ⟨(p4 : Int), (p12 : Int), zero32⟩).length = 68) := ⟨length_brC _ _⟩
  have IF := hi81 ⟨(p0 : Int), (p8 : Int), keyOf (l.drop 16)⟩ ⟨(p4 : Int), (p12 : Int), keyOf (l.drop 48)⟩
  have W16 : ∀ W, Below w.heap.size w W → Row W (some ⟨b, o + 16, none⟩) ((l.drop 16).take 32).length ((l.drop 16).take 32) := fun W hW => by rw [T16.out]; exact (R16.out.take 32 (by omega)).old hW
  have W48 : ∀ W, Below w.heap.size w W → Row W (some ⟨b, o + 48, none⟩) ((l.drop 48).take 32).length ((l.drop 48).take 32) := fun W hW => by rw [T48.out]; exact (R48.out.take 32 (by omega)).old hW
  have V16 := Box.mk W16
  have V48 := Box.mk W48
  clear hl80 ht16 ht48 hk16 hk48 R16 R48 HB1 HB2 HB3 Q0 Q4 Q8 Q12 HZ hz W16 W48 hi81 hs81 hall hk1 hk2
  generalize brC ⟨(p0 : Int), (p8 : Int), zero32⟩ ⟨(p4 : Int), (p12 : Int), zero32⟩ = z1 at *
  generalize brC ⟨(p0 : Int), (p8 : Int), keyOf (l.drop 16)⟩ ⟨(p4 : Int), (p12 : Int), zero32⟩ = z2 at *
  generalize hz3e : brC ⟨(p0 : Int), (p8 : Int), keyOf (l.drop 16)⟩ ⟨(p4 : Int), (p12 : Int), keyOf (l.drop 48)⟩ = z3 at *
  have HZ3 := Box.mk hz3e
  clear hz3e
  go_wp2_with fail
  refine held_begin (fun W => Below w.heap.size w W ∧ W.heap[w.heap.size]? = some (.cells z1.toArray 77 (0, 0)) ∨ Below w.heap.size w W ∧ W.heap[w.heap.size]? = some (.cells z2.toArray 77 (0, 0))) (by kernel_rfl) (.inl ⟨b1.drew, g1.out⟩) (fun hH0 => ?_)
  refine held_take 0 (.pointer (some ⟨w.heap.size, 0, none⟩)) rfl (by kernel_rfl) (by kernel_rfl) (by kernel_rfl) (held_pure (by rfl) (fun W => by go_simp)) (by assumption) ?_
  try simp only [Act.put, List.setIfInBounds_toArray, List.set_cons_zero, List.set_cons_succ]
  refine held_take 1 (.pointer (some ⟨w.heap.size, 2, none⟩)) rfl (by kernel_rfl) (by kernel_rfl) (by kernel_rfl) (held_pure (by rfl) (fun W => by go_simp)) (by assumption) ?_
  try simp only [Act.put, List.setIfInBounds_toArray, List.set_cons_zero, List.set_cons_succ]
  refine held_take 2 (.slice (some ⟨w.heap.size, 2, none⟩) 32 32) rfl (by kernel_rfl) (by kernel_rfl) (by kernel_rfl) (held_pure (by rfl) (fun W => by go_simp)) (by assumption) ?_
  try simp only [Act.put, List.setIfInBounds_toArray, List.set_cons_zero, List.set_cons_succ]
  refine held_take 3 (.slice (some ⟨b, o, none⟩) 80 (c' + 80)) rfl (by kernel_rfl) (by kernel_rfl) (by kernel_rfl) (held_move (by rfl) (.tmp 1) rfl rfl) (by assumption) ?_
  try simp only [Act.put, List.setIfInBounds_toArray, List.set_cons_zero, List.set_cons_succ]
  refine held_take 4 (.slice (some ⟨b, o + 16, none⟩) 64 (c' + 64)) rfl (by kernel_rfl) (by kernel_rfl) (by kernel_rfl) (held_pure (by rfl) (fun W => by go_simp)) (by assumption) ?_
  try simp only [Act.put, List.setIfInBounds_toArray, List.set_cons_zero, List.set_cons_succ]
  clear hH0
  refine held_step 5 (by kernel_rfl) rfl (by rfl) (fun K hK => ?_)
  refine oper_of_list rfl ?_
  refine wpList_copy_bytes rfl (.tmp 48) (.tmp 50) 28 28 rfl hu hsz.out (some ⟨w.heap.size, 2, none⟩) (some ⟨b, o + 16, none⟩) 32 32 64 (c' + 64) rfl rfl w.heap.size 2 z1 77 g1.out ((l.drop 16).take 32) (by rw [T16.out]; rfl) (fun _ => rfl) (V16.out _ b1.drew) (by rw [T16.out, L16.out]; omega) ?_
  intro wz gz Gz
  refine ⟨rfl, ?_⟩
  have hb : Below w.heap.size w wz := b1.drew.grown Gz b1.size (fun k hk => by cases hk; exact Nat.le_refl _)
  have hg : Hid (wz.heap[w.heap.size]? = some (.cells z2.toArray 77 (0, 0))) := by rw [← S16.out]; exact gz.out
  refine hK.out _ _ (.inr ⟨hb, hg.out⟩) (fun _ => ?_)
  clear hK K gz Gz
  try simp only [Act.put, List.setIfInBounds_toArray, List.set_cons_zero, List.set_cons_succ]
  refine held_done (by kernel_rfl) ?_ _
  have g2 := hg
  have b2 := hb
  clear hg hb g1 b1
  go_wp2_with fail
  refine held_begin (fun W => Below w.heap.size w W ∧ W.heap[w.heap.size]? = some (.cells z2.toArray 77 (0, 0)) ∨ Below w.heap.size w W ∧ W.heap[w.heap.size]? = some (.cells z3.toArray 77 (0, 0))) (by kernel_rfl) (.inl ⟨b2.drew, g2.out⟩) (fun hH0 => ?_)
  refine held_take 0 (.pointer (some ⟨w.heap.size, 34, none⟩)) rfl (by kernel_rfl) (by kernel_rfl) (by kernel_rfl) (held_pure (by rfl) (fun W => by go_simp)) (by assumption) ?_
  try simp only [Act.put, List.setIfInBounds_toArray, List.set_cons_zero, List.set_cons_succ]
  refine held_take 1 (.pointer (some ⟨w.heap.size, 36, none⟩)) rfl (by kernel_rfl) (by kernel_rfl) (by kernel_rfl) (held_pure (by rfl) (fun W => by go_simp)) (by assumption) ?_
  try simp only [Act.put, List.setIfInBounds_toArray, List.set_cons_zero, List.set_cons_succ]
  refine held_take 2 (.slice (some ⟨w.heap.size, 36, none⟩) 32 32) rfl (by kernel_rfl) (by kernel_rfl) (by kernel_rfl) (held_pure (by rfl) (fun W => by go_simp)) (by assumption) ?_
  try simp only [Act.put, List.setIfInBounds_toArray, List.set_cons_zero, List.set_cons_succ]
  refine held_take 3 (.slice (some ⟨b, o, none⟩) 80 (c' + 80)) rfl (by kernel_rfl) (by kernel_rfl) (by kernel_rfl) (held_move (by rfl) (.tmp 1) rfl rfl) (by assumption) ?_
  try simp only [Act.put, List.setIfInBounds_toArray, List.set_cons_zero, List.set_cons_succ]
  refine held_take 4 (.slice (some ⟨b, o + 48, none⟩) 32 (c' + 32)) rfl (by kernel_rfl) (by kernel_rfl) (by kernel_rfl) (held_pure (by rfl) (fun W => by go_simp)) (by assumption) ?_
  try simp only [Act.put, List.setIfInBounds_toArray, List.set_cons_zero, List.set_cons_succ]
  clear hH0
  refine held_step 5 (by kernel_rfl) rfl (by rfl) (fun K hK => ?_)
  refine oper_of_list rfl ?_
  refine wpList_copy_bytes rfl (.tmp 54) (.tmp 56) 28 28 rfl hu hsz.out (some ⟨w.heap.size, 36, none⟩) (some ⟨b, o + 48, none⟩) 32 32 32 (c' + 32) rfl rfl w.heap.size 36 z2 77 g2.out ((l.drop 48).take 32) (by rw [T48.out]; rfl) (fun _ => rfl) (V48.out _ b2.drew) (by rw [T48.out, L48.out]; omega) ?_
  intro wz gz Gz
  refine ⟨rfl, ?_⟩
  have hb : Below w.heap.size w wz := b2.drew.grown Gz b2.size (fun k hk => by cases hk; exact Nat.le_refl _)
  have hg : Hid (wz.heap[w.heap.size]? = some (.cells z3.toArray 77 (0, 0))) := by rw [← S48.out]; exact gz.out
  refine hK.out _ _ (.inr ⟨hb, hg.out⟩) (fun _ => ?_)
  clear hK K gz Gz
  try simp only [Act.put, List.setIfInBounds_toArray, List.set_cons_zero, List.set_cons_succ]
  refine held_done (by kernel_rfl) ?_ _
  have g3 := hg
  have b3 := hb
  clear hg hb g2 b2
  go_wp2_with (refine wpList_load_row rfl 77 (.tmp 6) ?_ w.heap.size ?_ 77 z3.toArray (0, 0) _ g3.out Tryd.underlying77 rfl IF.out ?_; rfl; rfl)
  go_ret
  exact ⟨by rw [HZ3.out]; rfl, b3⟩
end Go.Proofs.YteiepenanffhcaaDoor
