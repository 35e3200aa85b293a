/- Nodes and their bytes, there and back: plain laws, and the contracts of Encode and Decode in one piece. -/
import Derived.Test.YtocfiabbhcgegaaRightB
import Derived.Test.YtocfiabbhcgegaaSameN
namespace Go.Proofs.Ytocfiabbhcgegaa
open Go Go.RowKit
set_option linter.unusedVariables false

/-- The bytes of a right node. -/
def encT (x : NodeV) (l : List UInt8) : List UInt8 := if x.kind = 1 then x.key.1 ++ l else brEnc x
/-- Is a load one of its kind? -/
def decOk (kind : Int) (l : List UInt8) : Bool := (decide (kind = 1) && decide (32 ≤ l.length) && decide (l.length ≤ 160)) || (decide (kind = 2) && decide (l.length = 80) && brStands (chL l) (chR l))
/-- The node that a load tells. -/
def decY (kind : Int) (l : List UInt8) (ao : Option Addr) (c : Nat) : NodeV :=
  if decOk kind l = true then (if kind = 1 then ⟨1, 0, 0, 0, 0, zero32, zero32, keyOf l, ao, l.length - 32, c⟩ else brNode l) else noNode
/-- Its value's bytes. -/
def decL (kind : Int) (l : List UInt8) : List UInt8 := if (decOk kind l && decide (kind = 1)) = true then l.drop 32 else []

theorem isLeafB_kind {x : NodeV} (h : isLeafB x = true) : x.kind = 1 := by
  unfold isLeafB at h; simp only [Bool.and_eq_true, decide_eq_true_eq] at h; exact h.1.1.1
theorem isBrB_kind {x : NodeV} (h : isBrB x = true) : x.kind = 2 := by
  unfold isBrB at h; simp only [Bool.and_eq_true, decide_eq_true_eq] at h; exact h.1.1

theorem length_le4 (n : Nat) : (le4 n).length = 4 := rfl
theorem length_brEnc (x : NodeV) : (brEnc x).length = 80 := by
  unfold brEnc brT
  simp [length_le4, x.ls.2, x.rs.2]
theorem dec4_le4 (n : Nat) (h : n < 4294967296) (r : List UInt8) : dec4 (le4 n ++ r) = n := by
  unfold dec4 le4
  simp only [List.cons_append, List.getD_cons_zero, List.getD_cons_succ, List.nil_append, UInt8.toNat_ofNat']
  omega
theorem le4_dec4 (l : List UInt8) (h : 4 ≤ l.length) : le4 (dec4 l) = l.take 4 := by
  match l, h with
  | a :: b :: c :: d :: r, _ =>
    unfold dec4 le4
    simp only [List.getD_cons_zero, List.getD_cons_succ, List.take_succ_cons, List.take_zero]
    have ha := a.toNat_lt
    have hb := b.toNat_lt
    have hc := c.toNat_lt
    have hd := d.toNat_lt
    have e : ∀ (u : UInt8) (k : Nat), k % 256 = u.toNat → UInt8.ofNat k = u := fun u k h => UInt8.toNat_inj.1 (by rw [UInt8.toNat_ofNat']; exact h)
    rw [e a _ (by omega), e b _ (by omega), e c _ (by omega), e d _ (by omega)]
theorem keyOf_append (k : D32) (l : List UInt8) : keyOf (k.1 ++ l) = k := by
  have h : (keyOf (k.1 ++ l)).1 = k.1 := by
    rw [keyOf_eq (by rw [List.length_append, k.2]; omega), List.take_append_of_le_length (by rw [k.2]; omega), List.take_of_length_le (by rw [k.2]; omega)]
  exact Subtype.ext h
theorem brT_drop (a b c d : Nat) (s t : List UInt8) : let l := le4 a ++ (le4 b ++ (le4 c ++ (le4 d ++ (s ++ t))))
    l.drop 4 = le4 b ++ (le4 c ++ (le4 d ++ (s ++ t))) ∧ l.drop 8 = le4 c ++ (le4 d ++ (s ++ t)) ∧ l.drop 12 = le4 d ++ (s ++ t) ∧ l.drop 16 = s ++ t := by
  refine ⟨rfl, rfl, rfl, rfl⟩

theorem brEnc_back (x : NodeV) (h1 : chStands ⟨x.left, x.lc, x.ls⟩ = true) (h2 : chStands ⟨x.right, x.rc, x.rs⟩ = true) :
    chL (brEnc x) = ⟨x.left, x.lc, x.ls⟩ ∧ chR (brEnc x) = ⟨x.right, x.rc, x.rs⟩ := by
  have p1 := chStands_page h1
  have p2 := chStands_page h2
  have p3 := chStands_count h1
  have p4 := chStands_count h2
  simp only at p1 p2 p3 p4
  have D := brT_drop x.left.toNat x.right.toNat x.lc.toNat x.rc.toNat x.ls.1 x.rs.1
  simp only at D
  obtain ⟨d4, d8, d12, d16⟩ := D
  have d48 : (brEnc x).drop 48 = x.rs.1 := by
    have : (brEnc x).drop 48 = ((brEnc x).drop 16).drop 32 := by rw [List.drop_drop]
    rw [this]
    show ((brT _ _ _ _ _ _).drop 16).drop 32 = _
    unfold brT
    rw [d16, List.drop_append_of_le_length (by rw [x.ls.2]; omega), List.drop_of_length_le (by rw [x.ls.2]; omega), List.nil_append]
  constructor
  · unfold chL
    rw [show (brEnc x) = le4 x.left.toNat ++ (le4 x.right.toNat ++ (le4 x.lc.toNat ++ (le4 x.rc.toNat ++ (x.ls.1 ++ x.rs.1)))) from rfl, d8, d16,
      dec4_le4 _ (by omega), dec4_le4 _ (by omega), keyOf_append, Int.toNat_of_nonneg p1.1, Int.toNat_of_nonneg p3.1]
  · unfold chR
    rw [d48, show (brEnc x) = le4 x.left.toNat ++ (le4 x.right.toNat ++ (le4 x.lc.toNat ++ (le4 x.rc.toNat ++ (x.ls.1 ++ x.rs.1)))) from rfl, d4, d12,
      dec4_le4 _ (by omega), dec4_le4 _ (by omega), Int.toNat_of_nonneg p2.1, Int.toNat_of_nonneg p4.1]
    have := keyOf_append x.rs []
    rw [List.append_nil] at this
    rw [this]

theorem eqD_eq {a b : D32} (h : eqD a b = true) : a = b := of_decide_eq_true h
theorem eqD_refl (a : D32) : eqD a a = true := decide_eq_true rfl

/-- A right node comes back from its bytes. -/
theorem back_right (x : NodeV) (l : List UInt8) (hl : l.length = x.n) (h : rightB x = true) :
    decOk x.kind (encT x l) = true ∧ (encT x l).length ≤ 246 ∧ ∀ ao c, eqNode (decY x.kind (encT x l) ao c) x (decL x.kind (encT x l)) l = true := by
  unfold rightB at h
  rw [Bool.or_eq_true, Bool.and_eq_true, Bool.and_eq_true] at h
  rcases h with ⟨h, hn⟩ | ⟨h, hs⟩
  · have hk := isLeafB_kind h
    have hn' := of_decide_eq_true hn
    have ht : encT x l = x.key.1 ++ l := if_pos hk
    have hlen : (encT x l).length = 32 + x.n := by rw [ht, List.length_append, x.key.2, hl]
    have hok : decOk x.kind (encT x l) = true := by
      unfold decOk
      rw [hlen, decide_eq_true hk, decide_eq_true (show 32 ≤ 32 + x.n by omega), decide_eq_true (show 32 + x.n ≤ 160 by omega)]
      rfl
    refine ⟨hok, by omega, fun ao c => ?_⟩
    have hd : decL x.kind (encT x l) = l := by
      unfold decL
      rw [hok, decide_eq_true hk, Bool.true_and, if_pos rfl, ht, List.drop_append_of_le_length (by rw [x.key.2]; omega), List.drop_of_length_le (by rw [x.key.2]; omega), List.nil_append]
    have hy : decY x.kind (encT x l) ao c = ⟨1, 0, 0, 0, 0, zero32, zero32, x.key, ao, (encT x l).length - 32, c⟩ := by
      unfold decY
      rw [if_pos hok, if_pos hk, ht, keyOf_append]
    rw [hd, hy]
    unfold isLeafB at h
    simp only [Bool.and_eq_true, decide_eq_true_eq] at h
    obtain ⟨⟨⟨_, z1, z2, z3, z4⟩, z5⟩, z6⟩ := h
    unfold eqNode eqInts
    simp only [hk, z1, z2, z3, z4, eqD_eq z5, eqD_eq z6, eqD_refl, eqB_true rfl]
    rfl
  · have hk := isBrB_kind h
    have hk1 : ¬ x.kind = 1 := by omega
    have ht : encT x l = brEnc x := if_neg hk1
    have hlen : (encT x l).length = 80 := by rw [ht, length_brEnc]
    have hs' := hs
    unfold brStands at hs'
    simp only [Bool.and_eq_true] at hs'
    obtain ⟨b1, b2⟩ := brEnc_back x hs'.1.1.1.1 hs'.1.1.1.2
    have hok : decOk x.kind (encT x l) = true := by
      unfold decOk
      rw [ht, b1, b2, hs, decide_eq_true hk, decide_eq_true (length_brEnc x)]
      simp
    refine ⟨hok, by omega, fun ao c => ?_⟩
    have hd : decL x.kind (encT x l) = [] := by
      unfold decL
      rw [hok, decide_eq_false hk1]; rfl
    have hy : decY x.kind (encT x l) ao c = brNode (brEnc x) := by
      unfold decY
      rw [if_pos hok, if_neg hk1, ht]
    rw [hd, hy]
    unfold isBrB at h
    simp only [Bool.and_eq_true, decide_eq_true_eq] at h
    obtain ⟨⟨_, z1⟩, z2⟩ := h
    have hnil : l = [] := List.length_eq_zero_iff.1 (by omega)
    unfold eqNode eqInts brNode
    simp only [b1, b2, hk, ← eqD_eq z1, eqD_refl, hnil, eqB_true rfl, beq_self_eq_true]
    rfl

theorem brEnc_of (l : List UInt8) (h : l.length = 80) : brEnc (brNode l) = l := by
  have k : ∀ j, (keyOf (l.drop j)).1 = ((l.drop j) ++ List.replicate 32 0).take 32 := fun j => rfl
  show le4 ((dec4 l : Nat) : Int).toNat ++ (le4 ((dec4 (l.drop 4) : Nat) : Int).toNat ++ (le4 ((dec4 (l.drop 8) : Nat) : Int).toNat ++ (le4 ((dec4 (l.drop 12) : Nat) : Int).toNat ++ ((keyOf (l.drop 16)).1 ++ (keyOf (l.drop 48)).1)))) = l
  simp only [Int.toNat_natCast]
  rw [le4_dec4 l (by omega), le4_dec4 (l.drop 4) (by simp; omega), le4_dec4 (l.drop 8) (by simp; omega), le4_dec4 (l.drop 12) (by simp; omega),
    keyOf_eq (by simp; omega), keyOf_eq (by simp; omega)]
  have e48 : (l.drop 48).take 32 = l.drop 48 := List.take_of_length_le (by simp; omega)
  have s : ∀ (j k : Nat), (l.drop j).take k ++ l.drop (j + k) = l.drop j := fun j k => by
    rw [← List.drop_drop, List.take_append_drop]
  rw [e48, s 16 32, s 12 4, s 8 4, s 4 4]
  exact List.take_append_drop 4 l

theorem decY_kind {kind : Int} {l : List UInt8} (h : decOk kind l = true) : kind = 1 ∨ (¬ kind = 1 ∧ kind = 2) := by
  unfold decOk at h
  simp only [Bool.or_eq_true, Bool.and_eq_true, decide_eq_true_eq] at h
  omega

/-- What a load that is taken tells is right, and its bytes are the load. -/
theorem back_ok (kind : Int) (l : List UInt8) (ao : Option Addr) (c : Nat) (h : decOk kind l = true) :
    rightB (decY kind l ao c) = true ∧ (decY kind l ao c).kind = kind ∧ encT (decY kind l ao c) (decL kind l) = l := by
  have h0 := h
  unfold decOk at h
  simp only [Bool.or_eq_true, Bool.and_eq_true, decide_eq_true_eq] at h
  rcases h with ⟨⟨hk, h1⟩, h2⟩ | ⟨⟨hk, h1⟩, h2⟩
  · have hy : decY kind l ao c = ⟨1, 0, 0, 0, 0, zero32, zero32, keyOf l, ao, l.length - 32, c⟩ := by unfold decY; rw [if_pos h0, if_pos hk]
    have hd : decL kind l = l.drop 32 := by unfold decL; rw [h0, decide_eq_true hk]; rfl
    rw [hy, hd]
    refine ⟨?_, hk.symm, ?_⟩
    · unfold rightB isLeafB
      simp only [eqD_refl, decide_eq_true (show l.length - 32 ≤ 128 by omega)]
      simp
    · unfold encT
      rw [if_pos rfl, keyOf_eq h1, List.take_append_drop]
  · have hk1 : ¬ kind = 1 := by omega
    have hy : decY kind l ao c = brNode l := by unfold decY; rw [if_pos h0, if_neg hk1]
    have hd : decL kind l = [] := by unfold decL; rw [h0, decide_eq_false hk1]; rfl
    rw [hy, hd]
    refine ⟨?_, hk.symm, ?_⟩
    · unfold rightB isBrB
      have e : brStands ⟨(brNode l).left, (brNode l).lc, (brNode l).ls⟩ ⟨(brNode l).right, (brNode l).rc, (brNode l).rs⟩ = true := h2
      have e2 : eqD (brNode l).key zero32 = true := eqD_refl zero32
      rw [e, e2]
      simp [brNode]
    · unfold encT
      rw [if_neg (show ¬ (brNode l).kind = 1 by show ¬ (2 : Int) = 1; decide)]
      exact brEnc_of l h1
theorem back_no (kind : Int) (l : List UInt8) (ao : Option Addr) (c : Nat) (h : decOk kind l = false) : decY kind l ao c = noNode ∧ decL kind l = [] := by
  refine ⟨?_, ?_⟩
  · unfold decY; rw [h]; rfl
  · unfold decL; rw [h]; rfl
theorem noNode_same : eqNode noNode noNode [] [] = true := by
  unfold eqNode eqInts
  rw [eqD_refl, eqD_refl, eqD_refl, eqB_true rfl]
  rfl

theorem own_nil (w : World) (base : Nat) (e : TypeId) : Own w base e (.slice none 0 0) [] := ⟨rfl, .inl ⟨rfl, rfl⟩⟩

theorem own_none {w : World} {base : Nat} {e : TypeId} {ao : Option Addr} {n c : Nat} {l : List UInt8} (h : Own w base e (.slice ao n c) l) : ao = none → n = 0 ∧ c = 0 := by
  rintro rfl
  obtain ⟨hl, ⟨h1, h2⟩ | ⟨g, cap, cur, h1, h2⟩⟩ := h
  · rw [Value.slice.injEq] at h1; exact ⟨h1.2.1, h1.2.2⟩
  · rw [Value.slice.injEq] at h1; cases h1.1
theorem own_read {w : World} {base : Nat} {e : TypeId} {ao : Option Addr} {n c : Nat} {l : List UInt8} (h : Own w base e (.slice ao n c) l) : Row w ao n l ∧ n = l.length ∧ n ≤ c ∧ c ≤ maxLen := by
  obtain ⟨ao2, cap2, hv, hr2, hm2, hc2, _⟩ := h.open
  rw [Value.slice.injEq] at hv
  obtain ⟨e1, e2, e3⟩ := hv
  rw [e1, e2, e3]
  exact ⟨hr2, rfl, hc2, hm2⟩
theorem dec4_lt (l : List UInt8) : dec4 l < 4294967296 := by
  unfold dec4
  have a := (l.getD 0 0).toNat_lt
  have b := (l.getD 1 0).toNat_lt
  have c := (l.getD 2 0).toNat_lt
  have d := (l.getD 3 0).toNat_lt
  omega
theorem decY_in (kind : Int) (l : List UInt8) (ao : Option Addr) (c : Nat) : inI64 (decY kind l ao c).left ∧ inI64 (decY kind l ao c).right ∧ inI64 (decY kind l ao c).lc ∧ inI64 (decY kind l ao c).rc := by
  have z : inI64 0 := by unfold inI64; omega
  have d : ∀ t : List UInt8, inI64 (dec4 t : Int) := fun t => by have := dec4_lt t; unfold inI64; omega
  unfold decY
  split
  · split
    · exact ⟨z, z, z, z⟩
    · exact ⟨d _, d _, d _, d _⟩
  · exact ⟨z, z, z, z⟩
theorem decL_le (kind : Int) (l : List UInt8) : (decL kind l).length ≤ l.length := by
  unfold decL
  split
  · simp
  · simp

/-- node.Encode. -/
theorem encode_any (x : NodeV) (q1 : inI64 x.left) (q2 : inI64 x.right) (q3 : inI64 x.lc) (q4 : inI64 x.rc) (l : List UInt8) (w : World) (h : Row w x.ao x.n l) (hn : x.ao = none → x.n = 0 ∧ x.c = 0) (hb : x.n ≤ 140737488351232) :
    Calls Try.prog 13 #[.agg (nodeC x).toArray] w fun e w' =>
      ((rightB x = true ∧ ∃ g cap, e = .returned (.tuple #[.slice (some ⟨g, 0, none⟩) (encT x l).length cap, .int .i64 0]) ∧ Own w' w.heap.size 5 (.slice (some ⟨g, 0, none⟩) (encT x l).length cap) (encT x l)) ∨
        (rightB x = false ∧ e = .returned (.tuple #[.slice none 0 0, .int .i64 90]))) ∧ Below w.heap.size w w' := by
  cases h1 : isLeafB x
  · cases h2 : isBrB x
    · refine (encode_none x q1 q2 q3 q4 h1 h2 w).mono ?_
      rintro e w' ⟨rfl, hB⟩
      exact ⟨.inr ⟨by unfold rightB; rw [h1, h2]; rfl, rfl⟩, hB⟩
    · have hk := isBrB_kind h2
      have ht : encT x l = brEnc x := if_neg (by omega)
      refine (encode_branch x q1 q2 q3 q4 h1 h2 w).mono ?_
      rintro e w' ⟨he, hB⟩
      refine ⟨?_, hB⟩
      rw [ht, length_brEnc]
      cases hs : brStands ⟨x.left, x.lc, x.ls⟩ ⟨x.right, x.rc, x.rs⟩
      · rw [hs] at he
        exact .inr ⟨by unfold rightB; rw [h1, h2, hs]; rfl, by simpa using he⟩
      · rw [hs, if_pos rfl] at he
        exact .inl ⟨by unfold rightB; rw [h1, h2, hs]; rfl, he⟩
  · have hk := isLeafB_kind h1
    have ht : encT x l = x.key.1 ++ l := if_pos hk
    have hlen : (encT x l).length = 32 + x.n := by rw [ht, List.length_append, x.key.2, h.1]
    refine (encode_leaf x q1 q2 q3 q4 h1 l w h hn hb).mono ?_
    rintro e w' ⟨he, hB⟩
    refine ⟨?_, hB⟩
    have h2 : isBrB x = false := by
      cases h2 : isBrB x
      · rfl
      · have := isBrB_kind h2; omega
    rcases Nat.lt_or_ge 128 x.n with h128 | h128
    · rw [if_neg (by omega)] at he
      exact .inr ⟨by unfold rightB; rw [h1, h2, decide_eq_false (by omega)]; rfl, he⟩
    · rw [if_pos h128] at he
      rw [hlen, ht]
      exact .inl ⟨by unfold rightB; rw [h1, h2, decide_eq_true h128]; rfl, he⟩

/-- node.Decode. -/
theorem decode_any (kind : Int) (ao : Option Addr) (n c : Nat) (l : List UInt8) (w : World) (h : Row w ao n l) (hn : ao = none → n = 0 ∧ c = 0) (hle : n ≤ c) (hmx : n ≤ 140737488351232) (hmax : c ≤ 9223372036854775807) :
    Calls Try.prog 15 #[.int .i64 kind, .slice ao n c] w fun e w' =>
      (∃ ao' c', e = .returned (.tuple #[.agg (nodeC (decY kind l ao' c')).toArray, .int .i64 (if decOk kind l = true then 0 else 90)]) ∧
        Own w' w.heap.size 5 (.slice (decY kind l ao' c').ao (decY kind l ao' c').n (decY kind l ao' c').c) (decL kind l)) ∧ Below w.heap.size w w' := by
  have hl := h.1
  have none_ : ((kind = 1 ∧ n < 32) ∨ (kind = 2 ∧ n < 80) ∨ (kind = 2 ∧ 80 < n) ∨ ((kind == 1) = false ∧ (kind == 2) = false)) → decOk kind l = false → _ := fun hh hok =>
    (decode_none kind ao n c w hh).mono (R' := fun e w' => (∃ ao' c', e = .returned (.tuple #[.agg (nodeC (decY kind l ao' c')).toArray, .int .i64 (if decOk kind l = true then 0 else 90)]) ∧
        Own w' w.heap.size 5 (.slice (decY kind l ao' c').ao (decY kind l ao' c').n (decY kind l ao' c').c) (decL kind l)) ∧ Below w.heap.size w w') (by
      rintro e w' ⟨rfl, hB⟩
      refine ⟨⟨none, 0, ?_, ?_⟩, hB⟩
      · rw [(back_no kind l none 0 hok).1, hok]; rfl
      · rw [(back_no kind l none 0 hok).1, (back_no kind l none 0 hok).2]; exact own_nil _ _ _)
  by_cases k1 : kind = 1
  · rcases Nat.lt_or_ge n 32 with h32 | h32
    · exact none_ (.inl ⟨k1, h32⟩) (by unfold decOk; rw [decide_eq_false (show ¬ 32 ≤ l.length by omega), decide_eq_false (show ¬ kind = 2 by omega)]; simp)
    · obtain ⟨b, o, rfl⟩ := h.at0 (by omega)
      obtain ⟨m, rfl⟩ : ∃ m, n = m + 32 := ⟨n - 32, by omega⟩
      obtain ⟨c', rfl⟩ : ∃ c', c = c' + 32 := ⟨c - 32, by omega⟩
      subst k1
      refine (decode_leaf b o m c' l w h (by omega) (by omega) hmax).mono ?_
      rintro e w' ⟨he, hB⟩
      refine ⟨?_, hB⟩
      rcases Nat.lt_or_ge 128 m with h128 | h128
      · rw [if_neg (by omega)] at he
        have hok : decOk 1 l = false := by unfold decOk; rw [decide_eq_false (show ¬ l.length ≤ 160 by omega)]; simp
        refine ⟨none, 0, ?_, ?_⟩
        · rw [(back_no 1 l none 0 hok).1, hok]; exact he
        · rw [(back_no 1 l none 0 hok).1, (back_no 1 l none 0 hok).2]; exact own_nil _ _ _
      · rw [if_pos h128] at he
        obtain ⟨ao', c'', he, own⟩ := he
        have hok : decOk 1 l = true := by unfold decOk; rw [decide_eq_true (show 32 ≤ l.length by omega), decide_eq_true (show l.length ≤ 160 by omega)]; simp
        have hy : decY 1 l ao' c'' = ⟨1, 0, 0, 0, 0, zero32, zero32, keyOf l, ao', m, c''⟩ := by unfold decY; rw [if_pos hok, if_pos rfl, hl, Nat.add_sub_cancel]
        have hd : decL 1 l = l.drop 32 := by unfold decL; rw [hok]; rfl
        refine ⟨ao', c'', ?_, ?_⟩
        · rw [hy, hok]; exact he
        · rw [hy, hd]; exact own
  · by_cases k2 : kind = 2
    · rcases Nat.lt_trichotomy n 80 with h80 | h80 | h80
      · exact none_ (.inr (.inl ⟨k2, h80⟩)) (by unfold decOk; rw [decide_eq_false k1, decide_eq_false (show ¬ l.length = 80 by omega)]; simp)
      · obtain ⟨b, o, rfl⟩ := h.at0 (by omega)
        subst h80
        obtain ⟨c', rfl⟩ : ∃ c', c = c' + 80 := ⟨c - 80, by omega⟩
        subst k2
        refine (decode_branch b o c' l w h hmax).mono ?_
        rintro e w' ⟨he, hB⟩
        refine ⟨?_, hB⟩
        cases hs : brStands (chL l) (chR l)
        · rw [hs] at he
          have hok : decOk 2 l = false := by unfold decOk; rw [hs]; simp
          refine ⟨none, 0, ?_, ?_⟩
          · rw [(back_no 2 l none 0 hok).1, hok]; simpa using he
          · rw [(back_no 2 l none 0 hok).1, (back_no 2 l none 0 hok).2]; exact own_nil _ _ _
        · rw [hs, if_pos rfl] at he
          have hok : decOk 2 l = true := by unfold decOk; rw [hs, decide_eq_true hl]; simp
          have hy : decY 2 l none 0 = brNode l := by unfold decY; rw [if_pos hok]; rfl
          have hd : decL 2 l = [] := by unfold decL; rw [hok]; rfl
          refine ⟨none, 0, ?_, ?_⟩
          · rw [hy, hok]; exact he
          · rw [hy, hd]; exact own_nil _ _ _
      · exact none_ (.inr (.inr (.inl ⟨k2, h80⟩))) (by unfold decOk; rw [decide_eq_false k1, decide_eq_false (show ¬ l.length = 80 by omega)]; simp)
    · exact none_ (.inr (.inr (.inr ⟨by rw [beq_eq_false_iff_ne]; exact k1, by rw [beq_eq_false_iff_ne]; exact k2⟩))) (by unfold decOk; rw [decide_eq_false k1, decide_eq_false k2]; simp)
end Go.Proofs.Ytocfiabbhcgegaa
