/- Texts joined: Frame0, FrameA, FrameB, Page1. -/
import Derived.Test.YtopdhanbmnfeeaaDoorIR07
import Derived.Test.YtopdhanbmnfeeaaDoorIR05
import Derived.Test.YtopdhanbmnfeeaaDoorIR08
import Derived.Test.YtopdhanbmnfeeaaDoorIR02
import Derived.Test.YtopdhanbmnfeeaaDoorIR01
import Derived.Test.YtopdhanbmnfeeaaDoorIR04
import Derived.Test.YtopdhanbmnfeeaaDoorIR03
/- Superblocks as bytes, in plain Lean. No program in sight. -/
namespace Go.Proofs.YtopdhanbmnfeeaaDoor
set_option linter.unusedSectionVars false
set_option linter.unusedSimpArgs false
open Go Go.RowKit
set_option linter.unusedVariables false
structure SupV where
  width : Int
  gen : Int
  mark : Int
  head : Int
  pages : Int
deriving DecidableEq
def supC (s : SupV) : List Value := [.int .i64 s.width, .int .i64 s.gen, .int .i64 s.mark, .int .i64 s.head, .int .i64 s.pages]
def noSup : SupV := ⟨0, 0, 0, 0, 0⟩
def ValidS (s : SupV) : Prop := 1 ≤ s.width ∧ s.width ≤ 32 ∧ 0 ≤ s.gen ∧ s.gen ≤ 1099511627776 ∧ 3 ≤ s.pages ∧ s.pages ≤ 4096 ∧ 2 ≤ s.mark ∧ s.mark ≤ s.pages ∧ (s.head = 0 ∨ (2 ≤ s.head ∧ s.head < s.mark))
instance (s : SupV) : Decidable (ValidS s) := inferInstanceAs (Decidable (_ ∧ _))
def validS (s : SupV) : Bool := decide (ValidS s)
def leN (v : Nat) : Nat → List UInt8
  | 0 => []
  | n + 1 => UInt8.ofNat v :: leN (v / 256) n
theorem length_leN (n : Nat) : ∀ v, (leN v n).length = n := by
  induction n with
  | zero => intro v; rfl
  | succ n ih => intro v; simp [leN, ih]
def decN : List UInt8 → Nat
  | [] => 0
  | x :: l => x.toNat + 256 * decN l
theorem decN_leN (n : Nat) : ∀ v, v < 256 ^ n → decN (leN v n) = v := by
  induction n with
  | zero => intro v h; simp at h; subst h; rfl
  | succ n ih =>
    intro v h
    show (UInt8.ofNat v).toNat + 256 * decN (leN (v / 256) n) = v
    rw [ih _ (Nat.div_lt_of_lt_mul (by rw [Nat.pow_succ] at h; omega)), UInt8.toNat_ofNat']
    omega
theorem decN_lt : ∀ l : List UInt8, decN l < 256 ^ l.length
  | [] => by simp [decN]
  | x :: l => by
    have := decN_lt l
    have := x.toNat_lt
    rw [List.length_cons, Nat.pow_succ]
    show x.toNat + 256 * decN l < _
    omega
theorem leN_snoc (n : Nat) : ∀ v, leN v (n + 1) = leN v n ++ [UInt8.ofNat (v / 256 ^ n)] := by
  induction n with
  | zero => intro v; simp [leN]
  | succ n ih =>
    intro v
    rw [leN, ih (v / 256), leN, Nat.div_div_eq_div_mul, Nat.pow_succ, Nat.mul_comm (256 ^ n)]
    rfl
def lettersB : List UInt8 := [76, 68, 71, 49]
def zerosB (n : Nat) : List UInt8 := List.replicate n 0
def headB (s : SupV) : List UInt8 :=
  lettersB ++ (UInt8.ofNat s.width.toNat :: (zerosB 3 ++ (leN s.gen.toNat 8 ++ (leN s.mark.toNat 4 ++ (leN s.head.toNat 4 ++ (leN s.pages.toNat 4 ++ zerosB 32))))))
theorem length_headB (s : SupV) : (headB s).length = 60 := by simp [headB, lettersB, zerosB, length_leN]
def superB (s : SupV) : List UInt8 := sealB (headB s) ++ zerosB 192
theorem length_superB (s : SupV) : (superB s).length = 256 := by
  unfold superB zerosB
  rw [List.length_append, length_sealB, length_headB, List.length_replicate]
def supOf (b : List UInt8) : SupV := ⟨((b.getD 4 0).toNat : Int), (decN ((b.drop 8).take 7) : Int), (decN ((b.drop 16).take 4) : Int), (decN ((b.drop 20).take 4) : Int), (decN ((b.drop 24).take 4) : Int)⟩
def allZ (l : List UInt8) : Bool := decide (l = zerosB l.length)
def formS (b : List UInt8) : Bool := eqB (b.take 4) lettersB && allZ ((b.drop 5).take 3) && allZ ((b.drop 28).take 32) && allZ ((b.drop 15).take 1)
def unpE (raw : List UInt8) : Int :=
  if raw.length ≠ 256 then 53 else if wholeB (raw.take 64) = false then 52 else if formS (raw.take 64) = false then 53 else if validS (supOf (raw.take 64)) = false then 53 else 0
def unpS (raw : List UInt8) : SupV := if unpE raw = 0 then supOf (raw.take 64) else noSup
def emptyB (raw : List UInt8) : Bool := decide (raw.length = 256 ∧ raw.take 64 = zerosB 64)
def overS (a b : SupV) : SupV := if a.gen < b.gen then b else a
def underS (a b : SupV) : SupV := if a.gen < b.gen then a else b
def NewerOk (a b : SupV) : Prop := a.gen % 2 = 0 ∧ b.gen % 2 = 1 ∧ overS a b = { underS a b with gen := (underS a b).gen + 1, mark := (overS a b).mark, head := (overS a b).head } ∧ (underS a b).mark ≤ (overS a b).mark
instance (a b : SupV) : Decidable (NewerOk a b) := inferInstanceAs (Decidable (_ ∧ _))
def newerE (a b : SupV) : Int := if NewerOk a b then 0 else 4
def newerS (a b : SupV) : SupV := if NewerOk a b then overS a b else noSup
def chooseE (a b : List UInt8) : Int :=
  if unpE a = 0 ∧ unpE b = 0 then newerE (unpS a) (unpS b)
  else if emptyB b = false then 4
  else if (unpE a = 0 ∧ (unpS a).gen = 0) ∨ emptyB a = true then 55 else 4
def chooseS (a b : List UInt8) : SupV := if unpE a = 0 ∧ unpE b = 0 then newerS (unpS a) (unpS b) else noSup
theorem wholeB_superB (s : SupV) : wholeB ((superB s).take 64) = true := by
  unfold superB
  rw [List.take_left' (by rw [length_sealB, length_headB])]
  exact wholeB_sealB _
theorem formS_superB (s : SupV) (hg : s.gen.toNat < 256 ^ 7) : formS ((superB s).take 64) = true := by
  have h : formS ((superB s).take 64) = (true && (true && allZ [UInt8.ofNat (s.gen.toNat / 256 / 256 / 256 / 256 / 256 / 256 / 256)])) := by rfl
  have h0 : s.gen.toNat / 256 / 256 / 256 / 256 / 256 / 256 / 256 = 0 := by omega
  rw [h, h0]; rfl
theorem supOf_superB (s : SupV) (hv : ValidS s) : supOf ((superB s).take 64) = s := by
  obtain ⟨h1, h2, h3, h4, h5, h6, h7, h8, h9⟩ := hv
  have e : supOf ((superB s).take 64) = ⟨((UInt8.ofNat s.width.toNat).toNat : Int), (decN (leN s.gen.toNat 7) : Int), (decN (leN s.mark.toNat 4) : Int), (decN (leN s.head.toNat 4) : Int), (decN (leN s.pages.toNat 4) : Int)⟩ := by rfl
  have hh : s.head < 4096 ∧ 0 ≤ s.head := by rcases h9 with h | h <;> omega
  rw [e, decN_leN _ _ (by omega), decN_leN _ _ (by omega), decN_leN _ _ (by omega), decN_leN _ _ (by omega), UInt8.toNat_ofNat']
  cases s
  simp only at *
  congr <;> omega
theorem unpE_superB (s : SupV) (hv : ValidS s) : unpE (superB s) = 0 := by
  unfold unpE
  rw [length_superB, wholeB_superB, formS_superB s (by have := hv.2.2.1; have := hv.2.2.2.1; omega), supOf_superB s hv]
  simp [validS, hv]
theorem unpS_superB (s : SupV) (hv : ValidS s) : unpS (superB s) = s := by
  unfold unpS
  rw [unpE_superB s hv, if_pos rfl, supOf_superB s hv]
theorem unpE_zero : unpE (zerosB 256) = 52 := by decide +kernel
theorem emptyB_zero : emptyB (zerosB 256) = true := by decide +kernel
end Go.Proofs.YtopdhanbmnfeeaaDoor

/- frame's small functions: the walks. -/
namespace Go.Proofs.YtopdhanbmnfeeaaDoor
set_option linter.unusedSectionVars false
set_option linter.unusedSimpArgs false
open Go Go.RowKit
set_option linter.unusedVariables false
section
variable {P : Program} {Q : Exit → Act → World → Prop} {ops : Array Oper} {rest : List Oper} {o : Oper} {a : Act} {w : World}
theorem arm_bin (op : BinOp) (t t' : TypeId) (x y : Operand) (ho : o.op = .binOp op t x y t') (hw : Region.wanted o (yielded ops a.tmps) = true) (u v r : Value) (hx : a.eval x = u) (hy : a.eval y = v) (hq : eqGuard op t x y u v = pure ()) (hr : binOp op t u v = pure r)
    (h : wpList P ops Q rest (a.put o.dst r) w) : wpList P ops Q (o :: rest) a w :=
  wpList_yields hw (held_pure hw fun W => by
    unfold execOp
    simp only [ho, hx, hy, hq, hr]
    rfl) h
theorem arm_conv (s d : TypeId) (x : Operand) (ho : o.op = .convert s d x) (hw : Region.wanted o (yielded ops a.tmps) = true) (u r : Value) (hx : a.eval x = u) (hr : ∀ W, (convert s d u).run P W = .ok r W)
    (h : wpList P ops Q rest (a.put o.dst r) w) : wpList P ops Q (o :: rest) a w :=
  wpList_yields hw (held_pure hw fun W => by
    unfold execOp
    simp only [ho, hx, Sem.run_bind, hr, Result.andThen_ok]
    rfl) h
end
theorem zerosB_succ (k : Nat) : zerosB (k + 1) = zerosB k ++ [0] := by unfold zerosB; rw [List.replicate_succ']
theorem length_zerosB (k : Nat) : (zerosB k).length = k := List.length_replicate
set_option maxRecDepth 100000 in
set_option maxHeartbeats 1000000 in
theorem allZero_any (ao : Option Addr) (n c : Nat) (l : List UInt8) (w : World) (h0 : Row w ao n l) (hm : n ≤ maxLen) :
    Calls Tryd.prog 81 #[.slice ao n c] w fun e w' => e = .returned (.bool (allZ l)) ∧ w' = w := by
  unfold maxLen at hm
  have h := Box.mk h0
  have hl := Box.mk h0.1
  clear h0
  go_enter Tryd.func81, Tryd.ntmps81
  go_wp2
  go_loopw [7] (fun i wr => ∃ k : Nat, k ≤ n ∧ i = .int .i64 k ∧ wr = w ∧ Box (l.take k = zerosB k)) (fun i _ => n - (intOf i).toNat)
  case atStart => exact ⟨0, Nat.zero_le _, rfl, rfl, ⟨rfl⟩⟩
  case round =>
    obtain ⟨k, hk, rfl, rfl, HT⟩ := hrel
    by_cases hlt : k < n
    · obtain ⟨b, o, rfl⟩ := h.out.at0 (by omega)
      have hkl : k < l.length := by rw [hl.out]; exact hlt
      have e0 : wr.cell? ⟨b, o + k, none⟩ = some (.int .u8 (l[k]'hkl).toNat) := h.out.cell k hkl
      have HS := Box.mk (List.take_succ_eq_append_getElem hkl)
      obtain ⟨u, hu⟩ : ∃ u, l[k]'hkl = u := ⟨_, rfl⟩
      rw [hu] at e0 HS
      have HU := Box.mk (show l[k]? = some u by rw [List.getElem?_eq_getElem hkl, hu])
      clear hu hkl
      by_cases hu0 : u = 0
      · subst hu0
        go_wp2
        go_roundw
        case rel => exact ⟨k + 1, by omega, by go_num, trivial, ⟨by rw [HS.out, HT.out, zerosB_succ]⟩⟩
        case measure => simp [intOf]; omega
      · have hne : ((u.toNat : Int) != 0) = true := by
          rw [bne_iff_ne]
          intro h
          exact hu0 (UInt8.toNat_inj.1 (by simpa using h))
        have HF := Box.mk (show allZ l = false by
          unfold allZ
          rw [decide_eq_false_iff_not]
          intro he
          have := HU.out
          rw [he] at this
          exact hu0 (List.eq_of_mem_replicate (List.mem_of_getElem? this)))
        clear hu0
        go_wp2
        go_ret
        exact ⟨by rw [HF.out]; rfl, rfl⟩
    · obtain rfl : k = n := by omega
      have HF := Box.mk (show allZ l = true by
        unfold allZ
        rw [decide_eq_true_iff]
        have := HT.out
        rwa [← hl.out, List.take_length] at this)
      clear hl h HT
      go_wp2
      go_ret
      exact ⟨by rw [HF.out]; rfl, rfl⟩
theorem decN_cons (x : UInt8) (l : List UInt8) : decN (x :: l) = x.toNat + 256 * decN l := rfl
theorem wrap_i64 {a : Int} (h : -9223372036854775808 ≤ a ∧ a ≤ 9223372036854775807) : IntKind.i64.wrap a = a := by
  simp only [IntKind.wrap, IntKind.signed, IntKind.bits]
  simp
  omega
theorem or8 (V : Nat) (u : UInt8) (h : V < 281474976710656) : bits .or .i64 (wrap64 ((V : Int) * 256)) (u.toNat : Int) = ((u.toNat + 256 * V : Nat) : Int) := by
  have hu := u.toNat_lt
  have e : (256 * V ||| u.toNat) = u.toNat + 256 * V := by
    rw [← Nat.two_pow_add_eq_or_of_lt (i := 8) hu V]; omega
  have ew : wrap64 ((V : Int) * 256) = ((256 * V : Nat) : Int) := by unfold wrap64; omega
  rw [ew]
  show IntKind.i64.wrap (((BitVec.ofInt 64 ((256 * V : Nat) : Int) ||| BitVec.ofInt 64 (u.toNat : Int)).toNat : Nat) : Int) = _
  rw [BitVec.toNat_or, BitVec.toNat_ofInt, BitVec.toNat_ofInt]
  have e1 : (((256 * V : Nat) : Int) % (2 ^ 64 : Nat)).toNat = 256 * V := by omega
  have e2 : ((u.toNat : Int) % (2 ^ 64 : Nat)).toNat = u.toNat := by omega
  rw [e1, e2, e, wrap_i64 (by omega)]
set_option maxRecDepth 100000 in
set_option maxHeartbeats 1000000 in
theorem get_any (ao : Option Addr) (m c : Nat) (l : List UInt8) (n : Nat) (w : World) (h0 : Row w ao m l) (hm : n ≤ m) (hn : n ≤ 7) (hmx : m ≤ maxLen) :
    Calls Tryd.prog 82 #[.slice ao m c, .int .i64 (n : Int)] w fun e w' => e = .returned (.int .i64 (decN (l.take n) : Int)) ∧ w' = w := by
  unfold maxLen at hmx
  have h := Box.mk h0
  have hl := Box.mk h0.1
  clear h0
  go_enter Tryd.func82, Tryd.ntmps82
  go_wp2
  go_loopw [5, 6] (fun v i wr => ∃ k j : Nat, k + j = n ∧ i = .int .i64 ((k : Int) - 1) ∧ v = .int .i64 (decN ((l.take n).drop k) : Int) ∧ wr = w) (fun v i _ => (intOf i + 1).toNat)
  case atStart => exact ⟨n, 0, rfl, rfl, by rw [List.drop_of_length_le (by rw [List.length_take]; omega)]; rfl, rfl⟩
  case round =>
    obtain ⟨k, j, hkj, rfl, rfl, rfl⟩ := hrel
    match k, hkj with
    | 0, hkj =>
      rw [List.drop_zero]
      go_wp2
      go_ret
      exact ⟨rfl, rfl⟩
    | k + 1, hkj =>
      obtain ⟨b, o, rfl⟩ := h.out.at0 (by omega)
      have hkl : k < l.length := by rw [hl.out]; omega
      have e0 : wr.cell? ⟨b, o + k, none⟩ = some (.int .u8 (l[k]'hkl).toNat) := h.out.cell k hkl
      have hlen : (l.take n).length = n := by rw [List.length_take, hl.out]; omega
      have HS := Box.mk (show (l.take n).drop k = l[k]'hkl :: (l.take n).drop (k + 1) by
        rw [List.drop_eq_getElem_cons (by omega)]
        congr 1
        rw [List.getElem_take])
      have HV : Box (decN ((l.take n).drop (k + 1)) < 281474976710656) := ⟨by
        have := decN_lt ((l.take n).drop (k + 1))
        rw [List.length_drop, hlen] at this
        have h2 : 256 ^ (n - (k + 1)) ≤ 256 ^ 6 := Nat.pow_le_pow_right (by decide) (by omega)
        omega⟩
      obtain ⟨u, hu⟩ : ∃ u, l[k]'hkl = u := ⟨_, rfl⟩
      rw [hu] at e0 HS
      have HD := Box.mk (show decN ((l.take n).drop k) = u.toNat + 256 * decN ((l.take n).drop (k + 1)) by rw [HS.out, decN_cons])
      clear hu hkl hlen HS
      generalize decN ((l.take n).drop (k + 1)) = V at *
      have hk1 : ((k + 1 : Nat) : Int) - 1 = (k : Int) := by omega
      have hk2 : wrap64 ((k : Int) - 1) = (k : Int) - 1 := by unfold wrap64; omega
      have hu1 : wrap64 (u.toNat : Int) = (u.toNat : Int) := by have := u.toNat_lt; unfold wrap64; omega
      have hor := Box.mk (or8 V u HV.out)
      rw [hk1]
      go_wp2
      go_roundw
      case rel => exact ⟨k, j + 1, by omega, rfl, by rw [HD.out, hor.out], trivial⟩
      case measure => simp [intOf]
theorem leN_snoc' (v k : Nat) : leN v (k + 1) = leN v k ++ [UInt8.ofNat (v / 256 ^ k)] := leN_snoc k v
theorem splice_snoc (cs : List Value) (o : Nat) (l : List UInt8) (u : UInt8) (h : o + l.length < cs.length) : (splice cs o (bvs l)).set (o + l.length) (bv u) = splice cs o (bvs (l ++ [u])) := by
  unfold splice
  rw [bvs_append, length_bvs, List.length_append, length_bvs]
  have h1 : (cs.take o).length = o := by rw [List.length_take]; omega
  rw [List.set_append_right _ _ (by omega), h1, List.set_append_right _ _ (by rw [length_bvs]; omega), length_bvs, List.append_assoc]
  have h2 : o + l.length - o - l.length = 0 := by omega
  have h3 : cs.drop (o + l.length) = cs[o + l.length] :: cs.drop (o + l.length + 1) := List.drop_eq_getElem_cons h
  rw [h2, h3, List.set_cons_zero]
  rfl
theorem shrN (v k : Nat) (hk : k < 8) : binOp .shr 3 (.int .i64 (v : Int)) (.int .i64 ((8 * k : Nat) : Int)) = pure (.int .i64 ((v / 256 ^ k : Nat) : Int)) := by
  show Op.shift .shr .i64 (v : Int) .i64 ((8 * k : Nat) : Int) = _
  unfold Op.shift
  rw [if_neg (by omega)]
  have hm : min (((8 * k : Nat) : Int).toNat) IntKind.i64.bits = 8 * k := by simp [IntKind.bits]; omega
  simp only [hm]
  congr 2
  rw [Int.fdiv_eq_ediv_of_nonneg _ (by exact_mod_cast Nat.zero_le _)]
  rw [show (256 : Nat) = 2 ^ 8 from rfl, ← Nat.pow_mul]
  simp
theorem conv_u8 (v : Nat) : ∀ W : World, (convert 3 5 (.int .i64 (v : Int))).run Tryd.prog W = .ok (.int .u8 ((UInt8.ofNat v).toNat : Int)) W := by
  intro W
  simp only [convert, Sem.run_bind, run_underlying Tryd.underlying3, run_underlying Tryd.underlying5, Result.andThen_ok]
  show Result.ok (Value.int .u8 (IntKind.u8.wrap (v : Int))) W = _
  rw [wrap_u8]
set_option maxRecDepth 100000 in
set_option maxHeartbeats 1000000 in
theorem put_any (g off m c : Nat) (v n : Nat) (cs : List Value) (T : TypeId) (w : World) (h0 : w.heap[g]? = some (.cells cs.toArray T (0, 0))) (hn : n ≤ 8) (hm : n ≤ m) (hlen : off + n ≤ cs.length) (hmx : m ≤ maxLen) :
    Calls Tryd.prog 71 #[.slice (some ⟨g, off, none⟩) m c, .int .i64 (v : Int), .int .i64 (n : Int)] w fun e w' => e = .returned (.tuple #[]) ∧ w'.heap[g]? = some (.cells (splice cs off (bvs (leN v n))).toArray T (0, 0)) ∧ Grew w w' [g] := by
  unfold maxLen at hmx
  have hi8 : Box ((Tryd.prog.info? 5).map (·.size) = some 1) := ⟨by kernel_rfl⟩
  have H0 := Box.mk h0
  clear h0
  go_enter Tryd.func71, Tryd.ntmps71
  go_wp2
  go_loopw [8] (fun i wr => ∃ k : Nat, k ≤ n ∧ i = .int .i64 k ∧ Box (wr.heap[g]? = some (.cells (splice cs off (bvs (leN v k))).toArray T (0, 0))) ∧ Box (Grew w wr [g])) (fun i _ => n - (intOf i).toNat)
  case atStart => exact ⟨0, Nat.zero_le _, rfl, ⟨by
    rw [H0.out]
    show _ = some (Obj.cells (splice cs off []).toArray T (0, 0))
    unfold splice; simp⟩, ⟨Grew.refl _ _⟩⟩
  case round =>
    obtain ⟨k, hk, rfl, HC, HG⟩ := hrel
    by_cases hlt : k < n
    · have hl8 : Box (off + k < (splice cs off (bvs (leN v k))).length) := ⟨by
        rw [length_splice]
        · omega
        · rw [length_bvs, length_leN]; omega⟩
      have HS := Box.mk (show (splice cs off (bvs (leN v k))).set (off + k) (bv (UInt8.ofNat (v / 256 ^ k))) = splice cs off (bvs (leN v (k + 1))) by
        rw [leN_snoc']
        have := splice_snoc cs off (leN v k) (UInt8.ofNat (v / 256 ^ k)) (by rw [length_leN]; omega)
        rwa [length_leN] at this)
      have h8 : wrap64 (8 * (k : Int)) = ((8 * k : Nat) : Int) := by unfold wrap64; omega
      have hk8 : Box (k < 8) := ⟨by omega⟩
      generalize splice cs off (bvs (leN v k)) = C at *
      go_wp2_with (first
        | ((with_reducible refine arm_bin .shr 3 3 (.tmp 13) (.tmp 15) ?_ ?_ (.int .i64 (v : Int)) (.int .i64 ((8 * k : Nat) : Int)) (.int .i64 ((v / 256 ^ k : Nat) : Int)) ?_ ?_ rfl (shrN v k hk8.out) ?_); rfl; rfl; rfl; rfl)
        | ((with_reducible refine arm_conv 3 5 (.tmp 16) ?_ ?_ (.int .i64 ((v / 256 ^ k : Nat) : Int)) (.int .u8 ((UInt8.ofNat (v / 256 ^ k)).toNat : Int)) ?_ (conv_u8 _) ?_); rfl; rfl; rfl)
        | ((with_reducible refine arm_store_cell 5 (.tmp 18) (.tmp 17) ?_ rfl g (off + k) ?_ (UInt8.ofNat (v / 256 ^ k)) ?_ hi8.out C T HC.out hl8.out ?_); rfl; rfl; rfl))
      intro w' hg G
      have HC' := Box.mk hg.out
      rw [HS.out] at HC'
      have HG' := Box.mk (HG.out.trans (Grew.of G (F := [g]) fun x hx => by cases hx; simp) fun x hx => .inl hx)
      clear hg G
      go_wp2
      go_roundw
      case rel => exact ⟨k + 1, by omega, by go_num, HC', HG'⟩
      case measure => simp [intOf]; omega
    · obtain rfl : k = n := by omega
      go_wp2
      go_end0
      exact ⟨rfl, HC.out, HG.out⟩
end Go.Proofs.YtopdhanbmnfeeaaDoor

/- frame's superblocks: the walks. -/
namespace Go.Proofs.YtopdhanbmnfeeaaDoor
set_option linter.unusedSectionVars false
set_option linter.unusedSimpArgs false
open Go Go.RowKit
set_option linter.unusedVariables false
def SupAt (w : World) (b : Nat) (s : SupV) : Prop := w.heap[b]? = some (.cells (supC s).toArray 61 (0, 0))
theorem SupAt.cells {w : World} {b : Nat} {s : SupV} (h : SupAt w b s) : w.cell? ⟨b, 0, none⟩ = some (.int .i64 s.width) ∧ w.cell? ⟨b, 1, none⟩ = some (.int .i64 s.gen) ∧ w.cell? ⟨b, 2, none⟩ = some (.int .i64 s.mark) ∧ w.cell? ⟨b, 3, none⟩ = some (.int .i64 s.head) ∧ w.cell? ⟨b, 4, none⟩ = some (.int .i64 s.pages) :=
  ⟨cell_of_row w b 0 _ _ _ h, cell_of_row w b 1 _ _ _ h, cell_of_row w b 2 _ _ _ h, cell_of_row w b 3 _ _ _ h, cell_of_row w b 4 _ _ _ h⟩
theorem valid_no {s : SupV} (h : ¬ ValidS s) : validS s = false := decide_eq_false h
theorem valid_yes {s : SupV} (h : ValidS s) : validS s = true := decide_eq_true h
set_option maxRecDepth 100000 in
set_option maxHeartbeats 4000000 in
theorem valid_any (s : SupV) (w : World) :
    Calls Tryd.prog 70 #[.agg (supC s).toArray] w fun e w' => e = .returned (.bool (validS s)) ∧ Below w.heap.size w w' := by
  have hF := Box.mk (SupAt.cells (w := w.alloc (.cells (supC s).toArray 61)) (b := w.heap.size) (s := s) (heap_new rfl))
  have hB := Box.mk (Below.refl_alloc w (.cells (supC s).toArray 61))
  generalize (supC s).toArray = cs at *
  obtain ⟨f0, f1, f2, f3, f4⟩ := s
  have N : Box (¬ ValidS ⟨f0, f1, f2, f3, f4⟩ → validS ⟨f0, f1, f2, f3, f4⟩ = false) := ⟨valid_no⟩
  have Y : Box (ValidS ⟨f0, f1, f2, f3, f4⟩ → validS ⟨f0, f1, f2, f3, f4⟩ = true) := ⟨valid_yes⟩
  generalize validS ⟨f0, f1, f2, f3, f4⟩ = r at *
  go_enter Tryd.func70, Tryd.ntmps70
  go_upto_region 1 with fail
  generalize w.alloc (.cells cs 61) = w1 at *
  obtain ⟨c0, c1, c2, c3, c4⟩ := hF.out
  clear hF
  rcases Int.lt_or_le f0 1 with a0 | a0
  · obtain rfl := N.out (by unfold ValidS; simp only; omega)
    go_wp2
    go_ret
    exact ⟨rfl, hB.out⟩
  rcases Int.lt_or_le 32 f0 with a1 | a1
  · obtain rfl := N.out (by unfold ValidS; simp only; omega)
    go_wp2
    go_ret
    exact ⟨rfl, hB.out⟩
  rcases Int.lt_or_le f1 0 with a2 | a2
  · obtain rfl := N.out (by unfold ValidS; simp only; omega)
    go_wp2
    go_ret
    exact ⟨rfl, hB.out⟩
  rcases Int.lt_or_le 1099511627776 f1 with a3 | a3
  · obtain rfl := N.out (by unfold ValidS; simp only; omega)
    go_wp2
    go_ret
    exact ⟨rfl, hB.out⟩
  rcases Int.lt_or_le f4 3 with a4 | a4
  · obtain rfl := N.out (by unfold ValidS; simp only; omega)
    go_wp2
    go_ret
    exact ⟨rfl, hB.out⟩
  rcases Int.lt_or_le 4096 f4 with a5 | a5
  · obtain rfl := N.out (by unfold ValidS; simp only; omega)
    go_wp2
    go_ret
    exact ⟨rfl, hB.out⟩
  rcases Int.lt_or_le f2 2 with a6 | a6
  · obtain rfl := N.out (by unfold ValidS; simp only; omega)
    go_wp2
    go_ret
    exact ⟨rfl, hB.out⟩
  rcases Int.lt_or_le f4 f2 with a7 | a7
  · obtain rfl := N.out (by unfold ValidS; simp only; omega)
    go_wp2
    go_ret
    exact ⟨rfl, hB.out⟩
  by_cases a8 : f3 = 0
  · obtain rfl := Y.out (by unfold ValidS; simp only; omega)
    subst a8
    go_wp2
    go_ret
    exact ⟨rfl, hB.out⟩
  have a8' : (f3 == 0) = false := by rw [beq_eq_false_iff_ne]; exact a8
  rcases Int.lt_or_le f3 2 with a9 | a9
  · obtain rfl := N.out (by unfold ValidS; simp only; omega)
    clear a8
    go_wp2
    go_ret
    exact ⟨rfl, hB.out⟩
  rcases Int.lt_or_le f3 f2 with a10 | a10
  · obtain rfl := Y.out (by unfold ValidS; simp only; omega)
    clear a8
    go_wp2
    go_ret
    exact ⟨rfl, hB.out⟩
  · obtain rfl := N.out (by unfold ValidS; simp only; omega)
    clear a8
    go_wp2
    go_ret
    have hd : decide (f3 < f2) = false := decide_eq_false (by omega)
    exact ⟨congrArg (fun b => Ending.returned (Value.bool b)) hd, hB.out⟩
end Go.Proofs.YtopdhanbmnfeeaaDoor

/- Pages as bytes: place, kindOf, Pack. -/
namespace Go.Proofs.YtopdhanbmnfeeaaDoor
set_option linter.unusedSectionVars false
open Go Go.RowKit
set_option maxRecDepth 100000
set_option maxHeartbeats 40000000
set_option linter.unusedVariables false
set_option linter.unusedSimpArgs false
def pageH (kind page : Nat) (load : List UInt8) : List UInt8 := [UInt8.ofNat kind, UInt8.ofNat load.length] ++ leN page 4 ++ load ++ zerosB (246 - load.length)
def pageB (kind page : Nat) (load : List UInt8) : List UInt8 := sealB (pageH kind page load)
def PlaceOk (page : Int) : Prop := 2 ≤ page ∧ page < 4096
instance (page : Int) : Decidable (PlaceOk page) := inferInstanceAs (Decidable (_ ∧ _))
def KindOk (kind : Int) : Prop := 1 ≤ kind ∧ kind ≤ 3
instance (kind : Int) : Decidable (KindOk kind) := inferInstanceAs (Decidable (_ ∧ _))
theorem length_pageH (kind page : Nat) {load : List UInt8} (h : load.length ≤ 246) : (pageH kind page load).length = 252 := by
  simp [pageH, length_leN, zerosB]; omega
theorem length_pageB (kind page : Nat) {load : List UInt8} (h : load.length ≤ 246) : (pageB kind page load).length = 256 := by
  unfold pageB
  rw [length_sealB, length_pageH _ _ h]
def unpgE (page : Int) (raw : List UInt8) : Int :=
  if ¬ PlaceOk page then 54 else if raw.length ≠ 256 then 53 else if wholeB raw = false then 52 else if ¬ KindOk ((raw.getD 0 0).toNat : Int) then 50 else if 246 < (raw.getD 1 0).toNat then 51
  else if ((decN ((raw.drop 2).take 4) : Nat) : Int) ≠ page then 54 else if allZ ((raw.drop (6 + (raw.getD 1 0).toNat)).take (246 - (raw.getD 1 0).toNat)) = false then 53 else 0
def unpgK (page : Int) (raw : List UInt8) : Int := if unpgE page raw = 0 then ((raw.getD 0 0).toNat : Int) else 0
def unpgL (page : Int) (raw : List UInt8) : List UInt8 := if unpgE page raw = 0 then (raw.drop 6).take (raw.getD 1 0).toNat else []
theorem unpg_no {page : Int} {raw : List UInt8} {e : Int} (h : unpgE page raw = e) (he : e ≠ 0) : unpgK page raw = 0 ∧ unpgL page raw = [] := by
  unfold unpgK unpgL
  rw [h, if_neg he, if_neg he]
  exact ⟨rfl, rfl⟩
theorem unpg_yes {page : Int} {raw : List UInt8} (h : unpgE page raw = 0) : unpgK page raw = ((raw.getD 0 0).toNat : Int) ∧ unpgL page raw = (raw.drop 6).take (raw.getD 1 0).toNat := by
  unfold unpgK unpgL
  rw [if_pos h, if_pos h]
  exact ⟨rfl, rfl⟩
theorem allZ_zerosB (n : Nat) : allZ (zerosB n) = true := by
  unfold allZ
  rw [decide_eq_true_iff, zerosB, List.length_replicate]
  rfl
theorem ofNat_toNat8 {n : Nat} (h : n < 256) : (UInt8.ofNat n).toNat = n := by rw [UInt8.toNat_ofNat', Nat.mod_eq_of_lt h]
theorem unpg_pageB {kind page : Nat} {load : List UInt8} (hk : 1 ≤ kind ∧ kind ≤ 3) (hp : 2 ≤ page ∧ page < 4096) (hl : load.length ≤ 246) :
    unpgE (page : Int) (pageB kind page load) = 0 ∧ unpgK (page : Int) (pageB kind page load) = (kind : Int) ∧ unpgL (page : Int) (pageB kind page load) = load := by
  have h256 := length_pageB kind page hl
  have e0 : ((pageB kind page load).getD 0 0).toNat = kind := by
    show (UInt8.ofNat kind).toNat = kind
    exact ofNat_toNat8 (by omega)
  have e1 : ((pageB kind page load).getD 1 0).toNat = load.length := by
    show (UInt8.ofNat load.length).toNat = load.length
    exact ofNat_toNat8 (by omega)
  have e2 : ((pageB kind page load).drop 2).take 4 = leN page 4 := by
    show ((leN page 4 ++ load ++ zerosB (246 - load.length)) ++ sum4 (crcL (pageH kind page load))).take 4 = _
    rw [List.append_assoc, List.append_assoc, List.take_left' (length_leN 4 page)]
  have e6 : (pageB kind page load).drop 6 = load ++ (zerosB (246 - load.length) ++ sum4 (crcL (pageH kind page load))) := by
    show ((leN page 4 ++ load ++ zerosB (246 - load.length)) ++ sum4 (crcL (pageH kind page load))).drop 4 = _
    rw [List.append_assoc, List.append_assoc, List.drop_left' (length_leN 4 page)]
  have e3 : ((pageB kind page load).drop (6 + load.length)).take (246 - load.length) = zerosB (246 - load.length) := by
    rw [← List.drop_drop, e6, List.drop_left' rfl, List.take_left' (by simp [zerosB])]
  have hE : unpgE (page : Int) (pageB kind page load) = 0 := by
    unfold unpgE
    rw [if_neg (by unfold PlaceOk; omega), if_neg (by rw [h256]; decide), if_neg (by rw [show wholeB (pageB kind page load) = true from wholeB_sealB _]; decide), e0, if_neg (by unfold KindOk; omega), e1, if_neg (by omega), e2,
      decN_leN 4 page (by omega), if_neg (by simp), e3, allZ_zerosB, if_neg (by decide)]
  obtain ⟨h1, h2⟩ := unpg_yes hE
  refine ⟨hE, by rw [h1, e0], ?_⟩
  rw [h2, e1, e6, List.take_left' rfl]
theorem place_any (page : Int) (w : World) : zC 84 [zI page] w fun e w' => e = .returned (.bool (decide (PlaceOk page))) ∧ Mem w [] w' [] := by
 have M := Mem.nil w;go_enter Tryd.func84, Tryd.ntmps84;refine zin ?_;refine zk fun K1 hK1 => zr ?_;refine zp 1 rfl ?_;refine zw (hK1 _ _ (zk fun K2 hK2 => zr ?_));refine zp 1 rfl ?_;rcases zem ((2 : Int) ≤ page) with h3 | h3
 ·refine zo M (zgeq rfl (zT h3)) (zp 2 rfl (zo M (y_lss (zwn rfl) rfl (zev rfl) (zev rfl) rfl) (zp 2 rfl ?_)));refine zw (hK2 _ _ (zrt ?_));(try simp only[zi,zj]);refine zR (v := .bool (decide (page < 4096))) (res1 rfl (zgd rfl)) (zdf _) ?_;have e : decide (page < 4096) = decide (PlaceOk page) := decide_eq_decide.2 ⟨fun h => ⟨h3, h⟩, fun h => h.2⟩;rw [e];exact ⟨rfl, M⟩
 ·refine zo M (zgeq rfl (zF h3)) (zp 5 rfl ?_);refine zw (hK2 _ _ (zrt ?_));(try simp only[zi,zj]);refine zR (v := .bool false) (res1 rfl (zgd rfl)) (zdf _) ?_;have e : decide (PlaceOk page) = false := decide_eq_false fun h => h3 h.1;rw [e];exact ⟨rfl, M⟩
theorem kindOf_any (kind : Int) (w : World) : zC 85 [zI kind] w fun e w' => e = .returned (.bool (decide (KindOk kind))) ∧ Mem w [] w' [] := by
 have M := Mem.nil w;go_enter Tryd.func85, Tryd.ntmps85;refine zin ?_;refine zk fun K1 hK1 => zr ?_;refine zp 1 rfl ?_;refine zw (hK1 _ _ (zk fun K2 hK2 => zk fun K3 hK3 => zr ?_));refine zp 1 rfl ?_;refine zw (hK3 _ _ (zbl (zk fun K4 hK4 => zk fun K5 hK5 => zr ?_)));rcases zem (kind = 1) with h6 | h6
 ·refine zo M (zeql rfl (zT h6)) (zp 1 rfl ?_);refine zw (hK5 _ _ (zct rfl (zsk (hK4 _ _ (zct rfl ?_)))));refine zk fun K7 hK7 => zr ?_;refine zp 1 rfl ?_;refine zw (hK7 _ _ (zrt ?_));(try simp only[zi,zj]);refine zR (v := .bool true) (res1 rfl (zgd rfl)) (zdf _) ?_;have e : decide (KindOk kind) = true := decide_eq_true ⟨by omega, by omega⟩;rw [e];exact ⟨rfl, M⟩
 ·refine zo M (zeql rfl (zF h6)) (zp 1 rfl ?_);refine zw (hK5 _ _ (zcf rfl (zk fun K8 hK8 => zr ?_)));rcases zem (kind = 2) with h9 | h9
  ·refine zo M (zeql rfl (zT h9)) (zp 1 rfl ?_);refine zw (hK8 _ _ (zct rfl (zsk (hK4 _ _ (zct rfl ?_)))));refine zk fun K10 hK10 => zr ?_;refine zp 1 rfl ?_;refine zw (hK10 _ _ (zrt ?_));(try simp only[zi,zj]);refine zR (v := .bool true) (res1 rfl (zgd rfl)) (zdf _) ?_;have e : decide (KindOk kind) = true := decide_eq_true ⟨by omega, by omega⟩;rw [e];exact ⟨rfl, M⟩
  ·refine zo M (zeql rfl (zF h9)) (zp 1 rfl ?_);refine zw (hK8 _ _ (zcf rfl (zr ?_)));rcases zem (kind = 3) with h11 | h11
   ·refine zo M (zeql rfl (zT h11)) (zp 1 rfl ?_);refine zw (hK4 _ _ (zct rfl (zk fun K12 hK12 => zr ?_)));refine zp 1 rfl ?_;refine zw (hK12 _ _ (zrt ?_));(try simp only[zi,zj]);refine zR (v := .bool true) (res1 rfl (zgd rfl)) (zdf _) ?_;have e : decide (KindOk kind) = true := decide_eq_true ⟨by omega, by omega⟩;rw [e];exact ⟨rfl, M⟩
   ·refine zo M (zeql rfl (zF h11)) (zp 1 rfl ?_);refine zw (hK4 _ _ (zcf rfl (zsk (hK2 _ _ (zk fun K13 hK13 => ?_)))));refine zr ?_;refine zp 1 rfl ?_;refine zw (hK13 _ _ (zrt ?_));(try simp only[zi,zj]);refine zR (v := .bool false) (res1 rfl (zgd rfl)) (zdf _) ?_;have e : decide (KindOk kind) = false := decide_eq_false fun h => by have := h.1; have := h.2; omega
    rw [e];exact ⟨rfl, M⟩
end Go.Proofs.YtopdhanbmnfeeaaDoor
