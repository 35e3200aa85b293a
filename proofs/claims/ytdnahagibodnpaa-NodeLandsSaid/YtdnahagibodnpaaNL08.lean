/- Texts joined: Crc, CrcW, I64, Frame0. -/
import Derived.Test.YtdnahagibodnpaaRows
import Derived.Test.YtdnahagibodnpaaNL05
import Derived.Test.YtdnahagibodnpaaNL02
import Derived.Test.YtdnahagibodnpaaNL07
import Derived.Test.YtdnahagibodnpaaNL00
/- crc: the walks. -/
namespace Go.Proofs.Ytdnahagibodnpaa
set_option linter.unusedSectionVars false
set_option linter.unusedSimpArgs false
open Go Go.RowKit
set_option linter.unusedVariables false
section
variable (t : TypeId) (x y : UInt32)
@[go_sem] theorem uv_and15 : binOp .and t (uv x) (.int .u32 15) = pure (uv (x &&& 15)) := uv_and t x 15
@[go_sem ↓ high] theorem uv_not : Op.unary .xor (uv x) = pure (uv (~~~ x)) := by
  show Op.intBits .xor .u32 _ (x.toNat : Int) = _
  have h := uv_xor 0 0xFFFFFFFF x
  have e : (0xFFFFFFFF : UInt32) ^^^ x = ~~~ x := by
    apply UInt32.toBitVec_inj.1
    rw [UInt32.toBitVec_xor, UInt32.toBitVec_not]
    show BitVec.allOnes 32 ^^^ x.toBitVec = _
    rw [BitVec.xor_comm, BitVec.xor_allOnes]
  rw [e] at h
  rw [← h]
  rfl
end
@[go_sem] theorem bv_eql (t : TypeId) (a b : UInt8) : binOp .eql t (bv a) (bv b) = pure (.bool (decide (a = b))) := by
  show binOp .eql t (.int .u8 _) (.int .u8 _) = _
  rw [binOp_eql]
  congr 2
  rw [Bool.eq_iff_iff, beq_iff_eq, decide_eq_true_iff, Int.ofNat_inj, UInt8.toNat_inj]
@[go_sem] theorem eqGuard_bv (op : BinOp) (t : TypeId) (x y : Operand) (a b : UInt8) : eqGuard op t x y (bv a) (bv b) = pure () := by
  unfold eqGuard bv
  split <;> rfl
theorem Row.bcell {w : World} {b o n : Nat} {l : List UInt8} (h : Row w (some ⟨b, o, none⟩) n l) (i : Nat) (hi : i < l.length) : w.cell? ⟨b, o + i, none⟩ = some (bv l[i]) := h.cell i hi
def ix (x : UInt32) : Nat := (x &&& 15).toNat
def z16 : Array Value := #[.int .u32 0, .int .u32 0, .int .u32 0, .int .u32 0, .int .u32 0, .int .u32 0, .int .u32 0, .int .u32 0, .int .u32 0, .int .u32 0, .int .u32 0, .int .u32 0, .int .u32 0, .int .u32 0, .int .u32 0, .int .u32 0]
theorem stepT_cell (w : World) (B : Nat) (h : w.heap[B]? = some (.cells (uvs stepT).toArray 111 (0, 0))) (x : UInt32) : w.cell? ⟨B, ix x, none⟩ = some (uv (stepV (x &&& 15))) := by
  show w.cell? ⟨B, (x &&& 15).toNat, none⟩ = _
  rw [cell_of_row w B _ _ _ _ h, ← Array.getElem?_toList]
  show (uvs stepT)[_]? = _
  have hl : stepT.length = 16 := rfl
  have hx := and15 x
  rw [uvs_getElem?, List.getElem?_eq_getElem (by omega)]
  unfold stepV
  rw [List.getD_eq_getElem?_getD, List.getElem?_eq_getElem (by omega)]
  rfl
set_option maxRecDepth 100000 in
set_option maxHeartbeats 1000000 in
theorem feed_any (r : UInt32) (ao : Option Addr) (n c : Nat) (l : List UInt8) (w : World) (h0 : Row w ao n l) (hm : n ≤ maxLen) :
    Calls Try.prog 53 #[uv r, .slice ao n c] w fun e w' => e = .returned (uv (feedL r l)) ∧ Below w.heap.size w w' := by
  unfold maxLen at hm
  have h := Box.mk h0
  have hl := Box.mk h0.1
  have hi : Box ((Try.prog.info? 111).map (·.size) = some (uvs stepT).toArray.size) := ⟨by kernel_rfl⟩
  have hal : Box ((uvs stepT).toArray.all (·.oneCell') = true) := ⟨by kernel_rfl⟩
  have hb : Box (Try.prog.built 111 [(0, .int .u32 0), (1, .int .u32 498536548), (2, .int .u32 997073096), (3, .int .u32 651767980), (4, .int .u32 1994146192), (5, .int .u32 1802195444), (6, .int .u32 1303535960), (7, .int .u32 1342533948), (8, .int .u32 3988292384), (9, .int .u32 4027552580), (10, .int .u32 3604390888), (11, .int .u32 3412177804), (12, .int .u32 2607071920), (13, .int .u32 2262029012), (14, .int .u32 2685067896), (15, .int .u32 3183342108)] = some (uvs stepT).toArray) := ⟨by kernel_rfl⟩
  have hidx : ∀ (x : UInt32) (W : World), (Instr.indexAt 111 (.pointer (some ⟨w.heap.size, 0, none⟩)) (uv (x &&& 15))).run Try.prog W = .ok (.pointer (some ⟨w.heap.size, ix x, none⟩)) W := fun x W => by
    show _ = Result.ok (Value.pointer (some ⟨w.heap.size, (x &&& 15).toNat, none⟩)) W
    have hx := and15 x
    have hs : ∀ W', (sizeOf (Try.prog.elem 111)).run Try.prog W' = .ok 1 W' := fun W' => by kernel_rfl
    have hn : Try.prog.arrayLen 111 = 16 := by kernel_rfl
    unfold uv
    rw [run_indexAt_array (P := Try.prog) W 111 _ .u32 _ (by kernel_rfl), hn, if_pos (by omega), hs]
    simp [Result.andThen, Addr.add_mid]
  clear h0
  go_enter Try.func53, Try.ntmps53
  go_upto_region 1 with fail
  obtain ⟨st, hst⟩ : ∃ z, (uvs stepT).toArray = z := ⟨_, rfl⟩
  have HST := Box.mk hst
  rw [hst] at hi hal hb
  clear hst
  go_upto_region 2 with (first
    | ((with_reducible refine arm_built 111 [(0, .const (.int .u32 0)), (1, .const (.int .u32 498536548)), (2, .const (.int .u32 997073096)), (3, .const (.int .u32 651767980)), (4, .const (.int .u32 1994146192)), (5, .const (.int .u32 1802195444)), (6, .const (.int .u32 1303535960)), (7, .const (.int .u32 1342533948)), (8, .const (.int .u32 3988292384)), (9, .const (.int .u32 4027552580)), (10, .const (.int .u32 3604390888)), (11, .const (.int .u32 3412177804)), (12, .const (.int .u32 2607071920)), (13, .const (.int .u32 2262029012)), (14, .const (.int .u32 2685067896)), (15, .const (.int .u32 3183342108))] ?_ ?_ _ ?_ st hb.out ?_); rfl; rfl; rfl)
    | ((with_reducible refine wpList_store_row rfl 111 (.tmp 5) (.tmp 8) ?_ w.heap.size z16 st 111 ?_ ?_ ?_ ?_ hi.out hal.out ?_); rfl; rfl; rfl; exact heap_new rfl; (rw [← HST.out]; rfl)))
  intro w1 g1 G1
  have F1 := Box.mk g1.out
  rw [← HST.out] at F1
  have B1 := Box.mk ((Below.refl_alloc w _).grown G1 (by simp) (fun k hk => by cases hk; exact Nat.le_refl _))
  have hC := stepT_cell w1 w.heap.size F1.out
  clear g1 G1 F1 HST hb hi hal
  go_wp2
  go_loopw [0, 11] (fun r' i wr => ∃ k : Nat, k ≤ n ∧ r' = uv (feedL r (l.take k)) ∧ i = .int .i64 k ∧ wr = w1) (fun _ i _ => n - (intOf i).toNat)
  case atStart => exact ⟨0, Nat.zero_le _, rfl, rfl, rfl⟩
  case round =>
    obtain ⟨k, hk, rfl, rfl, rfl⟩ := hrel
    by_cases hlt : k < n
    · obtain ⟨b, o, rfl⟩ := h.out.at0 (by omega)
      have hkl : k < l.length := by rw [hl.out]; exact hlt
      have e0 : wr.cell? ⟨b, o + k, none⟩ = some (bv (l[k]'hkl)) := (h.out.old B1.out).bcell k hkl
      have HF := Box.mk (feedL_succ r l k hkl)
      generalize l[k]'hkl = u at *
      generalize feedL r (l.take k) = q at *
      clear hkl
      go_wp2
      go_roundw
      case rel => exact ⟨k + 1, by omega, by rw [HF.out]; rfl, by go_num, trivial⟩
      case measure => simp [intOf]; omega
    · obtain rfl : k = n := by omega
      have HF := Box.mk (show l.take k = l by rw [← hl.out, List.take_length])
      clear hl h
      go_wp2
      go_ret
      exact ⟨by rw [HF.out]; rfl, B1.out⟩
theorem update_any (r : UInt32) (ao : Option Addr) (n c : Nat) (l : List UInt8) (w : World) (h0 : Row w ao n l) (hm : n ≤ maxLen) :
    Calls Try.prog 52 #[uv r, .slice ao n c] w fun e w' => e = .returned (uv (updL r l)) ∧ Below w.heap.size w w' := by
  have h := Box.mk h0
  have hf := Box.mk (feed_any (~~~ r) ao n c l w h0 hm)
  clear h0
  go_enter Try.func52, Try.ntmps52
  go_wp2_with (go_at_call 53; refine (calls_box hf.out).mono ?_)
  rintro e w1 ⟨⟨rfl, hB⟩⟩
  have B := Box.mk hB
  clear hB
  go_wp2
  go_ret
  exact ⟨rfl, B.out⟩
theorem csum_any (ao : Option Addr) (n c : Nat) (l : List UInt8) (w : World) (h0 : Row w ao n l) (hm : n ≤ maxLen) :
    Calls Try.prog 51 #[.slice ao n c] w fun e w' => e = .returned (uv (crcL l)) ∧ Below w.heap.size w w' := by
  have hf := Box.mk (show Calls Try.prog 52 #[.int .u32 0, .slice ao n c] w fun e w' => e = .returned (uv (updL 0 l)) ∧ Below w.heap.size w w' from update_any 0 ao n c l w h0 hm)
  clear h0
  go_enter Try.func51, Try.ntmps51
  go_wp2_with (go_at_call 52; refine (calls_box hf.out).mono ?_)
  rintro e w1 ⟨⟨rfl, hB⟩⟩
  have B := Box.mk hB
  clear hB
  go_wp2
  go_ret
  exact ⟨rfl, B.out⟩
set_option maxRecDepth 100000 in
set_option maxHeartbeats 1000000 in
theorem seal_any (ao : Option Addr) (n c : Nat) (l : List UInt8) (w : World) (h0 : Row w ao n l) (hn : ao = none → n = 0 ∧ c = 0) (hm : n ≤ 140737488351232) :
    Calls Try.prog 41 #[.slice ao n c] w fun e w' => (∃ g cap, e = .returned (.slice (some ⟨g, 0, none⟩) (n + 4) cap) ∧ Own w' w.heap.size 5 (.slice (some ⟨g, 0, none⟩) (n + 4) cap) (sealB l)) ∧ Below w.heap.size w w' := by
  have h := Box.mk h0
  have hl := Box.mk h0.1
  have hnil := Box.mk hn
  have hf := Box.mk (csum_any ao n c l w h0 (by unfold maxLen; omega))
  have hadd : wrap64 ((n : Int) + 4) = ((n + 4 : Nat) : Int) := by unfold wrap64; omega
  clear h0 hn
  go_enter Try.func41, Try.ntmps41
  go_upto_region 2 with (go_at_call 51; refine (calls_box hf.out).mono ?_)
  rintro e w1 ⟨⟨rfl, hB⟩⟩
  have B1 := Box.mk hB
  have R1 := Box.mk (h.out.old hB)
  have HE := Box.mk (show sealB l = ([] ++ l) ++ sum4 (crcL l) from rfl)
  clear hB hf h
  generalize crcL l = s at *
  go_wp2_with ((with_reducible refine wpList_make_bytes byteTyC _ rfl (.const (.int .i64 0)) (.tmp 9) ?_ w.heap.size .i64 .i64 ((n : Int) + 4) (n + 4) ?_ ?_ (by omega) (by omega) B1.out.size ?_); rfl; rfl; rfl)
  intro w2 own2 G2 hs2
  have B2 := Box.mk (B1.out.grown G2 B1.out.size (fun k hk => by cases hk))
  have O2 := Box.mk own2
  have R2 := Box.mk (R1.out.grownAny G2 (fun _ _ _ => by simp))
  have hg := Box.mk B1.out.size
  clear own2 G2 B1 R1
  go_wp2_with ((with_reducible refine wpList_append_room byteTyC _ rfl (.tmp 11) (.tmp 12) ?_ w.heap.size _ 0 (n + 4) [] ?_ rfl O2.out ao n c l ?_ hnil.out R2.out (by omega) ?_); rfl; rfl; rfl)
  intro w3 own3 G3
  have B3 := Box.mk (B2.out.grown G3 (by have := hg.out; omega) (fun k hk => by cases hk; exact hg.out))
  have O3 := Box.mk own3
  clear own3 G3 O2 B2 R2
  have hsz3 := Box.mk (show w.heap.size ≤ w3.heap.size from B3.out.size)
  go_wp2_with ((with_reducible refine wpList_append_room byteTyC _ rfl (.tmp 14) (.tmp 26) ?_ w.heap.size _ n (n + 4) l ?_ hl.out (O3.out.alloc _) (some ⟨w3.heap.size, 0, none⟩) 4 4 (sum4 s) ?_ (by intro h; cases h) ?_ (by omega) ?_); rfl; rfl; rfl; exact Row.lit w3 _ 5 (sum4 s) (sum4_cells s))
  intro w4 own4 G4
  have B4 := Box.mk ((B3.out.alloc B3.out.size _).grown G4 (by have := hsz3.out; simp; omega) (fun k hk => by cases hk; exact hg.out))
  have O4 := Box.mk own4
  clear own4 G4
  go_wp2
  go_ret
  exact ⟨⟨_, _, rfl, by rw [HE.out]; exact O4.out⟩, B4.out⟩
end Go.Proofs.Ytdnahagibodnpaa

/- crc.Whole: the walk. -/
namespace Go.Proofs.Ytdnahagibodnpaa
set_option linter.unusedSectionVars false
set_option linter.unusedSimpArgs false
open Go Go.RowKit
set_option linter.unusedVariables false
theorem wholeB_eq (l : List UInt8) (m : Nat) (h : l.length = m + 4) (s : UInt32) (hs : crcL (l.take m) = s) :
    wholeB l = (decide (l[m]'(by omega) = s.toUInt8) && decide (l[m + 1]'(by omega) = (s >>> 8).toUInt8) && decide (l[m + 2]'(by omega) = (s >>> 16).toUInt8) && decide (l[m + 3]'(by omega) = (s >>> 24).toUInt8)) := by
  unfold wholeB
  have e : l.length - 4 = m := by omega
  rw [e, hs]
  have hd : l.drop m = [l[m]'(by omega), l[m + 1]'(by omega), l[m + 2]'(by omega), l[m + 3]'(by omega)] := by
    apply List.ext_getElem
    · simp; omega
    · intro i h1 h2
      rw [List.getElem_drop]
      match i, h2 with
      | 0, _ => rfl
      | 1, _ => rfl
      | 2, _ => rfl
      | 3, _ => rfl
  rw [hd]
  rw [Bool.eq_iff_iff]
  simp [sum4, and_assoc, h]
set_option maxRecDepth 100000 in
set_option maxHeartbeats 2000000 in
theorem whole_any (ao : Option Addr) (n c : Nat) (l : List UInt8) (w : World) (h0 : Row w ao n l) (hm : n ≤ maxLen) (hnc : n ≤ c) (hcm : c ≤ maxLen) :
    Calls Try.prog 43 #[.slice ao n c] w fun e w' => e = .returned (.bool (wholeB l)) ∧ Below w.heap.size w w' := by
  unfold maxLen at hm hcm
  by_cases hn : n < 4
  · have HF := Box.mk (show wholeB l = false by
      have := h0.1
      unfold wholeB
      rw [decide_eq_false_iff_not]; omega)
    clear h0
    go_enter Try.func43, Try.ntmps43
    go_wp2
    go_ret
    exact ⟨by rw [HF.out]; rfl, Below.refl _ w⟩
  · obtain ⟨m, rfl⟩ : ∃ m, n = m + 4 := ⟨n - 4, by omega⟩
    have hl := h0.1
    have HF := Box.mk (wholeB_eq l m hl _ rfl)
    have hf := Box.mk (csum_any ao m c (l.take m) w (h0.take m (by omega)) (by unfold maxLen; omega))
    obtain ⟨b, o, rfl⟩ := h0.at0 (by omega)
    have hC := Box.mk (fun (W : World) (hW : Below w.heap.size w W) => show W.cell? ⟨b, o + m, none⟩ = some (bv (l[m]'(by omega))) ∧ W.cell? ⟨b, o + (m + 1), none⟩ = some (bv (l[m + 1]'(by omega))) ∧ W.cell? ⟨b, o + (m + 2), none⟩ = some (bv (l[m + 2]'(by omega))) ∧ W.cell? ⟨b, o + (m + 3), none⟩ = some (bv (l[m + 3]'(by omega))) from
      ⟨(h0.old hW).bcell m (by omega), (h0.old hW).bcell (m + 1) (by omega), (h0.old hW).bcell (m + 2) (by omega), (h0.old hW).bcell (m + 3) (by omega)⟩)
    generalize crcL (l.take m) = s at *
    generalize l[m]'(by omega) = x0 at *
    generalize l[m + 1]'(by omega) = x1 at *
    generalize l[m + 2]'(by omega) = x2 at *
    generalize l[m + 3]'(by omega) = x3 at *
    clear h0 hl hn
    go_enter Try.func43, Try.ntmps43
    go_upto_region 5 with (go_at_call 51; refine (calls_box hf.out).mono ?_)
    rintro e w1 ⟨⟨rfl, hB⟩⟩
    have B1 := Box.mk hB
    obtain ⟨c0, c1, c2, c3⟩ := hC.out w1 hB
    clear hB hf hC
    generalize hd0 : decide (x0 = s.toUInt8) = d0 at *
    generalize hd1 : decide (x1 = (s >>> 8).toUInt8) = d1 at *
    generalize hd2 : decide (x2 = (s >>> 16).toUInt8) = d2 at *
    generalize hd3 : decide (x3 = (s >>> 24).toUInt8) = d3 at *
    cases d0
    · go_wp2
      go_ret
      exact ⟨by rw [HF.out]; rfl, B1.out⟩
    cases d1
    · go_wp2
      go_ret
      exact ⟨by rw [HF.out]; rfl, B1.out⟩
    cases d2
    · go_wp2
      go_ret
      exact ⟨by rw [HF.out]; rfl, B1.out⟩
    cases d3
    · go_wp2
      go_ret
      exact ⟨by rw [HF.out]; rfl, B1.out⟩
    · go_wp2
      go_ret
      exact ⟨by rw [HF.out]; rfl, B1.out⟩
end Go.Proofs.Ytdnahagibodnpaa

/- Numbers of an int. No program in sight. -/
namespace Go.Proofs.Ytdnahagibodnpaa
set_option linter.unusedSectionVars false
set_option linter.unusedSimpArgs false
set_option linter.unusedVariables false
open Go Go.RowKit
def inI (a : Int) : Prop := -9223372036854775808 ≤ a ∧ a ≤ 9223372036854775807
theorem inI_wrap (a : Int) : inI (wrap64 a) := by unfold inI wrap64; omega
end Go.Proofs.Ytdnahagibodnpaa

/- Superblocks as bytes, in plain Lean. No program in sight. -/
namespace Go.Proofs.Ytdnahagibodnpaa
set_option linter.unusedSectionVars false
set_option linter.unusedSimpArgs false
open Go Go.RowKit
set_option linter.unusedVariables false
structure SupV where
  width : Int
  gen : Int
  mark : Int
  head : Int
  pages : Int
deriving DecidableEq
def supC (s : SupV) : List Value := [.int .i64 s.width, .int .i64 s.gen, .int .i64 s.mark, .int .i64 s.head, .int .i64 s.pages]
def noSup : SupV := ⟨0, 0, 0, 0, 0⟩
def ValidS (s : SupV) : Prop := 1 ≤ s.width ∧ s.width ≤ 32 ∧ 0 ≤ s.gen ∧ s.gen ≤ 1099511627776 ∧ 3 ≤ s.pages ∧ s.pages ≤ 4096 ∧ 2 ≤ s.mark ∧ s.mark ≤ s.pages ∧ (s.head = 0 ∨ (2 ≤ s.head ∧ s.head < s.mark))
instance (s : SupV) : Decidable (ValidS s) := inferInstanceAs (Decidable (_ ∧ _))
def validS (s : SupV) : Bool := decide (ValidS s)
def leN (v : Nat) : Nat → List UInt8
  | 0 => []
  | n + 1 => UInt8.ofNat v :: leN (v / 256) n
theorem length_leN (n : Nat) : ∀ v, (leN v n).length = n := by
  induction n with
  | zero => intro v; rfl
  | succ n ih => intro v; simp [leN, ih]
def decN : List UInt8 → Nat
  | [] => 0
  | x :: l => x.toNat + 256 * decN l
theorem decN_leN (n : Nat) : ∀ v, v < 256 ^ n → decN (leN v n) = v := by
  induction n with
  | zero => intro v h; simp at h; subst h; rfl
  | succ n ih =>
    intro v h
    show (UInt8.ofNat v).toNat + 256 * decN (leN (v / 256) n) = v
    rw [ih _ (Nat.div_lt_of_lt_mul (by rw [Nat.pow_succ] at h; omega)), UInt8.toNat_ofNat']
    omega
theorem decN_lt : ∀ l : List UInt8, decN l < 256 ^ l.length
  | [] => by simp [decN]
  | x :: l => by
    have := decN_lt l
    have := x.toNat_lt
    rw [List.length_cons, Nat.pow_succ]
    show x.toNat + 256 * decN l < _
    omega
theorem leN_snoc (n : Nat) : ∀ v, leN v (n + 1) = leN v n ++ [UInt8.ofNat (v / 256 ^ n)] := by
  induction n with
  | zero => intro v; simp [leN]
  | succ n ih =>
    intro v
    rw [leN, ih (v / 256), leN, Nat.div_div_eq_div_mul, Nat.pow_succ, Nat.mul_comm (256 ^ n)]
    rfl
def lettersB : List UInt8 := [76, 68, 71, 49]
def zerosB (n : Nat) : List UInt8 := List.replicate n 0
def headB (s : SupV) : List UInt8 :=
  lettersB ++ (UInt8.ofNat s.width.toNat :: (zerosB 3 ++ (leN s.gen.toNat 8 ++ (leN s.mark.toNat 4 ++ (leN s.head.toNat 4 ++ (leN s.pages.toNat 4 ++ zerosB 32))))))
theorem length_headB (s : SupV) : (headB s).length = 60 := by simp [headB, lettersB, zerosB, length_leN]
def superB (s : SupV) : List UInt8 := sealB (headB s) ++ zerosB 192
theorem length_superB (s : SupV) : (superB s).length = 256 := by
  unfold superB zerosB
  rw [List.length_append, length_sealB, length_headB, List.length_replicate]
def supOf (b : List UInt8) : SupV := ⟨((b.getD 4 0).toNat : Int), (decN ((b.drop 8).take 7) : Int), (decN ((b.drop 16).take 4) : Int), (decN ((b.drop 20).take 4) : Int), (decN ((b.drop 24).take 4) : Int)⟩
def allZ (l : List UInt8) : Bool := decide (l = zerosB l.length)
def formS (b : List UInt8) : Bool := eqB (b.take 4) lettersB && allZ ((b.drop 5).take 3) && allZ ((b.drop 28).take 32) && allZ ((b.drop 15).take 1)
def unpE (raw : List UInt8) : Int :=
  if raw.length ≠ 256 then 53 else if wholeB (raw.take 64) = false then 52 else if formS (raw.take 64) = false then 53 else if validS (supOf (raw.take 64)) = false then 53 else 0
def unpS (raw : List UInt8) : SupV := if unpE raw = 0 then supOf (raw.take 64) else noSup
def emptyB (raw : List UInt8) : Bool := decide (raw.length = 256 ∧ raw.take 64 = zerosB 64)
def overS (a b : SupV) : SupV := if a.gen < b.gen then b else a
def underS (a b : SupV) : SupV := if a.gen < b.gen then a else b
def NewerOk (a b : SupV) : Prop := a.gen % 2 = 0 ∧ b.gen % 2 = 1 ∧ overS a b = { underS a b with gen := (underS a b).gen + 1, mark := (overS a b).mark, head := (overS a b).head } ∧ (underS a b).mark ≤ (overS a b).mark
instance (a b : SupV) : Decidable (NewerOk a b) := inferInstanceAs (Decidable (_ ∧ _))
def newerE (a b : SupV) : Int := if NewerOk a b then 0 else 4
def newerS (a b : SupV) : SupV := if NewerOk a b then overS a b else noSup
def chooseE (a b : List UInt8) : Int :=
  if unpE a = 0 ∧ unpE b = 0 then newerE (unpS a) (unpS b)
  else if emptyB b = false then 4
  else if (unpE a = 0 ∧ (unpS a).gen = 0) ∨ emptyB a = true then 55 else 4
def chooseS (a b : List UInt8) : SupV := if unpE a = 0 ∧ unpE b = 0 then newerS (unpS a) (unpS b) else noSup
theorem wholeB_superB (s : SupV) : wholeB ((superB s).take 64) = true := by
  unfold superB
  rw [List.take_left' (by rw [length_sealB, length_headB])]
  exact wholeB_sealB _
theorem formS_superB (s : SupV) (hg : s.gen.toNat < 256 ^ 7) : formS ((superB s).take 64) = true := by
  have h : formS ((superB s).take 64) = (true && (true && allZ [UInt8.ofNat (s.gen.toNat / 256 / 256 / 256 / 256 / 256 / 256 / 256)])) := by rfl
  have h0 : s.gen.toNat / 256 / 256 / 256 / 256 / 256 / 256 / 256 = 0 := by omega
  rw [h, h0]; rfl
theorem supOf_superB (s : SupV) (hv : ValidS s) : supOf ((superB s).take 64) = s := by
  obtain ⟨h1, h2, h3, h4, h5, h6, h7, h8, h9⟩ := hv
  have e : supOf ((superB s).take 64) = ⟨((UInt8.ofNat s.width.toNat).toNat : Int), (decN (leN s.gen.toNat 7) : Int), (decN (leN s.mark.toNat 4) : Int), (decN (leN s.head.toNat 4) : Int), (decN (leN s.pages.toNat 4) : Int)⟩ := by rfl
  have hh : s.head < 4096 ∧ 0 ≤ s.head := by rcases h9 with h | h <;> omega
  rw [e, decN_leN _ _ (by omega), decN_leN _ _ (by omega), decN_leN _ _ (by omega), decN_leN _ _ (by omega), UInt8.toNat_ofNat']
  cases s
  simp only at *
  congr <;> omega
theorem unpE_superB (s : SupV) (hv : ValidS s) : unpE (superB s) = 0 := by
  unfold unpE
  rw [length_superB, wholeB_superB, formS_superB s (by have := hv.2.2.1; have := hv.2.2.2.1; omega), supOf_superB s hv]
  simp [validS, hv]
theorem unpS_superB (s : SupV) (hv : ValidS s) : unpS (superB s) = s := by
  unfold unpS
  rw [unpE_superB s hv, if_pos rfl, supOf_superB s hv]
theorem unpE_zero : unpE (zerosB 256) = 52 := by decide +kernel
theorem emptyB_zero : emptyB (zerosB 256) = true := by decide +kernel
end Go.Proofs.Ytdnahagibodnpaa
