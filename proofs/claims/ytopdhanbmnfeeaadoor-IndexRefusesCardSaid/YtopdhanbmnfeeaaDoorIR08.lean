/- Texts joined: Same, Copy, Crc, CrcW. -/
import Derived.Test.YtopdhanbmnfeeaaDoorRows
import Derived.Test.YtopdhanbmnfeeaaDoorIR00
import Derived.Test.YtopdhanbmnfeeaaDoorIR01
import Derived.Test.YtopdhanbmnfeeaaDoorIR07
namespace Go.Proofs.YtopdhanbmnfeeaaDoor
set_option linter.unusedSectionVars false
set_option linter.unusedSimpArgs false
set_option linter.unusedVariables false
open Go Go.RowKit
end Go.Proofs.YtopdhanbmnfeeaaDoor

/- The laws' own lists: copyBytes, roomy, roomyIs. -/
namespace Go.Proofs.YtopdhanbmnfeeaaDoor
set_option linter.unusedSectionVars false
set_option linter.unusedSimpArgs false
open Go Go.RowKit
set_option linter.unusedVariables false
theorem byteTyC : ByteTy Tryd.prog 31 5 := by
  obtain ⟨i, hi⟩ := Option.isSome_iff_exists.1 (show (Tryd.prog.info? 5).isSome = true by kernel_rfl)
  have h : (Tryd.prog.info? 5).map (fun i => (i.zero, i.size, i.bytes)) = some (some (.int .u8 0), 1, 1) := by kernel_rfl
  rw [hi] at h
  simp only [Option.map_some, Option.some.injEq, Prod.mk.injEq] at h
  exact ⟨i, Tryd.underlying31, hi, h.1, h.2.1, h.2.2⟩
end Go.Proofs.YtopdhanbmnfeeaaDoor

/- crc: the walks. -/
namespace Go.Proofs.YtopdhanbmnfeeaaDoor
set_option linter.unusedSectionVars false
set_option linter.unusedSimpArgs false
open Go Go.RowKit
set_option linter.unusedVariables false
section
variable (t : TypeId) (x y : UInt32)
@[go_sem] theorem uv_and15 : binOp .and t (uv x) (.int .u32 15) = pure (uv (x &&& 15)) := uv_and t x 15
@[go_sem ↓ high] theorem uv_not : Op.unary .xor (uv x) = pure (uv (~~~ x)) := by
  show Op.intBits .xor .u32 _ (x.toNat : Int) = _
  have h := uv_xor 0 0xFFFFFFFF x
  have e : (0xFFFFFFFF : UInt32) ^^^ x = ~~~ x := by
    apply UInt32.toBitVec_inj.1
    rw [UInt32.toBitVec_xor, UInt32.toBitVec_not]
    show BitVec.allOnes 32 ^^^ x.toBitVec = _
    rw [BitVec.xor_comm, BitVec.xor_allOnes]
  rw [e] at h
  rw [← h]
  rfl
end
@[go_sem] theorem bv_eql (t : TypeId) (a b : UInt8) : binOp .eql t (bv a) (bv b) = pure (.bool (decide (a = b))) := by
  show binOp .eql t (.int .u8 _) (.int .u8 _) = _
  rw [binOp_eql]
  congr 2
  rw [Bool.eq_iff_iff, beq_iff_eq, decide_eq_true_iff, Int.ofNat_inj, UInt8.toNat_inj]
@[go_sem] theorem eqGuard_bv (op : BinOp) (t : TypeId) (x y : Operand) (a b : UInt8) : eqGuard op t x y (bv a) (bv b) = pure () := by
  unfold eqGuard bv
  split <;> rfl
theorem Row.bcell {w : World} {b o n : Nat} {l : List UInt8} (h : Row w (some ⟨b, o, none⟩) n l) (i : Nat) (hi : i < l.length) : w.cell? ⟨b, o + i, none⟩ = some (bv l[i]) := h.cell i hi
def ix (x : UInt32) : Nat := (x &&& 15).toNat
def z16 : Array Value := #[.int .u32 0, .int .u32 0, .int .u32 0, .int .u32 0, .int .u32 0, .int .u32 0, .int .u32 0, .int .u32 0, .int .u32 0, .int .u32 0, .int .u32 0, .int .u32 0, .int .u32 0, .int .u32 0, .int .u32 0, .int .u32 0]
theorem stepT_cell (w : World) (B : Nat) (h : w.heap[B]? = some (.cells (uvs stepT).toArray 160 (0, 0))) (x : UInt32) : w.cell? ⟨B, ix x, none⟩ = some (uv (stepV (x &&& 15))) := by
  show w.cell? ⟨B, (x &&& 15).toNat, none⟩ = _
  rw [cell_of_row w B _ _ _ _ h, ← Array.getElem?_toList]
  show (uvs stepT)[_]? = _
  have hl : stepT.length = 16 := rfl
  have hx := and15 x
  rw [uvs_getElem?, List.getElem?_eq_getElem (by omega)]
  unfold stepV
  rw [List.getD_eq_getElem?_getD, List.getElem?_eq_getElem (by omega)]
  rfl
set_option maxRecDepth 100000 in
set_option maxHeartbeats 1000000 in
theorem feed_any (r : UInt32) (ao : Option Addr) (n c : Nat) (l : List UInt8) (w : World) (h0 : Row w ao n l) (hm : n ≤ maxLen) :
    Calls Tryd.prog 89 #[uv r, .slice ao n c] w fun e w' => e = .returned (uv (feedL r l)) ∧ Below w.heap.size w w' := by
  unfold maxLen at hm
  have h := Box.mk h0
  have hl := Box.mk h0.1
  have hi : Box ((Tryd.prog.info? 160).map (·.size) = some (uvs stepT).toArray.size) := ⟨by kernel_rfl⟩
  have hal : Box ((uvs stepT).toArray.all (·.oneCell') = true) := ⟨by kernel_rfl⟩
  have hb : Box (Tryd.prog.built 160 [(0, .int .u32 0), (1, .int .u32 498536548), (2, .int .u32 997073096), (3, .int .u32 651767980), (4, .int .u32 1994146192), (5, .int .u32 1802195444), (6, .int .u32 1303535960), (7, .int .u32 1342533948), (8, .int .u32 3988292384), (9, .int .u32 4027552580), (10, .int .u32 3604390888), (11, .int .u32 3412177804), (12, .int .u32 2607071920), (13, .int .u32 2262029012), (14, .int .u32 2685067896), (15, .int .u32 3183342108)] = some (uvs stepT).toArray) := ⟨by kernel_rfl⟩
  have hidx : ∀ (x : UInt32) (W : World), (Instr.indexAt 160 (.pointer (some ⟨w.heap.size, 0, none⟩)) (uv (x &&& 15))).run Tryd.prog W = .ok (.pointer (some ⟨w.heap.size, ix x, none⟩)) W := fun x W => by
    show _ = Result.ok (Value.pointer (some ⟨w.heap.size, (x &&& 15).toNat, none⟩)) W
    have hx := and15 x
    have hs : ∀ W', (sizeOf (Tryd.prog.elem 160)).run Tryd.prog W' = .ok 1 W' := fun W' => by kernel_rfl
    have hn : Tryd.prog.arrayLen 160 = 16 := by kernel_rfl
    unfold uv
    rw [run_indexAt_array (P := Tryd.prog) W 160 _ .u32 _ (by kernel_rfl), hn, if_pos (by omega), hs]
    simp [Result.andThen, Addr.add_mid]
  clear h0
  go_enter Tryd.func89, Tryd.ntmps89
  go_upto_region 1 with fail
  obtain ⟨st, hst⟩ : ∃ z, (uvs stepT).toArray = z := ⟨_, rfl⟩
  have HST := Box.mk hst
  rw [hst] at hi hal hb
  clear hst
  go_upto_region 2 with (first
    | ((with_reducible refine arm_built 160 [(0, .const (.int .u32 0)), (1, .const (.int .u32 498536548)), (2, .const (.int .u32 997073096)), (3, .const (.int .u32 651767980)), (4, .const (.int .u32 1994146192)), (5, .const (.int .u32 1802195444)), (6, .const (.int .u32 1303535960)), (7, .const (.int .u32 1342533948)), (8, .const (.int .u32 3988292384)), (9, .const (.int .u32 4027552580)), (10, .const (.int .u32 3604390888)), (11, .const (.int .u32 3412177804)), (12, .const (.int .u32 2607071920)), (13, .const (.int .u32 2262029012)), (14, .const (.int .u32 2685067896)), (15, .const (.int .u32 3183342108))] ?_ ?_ _ ?_ st hb.out ?_); rfl; rfl; rfl)
    | ((with_reducible refine wpList_store_row rfl 160 (.tmp 5) (.tmp 8) ?_ w.heap.size z16 st 160 ?_ ?_ ?_ ?_ hi.out hal.out ?_); rfl; rfl; rfl; exact heap_new rfl; (rw [← HST.out]; rfl)))
  intro w1 g1 G1
  have F1 := Box.mk g1.out
  rw [← HST.out] at F1
  have B1 := Box.mk ((Below.refl_alloc w _).grown G1 (by simp) (fun k hk => by cases hk; exact Nat.le_refl _))
  have hC := stepT_cell w1 w.heap.size F1.out
  clear g1 G1 F1 HST hb hi hal
  go_wp2
  go_loopw [0, 11] (fun r' i wr => ∃ k : Nat, k ≤ n ∧ r' = uv (feedL r (l.take k)) ∧ i = .int .i64 k ∧ wr = w1) (fun _ i _ => n - (intOf i).toNat)
  case atStart => exact ⟨0, Nat.zero_le _, rfl, rfl, rfl⟩
  case round =>
    obtain ⟨k, hk, rfl, rfl, rfl⟩ := hrel
    by_cases hlt : k < n
    · obtain ⟨b, o, rfl⟩ := h.out.at0 (by omega)
      have hkl : k < l.length := by rw [hl.out]; exact hlt
      have e0 : wr.cell? ⟨b, o + k, none⟩ = some (bv (l[k]'hkl)) := (h.out.old B1.out).bcell k hkl
      have HF := Box.mk (feedL_succ r l k hkl)
      generalize l[k]'hkl = u at *
      generalize feedL r (l.take k) = q at *
      clear hkl
      go_wp2
      go_roundw
      case rel => exact ⟨k + 1, by omega, by rw [HF.out]; rfl, by go_num, trivial⟩
      case measure => simp [intOf]; omega
    · obtain rfl : k = n := by omega
      have HF := Box.mk (show l.take k = l by rw [← hl.out, List.take_length])
      clear hl h
      go_wp2
      go_ret
      exact ⟨by rw [HF.out]; rfl, B1.out⟩
theorem update_any (r : UInt32) (ao : Option Addr) (n c : Nat) (l : List UInt8) (w : World) (h0 : Row w ao n l) (hm : n ≤ maxLen) :
    Calls Tryd.prog 87 #[uv r, .slice ao n c] w fun e w' => e = .returned (uv (updL r l)) ∧ Below w.heap.size w w' := by
  have h := Box.mk h0
  have hf := Box.mk (feed_any (~~~ r) ao n c l w h0 hm)
  clear h0
  go_enter Tryd.func87, Tryd.ntmps87
  go_wp2_with (go_at_call 89; refine (calls_box hf.out).mono ?_)
  rintro e w1 ⟨⟨rfl, hB⟩⟩
  have B := Box.mk hB
  clear hB
  go_wp2
  go_ret
  exact ⟨rfl, B.out⟩
theorem csum_any (ao : Option Addr) (n c : Nat) (l : List UInt8) (w : World) (h0 : Row w ao n l) (hm : n ≤ maxLen) :
    Calls Tryd.prog 83 #[.slice ao n c] w fun e w' => e = .returned (uv (crcL l)) ∧ Below w.heap.size w w' := by
  have hf := Box.mk (show Calls Tryd.prog 87 #[.int .u32 0, .slice ao n c] w fun e w' => e = .returned (uv (updL 0 l)) ∧ Below w.heap.size w w' from update_any 0 ao n c l w h0 hm)
  clear h0
  go_enter Tryd.func83, Tryd.ntmps83
  go_wp2_with (go_at_call 87; refine (calls_box hf.out).mono ?_)
  rintro e w1 ⟨⟨rfl, hB⟩⟩
  have B := Box.mk hB
  clear hB
  go_wp2
  go_ret
  exact ⟨rfl, B.out⟩
set_option maxRecDepth 100000 in
set_option maxHeartbeats 1000000 in
theorem seal_any (ao : Option Addr) (n c : Nat) (l : List UInt8) (w : World) (h0 : Row w ao n l) (hn : ao = none → n = 0 ∧ c = 0) (hm : n ≤ 140737488351232) :
    Calls Tryd.prog 72 #[.slice ao n c] w fun e w' => (∃ g cap, e = .returned (.slice (some ⟨g, 0, none⟩) (n + 4) cap) ∧ Own w' w.heap.size 5 (.slice (some ⟨g, 0, none⟩) (n + 4) cap) (sealB l)) ∧ Below w.heap.size w w' := by
  have h := Box.mk h0
  have hl := Box.mk h0.1
  have hnil := Box.mk hn
  have hf := Box.mk (csum_any ao n c l w h0 (by unfold maxLen; omega))
  have hadd : wrap64 ((n : Int) + 4) = ((n + 4 : Nat) : Int) := by unfold wrap64; omega
  clear h0 hn
  go_enter Tryd.func72, Tryd.ntmps72
  go_upto_region 2 with (go_at_call 83; refine (calls_box hf.out).mono ?_)
  rintro e w1 ⟨⟨rfl, hB⟩⟩
  have B1 := Box.mk hB
  have R1 := Box.mk (h.out.old hB)
  have HE := Box.mk (show sealB l = ([] ++ l) ++ sum4 (crcL l) from rfl)
  clear hB hf h
  generalize crcL l = s at *
  go_wp2_with ((with_reducible refine wpList_make_bytes byteTyC _ rfl (.const (.int .i64 0)) (.tmp 9) ?_ w.heap.size .i64 .i64 ((n : Int) + 4) (n + 4) ?_ ?_ (by omega) (by omega) B1.out.size ?_); rfl; rfl; rfl)
  intro w2 own2 G2 hs2
  have B2 := Box.mk (B1.out.grown G2 B1.out.size (fun k hk => by cases hk))
  have O2 := Box.mk own2
  have R2 := Box.mk (R1.out.grownAny G2 (fun _ _ _ => by simp))
  have hg := Box.mk B1.out.size
  clear own2 G2 B1 R1
  go_wp2_with ((with_reducible refine wpList_append_room byteTyC _ rfl (.tmp 11) (.tmp 12) ?_ w.heap.size _ 0 (n + 4) [] ?_ rfl O2.out ao n c l ?_ hnil.out R2.out (by omega) ?_); rfl; rfl; rfl)
  intro w3 own3 G3
  have B3 := Box.mk (B2.out.grown G3 (by have := hg.out; omega) (fun k hk => by cases hk; exact hg.out))
  have O3 := Box.mk own3
  clear own3 G3 O2 B2 R2
  have hsz3 := Box.mk (show w.heap.size ≤ w3.heap.size from B3.out.size)
  go_wp2_with ((with_reducible refine wpList_append_room byteTyC _ rfl (.tmp 14) (.tmp 26) ?_ w.heap.size _ n (n + 4) l ?_ hl.out (O3.out.alloc _) (some ⟨w3.heap.size, 0, none⟩) 4 4 (sum4 s) ?_ (by intro h; cases h) ?_ (by omega) ?_); rfl; rfl; rfl; exact Row.lit w3 _ 5 (sum4 s) (sum4_cells s))
  intro w4 own4 G4
  have B4 := Box.mk ((B3.out.alloc B3.out.size _).grown G4 (by have := hsz3.out; simp; omega) (fun k hk => by cases hk; exact hg.out))
  have O4 := Box.mk own4
  clear own4 G4
  go_wp2
  go_ret
  exact ⟨⟨_, _, rfl, by rw [HE.out]; exact O4.out⟩, B4.out⟩
end Go.Proofs.YtopdhanbmnfeeaaDoor

/- crc.Whole: the walk. -/
namespace Go.Proofs.YtopdhanbmnfeeaaDoor
set_option linter.unusedSectionVars false
set_option linter.unusedSimpArgs false
open Go Go.RowKit
set_option linter.unusedVariables false
theorem wholeB_eq (l : List UInt8) (m : Nat) (h : l.length = m + 4) (s : UInt32) (hs : crcL (l.take m) = s) :
    wholeB l = (decide (l[m]'(by omega) = s.toUInt8) && decide (l[m + 1]'(by omega) = (s >>> 8).toUInt8) && decide (l[m + 2]'(by omega) = (s >>> 16).toUInt8) && decide (l[m + 3]'(by omega) = (s >>> 24).toUInt8)) := by
  unfold wholeB
  have e : l.length - 4 = m := by omega
  rw [e, hs]
  have hd : l.drop m = [l[m]'(by omega), l[m + 1]'(by omega), l[m + 2]'(by omega), l[m + 3]'(by omega)] := by
    apply List.ext_getElem
    · simp; omega
    · intro i h1 h2
      rw [List.getElem_drop]
      match i, h2 with
      | 0, _ => rfl
      | 1, _ => rfl
      | 2, _ => rfl
      | 3, _ => rfl
  rw [hd]
  rw [Bool.eq_iff_iff]
  simp [sum4, and_assoc, h]
set_option maxRecDepth 100000 in
set_option maxHeartbeats 2000000 in
theorem whole_any (ao : Option Addr) (n c : Nat) (l : List UInt8) (w : World) (h0 : Row w ao n l) (hm : n ≤ maxLen) (hnc : n ≤ c) (hcm : c ≤ maxLen) :
    Calls Tryd.prog 80 #[.slice ao n c] w fun e w' => e = .returned (.bool (wholeB l)) ∧ Below w.heap.size w w' := by
  unfold maxLen at hm hcm
  by_cases hn : n < 4
  · have HF := Box.mk (show wholeB l = false by
      have := h0.1
      unfold wholeB
      rw [decide_eq_false_iff_not]; omega)
    clear h0
    go_enter Tryd.func80, Tryd.ntmps80
    go_wp2
    go_ret
    exact ⟨by rw [HF.out]; rfl, Below.refl _ w⟩
  · obtain ⟨m, rfl⟩ : ∃ m, n = m + 4 := ⟨n - 4, by omega⟩
    have hl := h0.1
    have HF := Box.mk (wholeB_eq l m hl _ rfl)
    have hf := Box.mk (csum_any ao m c (l.take m) w (h0.take m (by omega)) (by unfold maxLen; omega))
    obtain ⟨b, o, rfl⟩ := h0.at0 (by omega)
    have hC := Box.mk (fun (W : World) (hW : Below w.heap.size w W) => show W.cell? ⟨b, o + m, none⟩ = some (bv (l[m]'(by omega))) ∧ W.cell? ⟨b, o + (m + 1), none⟩ = some (bv (l[m + 1]'(by omega))) ∧ W.cell? ⟨b, o + (m + 2), none⟩ = some (bv (l[m + 2]'(by omega))) ∧ W.cell? ⟨b, o + (m + 3), none⟩ = some (bv (l[m + 3]'(by omega))) from
      ⟨(h0.old hW).bcell m (by omega), (h0.old hW).bcell (m + 1) (by omega), (h0.old hW).bcell (m + 2) (by omega), (h0.old hW).bcell (m + 3) (by omega)⟩)
    generalize crcL (l.take m) = s at *
    generalize l[m]'(by omega) = x0 at *
    generalize l[m + 1]'(by omega) = x1 at *
    generalize l[m + 2]'(by omega) = x2 at *
    generalize l[m + 3]'(by omega) = x3 at *
    clear h0 hl hn
    go_enter Tryd.func80, Tryd.ntmps80
    go_upto_region 5 with (go_at_call 83; refine (calls_box hf.out).mono ?_)
    rintro e w1 ⟨⟨rfl, hB⟩⟩
    have B1 := Box.mk hB
    obtain ⟨c0, c1, c2, c3⟩ := hC.out w1 hB
    clear hB hf hC
    generalize hd0 : decide (x0 = s.toUInt8) = d0 at *
    generalize hd1 : decide (x1 = (s >>> 8).toUInt8) = d1 at *
    generalize hd2 : decide (x2 = (s >>> 16).toUInt8) = d2 at *
    generalize hd3 : decide (x3 = (s >>> 24).toUInt8) = d3 at *
    cases d0
    · go_wp2
      go_ret
      exact ⟨by rw [HF.out]; rfl, B1.out⟩
    cases d1
    · go_wp2
      go_ret
      exact ⟨by rw [HF.out]; rfl, B1.out⟩
    cases d2
    · go_wp2
      go_ret
      exact ⟨by rw [HF.out]; rfl, B1.out⟩
    cases d3
    · go_wp2
      go_ret
      exact ⟨by rw [HF.out]; rfl, B1.out⟩
    · go_wp2
      go_ret
      exact ⟨by rw [HF.out]; rfl, B1.out⟩
end Go.Proofs.YtopdhanbmnfeeaaDoor
