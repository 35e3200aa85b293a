/- The digest of what was taken: the walk of (*Hasher).Sum. -/
import Derived.Test.YteiepenanffhcaaDoorWrite
namespace Go.Proofs.YteiepenanffhcaaDoor
open Go Go.RowKit
set_option linter.unusedVariables false

/-- So many zeros. -/
def zeros (n : Nat) : List UInt8 := List.replicate n 0
/-- What is laid behind a text: the mark, and the length in bits from place n on (k bytes of it). -/
def tailN (n L : Nat) : Nat → List UInt8
  | 0 => (zeros 128).set 0 128
  | k + 1 => (tailN n L k).set (n + k) (UInt8.ofNat (L / 2 ^ (56 - 8 * k)))
theorem length_tailN (n L : Nat) : ∀ k, (tailN n L k).length = 128
  | 0 => by simp [tailN, zeros]
  | k + 1 => by simp [tailN, length_tailN n L k]
theorem wrap_eight (tk : UInt64) : IntKind.u64.wrap ((tk.toNat : Int) * 8) = ((tk * 8).toNat : Int) := by
  have h1 : ∀ m : Int, IntKind.u64.wrap m = m % 18446744073709551616 := fun m => by simp [IntKind.wrap, IntKind.signed, IntKind.bits]
  rw [h1, UInt64.toNat_mul]
  show _ = ((tk.toNat * 8 % 2 ^ 64 : Nat) : Int)
  omega
theorem bvs_cell {w : World} {B i : Nat} {l : List UInt8} {t : TypeId} {fr : Nat × Nat} (h : w.heap[B]? = some (.cells (bvs l).toArray t fr)) (hi : i < l.length) : w.cell? ⟨B, i, none⟩ = some (bv (l.getD i 0)) := by
  have := (Row.of_row h).byte i hi
  rwa [Nat.zero_add] at this
theorem bvs_set {w : World} {B i : Nat} {l : List UInt8} {t : TypeId} (x : UInt8) (h : w.heap[B]? = some (.cells (bvs l).toArray t (0, 0))) :
    (w.setCell ⟨B, i, none⟩ (bv x)).heap[B]? = some (.cells (bvs (l.set i x)).toArray t (0, 0)) := by
  rw [heap_setCell_same w B i _ t (bv x) h]
  simp [bvs, List.map_set]
theorem byte_div (L n : Nat) : Value.int .u8 ((L : Int) / 2 ^ n % 256) = bv (UInt8.ofNat (L / 2 ^ n)) := by
  unfold bv
  congr 1
theorem hcells_all (st : List UInt32) (rest : List UInt8) (hv : Nat) (tk : UInt64) : (hcells st rest hv tk).toArray.all (·.oneCell') = true := by
  rw [Array.all_eq_true_iff_forall_mem]
  intro v hv'
  have : v ∈ hcells st rest hv tk := by simpa using hv'
  unfold hcells at this
  simp only [List.mem_append, List.mem_cons, List.not_mem_nil, or_false] at this
  rcases this with h | h | rfl | rfl
  · exact uvs_oneCell st v h
  · exact bvs_oneCell rest v h
  · rfl
  · rfl

/-- The bytes of the words of a state, the first k words of them. -/
def outN (st : List UInt32) : Nat → List UInt8
  | 0 => List.replicate 32 0
  | k + 1 => ((((outN st k).set (4 * k) (st.getD k 0 >>> 24).toUInt8).set (4 * k + 1) (st.getD k 0 >>> 16).toUInt8).set (4 * k + 2) (st.getD k 0 >>> 8).toUInt8).set (4 * k + 3) (st.getD k 0).toUInt8
theorem length_outN (st : List UInt32) : ∀ k, (outN st k).length = 32
  | 0 => by simp [outN]
  | k + 1 => by simp [outN, length_outN st k]
/-- The digest that a hasher of this state tells. -/
def finD (K st : List UInt32) (rest : List UInt8) (hv : Nat) (tk : UInt64) : List UInt8 :=
  outN (absorb K st (rest.take hv ++ (tailN ((119 - hv) % 64 + 1) (tk * 8).toNat 8).take ((119 - hv) % 64 + 1 + 8)) ((hv + ((119 - hv) % 64 + 1 + 8)) / 64)) 8
theorem absorb_fill (K st : List UInt32) (rest l : List UInt8) (hv n : Nat) (hr : rest.length = 64) (hv64 : hv < 64) (hl : l.length = n) (hfull : 64 ≤ hv + n) :
    absorb K (compress K st (splice rest hv (l.take (64 - hv)))) (l.drop (64 - hv)) ((n - (64 - hv)) / 64) = absorb K st (rest.take hv ++ l) ((hv + n) / 64) := by
  have h1 : (hv + n) / 64 = (n - (64 - hv)) / 64 + 1 := by omega
  have h2 : (l.take (64 - hv)).length = 64 - hv := by rw [List.length_take]; omega
  have h3 : (rest.take hv).length = hv := by rw [List.length_take]; omega
  rw [h1, absorb_cons, List.take_append, List.drop_append, h3]
  rw [List.take_of_length_le (by rw [h3]; omega : (rest.take hv).length ≤ 64), List.drop_of_length_le (by rw [h3]; omega : (rest.take hv).length ≤ 64), List.nil_append]
  unfold splice
  rw [h2, show hv + (64 - hv) = 64 by omega, List.drop_of_length_le (by omega : rest.length ≤ 64), List.append_nil]
theorem hcells_range {w : World} {b : Nat} {st : List UInt32} {rest : List UInt8} {hv : Nat} {tk : UInt64} {t : TypeId} {fr : Nat × Nat} (h : w.heap[b]? = some (.cells (hcells st rest hv tk).toArray t fr)) :
    w.rangeAt b 0 (uvs st) := fun j v hj => by
  rw [Nat.zero_add, cell_of_row w b j _ t fr h, ← Array.getElem?_toList]
  show (hcells st rest hv tk)[j]? = _
  have hl : j < (uvs st).length := by
    rcases Nat.lt_or_ge j (uvs st).length with h | h
    · exact h
    · rw [List.getElem?_eq_none h] at hj; cases hj
  unfold hcells
  rw [List.getElem?_append_left hl, hj]
theorem s8_of {l : List UInt32} (h : l.length = 8) : ∃ S : S8, l = S.list := by
  match l, h with
  | [a, b, c, d, e, f, g, z], _ => exact ⟨⟨a, b, c, d, e, f, g, z⟩, rfl⟩

set_option maxRecDepth 100000 in
set_option maxHeartbeats 4000000 in
theorem summ_any (K st : List UInt32) (rest : List UInt8) (hv : Nat) (tk : UInt64) (b : Nat) (w : World) (hst : st.length = 8) (hr : rest.length = 64) (hK : K.length = 64) (hv64 : hv < 64)
    (hb : w.heap[b]? = some (.cells (hcells st rest hv tk).toArray 87 (0, 0)))
    (hk : ∀ i, i < 64 → w.cell? ⟨2, i, none⟩ = some (uv (K.getD i 0))) :
    Calls Tryd.prog 55 #[.pointer (some ⟨b, 0, none⟩)] w fun e w' => e = .returned (.agg (bvs (finD K st rest hv tk)).toArray) ∧ Below w.heap.size w w' := by
  have hbl := heap_lt hb
  have hg1 : 2 < w.heap.size := block_lt_of_cell (hk 0 (by omega))
  have HS : Box (st.length = 8) := ⟨hst⟩
  have HR : Box (rest.length = 64) := ⟨hr⟩
  have HK : Box (K.length = 64) := ⟨hK⟩
  have hi46 : Box ((Tryd.prog.info? 87).map (·.size) = some (hcells st rest hv tk).toArray.size) := ⟨by
    have h : (Tryd.prog.info? 87).map (·.size) = some 74 := by kernel_rfl
    rw [h]; unfold hcells; simp [hst, hr]⟩
  have HB : Box (w.heap[b]? = some (.cells (hcells st rest hv tk).toArray 87 (0, 0))) := ⟨hb⟩
  have hs74 : Box ((hcells st rest hv tk).toArray.size = 74) := ⟨by unfold hcells; simp [hst, hr]⟩
  have hall : Box ((hcells st rest hv tk).toArray.all (·.oneCell') = true) := ⟨hcells_all st rest hv tk⟩
  clear hst hr hK hb
  have hz : ∀ W : World, (zeroValue 87).run Tryd.prog W = .ok (.agg (hcells (List.replicate 8 0) (List.replicate 64 0) 0 0).toArray) W := fun W => by kernel_rfl
  have hz74 : Box ((hcells (List.replicate 8 0) (List.replicate 64 0) 0 0).toArray.size = (hcells st rest hv tk).toArray.size) := ⟨by rw [hs74.out]; unfold hcells; simp⟩
  go_enter Tryd.func55, Tryd.ntmps55
  go_wp2_with (first
    | (refine wpList_load_row rfl 87 (.tmp 12) rfl b rfl 87 _ (0, 0) _ (heap_old HB.out) Tryd.underlying87 rfl hi46.out ?_)
    | (refine wpList_store_row rfl 87 (.tmp 3) (.tmp 13) rfl (w.heap.size + 1) _ _ 87 rfl rfl (heap_new (by simp)) hz74.out hi46.out hall.out ?_))
  intro w1 g1 G1
  have HB1 : Box (w1.heap[w.heap.size + 1]? = some (.cells (hcells st rest hv tk).toArray 87 (0, 0))) := ⟨g1.out⟩
  have hbelow1 : Below w.heap.size w w1 := (((Below.refl_alloc w _).alloc (by simp) _)).grown G1 (by simp; omega) (fun k hk => by cases hk; omega)
  have hsz1 : w.heap.size + 2 ≤ w1.heap.size := by have := G1.size; simpa using this
  have hlt1 : w.heap.size + 1 < w1.heap.size := by omega
  have c73 := (hcells_at HB1.out HS.out HR.out).2
  have c72 := (hcells_at HB1.out HS.out HR.out).1
  have hal : Tryd.prog.arrayLen 92 = 128 := by kernel_rfl
  have i1 : (hv : Int) < 64 := by omega
  have i2 : (0 : Int) ≤ (hv : Int) := by omega
  have hzt : ∀ W : World, (zeroValue 92).run Tryd.prog W = .ok (.agg (bvs (zeros 128)).toArray) W := fun W => by kernel_rfl
  have R1 : Box (w1.heap[w.heap.size]? = some (.cells (bvs (List.replicate 32 0)).toArray 27 (0, 0))) := ⟨(G1.block w.heap.size (by simp; omega) (by simp)).trans (heap_old (heap_new rfl))⟩
  clear g1 G1 hz
  obtain ⟨nn, hnn⟩ : ∃ nn : Nat, (119 - (hv : Int)) % 64 + 1 = (nn : Int) := ⟨((119 - (hv : Int)) % 64 + 1).toNat, by omega⟩
  obtain ⟨L, hL⟩ : ∃ L : Nat, IntKind.u64.wrap ((tk.toNat : Int) * 8) = (L : Int) := ⟨(tk * 8).toNat, wrap_eight tk⟩
  have HNN : Box ((119 - (hv : Int)) % 64 + 1 = (nn : Int)) := ⟨hnn⟩
  have HL : Box (IntKind.u64.wrap ((tk.toNat : Int) * 8) = (L : Int)) := ⟨hL⟩
  have hnn1 : 1 ≤ nn := by omega
  have hnn2 : nn ≤ 64 := by omega
  go_wp2_with fail
  clear hnn hL c72 c73
  refine wp_anyWorld (fun W => Hid (W.heap[w1.heap.size]? = some (.cells (bvs (tailN nn L 0)).toArray 92 (0, 0))) ∧ Below w1.heap.size w1 W)
    ⟨heap_new rfl, Below.refl_alloc w1 _⟩ ?_
  rintro W ⟨g0, B0⟩
  go_loopw [24, 7] (fun i t7 wr => ∃ k : Nat, k ≤ 8 ∧ i = .int .i64 k ∧ Hid (wr.heap[w1.heap.size]? = some (.cells (bvs (tailN nn L k)).toArray 92 (0, 0))) ∧ Below w1.heap.size w1 wr) (fun i _ _ => 8 - (intOf i).toNat)
  case atStart => exact ⟨0, by omega, rfl, g0, B0⟩
  case round =>
    obtain ⟨k, hk8, rfl, gr, Br⟩ := hrel
    by_cases hlt : k < 8
    · have hlen := length_tailN nn L k
      have cB := bvs_cell gr.out (i := nn + k) (by omega)
      have zB := frozen_of_row _ w1.heap.size (nn + k) _ 92 gr.out
      clear hlen
      go_wp2_with fail
      go_roundw
      case rel =>
        refine ⟨k + 1, by omega, by go_num, ?_, Br.setCell (Nat.le_refl _) _⟩
        rw [byte_div]
        exact bvs_set _ gr.out
      case measure => simp [intOf]; omega
    · have k8 : k = 8 := by omega
      have HT : Box ((tailN nn L 8).length = 128) := ⟨length_tailN nn L 8⟩
      have gr8 : Hid (wr.heap[w1.heap.size]? = some (.cells (bvs (tailN nn L 8)).toArray 92 (0, 0))) := by rw [← k8]; exact gr
      have HB2 : Box (wr.heap[w.heap.size + 1]? = some (.cells (hcells st rest hv tk).toArray 87 (0, 0))) := ⟨(Br.block _ hlt1).trans HB1.out⟩
      have hrow : Row wr (some ⟨w1.heap.size, 0, none⟩) (nn + 8) ((tailN nn L 8).take (nn + 8)) := by
        have := (Row.of_row gr8.out).take (nn + 8) (by rw [HT.out]; omega)
        exact this
      have hbr : Below w.heap.size w wr := hbelow1.trans (Br.mono hbelow1.size)
      have hkr : ∀ i, i < 64 → wr.cell? ⟨2, i, none⟩ = some (uv (K.getD i 0)) := fun i hi => (hbr.cell (p := ⟨2, i, none⟩) hg1).trans (hk i hi)
      have HKR := Lib.hid hkr
      have hne1 : w.heap.size + 1 ≠ 2 := by omega
      have hnn3 : 64 ≤ hv + (nn + 8) := by have := HNN.out; omega
      have j1 : (0 : Int) ≤ (nn : Int) + 8 := by omega
      have j2 : (nn : Int) + 8 ≤ 128 := by omega
      have j3 : ((nn : Int) + 8).toNat = nn + 8 := by omega
      have hal51 : Tryd.prog.arrayLen 92 = 128 := hal
      have hu51 : Tryd.prog.underlying 28 = some (.slice 5) := Tryd.underlying28
      have hsz : Box ((Tryd.prog.info? 5).map (·.size) = some 1) := ⟨by kernel_rfl⟩
      have hw : Calls Tryd.prog 54 #[.pointer (some ⟨w.heap.size + 1, 0, none⟩), .slice (some ⟨w1.heap.size, 0, none⟩) (nn + 8) 128] wr fun e w' =>
          e = .returned (.tuple #[]) ∧ (∃ rest' hv' tk', rest'.length = 64 ∧ w'.heap[w.heap.size + 1]? = some (.cells (hcells (absorb K st (rest.take hv ++ (tailN nn L 8).take (nn + 8)) ((hv + (nn + 8)) / 64)) rest' hv' tk').toArray 87 (0, 0))) ∧ wr.grownBy w' (some (w.heap.size + 1)) := by
        by_cases h0 : hv = 0
        · subst h0
          have e56 : nn + 8 = 64 := by have := HNN.out; omega
          refine (write_zero K st rest tk (w.heap.size + 1) (some ⟨w1.heap.size, 0, none⟩) (nn + 8) 128 _ wr HS.out HR.out HK.out HB2.out hrow (by omega) (by omega) (fun h => by cases h) (fun b' o' h => by cases h; omega) hne1 hkr).mono fun e w' ⟨h1, h2, h3⟩ => ⟨h1, ⟨splice rest 0 (((tailN nn L 8).take (nn + 8)).drop (64 * ((nn + 8) / 64))), (nn + 8) % 64, tk + UInt64.ofNat (nn + 8), ?_, ?_⟩, h3⟩
          · rw [length_splice' (by rw [List.length_drop, List.length_take, HT.out, HR.out]; omega)]; exact HR.out
          · rw [List.take_zero, List.nil_append, Nat.zero_add]; exact h2
        · refine (write_fill K st rest hv tk (w.heap.size + 1) w1.heap.size 0 (nn + 8) 128 _ wr HS.out HR.out HK.out (by omega) hv64 HB2.out hrow (by omega) (by omega) hnn3 (by omega) hne1 hkr).mono fun e w' ⟨h1, h2, h3⟩ => ⟨h1, ⟨_, _, _, ?_, (by rw [← absorb_fill K st rest _ hv (nn + 8) HR.out hv64 hrow.1 hnn3]; exact h2)⟩, h3⟩
          have y1 : (splice rest hv (((tailN nn L 8).take (nn + 8)).take (64 - hv))).length = 64 := by
            rw [length_splice' (by rw [List.length_take, List.length_take, HT.out, HR.out]; omega)]; exact HR.out
          rw [length_splice' (by rw [List.length_drop, List.length_drop, List.length_take, HT.out, y1]; omega)]
          exact y1
      clear hkr
      go_wp2_with (go_at_call 54; refine hw.mono ?_)
      rintro e w2 ⟨rfl, ⟨rest', hv', tk', hr', g2⟩, G2⟩
      obtain ⟨S, hS⟩ := s8_of (l := absorb K st (rest.take hv ++ (tailN nn L 8).take (nn + 8)) ((hv + (nn + 8)) / 64)) (by rw [length_absorb]; exact HS.out)
      rw [hS] at g2
      have HG2 : Box (w2.heap[w.heap.size + 1]? = some (.cells (hcells S.list rest' hv' tk').toArray 87 (0, 0))) := ⟨g2⟩
      have hbw2 : Below w.heap.size w w2 := hbr.grown G2 hbr.size (fun k hk => by cases hk; omega)
      have R2 : Box (w2.heap[w.heap.size]? = some (.cells (bvs (List.replicate 32 0)).toArray 27 (0, 0))) := ⟨(G2.block w.heap.size (by have := Br.size; omega) (by simp)).trans ((Br.block w.heap.size (by omega)).trans R1.out)⟩
      have hi42 : Box ((Tryd.prog.info? 83).map (·.size) = some (uvs S.list).length) := ⟨by
        have h : (Tryd.prog.info? 83).map (·.size) = some 8 := by kernel_rfl
        rw [h]; rfl⟩
      clear g2 G2
      have hzd : ∀ W : World, (zeroValue 27).run Tryd.prog W = .ok (.agg (bvs (List.replicate 32 0)).toArray) W := fun W => by kernel_rfl
      go_wp2_with (refine wpList_load_mid rfl 83 (.tmp 42) rfl (w.heap.size + 1) 0 rfl (uvs S.list) _ (hcells_range (heap_old HG2.out)) Tryd.underlying83 rfl hi42.out ?_)
      refine wp_anyWorld (fun W => Hid (W.heap[w2.heap.size]? = some (.cells (bvs (outN S.list 0)).toArray 27 (0, 0))) ∧ Below w2.heap.size w2 W ∧ w2.heap.size < W.heap.size)
        ⟨heap_new rfl, Below.refl_alloc w2 _, by simp⟩ ?_
      rintro W3 ⟨g3, B3, s3⟩
      go_loopw [44, 9, 10] (fun i t9 t10 wr => ∃ k : Nat, k ≤ 8 ∧ i = .int .i64 k ∧ Hid (wr.heap[w2.heap.size]? = some (.cells (bvs (outN S.list k)).toArray 27 (0, 0))) ∧ Below w2.heap.size w2 wr ∧ w2.heap.size < wr.heap.size) (fun i _ _ _ => 8 - (intOf i).toNat)
      case atStart => exact ⟨0, by omega, rfl, g3, B3, s3⟩
      case round =>
        obtain ⟨k, hk8, rfl, gr, Br, sr⟩ := hrel
        by_cases hlt : k < 8
        · have hix : ∀ W : World, (Instr.index 83 (.agg (uvs S.list).toArray) (.int .i64 (k : Int))).run Tryd.prog W = .ok (uv (S.list.getD k 0)) W := fun W => index8 S k hlt W
          have hnext : outN S.list (k + 1) = ((((outN S.list k).set (4 * k) (S.list.getD k 0 >>> 24).toUInt8).set (4 * k + 1) (S.list.getD k 0 >>> 16).toUInt8).set (4 * k + 2) (S.list.getD k 0 >>> 8).toUInt8).set (4 * k + 3) (S.list.getD k 0).toUInt8 := by rw [outN]
          generalize S.list.getD k 0 = x at hix hnext
          have HN := Lib.hid hnext
          clear hnext
          have hlo : (outN S.list k).length = 32 := length_outN _ _
          have c0 := bvs_cell gr.out (i := 4 * k) (by omega)
          have z0 := frozen_of_row _ _ (4 * k) _ 27 gr.out
          have q1 := bvs_set (i := 4 * k) (x >>> 24).toUInt8 gr.out
          have c1 := bvs_cell q1 (i := 4 * k + 1) (by rw [List.length_set]; omega)
          have z1 := frozen_of_row _ _ (4 * k + 1) _ 27 q1
          have q2 := bvs_set (i := 4 * k + 1) (x >>> 16).toUInt8 q1
          have c2 := bvs_cell q2 (i := 4 * k + 2) (by rw [List.length_set, List.length_set]; omega)
          have z2 := frozen_of_row _ _ (4 * k + 2) _ 27 q2
          have q3 := bvs_set (i := 4 * k + 2) (x >>> 8).toUInt8 q2
          have c3 := bvs_cell q3 (i := 4 * k + 3) (by rw [List.length_set, List.length_set, List.length_set]; omega)
          have z3 := frozen_of_row _ _ (4 * k + 3) _ 27 q3
          have q4 := bvs_set (i := 4 * k + 3) x.toUInt8 q3
          have C0 := Lib.hid c0
          have C1 := Lib.hid c1
          have C2 := Lib.hid c2
          have C3 := Lib.hid c3
          have Z0 := Lib.hid z0
          have Z1 := Lib.hid z1
          have Z2 := Lib.hid z2
          have Z3 := Lib.hid z3
          have Q4 := Lib.hid q4
          clear c0 c1 c2 c3 z0 z1 z2 z3 q1 q2 q3 q4 hlo
          have hi5 : Box ((Tryd.prog.info? 5).map (·.size) = some 1) := ⟨by kernel_rfl⟩
          have k0 : (0 : Int) ≤ (k : Int) := by omega
          have k1 : (k : Int) < 8 := by omega
          have n0 : (0 : Int) ≤ 4 * (k : Int) := by omega
          have n1 : (0 : Int) ≤ 4 * (k : Int) + 1 := by omega
          have n2 : (0 : Int) ≤ 4 * (k : Int) + 2 := by omega
          have n3 : (0 : Int) ≤ 4 * (k : Int) + 3 := by omega
          have m0 : 4 * (k : Int) < 32 := by omega
          have m1 : 4 * (k : Int) + 1 < 32 := by omega
          have m2 : 4 * (k : Int) + 2 < 32 := by omega
          have m3 : 4 * (k : Int) + 3 < 32 := by omega
          have t0 : (4 * (k : Int)).toNat = 4 * k := by omega
          have t1 : (4 * (k : Int) + 1).toNat = 4 * k + 1 := by omega
          have t2 : (4 * (k : Int) + 2).toNat = 4 * k + 2 := by omega
          have t3 : (4 * (k : Int) + 3).toNat = 4 * k + 3 := by omega
          have e0 := IntWalk.i64_in (4 * (k : Int)) (by omega)
          have e1 := IntWalk.i64_in (4 * (k : Int) + 1) (by omega)
          have e2 := IntWalk.i64_in (4 * (k : Int) + 2) (by omega)
          have e3 := IntWalk.i64_in (4 * (k : Int) + 3) (by omega)
          have hal32 : Tryd.prog.arrayLen 27 = 32 := by kernel_rfl
          go_wp2_with (first
            | (refine wpList_store_int rfl 5 (.tmp 70) (.tmp 61) ?_ ⟨w2.heap.size, 4 * k, none⟩ (bv (x >>> 24).toUInt8) ?_ ?_ ?_ ?_ ?_ ?_ ?_; rfl; rfl; rfl; exact ⟨_, _, rfl⟩; exact hi5.out; exact ⟨_, C0.out⟩; exact Z0.out)
            | (refine wpList_store_int rfl 5 (.tmp 71) (.tmp 64) ?_ ⟨w2.heap.size, 4 * k + 1, none⟩ (bv (x >>> 16).toUInt8) ?_ ?_ ?_ ?_ ?_ ?_ ?_; rfl; rfl; rfl; exact ⟨_, _, rfl⟩; exact hi5.out; exact ⟨_, C1.out⟩; exact Z1.out)
            | (refine wpList_store_int rfl 5 (.tmp 72) (.tmp 67) ?_ ⟨w2.heap.size, 4 * k + 2, none⟩ (bv (x >>> 8).toUInt8) ?_ ?_ ?_ ?_ ?_ ?_ ?_; rfl; rfl; rfl; exact ⟨_, _, rfl⟩; exact hi5.out; exact ⟨_, C2.out⟩; exact Z2.out)
            | (refine wpList_store_int rfl 5 (.tmp 73) (.tmp 69) ?_ ⟨w2.heap.size, 4 * k + 3, none⟩ (bv x.toUInt8) ?_ ?_ ?_ ?_ ?_ ?_ ?_; rfl; rfl; rfl; exact ⟨_, _, rfl⟩; exact hi5.out; exact ⟨_, C3.out⟩; exact Z3.out))
          go_roundw
          case rel =>
            refine ⟨k + 1, by omega, by go_num, ?_, (((Br.setCell (Nat.le_refl _) _).setCell (Nat.le_refl _) _).setCell (Nat.le_refl _) _).setCell (Nat.le_refl _) _, by simpa using sr⟩
            rw [HN.out]
            exact Q4
          case measure => simp [intOf]; omega
        · have e8 : k = 8 := by omega
          have g8 : Hid (wr.heap[w2.heap.size]? = some (.cells (bvs (outN S.list 8)).toArray 27 (0, 0))) := by rw [← e8]; exact gr
          have hi24 : Box ((Tryd.prog.info? 27).map (·.size) = some (bvs (outN S.list 8)).toArray.size) := ⟨by
            have h : (Tryd.prog.info? 27).map (·.size) = some 32 := by kernel_rfl
            rw [h]; simp [length_outN]⟩
          clear gr
          have B2 : Box (w.heap.size < w2.heap.size) := ⟨heap_lt R2.out⟩
          have gr0 : Hid (wr.heap[w.heap.size]? = some (.cells (bvs (List.replicate 32 0)).toArray 27 (0, 0))) := (Br.block w.heap.size B2.out).trans R2.out
          have hsz0 : Box ((bvs (outN S.list 8)).toArray.size = (bvs (List.replicate 32 0)).toArray.size) := ⟨by rw [List.size_toArray, List.size_toArray, length_bvs, length_bvs, length_outN, List.length_replicate]⟩
          obtain ⟨ob, HOB⟩ : ∃ o, Box (outN S.list 8 = o) := ⟨_, ⟨rfl⟩⟩
          rw [HOB.out] at g8 hi24 hsz0
          have hbw : Below w.heap.size w wr := hbw2.trans (Br.mono hbw2.size)
          go_wp2_with (first
            | (refine wpList_load_row rfl 27 (.tmp 8) ?_ w2.heap.size ?_ 27 _ (0, 0) _ g8.out Tryd.underlying27 rfl hi24.out ?_; rfl; rfl)
            | (refine wpList_store_row rfl 27 (.tmp 2) (.tmp 75) ?_ w.heap.size _ _ 27 ?_ ?_ gr0.out hsz0.out.symm hi24.out (bvs_all _) ?_; rfl; rfl; rfl; intro w3 g6 hg3))
          have hb3 := hbw.grown hg3 hbw.size (fun k hk => by cases hk; omega)
          go_wp2
          refine bodyPost_ret (v := .agg (bvs ob).toArray) (results_cell_row (p := 2) (ty := 27) rfl _ _ w.heap.size 27 _ (0, 0) _ rfl g6.out Tryd.underlying27 rfl hi24.out) rfl ⟨?_, hb3⟩
          have en : (119 - hv) % 64 + 1 = nn := by have := HNN.out; omega
          have eL : (tk * 8).toNat = L := by have := HL.out; rw [wrap_eight] at this; omega
          unfold finD
          rw [en, eL, hS, HOB.out]
end Go.Proofs.YteiepenanffhcaaDoor
