/- Texts joined: Write, SumM, SumF. -/
import Derived.Test.YteiepenanffhcaaDoorP10
/- A piece taken: the walk of (*Hasher).Write, where nothing rests and where what rests is filled up. -/
namespace Go.Proofs.YteiepenanffhcaaDoor
open Go Go.RowKit
set_option linter.unusedVariables false

/-- The length of a slice value. -/
def lenOf : Value → Nat
  | .slice _ n _ => n
  | _ => 0
theorem taken_eq (tk : UInt64) (n : Nat) : ((tk.toNat : Int) + (n : Int)) % 18446744073709551616 = ((tk + UInt64.ofNat n).toNat : Int) := by
  rw [UInt64.toNat_add, UInt64.toNat_ofNat']; omega

set_option maxRecDepth 100000 in
set_option maxHeartbeats 4000000 in
theorem write_zero (K st : List UInt32) (rest : List UInt8) (tk : UInt64) (b : Nat) (ao : Option Addr) (n c : Nat) (l : List UInt8) (w : World) (hst : st.length = 8) (hr : rest.length = 64) (hK : K.length = 64)
    (hb : w.heap[b]? = some (.cells (hcells st rest 0 tk).toArray 87 (0, 0))) (hp : Row w ao n l) (hnc : n ≤ c) (hmax : n ≤ 140737488355328) (hnil : ao = none → n = 0 ∧ c = 0) (hne : ∀ b' o', ao = some ⟨b', o', none⟩ → b' ≠ b) (hb1 : b ≠ 2)
    (hk : ∀ i, i < 64 → w.cell? ⟨2, i, none⟩ = some (uv (K.getD i 0))) :
    Calls Tryd.prog 54 #[.pointer (some ⟨b, 0, none⟩), .slice ao n c] w fun e w' =>
      e = .returned (.tuple #[]) ∧ w'.heap[b]? = some (.cells (hcells (absorb K st l (n / 64)) (splice rest 0 (l.drop (64 * (n / 64)))) (n % 64) (tk + UInt64.ofNat n)).toArray 87 (0, 0)) ∧ w.grownBy w' (some b) := by
  have hcell := hcells_at hb hst hr
  have c72 := hcell.1
  have c73 := hcell.2
  have z72 := frozen_of_row _ b 72 _ 87 hb
  have z73 := frozen_of_row _ b 73 _ 87 hb
  have hwr := wrap_taken tk n
  have hwr' := wrap_taken' tk n
  have hbl := heap_lt hb
  have hg1 : 2 < w.heap.size := block_lt_of_cell (hk 0 (by omega))
  have HS : Box (st.length = 8) := ⟨hst⟩
  have HR : Box (rest.length = 64) := ⟨hr⟩
  have HK : Box (K.length = 64) := ⟨hK⟩
  have HB : Box (w.heap[b]? = some (.cells (hcells st rest 0 tk).toArray 87 (0, 0))) := ⟨hb⟩
  clear hcell hst hr hK hb
  go_enter Tryd.func54, Tryd.ntmps54
  go_wp2_with fail
  refine wp_anyWorld (fun W => Hid (W.heap[b]? = some (.cells (hcells st rest 0 (tk + UInt64.ofNat n)).toArray 87 (0, 0))) ∧ w.grownBy W (some b))
    ⟨by rw [taken_eq]; exact hcells_set73 _ HB.out HS.out HR.out, grownBy_setCell w _ _⟩ ?_
  rintro W ⟨g0, G0⟩
  generalize htk : tk + UInt64.ofNat n = tk' at g0 ⊢
  have HTK : Box (tk + UInt64.ofNat n = tk') := ⟨htk⟩
  clear htk hwr hwr' c72 c73 z72 z73
  go_loopw [1] (fun p wr => ∃ (k : Nat) (ao' : Option Addr) (n' c' : Nat), p = .slice ao' n' c' ∧ n' + 64 * k = n ∧ n' ≤ c' ∧ (ao' = none → n' = 0 ∧ c' = 0) ∧ (∀ b' o', ao' = some ⟨b', o', none⟩ → b' ≠ b) ∧ Row wr ao' n' (l.drop (64 * k)) ∧
      Hid (wr.heap[b]? = some (.cells (hcells (absorb K st l k) rest 0 tk').toArray 87 (0, 0))) ∧ w.grownBy wr (some b)) (fun p _ => lenOf p)
  case atStart =>
    refine ⟨0, ao, n, c, rfl, by omega, hnc, hnil, hne, ?_, by rw [absorb_zero]; exact g0, G0⟩
    rw [Nat.mul_zero, List.drop_zero]
    exact hp.grownAny G0 (fun b' o' e h => hne b' o' e (by cases h; rfl))
  case round =>
    obtain ⟨k, ao', n', c', rfl, hn', hc', hnil', hne', hrow, gk, Gk⟩ := hrel
    by_cases h64 : 64 ≤ n'
    · obtain ⟨b', o', rfl⟩ := hrow.at0 (by omega)
      have hbb := hne' b' o' rfl
      have hkk : ∀ i, i < 64 → wr.cell? ⟨2, i, none⟩ = some (uv (K.getD i 0)) := fun i hi =>
        (World.cell?_of_block (w := w) (w' := wr) (a := ⟨2, i, none⟩) (Gk.block _ hg1 (fun h => hb1 (by cases h; rfl)))).trans (hk i hi)
      have i1 : (64 : Int) ≤ (n' : Int) := by omega
      have i2 : (64 : Int) ≤ (c' : Int) := by omega
      have i3 : (n' : Int) ≤ (c' : Int) := by omega
      have hr64 : Row wr (some ⟨b', o', none⟩) 64 ((l.drop (64 * k)).take 64) := hrow.take 64 h64
      have hla : Box ((absorb K st l k).length = 8) := ⟨by rw [length_absorb]; exact HS.out⟩
      have hkk' := Lib.hid hkk
      clear hkk
      go_wp2_with (go_at_call 59; refine (step_any K (absorb K st l k) rest 0 tk' b b' o' c' ((l.drop (64 * k)).take 64) _ hla.out HK.out gk.out hr64 (by omega) hkk'.out).mono ?_)
      rintro e w2 ⟨rfl, g2, G2⟩
      go_wp2_with fail
      go_roundw
      case rel =>
        refine ⟨k + 1, _, n' - 64, c' - 64, rfl, by omega, by omega, ?_, ?_, ?_, ?_, ?_⟩
        · intro h; split at h <;> cases h
        · intro b2 o2 h; split at h <;> (cases h; exact hbb)
        · have hd : Row wr (some ⟨b', o' + 64, none⟩) (n' - 64) ((l.drop (64 * k)).drop 64) := hrow.drop 64 h64
          have hd2 := hd.grown G2 (hrow.lt (by omega)) (fun h => hbb (by cases h; rfl))
          rw [List.drop_drop, show 64 * k + 64 = 64 * (k + 1) by omega] at hd2
          split
          · have e : n' - 64 = 0 := by omega
            rw [e] at hd2 ⊢
            have hz : l.drop (64 * (k + 1)) = [] := List.length_eq_zero_iff.1 hd2.1
            rw [hz]; exact Row.nil
          · exact hd2
        · rw [absorb_succ]; exact g2
        · exact grownBy_trans Gk G2
      case measure => simp [lenOf]; omega
    · have hu : Tryd.prog.underlying 28 = some (.slice 5) := Tryd.underlying28
      have hsz : Box ((Tryd.prog.info? 5).map (·.size) = some 1) := ⟨by kernel_rfl⟩
      have hla : Box ((absorb K st l k).length = 8) := ⟨by rw [length_absorb]; exact HS.out⟩
      have hln := hrow.1
      have HLN : Box ((l.drop (64 * k)).length = n') := ⟨hln⟩
      have hrow' : Row wr ao' (l.drop (64 * k)).length (l.drop (64 * k)) := by rw [hln]; exact hrow
      have hmin : (l.drop (64 * k)).length = Nat.min n' 64 := by rw [hln]; exact (Nat.min_eq_left (by omega)).symm
      have hfit : 8 + (l.drop (64 * k)).length ≤ (hcells (absorb K st l k) rest 0 tk').length := by
        unfold hcells
        rw [List.length_append, List.length_append, length_uvs, length_bvs, hla.out, HR.out, hln]; omega
      have HM : Box ((l.drop (64 * k)).length = Nat.min n' 64) := ⟨hmin⟩
      clear hln hmin
      go_wp2_with (refine wpList_copy_bytes rfl (.tmp 68) (.tmp 69) 28 28 rfl hu hsz.out (some ⟨b, 8, none⟩) ao' 64 64 n' c' rfl rfl b 8 (hcells (absorb K st l k) rest 0 tk') 87 gk.out (l.drop (64 * k)) HM.out (fun _ => rfl) hrow' hfit ?_)
      intro w2 g2 G2
      have g3 : Hid (w2.heap[b]? = some (.cells (hcells (absorb K st l k) (splice rest 0 (l.drop (64 * k))) 0 tk').toArray 87 (0, 0))) := by
        have := g2.out
        rw [show (8 : Nat) = 8 + 0 from rfl, hcells_splice hla.out HR.out _ (by rw [HLN.out]; omega)] at this
        exact this
      have hls : Box ((splice rest 0 (l.drop (64 * k))).length = 64) := ⟨by rw [length_splice' (by rw [HLN.out, HR.out]; omega)]; exact HR.out⟩
      have c72 := (hcells_at g3.out hla.out hls.out).1
      have z72 := frozen_of_row _ b 72 _ 87 g3.out
      clear g2 hfit
      go_wp2_with fail
      go_end0
      have e1 : k = n / 64 := by omega
      have e2 : n % 64 = n' := by omega
      refine ⟨rfl, ?_, grownBy_set (grownBy_trans Gk G2) _⟩
      rw [HTK.out, ← e1, e2]
      have := hcells_set72 n' g3.out hla.out hls.out
      have e3 : l.length - 64 * k = n' := by have := HLN.out; simpa using this
      rw [e3]
      exact this

set_option maxRecDepth 100000 in
set_option maxHeartbeats 4000000 in
theorem write_fill (K st : List UInt32) (rest : List UInt8) (hv : Nat) (tk : UInt64) (b b0 o0 : Nat) (n c : Nat) (l : List UInt8) (w : World) (hst : st.length = 8) (hr : rest.length = 64) (hK : K.length = 64) (hv0 : 0 < hv) (hv64 : hv < 64)
    (hb : w.heap[b]? = some (.cells (hcells st rest hv tk).toArray 87 (0, 0))) (hp : Row w (some ⟨b0, o0, none⟩) n l) (hnc : n ≤ c) (hmax : n ≤ 140737488355328) (hfull : 64 ≤ hv + n) (hbb : b0 ≠ b) (hb1 : b ≠ 2)
    (hk : ∀ i, i < 64 → w.cell? ⟨2, i, none⟩ = some (uv (K.getD i 0))) :
    Calls Tryd.prog 54 #[.pointer (some ⟨b, 0, none⟩), .slice (some ⟨b0, o0, none⟩) n c] w fun e w' =>
      e = .returned (.tuple #[]) ∧ w'.heap[b]? = some (.cells (hcells (absorb K (compress K st (splice rest hv (l.take (64 - hv)))) (l.drop (64 - hv)) ((n - (64 - hv)) / 64)) (splice (splice rest hv (l.take (64 - hv))) 0 ((l.drop (64 - hv)).drop (64 * ((n - (64 - hv)) / 64)))) ((n - (64 - hv)) % 64) (tk + UInt64.ofNat n)).toArray 87 (0, 0)) ∧ w.grownBy w' (some b) := by
  have hcell := hcells_at hb hst hr
  have c72 := hcell.1
  have c73 := hcell.2
  have z72 := frozen_of_row _ b 72 _ 87 hb
  have z73 := frozen_of_row _ b 73 _ 87 hb
  have hbl := heap_lt hb
  have hg1 : 2 < w.heap.size := block_lt_of_cell (hk 0 (by omega))
  have HS : Box (st.length = 8) := ⟨hst⟩
  have HR : Box (rest.length = 64) := ⟨hr⟩
  have HK : Box (K.length = 64) := ⟨hK⟩
  have HB : Box (w.heap[b]? = some (.cells (hcells st rest hv tk).toArray 87 (0, 0))) := ⟨hb⟩
  have hal : Tryd.prog.arrayLen 84 = 64 := by kernel_rfl
  have hu : Tryd.prog.underlying 28 = some (.slice 5) := Tryd.underlying28
  have hsz : Box ((Tryd.prog.info? 5).map (·.size) = some 1) := ⟨by kernel_rfl⟩
  have i64 : ¬ 64 = hv := by omega
  have i0 : (0 : Int) < (hv : Int) := by omega
  have i1 : (hv : Int) ≤ 64 := by omega
  have i2 : (0 : Int) ≤ (hv : Int) := by omega
  clear hcell hst hr hK hb
  go_enter Tryd.func54, Tryd.ntmps54
  go_wp2_with fail
  refine wp_anyWorld (fun W => Hid (W.heap[b]? = some (.cells (hcells st rest hv (tk + UInt64.ofNat n)).toArray 87 (0, 0))) ∧ w.grownBy W (some b))
    ⟨by rw [wrap_taken']; exact hcells_set73 _ HB.out HS.out HR.out, grownBy_setCell w _ _⟩ ?_
  rintro W ⟨g0, G0⟩
  generalize htk : tk + UInt64.ofNat n = tk' at g0 ⊢
  have HTK : Box (tk + UInt64.ofNat n = tk') := ⟨htk⟩
  clear htk c72 c73 z72 z73
  have c72 := (hcells_at g0.out HS.out HR.out).1
  have hp0 : Row W (some ⟨b0, o0, none⟩) n l := hp.grownAny G0 (fun b' o' e h => hbb (by cases e; cases h; rfl))
  have hlt : Box ((l.take (64 - hv)).length = 64 - hv) := ⟨by rw [List.length_take, hp.1]; omega⟩
  have hmn : min (64 - hv) l.length = 64 - hv := by rw [hp.1]; omega
  have hsum : (hv : Int) + ((64 - hv : Nat) : Int) = 64 := by omega
  have hrow : Row W.drew (some ⟨b0, o0, none⟩) (l.take (64 - hv)).length (l.take (64 - hv)) := by rw [hlt.out]; exact hp0.take (64 - hv) (by omega)
  have hmin : Box ((l.take (64 - hv)).length = Nat.min n (64 - hv)) := ⟨by rw [hlt.out]; exact (Nat.min_eq_right (by omega)).symm⟩
  have hfit : Box ((8 + hv) + (l.take (64 - hv)).length ≤ (hcells st rest hv tk').length) := ⟨by unfold hcells; rw [List.length_append, List.length_append, length_uvs, length_bvs, HS.out, HR.out, hlt.out]; omega⟩
  go_region_law (refine step_copy_bytes rfl (.tmp 27) (.tmp 28) 28 28 rfl hu hsz.out (some ⟨b, 8 + hv, none⟩) (some ⟨b0, o0, none⟩) (64 - hv) (64 - hv) n c rfl rfl b (8 + hv) (hcells st rest hv tk') 87 (by exact g0.out) (l.take (64 - hv)) hmin.out (fun _ => rfl) hrow hfit.out ?_; intro w1 g1 G1)
  have g2 : Hid (w1.heap[b]? = some (.cells (hcells st (splice rest hv (l.take (64 - hv))) hv tk').toArray 87 (0, 0))) := by
    have := g1.out
    rw [hcells_splice HS.out HR.out _ (by rw [hlt.out]; omega)] at this
    exact this
  have hr1 : Box ((splice rest hv (l.take (64 - hv))).length = 64) := ⟨by rw [length_splice' (by rw [hlt.out, HR.out]; omega)]; exact HR.out⟩
  have G2 : w.grownBy w1 (some b) := grownBy_trans (grownBy_trans G0 (grownBy_drew _ _)) G1
  obtain ⟨rest1, HRE⟩ : ∃ r, Box (splice rest hv (l.take (64 - hv)) = r) := ⟨_, ⟨rfl⟩⟩
  rw [HRE.out] at g2 hr1
  have d72 := (hcells_at g2.out HS.out hr1.out).1
  have y72 := frozen_of_row _ b 72 _ 87 g2.out
  clear g1 G1 hrow hfit hmin c72 g0
  go_wp2_with fail
  case inl =>
    have g3 : Hid ((w1.setCell ⟨b, 72, none⟩ (.int .i64 64)).heap[b]? = some (.cells (hcells st rest1 64 tk').toArray 87 (0, 0))) := hcells_set72 64 g2.out HS.out hr1.out
    have G3 : w.grownBy (w1.setCell ⟨b, 72, none⟩ (.int .i64 64)) (some b) := grownBy_set G2 _
    have hrr : Row (w1.setCell ⟨b, 72, none⟩ (.int .i64 64)) (some ⟨b, 8, none⟩) 64 rest1 := by
      have := hcells_rest g3.out HS.out
      rwa [hr1.out] at this
    have hk3 : ∀ i, i < 64 → (w1.setCell ⟨b, 72, none⟩ (.int .i64 64)).cell? ⟨2, i, none⟩ = some (uv (K.getD i 0)) := fun i hi =>
      (World.cell?_of_block (w := w) (a := ⟨2, i, none⟩) (G3.block _ hg1 (fun h => hb1 (by cases h; rfl)))).trans (hk i hi)
    refine (step_any K st rest1 64 tk' b b 8 64 rest1 _ HS.out HK.out g3.out hrr (by omega) hk3).mono ?_
    rintro e w3 ⟨rfl, g4, G4⟩
    clear d72 y72 g2 g3 hrr hk3
    obtain ⟨st1, HST⟩ : ∃ s, Box (compress K st rest1 = s) := ⟨_, ⟨rfl⟩⟩
    rw [HST.out] at g4
    have HS1 : Box (st1.length = 8) := ⟨by rw [← HST.out, length_compress]; exact HS.out⟩
    have HR1 : Box (rest1.length = 64) := hr1
    have d72 := (hcells_at g4 HS1.out HR1.out).1
    have y72 := frozen_of_row _ b 72 _ 87 g4
    have g4' := Lib.hid g4
    clear g4
    have G34 : w.grownBy w3 (some b) := grownBy_trans G3 G4
    go_wp2_with fail
    refine wp_anyWorld (fun W => Hid (W.heap[b]? = some (.cells (hcells st1 rest1 0 tk').toArray 87 (0, 0))) ∧ w.grownBy W (some b))
      ⟨hcells_set72 0 g4'.out HS1.out HR1.out, grownBy_set G34 _⟩ ?_
    rintro W5 ⟨g5, G5⟩
    clear d72 y72 g4' G34 G3 G4
    obtain ⟨n2, HN2⟩ : ∃ m, Box (n - (64 - hv) = m) := ⟨_, ⟨rfl⟩⟩
    obtain ⟨l2, HL2⟩ : ∃ m, Box (l.drop (64 - hv) = m) := ⟨_, ⟨rfl⟩⟩
    have hn2 : n2 + (64 - hv) ≤ n := by have := HN2.out; omega
    have hn3 : n ≤ n2 + (64 - hv) := by have := HN2.out; omega
    go_loopw [1] (fun p wr => ∃ (k : Nat) (ao' : Option Addr) (n' c' : Nat), p = .slice ao' n' c' ∧ n' + 64 * k = n2 ∧ n' ≤ c' ∧ (ao' = none → n' = 0 ∧ c' = 0) ∧ (∀ b' o', ao' = some ⟨b', o', none⟩ → b' ≠ b) ∧ Row wr ao' n' (l2.drop (64 * k)) ∧
        Hid (wr.heap[b]? = some (.cells (hcells (absorb K st1 l2 k) rest1 0 tk').toArray 87 (0, 0))) ∧ w.grownBy wr (some b)) (fun p _ => lenOf p)
    case atStart =>
      refine ⟨0, _, n2, 0, by rw [← HN2.out], by omega, by omega, ?_, ?_, ?_, by rw [absorb_zero]; exact g5, G5⟩
      · intro h; cases h
      · intro b2 o2 h; cases h; exact hbb
      · rw [Nat.mul_zero, List.drop_zero]
        exact (by
          have e : n2 = 0 := by omega
          have hz : l2 = [] := List.length_eq_zero_iff.1 (by rw [← HL2.out, List.length_drop, hp.1]; omega)
          rw [hz, e]; exact Row.nil)
    case round =>
      obtain ⟨k, ao', n', c', rfl, hn', hc', hnil', hne', hrow, gk, Gk⟩ := hrel
      by_cases h64 : 64 ≤ n'
      · exfalso; omega
      · skip
        have hla : Box ((absorb K st1 l2 k).length = 8) := ⟨by rw [length_absorb]; exact HS1.out⟩
        have hln := hrow.1
        have HLN : Box ((l2.drop (64 * k)).length = n') := ⟨hln⟩
        have hrow' : Row wr ao' (l2.drop (64 * k)).length (l2.drop (64 * k)) := by rw [hln]; exact hrow
        have hmin : (l2.drop (64 * k)).length = Nat.min n' 64 := by rw [hln]; exact (Nat.min_eq_left (by omega)).symm
        have hfit : 8 + (l2.drop (64 * k)).length ≤ (hcells (absorb K st1 l2 k) rest1 0 tk').length := by
          unfold hcells
          rw [List.length_append, List.length_append, length_uvs, length_bvs, hla.out, HR1.out, hln]; omega
        have HM : Box ((l2.drop (64 * k)).length = Nat.min n' 64) := ⟨hmin⟩
        clear hln hmin
        go_wp2_with (refine wpList_copy_bytes rfl (.tmp 68) (.tmp 69) 28 28 rfl hu hsz.out (some ⟨b, 8, none⟩) ao' 64 64 n' c' rfl rfl b 8 (hcells (absorb K st1 l2 k) rest1 0 tk') 87 gk.out (l2.drop (64 * k)) HM.out (fun _ => rfl) hrow' hfit ?_)
        intro w2 g2 G2
        have g3 : Hid (w2.heap[b]? = some (.cells (hcells (absorb K st1 l2 k) (splice rest1 0 (l2.drop (64 * k))) 0 tk').toArray 87 (0, 0))) := by
          have := g2.out
          rw [show (8 : Nat) = 8 + 0 from rfl, hcells_splice hla.out HR1.out _ (by rw [HLN.out]; omega)] at this
          exact this
        have hls : Box ((splice rest1 0 (l2.drop (64 * k))).length = 64) := ⟨by rw [length_splice' (by rw [HLN.out, HR1.out]; omega)]; exact HR1.out⟩
        have c72 := (hcells_at g3.out hla.out hls.out).1
        have z72 := frozen_of_row _ b 72 _ 87 g3.out
        clear g2 hfit
        go_wp2_with fail
        go_end0
        have e1 : k = n2 / 64 := by omega
        have e2 : n2 % 64 = n' := by omega
        refine ⟨rfl, ?_, grownBy_set (grownBy_trans Gk G2) _⟩
        rw [HRE.out, HST.out, HTK.out, HL2.out, HN2.out, ← e1, e2]
        have := hcells_set72 n' g3.out hla.out hls.out
        have e3 : l2.length - 64 * k = n' := by have := HLN.out; simpa using this
        rw [e3]
        exact this

  case inr =>
    have g3 : Hid ((w1.setCell ⟨b, 72, none⟩ (.int .i64 64)).heap[b]? = some (.cells (hcells st rest1 64 tk').toArray 87 (0, 0))) := hcells_set72 64 g2.out HS.out hr1.out
    have G3 : w.grownBy (w1.setCell ⟨b, 72, none⟩ (.int .i64 64)) (some b) := grownBy_set G2 _
    have hrr : Row (w1.setCell ⟨b, 72, none⟩ (.int .i64 64)) (some ⟨b, 8, none⟩) 64 rest1 := by
      have := hcells_rest g3.out HS.out
      rwa [hr1.out] at this
    have hk3 : ∀ i, i < 64 → (w1.setCell ⟨b, 72, none⟩ (.int .i64 64)).cell? ⟨2, i, none⟩ = some (uv (K.getD i 0)) := fun i hi =>
      (World.cell?_of_block (w := w) (a := ⟨2, i, none⟩) (G3.block _ hg1 (fun h => hb1 (by cases h; rfl)))).trans (hk i hi)
    refine (step_any K st rest1 64 tk' b b 8 64 rest1 _ HS.out HK.out g3.out hrr (by omega) hk3).mono ?_
    rintro e w3 ⟨rfl, g4, G4⟩
    clear d72 y72 g2 g3 hrr hk3
    obtain ⟨st1, HST⟩ : ∃ s, Box (compress K st rest1 = s) := ⟨_, ⟨rfl⟩⟩
    rw [HST.out] at g4
    have HS1 : Box (st1.length = 8) := ⟨by rw [← HST.out, length_compress]; exact HS.out⟩
    have HR1 : Box (rest1.length = 64) := hr1
    have d72 := (hcells_at g4 HS1.out HR1.out).1
    have y72 := frozen_of_row _ b 72 _ 87 g4
    have g4' := Lib.hid g4
    clear g4
    have G34 : w.grownBy w3 (some b) := grownBy_trans G3 G4
    go_wp2_with fail
    refine wp_anyWorld (fun W => Hid (W.heap[b]? = some (.cells (hcells st1 rest1 0 tk').toArray 87 (0, 0))) ∧ w.grownBy W (some b))
      ⟨hcells_set72 0 g4'.out HS1.out HR1.out, grownBy_set G34 _⟩ ?_
    rintro W5 ⟨g5, G5⟩
    clear d72 y72 g4' G34 G3 G4
    obtain ⟨n2, HN2⟩ : ∃ m, Box (n - (64 - hv) = m) := ⟨_, ⟨rfl⟩⟩
    obtain ⟨l2, HL2⟩ : ∃ m, Box (l.drop (64 - hv) = m) := ⟨_, ⟨rfl⟩⟩
    have hn2 : n2 + (64 - hv) ≤ n := by have := HN2.out; omega
    have hn3 : n ≤ n2 + (64 - hv) := by have := HN2.out; omega
    go_loopw [1] (fun p wr => ∃ (k : Nat) (ao' : Option Addr) (n' c' : Nat), p = .slice ao' n' c' ∧ n' + 64 * k = n2 ∧ n' ≤ c' ∧ (ao' = none → n' = 0 ∧ c' = 0) ∧ (∀ b' o', ao' = some ⟨b', o', none⟩ → b' ≠ b) ∧ Row wr ao' n' (l2.drop (64 * k)) ∧
        Hid (wr.heap[b]? = some (.cells (hcells (absorb K st1 l2 k) rest1 0 tk').toArray 87 (0, 0))) ∧ w.grownBy wr (some b)) (fun p _ => lenOf p)
    case atStart =>
      refine ⟨0, _, n2, c - (64 - hv), by rw [← HN2.out], by omega, by omega, ?_, ?_, ?_, by rw [absorb_zero]; exact g5, G5⟩
      · intro h; cases h
      · intro b2 o2 h; cases h; exact hbb
      · rw [Nat.mul_zero, List.drop_zero]
        exact (by
          have hd := (hp.drop (64 - hv) (by omega)).grownAny G5 (fun b' o' e h => hbb (by cases e; cases h; rfl))
          rw [HN2.out, HL2.out] at hd; exact hd)
    case round =>
      obtain ⟨k, ao', n', c', rfl, hn', hc', hnil', hne', hrow, gk, Gk⟩ := hrel
      by_cases h64 : 64 ≤ n'
      · obtain ⟨b', o', rfl⟩ := hrow.at0 (by omega)
        have hbb := hne' b' o' rfl
        have hkk : ∀ i, i < 64 → wr.cell? ⟨2, i, none⟩ = some (uv (K.getD i 0)) := fun i hi =>
          (World.cell?_of_block (w := w) (w' := wr) (a := ⟨2, i, none⟩) (Gk.block _ hg1 (fun h => hb1 (by cases h; rfl)))).trans (hk i hi)
        have i1 : (64 : Int) ≤ (n' : Int) := by omega
        have i2 : (64 : Int) ≤ (c' : Int) := by omega
        have i3 : (n' : Int) ≤ (c' : Int) := by omega
        have hr64 : Row wr (some ⟨b', o', none⟩) 64 ((l2.drop (64 * k)).take 64) := hrow.take 64 h64
        have hla : Box ((absorb K st1 l2 k).length = 8) := ⟨by rw [length_absorb]; exact HS1.out⟩
        have hkk' := Lib.hid hkk
        clear hkk
        go_wp2_with (go_at_call 59; refine (step_any K (absorb K st1 l2 k) rest1 0 tk' b b' o' c' ((l2.drop (64 * k)).take 64) _ hla.out HK.out gk.out hr64 (by omega) hkk'.out).mono ?_)
        rintro e w2 ⟨rfl, g2, G2⟩
        go_wp2_with fail
        go_roundw
        case rel =>
          refine ⟨k + 1, _, n' - 64, c' - 64, rfl, by omega, by omega, ?_, ?_, ?_, ?_, ?_⟩
          · intro h; split at h <;> cases h
          · intro b2 o2 h; split at h <;> (cases h; exact hbb)
          · have hd : Row wr (some ⟨b', o' + 64, none⟩) (n' - 64) ((l2.drop (64 * k)).drop 64) := hrow.drop 64 h64
            have hd2 := hd.grown G2 (hrow.lt (by omega)) (fun h => hbb (by cases h; rfl))
            rw [List.drop_drop, show 64 * k + 64 = 64 * (k + 1) by omega] at hd2
            split
            · have e : n' - 64 = 0 := by omega
              rw [e] at hd2 ⊢
              have hz : l2.drop (64 * (k + 1)) = [] := List.length_eq_zero_iff.1 hd2.1
              rw [hz]; exact Row.nil
            · exact hd2
          · rw [absorb_succ]; exact g2
          · exact grownBy_trans Gk G2
        case measure => simp [lenOf]; omega
      · skip
        have hla : Box ((absorb K st1 l2 k).length = 8) := ⟨by rw [length_absorb]; exact HS1.out⟩
        have hln := hrow.1
        have HLN : Box ((l2.drop (64 * k)).length = n') := ⟨hln⟩
        have hrow' : Row wr ao' (l2.drop (64 * k)).length (l2.drop (64 * k)) := by rw [hln]; exact hrow
        have hmin : (l2.drop (64 * k)).length = Nat.min n' 64 := by rw [hln]; exact (Nat.min_eq_left (by omega)).symm
        have hfit : 8 + (l2.drop (64 * k)).length ≤ (hcells (absorb K st1 l2 k) rest1 0 tk').length := by
          unfold hcells
          rw [List.length_append, List.length_append, length_uvs, length_bvs, hla.out, HR1.out, hln]; omega
        have HM : Box ((l2.drop (64 * k)).length = Nat.min n' 64) := ⟨hmin⟩
        clear hln hmin
        go_wp2_with (refine wpList_copy_bytes rfl (.tmp 68) (.tmp 69) 28 28 rfl hu hsz.out (some ⟨b, 8, none⟩) ao' 64 64 n' c' rfl rfl b 8 (hcells (absorb K st1 l2 k) rest1 0 tk') 87 gk.out (l2.drop (64 * k)) HM.out (fun _ => rfl) hrow' hfit ?_)
        intro w2 g2 G2
        have g3 : Hid (w2.heap[b]? = some (.cells (hcells (absorb K st1 l2 k) (splice rest1 0 (l2.drop (64 * k))) 0 tk').toArray 87 (0, 0))) := by
          have := g2.out
          rw [show (8 : Nat) = 8 + 0 from rfl, hcells_splice hla.out HR1.out _ (by rw [HLN.out]; omega)] at this
          exact this
        have hls : Box ((splice rest1 0 (l2.drop (64 * k))).length = 64) := ⟨by rw [length_splice' (by rw [HLN.out, HR1.out]; omega)]; exact HR1.out⟩
        have c72 := (hcells_at g3.out hla.out hls.out).1
        have z72 := frozen_of_row _ b 72 _ 87 g3.out
        clear g2 hfit
        go_wp2_with fail
        go_end0
        have e1 : k = n2 / 64 := by omega
        have e2 : n2 % 64 = n' := by omega
        refine ⟨rfl, ?_, grownBy_set (grownBy_trans Gk G2) _⟩
        rw [HRE.out, HST.out, HTK.out, HL2.out, HN2.out, ← e1, e2]
        have := hcells_set72 n' g3.out hla.out hls.out
        have e3 : l2.length - 64 * k = n' := by have := HLN.out; simpa using this
        rw [e3]
        exact this

end Go.Proofs.YteiepenanffhcaaDoor

/- The digest of what was taken: the walk of (*Hasher).Sum. -/
namespace Go.Proofs.YteiepenanffhcaaDoor
open Go Go.RowKit
set_option linter.unusedVariables false

/-- So many zeros. -/
def zeros (n : Nat) : List UInt8 := List.replicate n 0
/-- What is laid behind a text: the mark, and the length in bits from place n on (k bytes of it). -/
def tailN (n L : Nat) : Nat → List UInt8
  | 0 => (zeros 128).set 0 128
  | k + 1 => (tailN n L k).set (n + k) (UInt8.ofNat (L / 2 ^ (56 - 8 * k)))
theorem length_tailN (n L : Nat) : ∀ k, (tailN n L k).length = 128
  | 0 => by simp [tailN, zeros]
  | k + 1 => by simp [tailN, length_tailN n L k]
theorem wrap_eight (tk : UInt64) : IntKind.u64.wrap ((tk.toNat : Int) * 8) = ((tk * 8).toNat : Int) := by
  have h1 : ∀ m : Int, IntKind.u64.wrap m = m % 18446744073709551616 := fun m => by simp [IntKind.wrap, IntKind.signed, IntKind.bits]
  rw [h1, UInt64.toNat_mul]
  show _ = ((tk.toNat * 8 % 2 ^ 64 : Nat) : Int)
  omega
theorem bvs_cell {w : World} {B i : Nat} {l : List UInt8} {t : TypeId} {fr : Nat × Nat} (h : w.heap[B]? = some (.cells (bvs l).toArray t fr)) (hi : i < l.length) : w.cell? ⟨B, i, none⟩ = some (bv (l.getD i 0)) := by
  have := (Row.of_row h).byte i hi
  rwa [Nat.zero_add] at this
theorem bvs_set {w : World} {B i : Nat} {l : List UInt8} {t : TypeId} (x : UInt8) (h : w.heap[B]? = some (.cells (bvs l).toArray t (0, 0))) :
    (w.setCell ⟨B, i, none⟩ (bv x)).heap[B]? = some (.cells (bvs (l.set i x)).toArray t (0, 0)) := by
  rw [heap_setCell_same w B i _ t (bv x) h]
  simp [bvs, List.map_set]
theorem byte_div (L n : Nat) : Value.int .u8 ((L : Int) / 2 ^ n % 256) = bv (UInt8.ofNat (L / 2 ^ n)) := by
  unfold bv
  congr 1
theorem hcells_all (st : List UInt32) (rest : List UInt8) (hv : Nat) (tk : UInt64) : (hcells st rest hv tk).toArray.all (·.oneCell') = true := by
  rw [Array.all_eq_true_iff_forall_mem]
  intro v hv'
  have : v ∈ hcells st rest hv tk := by simpa using hv'
  unfold hcells at this
  simp only [List.mem_append, List.mem_cons, List.not_mem_nil, or_false] at this
  rcases this with h | h | rfl | rfl
  · exact uvs_oneCell st v h
  · exact bvs_oneCell rest v h
  · rfl
  · rfl

/-- The bytes of the words of a state, the first k words of them. -/
def outN (st : List UInt32) : Nat → List UInt8
  | 0 => List.replicate 32 0
  | k + 1 => ((((outN st k).set (4 * k) (st.getD k 0 >>> 24).toUInt8).set (4 * k + 1) (st.getD k 0 >>> 16).toUInt8).set (4 * k + 2) (st.getD k 0 >>> 8).toUInt8).set (4 * k + 3) (st.getD k 0).toUInt8
theorem length_outN (st : List UInt32) : ∀ k, (outN st k).length = 32
  | 0 => by simp [outN]
  | k + 1 => by simp [outN, length_outN st k]
/-- The digest that a hasher of this state tells. -/
def finD (K st : List UInt32) (rest : List UInt8) (hv : Nat) (tk : UInt64) : List UInt8 :=
  outN (absorb K st (rest.take hv ++ (tailN ((119 - hv) % 64 + 1) (tk * 8).toNat 8).take ((119 - hv) % 64 + 1 + 8)) ((hv + ((119 - hv) % 64 + 1 + 8)) / 64)) 8
theorem absorb_fill (K st : List UInt32) (rest l : List UInt8) (hv n : Nat) (hr : rest.length = 64) (hv64 : hv < 64) (hl : l.length = n) (hfull : 64 ≤ hv + n) :
    absorb K (compress K st (splice rest hv (l.take (64 - hv)))) (l.drop (64 - hv)) ((n - (64 - hv)) / 64) = absorb K st (rest.take hv ++ l) ((hv + n) / 64) := by
  have h1 : (hv + n) / 64 = (n - (64 - hv)) / 64 + 1 := by omega
  have h2 : (l.take (64 - hv)).length = 64 - hv := by rw [List.length_take]; omega
  have h3 : (rest.take hv).length = hv := by rw [List.length_take]; omega
  rw [h1, absorb_cons, List.take_append, List.drop_append, h3]
  rw [List.take_of_length_le (by rw [h3]; omega : (rest.take hv).length ≤ 64), List.drop_of_length_le (by rw [h3]; omega : (rest.take hv).length ≤ 64), List.nil_append]
  unfold splice
  rw [h2, show hv + (64 - hv) = 64 by omega, List.drop_of_length_le (by omega : rest.length ≤ 64), List.append_nil]
theorem hcells_range {w : World} {b : Nat} {st : List UInt32} {rest : List UInt8} {hv : Nat} {tk : UInt64} {t : TypeId} {fr : Nat × Nat} (h : w.heap[b]? = some (.cells (hcells st rest hv tk).toArray t fr)) :
    w.rangeAt b 0 (uvs st) := fun j v hj => by
  rw [Nat.zero_add, cell_of_row w b j _ t fr h, ← Array.getElem?_toList]
  show (hcells st rest hv tk)[j]? = _
  have hl : j < (uvs st).length := by
    rcases Nat.lt_or_ge j (uvs st).length with h | h
    · exact h
    · rw [List.getElem?_eq_none h] at hj; cases hj
  unfold hcells
  rw [List.getElem?_append_left hl, hj]
theorem s8_of {l : List UInt32} (h : l.length = 8) : ∃ S : S8, l = S.list := by
  match l, h with
  | [a, b, c, d, e, f, g, z], _ => exact ⟨⟨a, b, c, d, e, f, g, z⟩, rfl⟩

set_option maxRecDepth 100000 in
set_option maxHeartbeats 4000000 in
theorem summ_any (K st : List UInt32) (rest : List UInt8) (hv : Nat) (tk : UInt64) (b : Nat) (w : World) (hst : st.length = 8) (hr : rest.length = 64) (hK : K.length = 64) (hv64 : hv < 64)
    (hb : w.heap[b]? = some (.cells (hcells st rest hv tk).toArray 87 (0, 0)))
    (hk : ∀ i, i < 64 → w.cell? ⟨2, i, none⟩ = some (uv (K.getD i 0))) :
    Calls Tryd.prog 55 #[.pointer (some ⟨b, 0, none⟩)] w fun e w' => e = .returned (.agg (bvs (finD K st rest hv tk)).toArray) ∧ Below w.heap.size w w' := by
  have hbl := heap_lt hb
  have hg1 : 2 < w.heap.size := block_lt_of_cell (hk 0 (by omega))
  have HS : Box (st.length = 8) := ⟨hst⟩
  have HR : Box (rest.length = 64) := ⟨hr⟩
  have HK : Box (K.length = 64) := ⟨hK⟩
  have hi46 : Box ((Tryd.prog.info? 87).map (·.size) = some (hcells st rest hv tk).toArray.size) := ⟨by
    have h : (Tryd.prog.info? 87).map (·.size) = some 74 := by kernel_rfl
    rw [h]; unfold hcells; simp [hst, hr]⟩
  have HB : Box (w.heap[b]? = some (.cells (hcells st rest hv tk).toArray 87 (0, 0))) := ⟨hb⟩
  have hs74 : Box ((hcells st rest hv tk).toArray.size = 74) := ⟨by unfold hcells; simp [hst, hr]⟩
  have hall : Box ((hcells st rest hv tk).toArray.all (·.oneCell') = true) := ⟨hcells_all st rest hv tk⟩
  clear hst hr hK hb
  have hz : ∀ W : World, (zeroValue 87).run Tryd.prog W = .ok (.agg (hcells (List.replicate 8 0) (List.replicate 64 0) 0 0).toArray) W := fun W => by kernel_rfl
  have hz74 : Box ((hcells (List.replicate 8 0) (List.replicate 64 0) 0 0).toArray.size = (hcells st rest hv tk).toArray.size) := ⟨by rw [hs74.out]; unfold hcells; simp⟩
  go_enter Tryd.func55, Tryd.ntmps55
  go_wp2_with (first
    | (refine wpList_load_row rfl 87 (.tmp 12) rfl b rfl 87 _ (0, 0) _ (heap_old HB.out) Tryd.underlying87 rfl hi46.out ?_)
    | (refine wpList_store_row rfl 87 (.tmp 3) (.tmp 13) rfl (w.heap.size + 1) _ _ 87 rfl rfl (heap_new (by simp)) hz74.out hi46.out hall.out ?_))
  intro w1 g1 G1
  have HB1 : Box (w1.heap[w.heap.size + 1]? = some (.cells (hcells st rest hv tk).toArray 87 (0, 0))) := ⟨g1.out⟩
  have hbelow1 : Below w.heap.size w w1 := (((Below.refl_alloc w _).alloc (by simp) _)).grown G1 (by simp; omega) (fun k hk => by cases hk; omega)
  have hsz1 : w.heap.size + 2 ≤ w1.heap.size := by have := G1.size; simpa using this
  have hlt1 : w.heap.size + 1 < w1.heap.size := by omega
  have c73 := (hcells_at HB1.out HS.out HR.out).2
  have c72 := (hcells_at HB1.out HS.out HR.out).1
  have hal : Tryd.prog.arrayLen 92 = 128 := by kernel_rfl
  have i1 : (hv : Int) < 64 := by omega
  have i2 : (0 : Int) ≤ (hv : Int) := by omega
  have hzt : ∀ W : World, (zeroValue 92).run Tryd.prog W = .ok (.agg (bvs (zeros 128)).toArray) W := fun W => by kernel_rfl
  have R1 : Box (w1.heap[w.heap.size]? = some (.cells (bvs (List.replicate 32 0)).toArray 27 (0, 0))) := ⟨(G1.block w.heap.size (by simp; omega) (by simp)).trans (heap_old (heap_new rfl))⟩
  clear g1 G1 hz
  obtain ⟨nn, hnn⟩ : ∃ nn : Nat, (119 - (hv : Int)) % 64 + 1 = (nn : Int) := ⟨((119 - (hv : Int)) % 64 + 1).toNat, by omega⟩
  obtain ⟨L, hL⟩ : ∃ L : Nat, IntKind.u64.wrap ((tk.toNat : Int) * 8) = (L : Int) := ⟨(tk * 8).toNat, wrap_eight tk⟩
  have HNN : Box ((119 - (hv : Int)) % 64 + 1 = (nn : Int)) := ⟨hnn⟩
  have HL : Box (IntKind.u64.wrap ((tk.toNat : Int) * 8) = (L : Int)) := ⟨hL⟩
  have hnn1 : 1 ≤ nn := by omega
  have hnn2 : nn ≤ 64 := by omega
  go_wp2_with fail
  clear hnn hL c72 c73
  refine wp_anyWorld (fun W => Hid (W.heap[w1.heap.size]? = some (.cells (bvs (tailN nn L 0)).toArray 92 (0, 0))) ∧ Below w1.heap.size w1 W)
    ⟨heap_new rfl, Below.refl_alloc w1 _⟩ ?_
  rintro W ⟨g0, B0⟩
  go_loopw [24, 7] (fun i t7 wr => ∃ k : Nat, k ≤ 8 ∧ i = .int .i64 k ∧ Hid (wr.heap[w1.heap.size]? = some (.cells (bvs (tailN nn L k)).toArray 92 (0, 0))) ∧ Below w1.heap.size w1 wr) (fun i _ _ => 8 - (intOf i).toNat)
  case atStart => exact ⟨0, by omega, rfl, g0, B0⟩
  case round =>
    obtain ⟨k, hk8, rfl, gr, Br⟩ := hrel
    by_cases hlt : k < 8
    · have hlen := length_tailN nn L k
      have cB := bvs_cell gr.out (i := nn + k) (by omega)
      have zB := frozen_of_row _ w1.heap.size (nn + k) _ 92 gr.out
      clear hlen
      go_wp2_with fail
      go_roundw
      case rel =>
        refine ⟨k + 1, by omega, by go_num, ?_, Br.setCell (Nat.le_refl _) _⟩
        rw [byte_div]
        exact bvs_set _ gr.out
      case measure => simp [intOf]; omega
    · have k8 : k = 8 := by omega
      have HT : Box ((tailN nn L 8).length = 128) := ⟨length_tailN nn L 8⟩
      have gr8 : Hid (wr.heap[w1.heap.size]? = some (.cells (bvs (tailN nn L 8)).toArray 92 (0, 0))) := by rw [← k8]; exact gr
      have HB2 : Box (wr.heap[w.heap.size + 1]? = some (.cells (hcells st rest hv tk).toArray 87 (0, 0))) := ⟨(Br.block _ hlt1).trans HB1.out⟩
      have hrow : Row wr (some ⟨w1.heap.size, 0, none⟩) (nn + 8) ((tailN nn L 8).take (nn + 8)) := by
        have := (Row.of_row gr8.out).take (nn + 8) (by rw [HT.out]; omega)
        exact this
      have hbr : Below w.heap.size w wr := hbelow1.trans (Br.mono hbelow1.size)
      have hkr : ∀ i, i < 64 → wr.cell? ⟨2, i, none⟩ = some (uv (K.getD i 0)) := fun i hi => (hbr.cell (p := ⟨2, i, none⟩) hg1).trans (hk i hi)
      have HKR := Lib.hid hkr
      have hne1 : w.heap.size + 1 ≠ 2 := by omega
      have hnn3 : 64 ≤ hv + (nn + 8) := by have := HNN.out; omega
      have j1 : (0 : Int) ≤ (nn : Int) + 8 := by omega
      have j2 : (nn : Int) + 8 ≤ 128 := by omega
      have j3 : ((nn : Int) + 8).toNat = nn + 8 := by omega
      have hal51 : Tryd.prog.arrayLen 92 = 128 := hal
      have hu51 : Tryd.prog.underlying 28 = some (.slice 5) := Tryd.underlying28
      have hsz : Box ((Tryd.prog.info? 5).map (·.size) = some 1) := ⟨by kernel_rfl⟩
      have hw : Calls Tryd.prog 54 #[.pointer (some ⟨w.heap.size + 1, 0, none⟩), .slice (some ⟨w1.heap.size, 0, none⟩) (nn + 8) 128] wr fun e w' =>
          e = .returned (.tuple #[]) ∧ (∃ rest' hv' tk', rest'.length = 64 ∧ w'.heap[w.heap.size + 1]? = some (.cells (hcells (absorb K st (rest.take hv ++ (tailN nn L 8).take (nn + 8)) ((hv + (nn + 8)) / 64)) rest' hv' tk').toArray 87 (0, 0))) ∧ wr.grownBy w' (some (w.heap.size + 1)) := by
        by_cases h0 : hv = 0
        · subst h0
          have e56 : nn + 8 = 64 := by have := HNN.out; omega
          refine (write_zero K st rest tk (w.heap.size + 1) (some ⟨w1.heap.size, 0, none⟩) (nn + 8) 128 _ wr HS.out HR.out HK.out HB2.out hrow (by omega) (by omega) (fun h => by cases h) (fun b' o' h => by cases h; omega) hne1 hkr).mono fun e w' ⟨h1, h2, h3⟩ => ⟨h1, ⟨splice rest 0 (((tailN nn L 8).take (nn + 8)).drop (64 * ((nn + 8) / 64))), (nn + 8) % 64, tk + UInt64.ofNat (nn + 8), ?_, ?_⟩, h3⟩
          · rw [length_splice' (by rw [List.length_drop, List.length_take, HT.out, HR.out]; omega)]; exact HR.out
          · rw [List.take_zero, List.nil_append, Nat.zero_add]; exact h2
        · refine (write_fill K st rest hv tk (w.heap.size + 1) w1.heap.size 0 (nn + 8) 128 _ wr HS.out HR.out HK.out (by omega) hv64 HB2.out hrow (by omega) (by omega) hnn3 (by omega) hne1 hkr).mono fun e w' ⟨h1, h2, h3⟩ => ⟨h1, ⟨_, _, _, ?_, (by rw [← absorb_fill K st rest _ hv (nn + 8) HR.out hv64 hrow.1 hnn3]; exact h2)⟩, h3⟩
          have y1 : (splice rest hv (((tailN nn L 8).take (nn + 8)).take (64 - hv))).length = 64 := by
            rw [length_splice' (by rw [List.length_take, List.length_take, HT.out, HR.out]; omega)]; exact HR.out
          rw [length_splice' (by rw [List.length_drop, List.length_drop, List.length_take, HT.out, y1]; omega)]
          exact y1
      clear hkr
      go_wp2_with (go_at_call 54; refine hw.mono ?_)
      rintro e w2 ⟨rfl, ⟨rest', hv', tk', hr', g2⟩, G2⟩
      obtain ⟨S, hS⟩ := s8_of (l := absorb K st (rest.take hv ++ (tailN nn L 8).take (nn + 8)) ((hv + (nn + 8)) / 64)) (by rw [length_absorb]; exact HS.out)
      rw [hS] at g2
      have HG2 : Box (w2.heap[w.heap.size + 1]? = some (.cells (hcells S.list rest' hv' tk').toArray 87 (0, 0))) := ⟨g2⟩
      have hbw2 : Below w.heap.size w w2 := hbr.grown G2 hbr.size (fun k hk => by cases hk; omega)
      have R2 : Box (w2.heap[w.heap.size]? = some (.cells (bvs (List.replicate 32 0)).toArray 27 (0, 0))) := ⟨(G2.block w.heap.size (by have := Br.size; omega) (by simp)).trans ((Br.block w.heap.size (by omega)).trans R1.out)⟩
      have hi42 : Box ((Tryd.prog.info? 83).map (·.size) = some (uvs S.list).length) := ⟨by
        have h : (Tryd.prog.info? 83).map (·.size) = some 8 := by kernel_rfl
        rw [h]; rfl⟩
      clear g2 G2
      have hzd : ∀ W : World, (zeroValue 27).run Tryd.prog W = .ok (.agg (bvs (List.replicate 32 0)).toArray) W := fun W => by kernel_rfl
      go_wp2_with (refine wpList_load_mid rfl 83 (.tmp 42) rfl (w.heap.size + 1) 0 rfl (uvs S.list) _ (hcells_range (heap_old HG2.out)) Tryd.underlying83 rfl hi42.out ?_)
      refine wp_anyWorld (fun W => Hid (W.heap[w2.heap.size]? = some (.cells (bvs (outN S.list 0)).toArray 27 (0, 0))) ∧ Below w2.heap.size w2 W ∧ w2.heap.size < W.heap.size)
        ⟨heap_new rfl, Below.refl_alloc w2 _, by simp⟩ ?_
      rintro W3 ⟨g3, B3, s3⟩
      go_loopw [44, 9, 10] (fun i t9 t10 wr => ∃ k : Nat, k ≤ 8 ∧ i = .int .i64 k ∧ Hid (wr.heap[w2.heap.size]? = some (.cells (bvs (outN S.list k)).toArray 27 (0, 0))) ∧ Below w2.heap.size w2 wr ∧ w2.heap.size < wr.heap.size) (fun i _ _ _ => 8 - (intOf i).toNat)
      case atStart => exact ⟨0, by omega, rfl, g3, B3, s3⟩
      case round =>
        obtain ⟨k, hk8, rfl, gr, Br, sr⟩ := hrel
        by_cases hlt : k < 8
        · have hix : ∀ W : World, (Instr.index 83 (.agg (uvs S.list).toArray) (.int .i64 (k : Int))).run Tryd.prog W = .ok (uv (S.list.getD k 0)) W := fun W => index8 S k hlt W
          have hnext : outN S.list (k + 1) = ((((outN S.list k).set (4 * k) (S.list.getD k 0 >>> 24).toUInt8).set (4 * k + 1) (S.list.getD k 0 >>> 16).toUInt8).set (4 * k + 2) (S.list.getD k 0 >>> 8).toUInt8).set (4 * k + 3) (S.list.getD k 0).toUInt8 := by rw [outN]
          generalize S.list.getD k 0 = x at hix hnext
          have HN := Lib.hid hnext
          clear hnext
          have hlo : (outN S.list k).length = 32 := length_outN _ _
          have c0 := bvs_cell gr.out (i := 4 * k) (by omega)
          have z0 := frozen_of_row _ _ (4 * k) _ 27 gr.out
          have q1 := bvs_set (i := 4 * k) (x >>> 24).toUInt8 gr.out
          have c1 := bvs_cell q1 (i := 4 * k + 1) (by rw [List.length_set]; omega)
          have z1 := frozen_of_row _ _ (4 * k + 1) _ 27 q1
          have q2 := bvs_set (i := 4 * k + 1) (x >>> 16).toUInt8 q1
          have c2 := bvs_cell q2 (i := 4 * k + 2) (by rw [List.length_set, List.length_set]; omega)
          have z2 := frozen_of_row _ _ (4 * k + 2) _ 27 q2
          have q3 := bvs_set (i := 4 * k + 2) (x >>> 8).toUInt8 q2
          have c3 := bvs_cell q3 (i := 4 * k + 3) (by rw [List.length_set, List.length_set, List.length_set]; omega)
          have z3 := frozen_of_row _ _ (4 * k + 3) _ 27 q3
          have q4 := bvs_set (i := 4 * k + 3) x.toUInt8 q3
          have C0 := Lib.hid c0
          have C1 := Lib.hid c1
          have C2 := Lib.hid c2
          have C3 := Lib.hid c3
          have Z0 := Lib.hid z0
          have Z1 := Lib.hid z1
          have Z2 := Lib.hid z2
          have Z3 := Lib.hid z3
          have Q4 := Lib.hid q4
          clear c0 c1 c2 c3 z0 z1 z2 z3 q1 q2 q3 q4 hlo
          have hi5 : Box ((Tryd.prog.info? 5).map (·.size) = some 1) := ⟨by kernel_rfl⟩
          have k0 : (0 : Int) ≤ (k : Int) := by omega
          have k1 : (k : Int) < 8 := by omega
          have n0 : (0 : Int) ≤ 4 * (k : Int) := by omega
          have n1 : (0 : Int) ≤ 4 * (k : Int) + 1 := by omega
          have n2 : (0 : Int) ≤ 4 * (k : Int) + 2 := by omega
          have n3 : (0 : Int) ≤ 4 * (k : Int) + 3 := by omega
          have m0 : 4 * (k : Int) < 32 := by omega
          have m1 : 4 * (k : Int) + 1 < 32 := by omega
          have m2 : 4 * (k : Int) + 2 < 32 := by omega
          have m3 : 4 * (k : Int) + 3 < 32 := by omega
          have t0 : (4 * (k : Int)).toNat = 4 * k := by omega
          have t1 : (4 * (k : Int) + 1).toNat = 4 * k + 1 := by omega
          have t2 : (4 * (k : Int) + 2).toNat = 4 * k + 2 := by omega
          have t3 : (4 * (k : Int) + 3).toNat = 4 * k + 3 := by omega
          have e0 := IntWalk.i64_in (4 * (k : Int)) (by omega)
          have e1 := IntWalk.i64_in (4 * (k : Int) + 1) (by omega)
          have e2 := IntWalk.i64_in (4 * (k : Int) + 2) (by omega)
          have e3 := IntWalk.i64_in (4 * (k : Int) + 3) (by omega)
          have hal32 : Tryd.prog.arrayLen 27 = 32 := by kernel_rfl
          go_wp2_with (first
            | (refine wpList_store_int rfl 5 (.tmp 70) (.tmp 61) ?_ ⟨w2.heap.size, 4 * k, none⟩ (bv (x >>> 24).toUInt8) ?_ ?_ ?_ ?_ ?_ ?_ ?_; rfl; rfl; rfl; exact ⟨_, _, rfl⟩; exact hi5.out; exact ⟨_, C0.out⟩; exact Z0.out)
            | (refine wpList_store_int rfl 5 (.tmp 71) (.tmp 64) ?_ ⟨w2.heap.size, 4 * k + 1, none⟩ (bv (x >>> 16).toUInt8) ?_ ?_ ?_ ?_ ?_ ?_ ?_; rfl; rfl; rfl; exact ⟨_, _, rfl⟩; exact hi5.out; exact ⟨_, C1.out⟩; exact Z1.out)
            | (refine wpList_store_int rfl 5 (.tmp 72) (.tmp 67) ?_ ⟨w2.heap.size, 4 * k + 2, none⟩ (bv (x >>> 8).toUInt8) ?_ ?_ ?_ ?_ ?_ ?_ ?_; rfl; rfl; rfl; exact ⟨_, _, rfl⟩; exact hi5.out; exact ⟨_, C2.out⟩; exact Z2.out)
            | (refine wpList_store_int rfl 5 (.tmp 73) (.tmp 69) ?_ ⟨w2.heap.size, 4 * k + 3, none⟩ (bv x.toUInt8) ?_ ?_ ?_ ?_ ?_ ?_ ?_; rfl; rfl; rfl; exact ⟨_, _, rfl⟩; exact hi5.out; exact ⟨_, C3.out⟩; exact Z3.out))
          go_roundw
          case rel =>
            refine ⟨k + 1, by omega, by go_num, ?_, (((Br.setCell (Nat.le_refl _) _).setCell (Nat.le_refl _) _).setCell (Nat.le_refl _) _).setCell (Nat.le_refl _) _, by simpa using sr⟩
            rw [HN.out]
            exact Q4
          case measure => simp [intOf]; omega
        · have e8 : k = 8 := by omega
          have g8 : Hid (wr.heap[w2.heap.size]? = some (.cells (bvs (outN S.list 8)).toArray 27 (0, 0))) := by rw [← e8]; exact gr
          have hi24 : Box ((Tryd.prog.info? 27).map (·.size) = some (bvs (outN S.list 8)).toArray.size) := ⟨by
            have h : (Tryd.prog.info? 27).map (·.size) = some 32 := by kernel_rfl
            rw [h]; simp [length_outN]⟩
          clear gr
          have B2 : Box (w.heap.size < w2.heap.size) := ⟨heap_lt R2.out⟩
          have gr0 : Hid (wr.heap[w.heap.size]? = some (.cells (bvs (List.replicate 32 0)).toArray 27 (0, 0))) := (Br.block w.heap.size B2.out).trans R2.out
          have hsz0 : Box ((bvs (outN S.list 8)).toArray.size = (bvs (List.replicate 32 0)).toArray.size) := ⟨by rw [List.size_toArray, List.size_toArray, length_bvs, length_bvs, length_outN, List.length_replicate]⟩
          obtain ⟨ob, HOB⟩ : ∃ o, Box (outN S.list 8 = o) := ⟨_, ⟨rfl⟩⟩
          rw [HOB.out] at g8 hi24 hsz0
          have hbw : Below w.heap.size w wr := hbw2.trans (Br.mono hbw2.size)
          go_wp2_with (first
            | (refine wpList_load_row rfl 27 (.tmp 8) ?_ w2.heap.size ?_ 27 _ (0, 0) _ g8.out Tryd.underlying27 rfl hi24.out ?_; rfl; rfl)
            | (refine wpList_store_row rfl 27 (.tmp 2) (.tmp 75) ?_ w.heap.size _ _ 27 ?_ ?_ gr0.out hsz0.out.symm hi24.out (bvs_all _) ?_; rfl; rfl; rfl; intro w3 g6 hg3))
          have hb3 := hbw.grown hg3 hbw.size (fun k hk => by cases hk; omega)
          go_wp2
          refine bodyPost_ret (v := .agg (bvs ob).toArray) (results_cell_row (p := 2) (ty := 27) rfl _ _ w.heap.size 27 _ (0, 0) _ rfl g6.out Tryd.underlying27 rfl hi24.out) rfl ⟨?_, hb3⟩
          have en : (119 - hv) % 64 + 1 = nn := by have := HNN.out; omega
          have eL : (tk * 8).toNat = L := by have := HL.out; rw [wrap_eight] at this; omega
          unfold finD
          rw [en, eL, hS, HOB.out]
end Go.Proofs.YteiepenanffhcaaDoor

/- The digest of a message: the walk of digest.Sum. -/
namespace Go.Proofs.YteiepenanffhcaaDoor
open Go Go.RowKit
set_option linter.unusedVariables false

/-- The digest of a message, over a begin and a table of rounds. -/
def shaD (B K : List UInt32) (l : List UInt8) : List UInt8 :=
  finD K (absorb K B l (l.length / 64)) (splice (List.replicate 64 0) 0 (l.drop (64 * (l.length / 64)))) (l.length % 64) (UInt64.ofNat l.length)

theorem wpList_built {P : Program} {ops : Array Oper} {rest : List Oper} {o : Oper} {a : Act} {w : World} {Q : Exit → Act → World → Prop} (hg : o.guard = none) (t : TypeId) (parts : List (Nat × Operand)) (ho : o.op = .build t parts.toArray)
    (ps : List (Nat × Value)) (hp : (parts.map fun p => (p.1, a.eval p.2)) = ps) (cells : Array Value) (hc : P.built t ps = some cells)
    (h : wpList P ops Q rest (a.put o.dst (.agg cells)) w) : wpList P ops Q (o :: rest) a w := by
  have hm : (parts.toArray.map fun (i, x) => (i, a.eval x)).toList = ps := by rw [← hp]; simp
  refine wpList_build hg t parts.toArray ho (by rw [hm, hc]; rfl) ?_
  rw [hm, hc]
  exact h
theorem uvs_at {l : List UInt32} {j : Nat} {v : Value} (hj : (uvs l)[j]? = some v) : j < l.length ∧ v = uv (l.getD j 0) := by
  rw [uvs_getElem?] at hj
  obtain ⟨x, hx, rfl⟩ := Option.map_eq_some_iff.1 hj
  obtain ⟨hl, rfl⟩ := List.getElem?_eq_some_iff.1 hx
  exact ⟨hl, by rw [List.getD_eq_getElem?_getD, hx]; rfl⟩

set_option maxRecDepth 100000 in
set_option maxHeartbeats 4000000 in
theorem sumf_any (S : S8) (K : List UInt32) (ao : Option Addr) (n c : Nat) (l : List UInt8) (w : World) (hK : K.length = 64)
    (hp : Row w ao n l) (hnc : n ≤ c) (hmax : n ≤ 140737488355328) (hnil : ao = none → n = 0 ∧ c = 0) (hao : ∀ b' o', ao = some ⟨b', o', none⟩ → b' < w.heap.size)
    (hbg : ∀ i, i < 8 → w.cell? ⟨0, i, none⟩ = some (uv (S.list.getD i 0)))
    (hk : ∀ i, i < 64 → w.cell? ⟨2, i, none⟩ = some (uv (K.getD i 0))) :
    Calls Tryd.prog 43 #[.slice ao n c] w fun e w' => e = .returned (.agg (bvs (shaD S.list K l)).toArray) ∧ Below w.heap.size w w' := by
  have hz : ∀ W : World, (zeroValue 87).run Tryd.prog W = .ok (.agg (hcells (List.replicate 8 0) (List.replicate 64 0) 0 0).toArray) W := fun W => by kernel_rfl
  have hzd : ∀ W : World, (zeroValue 27).run Tryd.prog W = .ok (.agg (bvs (List.replicate 32 0)).toArray) W := fun W => by kernel_rfl
  have hbuilt : Tryd.prog.built 87 [(0, .agg (uvs S.list).toArray)] = some (hcells S.list (List.replicate 64 0) 0 0).toArray := by kernel_rfl
  have hg0 : 0 < w.heap.size := block_lt_of_cell (hbg 0 (by omega))
  have hg1 : 2 < w.heap.size := block_lt_of_cell (hk 0 (by omega))
  have hi42 : Box ((Tryd.prog.info? 83).map (·.size) = some (uvs S.list).length) := ⟨by
    have h : (Tryd.prog.info? 83).map (·.size) = some 8 := by kernel_rfl
    rw [h]; rfl⟩
  have hrg : ∀ W, Below w.heap.size w W → W.rangeAt 0 0 (uvs S.list) := fun W hW j v hj => by
    obtain ⟨hl, rfl⟩ := uvs_at hj
    rw [Nat.zero_add]
    exact (hW.cell (p := ⟨0, j, none⟩) hg0).trans (hbg j hl)
  have HRG := Lib.hid hrg
  have i46 : Box ((Tryd.prog.info? 87).map (·.size) = some (hcells S.list (List.replicate 64 0) 0 0).toArray.size) := ⟨by
    have h : (Tryd.prog.info? 87).map (·.size) = some 74 := by kernel_rfl
    rw [h]; rfl⟩
  obtain ⟨hcs, HCS⟩ : ∃ hcs : Array Value, Box (hcs = (hcells S.list (List.replicate 64 0) 0 0).toArray) := ⟨_, ⟨rfl⟩⟩
  rw [← HCS.out] at hbuilt i46
  have HBU := Lib.hid hbuilt
  obtain ⟨zcs, HZ⟩ : ∃ zcs : Array Value, Box (zcs = (hcells (List.replicate 8 0) (List.replicate 64 0) 0 0).toArray) := ⟨_, ⟨rfl⟩⟩
  rw [← HZ.out] at hz
  obtain ⟨dcs, HDC⟩ : ∃ dcs : Array Value, Box (dcs = (bvs (List.replicate 32 0)).toArray) := ⟨_, ⟨rfl⟩⟩
  rw [← HDC.out] at hzd
  have hzs : Box (zcs.size = hcs.size) := ⟨by rw [HZ.out, HCS.out]; rfl⟩
  have hall : Box (hcs.all (·.oneCell') = true) := ⟨by rw [HCS.out]; exact hcells_all _ _ _ _⟩
  have HK := Lib.hid hk
  clear hbuilt hrg hbg hk
  obtain ⟨out, hout⟩ : ∃ out, shaD S.list K l = out := ⟨_, rfl⟩
  rw [hout]
  have HOUT : Box (shaD S.list K l = out) := ⟨hout⟩
  clear hout
  go_enter Tryd.func43, Tryd.ntmps43
  go_wp2_with (first
    | (refine wpList_load_mid rfl 83 (.global 0) ?_ 0 0 ?_ (uvs S.list) _ ?_ Tryd.underlying83 rfl hi42.out ?_; rfl; rfl; exact HRG.out _ (Below.refl_alloc w _))
    | (refine wpList_built rfl 87 [(0, .tmp 4)] ?_ [(0, .agg (uvs S.list).toArray)] ?_ hcs HBU.out ?_; rfl; rfl)
    | (refine wpList_store_row rfl 87 (.tmp 3) (.tmp 5) ?_ (w.heap.size + 1) zcs hcs 87 ?_ ?_ ?_ hzs.out i46.out hall.out ?_; rfl; rfl; rfl; exact heap_new (by simp)))
  intro w1 g1 G1
  have HB1 : Box (w1.heap[w.heap.size + 1]? = some (.cells (hcells S.list (List.replicate 64 0) 0 0).toArray 87 (0, 0))) := ⟨by rw [← HCS.out]; exact g1.out⟩
  have hbelow1 : Below w.heap.size w w1 := (((Below.refl_alloc w _).alloc (by simp) _)).grown G1 (by simp; omega) (fun k hk => by cases hk; omega)
  have hsz1 : w.heap.size + 2 ≤ w1.heap.size := by have := G1.size; simpa using this
  have R1 : Box (w1.heap[w.heap.size]? = some (.cells dcs 27 (0, 0))) := ⟨(G1.block w.heap.size (by simp; omega) (by simp)).trans (heap_old (heap_new rfl))⟩
  have hp1 : Row w1 ao n l := hp.old hbelow1
  have hne : ∀ b' o', ao = some ⟨b', o', none⟩ → b' ≠ w.heap.size + 1 := fun b' o' h => by
    have := hao b' o' h
    omega
  have hk1 : ∀ i, i < 64 → w1.cell? ⟨2, i, none⟩ = some (uv (K.getD i 0)) := fun i hi => (hbelow1.cell (p := ⟨2, i, none⟩) hg1).trans (HK.out i hi)
  have hw := write_zero K S.list (List.replicate 64 0) 0 (w.heap.size + 1) ao n c l w1 rfl (by simp) hK HB1.out hp1 hnc hmax hnil hne (by omega) hk1
  clear hk1 hne hnil hao hmax hnc
  have hl := hp.1
  subst hl
  obtain ⟨st, hst⟩ : ∃ st, absorb K S.list l (l.length / 64) = st := ⟨_, rfl⟩
  obtain ⟨rest, hrest⟩ : ∃ rest, splice (List.replicate 64 0) 0 (l.drop (64 * (l.length / 64))) = rest := ⟨_, rfl⟩
  obtain ⟨hv, hhv⟩ : ∃ hv, l.length % 64 = hv := ⟨_, rfl⟩
  obtain ⟨tk, htk⟩ : ∃ tk : UInt64, 0 + UInt64.ofNat l.length = tk := ⟨_, rfl⟩
  have htk' : UInt64.ofNat l.length = tk := by rw [← htk]; simp
  have hst8 : st.length = 8 := by rw [← hst, length_absorb]; rfl
  have hrest64 : rest.length = 64 := by
    rw [← hrest, length_splice' (by rw [List.length_drop, List.length_replicate]; omega)]; simp
  have hhv64 : hv < 64 := by omega
  have hsha : shaD S.list K l = finD K st rest hv tk := by unfold shaD; rw [hst, hrest, hhv, htk']
  rw [hst, hrest, hhv, htk] at hw
  clear htk' hst hrest hhv htk
  have HFIN : Box (finD K st rest hv tk = out) := ⟨by rw [← hsha]; exact HOUT.out⟩
  clear hsha
  go_wp2_with (go_at_call 54; refine hw.mono ?_)
  rintro e w2 ⟨rfl, g2, G2⟩
  have hbelow2 : Below w.heap.size w w2 := hbelow1.grown G2 hbelow1.size (fun k hk => by cases hk; omega)
  have hk2 : ∀ i, i < 64 → w2.cell? ⟨2, i, none⟩ = some (uv (K.getD i 0)) := fun i hi => (hbelow2.cell (p := ⟨2, i, none⟩) hg1).trans (HK.out i hi)
  have R2 : Box (w2.heap[w.heap.size]? = some (.cells dcs 27 (0, 0))) := ⟨(G2.block w.heap.size (by omega) (by simp)).trans R1.out⟩
  have hm := summ_any K st rest hv tk (w.heap.size + 1) w2 hst8 hrest64 hK hhv64 g2 hk2
  rw [HFIN.out] at hm
  have hlen : Box (out.length = 32) := ⟨by rw [← HFIN.out]; exact length_outN _ _⟩
  clear hk2 g2 hst8 hrest64 hhv64
  have i24 : Box ((Tryd.prog.info? 27).map (·.size) = some (bvs out).toArray.size) := ⟨by
    have h : (Tryd.prog.info? 27).map (·.size) = some 32 := by kernel_rfl
    rw [h]; simp [hlen.out]⟩
  have hds : Box (dcs.size = (bvs out).toArray.size) := ⟨by rw [HDC.out]; simp [hlen.out]⟩
  go_wp2_with (first
    | (go_at_call 55; refine hm.mono ?_; rintro e w3 ⟨rfl, B3⟩)
    | (refine wpList_store_row rfl 27 (.tmp 2) (.tmp 8) ?_ w.heap.size dcs (bvs out).toArray 27 ?_ ?_ ?_ hds.out i24.out (bvs_all _) ?_; rfl; rfl; rfl; exact ((B3.block _ (heap_lt R2.out)).trans R2.out)))
  intro w4 g4 G4
  have hbelow4 : Below w.heap.size w w4 := ((hbelow2.trans (B3.mono hbelow2.size)).grown G4 (hbelow2.trans (B3.mono hbelow2.size)).size (fun k hk => by cases hk; omega))
  go_wp2
  exact bodyPost_ret (v := .agg (bvs out).toArray) (results_cell_row (p := 2) (ty := 27) rfl _ _ w.heap.size 27 _ (0, 0) _ rfl g4.out Tryd.underlying27 rfl i24.out) rfl ⟨rfl, hbelow4⟩
end Go.Proofs.YteiepenanffhcaaDoor
