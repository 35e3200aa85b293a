/- A piece taken: the walk of (*Hasher).Write, where nothing rests and where what rests is filled up. -/
import Derived.Test.YteiepenanffhcaaDoorStep
namespace Go.Proofs.YteiepenanffhcaaDoor
open Go Go.RowKit
set_option linter.unusedVariables false

/-- The length of a slice value. -/
def lenOf : Value → Nat
  | .slice _ n _ => n
  | _ => 0
theorem taken_eq (tk : UInt64) (n : Nat) : ((tk.toNat : Int) + (n : Int)) % 18446744073709551616 = ((tk + UInt64.ofNat n).toNat : Int) := by
  rw [UInt64.toNat_add, UInt64.toNat_ofNat']; omega

set_option maxRecDepth 100000 in
set_option maxHeartbeats 4000000 in
theorem write_zero (K st : List UInt32) (rest : List UInt8) (tk : UInt64) (b : Nat) (ao : Option Addr) (n c : Nat) (l : List UInt8) (w : World) (hst : st.length = 8) (hr : rest.length = 64) (hK : K.length = 64)
    (hb : w.heap[b]? = some (.cells (hcells st rest 0 tk).toArray 87 (0, 0))) (hp : Row w ao n l) (hnc : n ≤ c) (hmax : n ≤ 140737488355328) (hnil : ao = none → n = 0 ∧ c = 0) (hne : ∀ b' o', ao = some ⟨b', o', none⟩ → b' ≠ b) (hb1 : b ≠ 2)
    (hk : ∀ i, i < 64 → w.cell? ⟨2, i, none⟩ = some (uv (K.getD i 0))) :
    Calls Tryd.prog 54 #[.pointer (some ⟨b, 0, none⟩), .slice ao n c] w fun e w' =>
      e = .returned (.tuple #[]) ∧ w'.heap[b]? = some (.cells (hcells (absorb K st l (n / 64)) (splice rest 0 (l.drop (64 * (n / 64)))) (n % 64) (tk + UInt64.ofNat n)).toArray 87 (0, 0)) ∧ w.grownBy w' (some b) := by
  have hcell := hcells_at hb hst hr
  have c72 := hcell.1
  have c73 := hcell.2
  have z72 := frozen_of_row _ b 72 _ 87 hb
  have z73 := frozen_of_row _ b 73 _ 87 hb
  have hwr := wrap_taken tk n
  have hwr' := wrap_taken' tk n
  have hbl := heap_lt hb
  have hg1 : 2 < w.heap.size := block_lt_of_cell (hk 0 (by omega))
  have HS : Box (st.length = 8) := ⟨hst⟩
  have HR : Box (rest.length = 64) := ⟨hr⟩
  have HK : Box (K.length = 64) := ⟨hK⟩
  have HB : Box (w.heap[b]? = some (.cells (hcells st rest 0 tk).toArray 87 (0, 0))) := ⟨hb⟩
  clear hcell hst hr hK hb
  go_enter Tryd.func54, Tryd.ntmps54
  go_wp2_with fail
  refine wp_anyWorld (fun W => Hid (W.heap[b]? = some (.cells (hcells st rest 0 (tk + UInt64.ofNat n)).toArray 87 (0, 0))) ∧ w.grownBy W (some b))
    ⟨by rw [taken_eq]; exact hcells_set73 _ HB.out HS.out HR.out, grownBy_setCell w _ _⟩ ?_
  rintro W ⟨g0, G0⟩
  generalize htk : tk + UInt64.ofNat n = tk' at g0 ⊢
  have HTK : Box (tk + UInt64.ofNat n = tk') := ⟨htk⟩
  clear htk hwr hwr' c72 c73 z72 z73
  go_loopw [1] (fun p wr => ∃ (k : Nat) (ao' : Option Addr) (n' c' : Nat), p = .slice ao' n' c' ∧ n' + 64 * k = n ∧ n' ≤ c' ∧ (ao' = none → n' = 0 ∧ c' = 0) ∧ (∀ b' o', ao' = some ⟨b', o', none⟩ → b' ≠ b) ∧ Row wr ao' n' (l.drop (64 * k)) ∧
      Hid (wr.heap[b]? = some (.cells (hcells (absorb K st l k) rest 0 tk').toArray 87 (0, 0))) ∧ w.grownBy wr (some b)) (fun p _ => lenOf p)
  case atStart =>
    refine ⟨0, ao, n, c, rfl, by omega, hnc, hnil, hne, ?_, by rw [absorb_zero]; exact g0, G0⟩
    rw [Nat.mul_zero, List.drop_zero]
    exact hp.grownAny G0 (fun b' o' e h => hne b' o' e (by cases h; rfl))
  case round =>
    obtain ⟨k, ao', n', c', rfl, hn', hc', hnil', hne', hrow, gk, Gk⟩ := hrel
    by_cases h64 : 64 ≤ n'
    · obtain ⟨b', o', rfl⟩ := hrow.at0 (by omega)
      have hbb := hne' b' o' rfl
      have hkk : ∀ i, i < 64 → wr.cell? ⟨2, i, none⟩ = some (uv (K.getD i 0)) := fun i hi =>
        (World.cell?_of_block (w := w) (w' := wr) (a := ⟨2, i, none⟩) (Gk.block _ hg1 (fun h => hb1 (by cases h; rfl)))).trans (hk i hi)
      have i1 : (64 : Int) ≤ (n' : Int) := by omega
      have i2 : (64 : Int) ≤ (c' : Int) := by omega
      have i3 : (n' : Int) ≤ (c' : Int) := by omega
      have hr64 : Row wr (some ⟨b', o', none⟩) 64 ((l.drop (64 * k)).take 64) := hrow.take 64 h64
      have hla : Box ((absorb K st l k).length = 8) := ⟨by rw [length_absorb]; exact HS.out⟩
      have hkk' := Lib.hid hkk
      clear hkk
      go_wp2_with (go_at_call 59; refine (step_any K (absorb K st l k) rest 0 tk' b b' o' c' ((l.drop (64 * k)).take 64) _ hla.out HK.out gk.out hr64 (by omega) hkk'.out).mono ?_)
      rintro e w2 ⟨rfl, g2, G2⟩
      go_wp2_with fail
      go_roundw
      case rel =>
        refine ⟨k + 1, _, n' - 64, c' - 64, rfl, by omega, by omega, ?_, ?_, ?_, ?_, ?_⟩
        · intro h; split at h <;> cases h
        · intro b2 o2 h; split at h <;> (cases h; exact hbb)
        · have hd : Row wr (some ⟨b', o' + 64, none⟩) (n' - 64) ((l.drop (64 * k)).drop 64) := hrow.drop 64 h64
          have hd2 := hd.grown G2 (hrow.lt (by omega)) (fun h => hbb (by cases h; rfl))
          rw [List.drop_drop, show 64 * k + 64 = 64 * (k + 1) by omega] at hd2
          split
          · have e : n' - 64 = 0 := by omega
            rw [e] at hd2 ⊢
            have hz : l.drop (64 * (k + 1)) = [] := List.length_eq_zero_iff.1 hd2.1
            rw [hz]; exact Row.nil
          · exact hd2
        · rw [absorb_succ]; exact g2
        · exact grownBy_trans Gk G2
      case measure => simp [lenOf]; omega
    · have hu : Tryd.prog.underlying 28 = some (.slice 5) := Tryd.underlying28
      have hsz : Box ((Tryd.prog.info? 5).map (·.size) = some 1) := ⟨by kernel_rfl⟩
      have hla : Box ((absorb K st l k).length = 8) := ⟨by rw [length_absorb]; exact HS.out⟩
      have hln := hrow.1
      have HLN : Box ((l.drop (64 * k)).length = n') := ⟨hln⟩
      have hrow' : Row wr ao' (l.drop (64 * k)).length (l.drop (64 * k)) := by rw [hln]; exact hrow
      have hmin : (l.drop (64 * k)).length = Nat.min n' 64 := by rw [hln]; exact (Nat.min_eq_left (by omega)).symm
      have hfit : 8 + (l.drop (64 * k)).length ≤ (hcells (absorb K st l k) rest 0 tk').length := by
        unfold hcells
        rw [List.length_append, List.length_append, length_uvs, length_bvs, hla.out, HR.out, hln]; omega
      have HM : Box ((l.drop (64 * k)).length = Nat.min n' 64) := ⟨hmin⟩
      clear hln hmin
      go_wp2_with (refine wpList_copy_bytes rfl (.tmp 68) (.tmp 69) 28 28 rfl hu hsz.out (some ⟨b, 8, none⟩) ao' 64 64 n' c' rfl rfl b 8 (hcells (absorb K st l k) rest 0 tk') 87 gk.out (l.drop (64 * k)) HM.out (fun _ => rfl) hrow' hfit ?_)
      intro w2 g2 G2
      have g3 : Hid (w2.heap[b]? = some (.cells (hcells (absorb K st l k) (splice rest 0 (l.drop (64 * k))) 0 tk').toArray 87 (0, 0))) := by
        have := g2.out
        rw [show (8 : Nat) = 8 + 0 from rfl, hcells_splice hla.out HR.out _ (by rw [HLN.out]; omega)] at this
        exact this
      have hls : Box ((splice rest 0 (l.drop (64 * k))).length = 64) := ⟨by rw [length_splice' (by rw [HLN.out, HR.out]; omega)]; exact HR.out⟩
      have c72 := (hcells_at g3.out hla.out hls.out).1
      have z72 := frozen_of_row _ b 72 _ 87 g3.out
      clear g2 hfit
      go_wp2_with fail
      go_end0
      have e1 : k = n / 64 := by omega
      have e2 : n % 64 = n' := by omega
      refine ⟨rfl, ?_, grownBy_set (grownBy_trans Gk G2) _⟩
      rw [HTK.out, ← e1, e2]
      have := hcells_set72 n' g3.out hla.out hls.out
      have e3 : l.length - 64 * k = n' := by have := HLN.out; simpa using this
      rw [e3]
      exact this

set_option maxRecDepth 100000 in
set_option maxHeartbeats 4000000 in
theorem write_fill (K st : List UInt32) (rest : List UInt8) (hv : Nat) (tk : UInt64) (b b0 o0 : Nat) (n c : Nat) (l : List UInt8) (w : World) (hst : st.length = 8) (hr : rest.length = 64) (hK : K.length = 64) (hv0 : 0 < hv) (hv64 : hv < 64)
    (hb : w.heap[b]? = some (.cells (hcells st rest hv tk).toArray 87 (0, 0))) (hp : Row w (some ⟨b0, o0, none⟩) n l) (hnc : n ≤ c) (hmax : n ≤ 140737488355328) (hfull : 64 ≤ hv + n) (hbb : b0 ≠ b) (hb1 : b ≠ 2)
    (hk : ∀ i, i < 64 → w.cell? ⟨2, i, none⟩ = some (uv (K.getD i 0))) :
    Calls Tryd.prog 54 #[.pointer (some ⟨b, 0, none⟩), .slice (some ⟨b0, o0, none⟩) n c] w fun e w' =>
      e = .returned (.tuple #[]) ∧ w'.heap[b]? = some (.cells (hcells (absorb K (compress K st (splice rest hv (l.take (64 - hv)))) (l.drop (64 - hv)) ((n - (64 - hv)) / 64)) (splice (splice rest hv (l.take (64 - hv))) 0 ((l.drop (64 - hv)).drop (64 * ((n - (64 - hv)) / 64)))) ((n - (64 - hv)) % 64) (tk + UInt64.ofNat n)).toArray 87 (0, 0)) ∧ w.grownBy w' (some b) := by
  have hcell := hcells_at hb hst hr
  have c72 := hcell.1
  have c73 := hcell.2
  have z72 := frozen_of_row _ b 72 _ 87 hb
  have z73 := frozen_of_row _ b 73 _ 87 hb
  have hbl := heap_lt hb
  have hg1 : 2 < w.heap.size := block_lt_of_cell (hk 0 (by omega))
  have HS : Box (st.length = 8) := ⟨hst⟩
  have HR : Box (rest.length = 64) := ⟨hr⟩
  have HK : Box (K.length = 64) := ⟨hK⟩
  have HB : Box (w.heap[b]? = some (.cells (hcells st rest hv tk).toArray 87 (0, 0))) := ⟨hb⟩
  have hal : Tryd.prog.arrayLen 84 = 64 := by kernel_rfl
  have hu : Tryd.prog.underlying 28 = some (.slice 5) := Tryd.underlying28
  have hsz : Box ((Tryd.prog.info? 5).map (·.size) = some 1) := ⟨by kernel_rfl⟩
  have i64 : ¬ 64 = hv := by omega
  have i0 : (0 : Int) < (hv : Int) := by omega
  have i1 : (hv : Int) ≤ 64 := by omega
  have i2 : (0 : Int) ≤ (hv : Int) := by omega
  clear hcell hst hr hK hb
  go_enter Tryd.func54, Tryd.ntmps54
  go_wp2_with fail
  refine wp_anyWorld (fun W => Hid (W.heap[b]? = some (.cells (hcells st rest hv (tk + UInt64.ofNat n)).toArray 87 (0, 0))) ∧ w.grownBy W (some b))
    ⟨by rw [wrap_taken']; exact hcells_set73 _ HB.out HS.out HR.out, grownBy_setCell w _ _⟩ ?_
  rintro W ⟨g0, G0⟩
  generalize htk : tk + UInt64.ofNat n = tk' at g0 ⊢
  have HTK : Box (tk + UInt64.ofNat n = tk') := ⟨htk⟩
  clear htk c72 c73 z72 z73
  have c72 := (hcells_at g0.out HS.out HR.out).1
  have hp0 : Row W (some ⟨b0, o0, none⟩) n l := hp.grownAny G0 (fun b' o' e h => hbb (by cases e; cases h; rfl))
  have hlt : Box ((l.take (64 - hv)).length = 64 - hv) := ⟨by rw [List.length_take, hp.1]; omega⟩
  have hmn : min (64 - hv) l.length = 64 - hv := by rw [hp.1]; omega
  have hsum : (hv : Int) + ((64 - hv : Nat) : Int) = 64 := by omega
  have hrow : Row W.drew (some ⟨b0, o0, none⟩) (l.take (64 - hv)).length (l.take (64 - hv)) := by rw [hlt.out]; exact hp0.take (64 - hv) (by omega)
  have hmin : Box ((l.take (64 - hv)).length = Nat.min n (64 - hv)) := ⟨by rw [hlt.out]; exact (Nat.min_eq_right (by omega)).symm⟩
  have hfit : Box ((8 + hv) + (l.take (64 - hv)).length ≤ (hcells st rest hv tk').length) := ⟨by unfold hcells; rw [List.length_append, List.length_append, length_uvs, length_bvs, HS.out, HR.out, hlt.out]; omega⟩
  go_region_law (refine step_copy_bytes rfl (.tmp 27) (.tmp 28) 28 28 rfl hu hsz.out (some ⟨b, 8 + hv, none⟩) (some ⟨b0, o0, none⟩) (64 - hv) (64 - hv) n c rfl rfl b (8 + hv) (hcells st rest hv tk') 87 (by exact g0.out) (l.take (64 - hv)) hmin.out (fun _ => rfl) hrow hfit.out ?_; intro w1 g1 G1)
  have g2 : Hid (w1.heap[b]? = some (.cells (hcells st (splice rest hv (l.take (64 - hv))) hv tk').toArray 87 (0, 0))) := by
    have := g1.out
    rw [hcells_splice HS.out HR.out _ (by rw [hlt.out]; omega)] at this
    exact this
  have hr1 : Box ((splice rest hv (l.take (64 - hv))).length = 64) := ⟨by rw [length_splice' (by rw [hlt.out, HR.out]; omega)]; exact HR.out⟩
  have G2 : w.grownBy w1 (some b) := grownBy_trans (grownBy_trans G0 (grownBy_drew _ _)) G1
  obtain ⟨rest1, HRE⟩ : ∃ r, Box (splice rest hv (l.take (64 - hv)) = r) := ⟨_, ⟨rfl⟩⟩
  rw [HRE.out] at g2 hr1
  have d72 := (hcells_at g2.out HS.out hr1.out).1
  have y72 := frozen_of_row _ b 72 _ 87 g2.out
  clear g1 G1 hrow hfit hmin c72 g0
  go_wp2_with fail
  case inl =>
    have g3 : Hid ((w1.setCell ⟨b, 72, none⟩ (.int .i64 64)).heap[b]? = some (.cells (hcells st rest1 64 tk').toArray 87 (0, 0))) := hcells_set72 64 g2.out HS.out hr1.out
    have G3 : w.grownBy (w1.setCell ⟨b, 72, none⟩ (.int .i64 64)) (some b) := grownBy_set G2 _
    have hrr : Row (w1.setCell ⟨b, 72, none⟩ (.int .i64 64)) (some ⟨b, 8, none⟩) 64 rest1 := by
      have := hcells_rest g3.out HS.out
      rwa [hr1.out] at this
    have hk3 : ∀ i, i < 64 → (w1.setCell ⟨b, 72, none⟩ (.int .i64 64)).cell? ⟨2, i, none⟩ = some (uv (K.getD i 0)) := fun i hi =>
      (World.cell?_of_block (w := w) (a := ⟨2, i, none⟩) (G3.block _ hg1 (fun h => hb1 (by cases h; rfl)))).trans (hk i hi)
    refine (step_any K st rest1 64 tk' b b 8 64 rest1 _ HS.out HK.out g3.out hrr (by omega) hk3).mono ?_
    rintro e w3 ⟨rfl, g4, G4⟩
    clear d72 y72 g2 g3 hrr hk3
    obtain ⟨st1, HST⟩ : ∃ s, Box (compress K st rest1 = s) := ⟨_, ⟨rfl⟩⟩
    rw [HST.out] at g4
    have HS1 : Box (st1.length = 8) := ⟨by rw [← HST.out, length_compress]; exact HS.out⟩
    have HR1 : Box (rest1.length = 64) := hr1
    have d72 := (hcells_at g4 HS1.out HR1.out).1
    have y72 := frozen_of_row _ b 72 _ 87 g4
    have g4' := Lib.hid g4
    clear g4
    have G34 : w.grownBy w3 (some b) := grownBy_trans G3 G4
    go_wp2_with fail
    refine wp_anyWorld (fun W => Hid (W.heap[b]? = some (.cells (hcells st1 rest1 0 tk').toArray 87 (0, 0))) ∧ w.grownBy W (some b))
      ⟨hcells_set72 0 g4'.out HS1.out HR1.out, grownBy_set G34 _⟩ ?_
    rintro W5 ⟨g5, G5⟩
    clear d72 y72 g4' G34 G3 G4
    obtain ⟨n2, HN2⟩ : ∃ m, Box (n - (64 - hv) = m) := ⟨_, ⟨rfl⟩⟩
    obtain ⟨l2, HL2⟩ : ∃ m, Box (l.drop (64 - hv) = m) := ⟨_, ⟨rfl⟩⟩
    have hn2 : n2 + (64 - hv) ≤ n := by have := HN2.out; omega
    have hn3 : n ≤ n2 + (64 - hv) := by have := HN2.out; omega
    go_loopw [1] (fun p wr => ∃ (k : Nat) (ao' : Option Addr) (n' c' : Nat), p = .slice ao' n' c' ∧ n' + 64 * k = n2 ∧ n' ≤ c' ∧ (ao' = none → n' = 0 ∧ c' = 0) ∧ (∀ b' o', ao' = some ⟨b', o', none⟩ → b' ≠ b) ∧ Row wr ao' n' (l2.drop (64 * k)) ∧
        Hid (wr.heap[b]? = some (.cells (hcells (absorb K st1 l2 k) rest1 0 tk').toArray 87 (0, 0))) ∧ w.grownBy wr (some b)) (fun p _ => lenOf p)
    case atStart =>
      refine ⟨0, _, n2, 0, by rw [← HN2.out], by omega, by omega, ?_, ?_, ?_, by rw [absorb_zero]; exact g5, G5⟩
      · intro h; cases h
      · intro b2 o2 h; cases h; exact hbb
      · rw [Nat.mul_zero, List.drop_zero]
        exact (by
          have e : n2 = 0 := by omega
          have hz : l2 = [] := List.length_eq_zero_iff.1 (by rw [← HL2.out, List.length_drop, hp.1]; omega)
          rw [hz, e]; exact Row.nil)
    case round =>
      obtain ⟨k, ao', n', c', rfl, hn', hc', hnil', hne', hrow, gk, Gk⟩ := hrel
      by_cases h64 : 64 ≤ n'
      · exfalso; omega
      · skip
        have hla : Box ((absorb K st1 l2 k).length = 8) := ⟨by rw [length_absorb]; exact HS1.out⟩
        have hln := hrow.1
        have HLN : Box ((l2.drop (64 * k)).length = n') := ⟨hln⟩
        have hrow' : Row wr ao' (l2.drop (64 * k)).length (l2.drop (64 * k)) := by rw [hln]; exact hrow
        have hmin : (l2.drop (64 * k)).length = Nat.min n' 64 := by rw [hln]; exact (Nat.min_eq_left (by omega)).symm
        have hfit : 8 + (l2.drop (64 * k)).length ≤ (hcells (absorb K st1 l2 k) rest1 0 tk').length := by
          unfold hcells
          rw [List.length_append, List.length_append, length_uvs, length_bvs, hla.out, HR1.out, hln]; omega
        have HM : Box ((l2.drop (64 * k)).length = Nat.min n' 64) := ⟨hmin⟩
        clear hln hmin
        go_wp2_with (refine wpList_copy_bytes rfl (.tmp 68) (.tmp 69) 28 28 rfl hu hsz.out (some ⟨b, 8, none⟩) ao' 64 64 n' c' rfl rfl b 8 (hcells (absorb K st1 l2 k) rest1 0 tk') 87 gk.out (l2.drop (64 * k)) HM.out (fun _ => rfl) hrow' hfit ?_)
        intro w2 g2 G2
        have g3 : Hid (w2.heap[b]? = some (.cells (hcells (absorb K st1 l2 k) (splice rest1 0 (l2.drop (64 * k))) 0 tk').toArray 87 (0, 0))) := by
          have := g2.out
          rw [show (8 : Nat) = 8 + 0 from rfl, hcells_splice hla.out HR1.out _ (by rw [HLN.out]; omega)] at this
          exact this
        have hls : Box ((splice rest1 0 (l2.drop (64 * k))).length = 64) := ⟨by rw [length_splice' (by rw [HLN.out, HR1.out]; omega)]; exact HR1.out⟩
        have c72 := (hcells_at g3.out hla.out hls.out).1
        have z72 := frozen_of_row _ b 72 _ 87 g3.out
        clear g2 hfit
        go_wp2_with fail
        go_end0
        have e1 : k = n2 / 64 := by omega
        have e2 : n2 % 64 = n' := by omega
        refine ⟨rfl, ?_, grownBy_set (grownBy_trans Gk G2) _⟩
        rw [HRE.out, HST.out, HTK.out, HL2.out, HN2.out, ← e1, e2]
        have := hcells_set72 n' g3.out hla.out hls.out
        have e3 : l2.length - 64 * k = n' := by have := HLN.out; simpa using this
        rw [e3]
        exact this

  case inr =>
    have g3 : Hid ((w1.setCell ⟨b, 72, none⟩ (.int .i64 64)).heap[b]? = some (.cells (hcells st rest1 64 tk').toArray 87 (0, 0))) := hcells_set72 64 g2.out HS.out hr1.out
    have G3 : w.grownBy (w1.setCell ⟨b, 72, none⟩ (.int .i64 64)) (some b) := grownBy_set G2 _
    have hrr : Row (w1.setCell ⟨b, 72, none⟩ (.int .i64 64)) (some ⟨b, 8, none⟩) 64 rest1 := by
      have := hcells_rest g3.out HS.out
      rwa [hr1.out] at this
    have hk3 : ∀ i, i < 64 → (w1.setCell ⟨b, 72, none⟩ (.int .i64 64)).cell? ⟨2, i, none⟩ = some (uv (K.getD i 0)) := fun i hi =>
      (World.cell?_of_block (w := w) (a := ⟨2, i, none⟩) (G3.block _ hg1 (fun h => hb1 (by cases h; rfl)))).trans (hk i hi)
    refine (step_any K st rest1 64 tk' b b 8 64 rest1 _ HS.out HK.out g3.out hrr (by omega) hk3).mono ?_
    rintro e w3 ⟨rfl, g4, G4⟩
    clear d72 y72 g2 g3 hrr hk3
    obtain ⟨st1, HST⟩ : ∃ s, Box (compress K st rest1 = s) := ⟨_, ⟨rfl⟩⟩
    rw [HST.out] at g4
    have HS1 : Box (st1.length = 8) := ⟨by rw [← HST.out, length_compress]; exact HS.out⟩
    have HR1 : Box (rest1.length = 64) := hr1
    have d72 := (hcells_at g4 HS1.out HR1.out).1
    have y72 := frozen_of_row _ b 72 _ 87 g4
    have g4' := Lib.hid g4
    clear g4
    have G34 : w.grownBy w3 (some b) := grownBy_trans G3 G4
    go_wp2_with fail
    refine wp_anyWorld (fun W => Hid (W.heap[b]? = some (.cells (hcells st1 rest1 0 tk').toArray 87 (0, 0))) ∧ w.grownBy W (some b))
      ⟨hcells_set72 0 g4'.out HS1.out HR1.out, grownBy_set G34 _⟩ ?_
    rintro W5 ⟨g5, G5⟩
    clear d72 y72 g4' G34 G3 G4
    obtain ⟨n2, HN2⟩ : ∃ m, Box (n - (64 - hv) = m) := ⟨_, ⟨rfl⟩⟩
    obtain ⟨l2, HL2⟩ : ∃ m, Box (l.drop (64 - hv) = m) := ⟨_, ⟨rfl⟩⟩
    have hn2 : n2 + (64 - hv) ≤ n := by have := HN2.out; omega
    have hn3 : n ≤ n2 + (64 - hv) := by have := HN2.out; omega
    go_loopw [1] (fun p wr => ∃ (k : Nat) (ao' : Option Addr) (n' c' : Nat), p = .slice ao' n' c' ∧ n' + 64 * k = n2 ∧ n' ≤ c' ∧ (ao' = none → n' = 0 ∧ c' = 0) ∧ (∀ b' o', ao' = some ⟨b', o', none⟩ → b' ≠ b) ∧ Row wr ao' n' (l2.drop (64 * k)) ∧
        Hid (wr.heap[b]? = some (.cells (hcells (absorb K st1 l2 k) rest1 0 tk').toArray 87 (0, 0))) ∧ w.grownBy wr (some b)) (fun p _ => lenOf p)
    case atStart =>
      refine ⟨0, _, n2, c - (64 - hv), by rw [← HN2.out], by omega, by omega, ?_, ?_, ?_, by rw [absorb_zero]; exact g5, G5⟩
      · intro h; cases h
      · intro b2 o2 h; cases h; exact hbb
      · rw [Nat.mul_zero, List.drop_zero]
        exact (by
          have hd := (hp.drop (64 - hv) (by omega)).grownAny G5 (fun b' o' e h => hbb (by cases e; cases h; rfl))
          rw [HN2.out, HL2.out] at hd; exact hd)
    case round =>
      obtain ⟨k, ao', n', c', rfl, hn', hc', hnil', hne', hrow, gk, Gk⟩ := hrel
      by_cases h64 : 64 ≤ n'
      · obtain ⟨b', o', rfl⟩ := hrow.at0 (by omega)
        have hbb := hne' b' o' rfl
        have hkk : ∀ i, i < 64 → wr.cell? ⟨2, i, none⟩ = some (uv (K.getD i 0)) := fun i hi =>
          (World.cell?_of_block (w := w) (w' := wr) (a := ⟨2, i, none⟩) (Gk.block _ hg1 (fun h => hb1 (by cases h; rfl)))).trans (hk i hi)
        have i1 : (64 : Int) ≤ (n' : Int) := by omega
        have i2 : (64 : Int) ≤ (c' : Int) := by omega
        have i3 : (n' : Int) ≤ (c' : Int) := by omega
        have hr64 : Row wr (some ⟨b', o', none⟩) 64 ((l2.drop (64 * k)).take 64) := hrow.take 64 h64
        have hla : Box ((absorb K st1 l2 k).length = 8) := ⟨by rw [length_absorb]; exact HS1.out⟩
        have hkk' := Lib.hid hkk
        clear hkk
        go_wp2_with (go_at_call 59; refine (step_any K (absorb K st1 l2 k) rest1 0 tk' b b' o' c' ((l2.drop (64 * k)).take 64) _ hla.out HK.out gk.out hr64 (by omega) hkk'.out).mono ?_)
        rintro e w2 ⟨rfl, g2, G2⟩
        go_wp2_with fail
        go_roundw
        case rel =>
          refine ⟨k + 1, _, n' - 64, c' - 64, rfl, by omega, by omega, ?_, ?_, ?_, ?_, ?_⟩
          · intro h; split at h <;> cases h
          · intro b2 o2 h; split at h <;> (cases h; exact hbb)
          · have hd : Row wr (some ⟨b', o' + 64, none⟩) (n' - 64) ((l2.drop (64 * k)).drop 64) := hrow.drop 64 h64
            have hd2 := hd.grown G2 (hrow.lt (by omega)) (fun h => hbb (by cases h; rfl))
            rw [List.drop_drop, show 64 * k + 64 = 64 * (k + 1) by omega] at hd2
            split
            · have e : n' - 64 = 0 := by omega
              rw [e] at hd2 ⊢
              have hz : l2.drop (64 * (k + 1)) = [] := List.length_eq_zero_iff.1 hd2.1
              rw [hz]; exact Row.nil
            · exact hd2
          · rw [absorb_succ]; exact g2
          · exact grownBy_trans Gk G2
        case measure => simp [lenOf]; omega
      · skip
        have hla : Box ((absorb K st1 l2 k).length = 8) := ⟨by rw [length_absorb]; exact HS1.out⟩
        have hln := hrow.1
        have HLN : Box ((l2.drop (64 * k)).length = n') := ⟨hln⟩
        have hrow' : Row wr ao' (l2.drop (64 * k)).length (l2.drop (64 * k)) := by rw [hln]; exact hrow
        have hmin : (l2.drop (64 * k)).length = Nat.min n' 64 := by rw [hln]; exact (Nat.min_eq_left (by omega)).symm
        have hfit : 8 + (l2.drop (64 * k)).length ≤ (hcells (absorb K st1 l2 k) rest1 0 tk').length := by
          unfold hcells
          rw [List.length_append, List.length_append, length_uvs, length_bvs, hla.out, HR1.out, hln]; omega
        have HM : Box ((l2.drop (64 * k)).length = Nat.min n' 64) := ⟨hmin⟩
        clear hln hmin
        go_wp2_with (refine wpList_copy_bytes rfl (.tmp 68) (.tmp 69) 28 28 rfl hu hsz.out (some ⟨b, 8, none⟩) ao' 64 64 n' c' rfl rfl b 8 (hcells (absorb K st1 l2 k) rest1 0 tk') 87 gk.out (l2.drop (64 * k)) HM.out (fun _ => rfl) hrow' hfit ?_)
        intro w2 g2 G2
        have g3 : Hid (w2.heap[b]? = some (.cells (hcells (absorb K st1 l2 k) (splice rest1 0 (l2.drop (64 * k))) 0 tk').toArray 87 (0, 0))) := by
          have := g2.out
          rw [show (8 : Nat) = 8 + 0 from rfl, hcells_splice hla.out HR1.out _ (by rw [HLN.out]; omega)] at this
          exact this
        have hls : Box ((splice rest1 0 (l2.drop (64 * k))).length = 64) := ⟨by rw [length_splice' (by rw [HLN.out, HR1.out]; omega)]; exact HR1.out⟩
        have c72 := (hcells_at g3.out hla.out hls.out).1
        have z72 := frozen_of_row _ b 72 _ 87 g3.out
        clear g2 hfit
        go_wp2_with fail
        go_end0
        have e1 : k = n2 / 64 := by omega
        have e2 : n2 % 64 = n' := by omega
        refine ⟨rfl, ?_, grownBy_set (grownBy_trans Gk G2) _⟩
        rw [HRE.out, HST.out, HTK.out, HL2.out, HN2.out, ← e1, e2]
        have := hcells_set72 n' g3.out hla.out hls.out
        have e3 : l2.length - 64 * k = n' := by have := HLN.out; simpa using this
        rw [e3]
        exact this

end Go.Proofs.YteiepenanffhcaaDoor
