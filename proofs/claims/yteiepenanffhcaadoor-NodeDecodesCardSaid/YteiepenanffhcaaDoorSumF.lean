/- The digest of a message: the walk of digest.Sum. -/
import Derived.Test.YteiepenanffhcaaDoorSumM
namespace Go.Proofs.YteiepenanffhcaaDoor
open Go Go.RowKit
set_option linter.unusedVariables false

/-- The digest of a message, over a begin and a table of rounds. -/
def shaD (B K : List UInt32) (l : List UInt8) : List UInt8 :=
  finD K (absorb K B l (l.length / 64)) (splice (List.replicate 64 0) 0 (l.drop (64 * (l.length / 64)))) (l.length % 64) (UInt64.ofNat l.length)

theorem wpList_built {P : Program} {ops : Array Oper} {rest : List Oper} {o : Oper} {a : Act} {w : World} {Q : Exit → Act → World → Prop} (hg : o.guard = none) (t : TypeId) (parts : List (Nat × Operand)) (ho : o.op = .build t parts.toArray)
    (ps : List (Nat × Value)) (hp : (parts.map fun p => (p.1, a.eval p.2)) = ps) (cells : Array Value) (hc : P.built t ps = some cells)
    (h : wpList P ops Q rest (a.put o.dst (.agg cells)) w) : wpList P ops Q (o :: rest) a w := by
  have hm : (parts.toArray.map fun (i, x) => (i, a.eval x)).toList = ps := by rw [← hp]; simp
  refine wpList_build hg t parts.toArray ho (by rw [hm, hc]; rfl) ?_
  rw [hm, hc]
  exact h
theorem uvs_at {l : List UInt32} {j : Nat} {v : Value} (hj : (uvs l)[j]? = some v) : j < l.length ∧ v = uv (l.getD j 0) := by
  rw [uvs_getElem?] at hj
  obtain ⟨x, hx, rfl⟩ := Option.map_eq_some_iff.1 hj
  obtain ⟨hl, rfl⟩ := List.getElem?_eq_some_iff.1 hx
  exact ⟨hl, by rw [List.getD_eq_getElem?_getD, hx]; rfl⟩

set_option maxRecDepth 100000 in
set_option maxHeartbeats 4000000 in
theorem sumf_any (S : S8) (K : List UInt32) (ao : Option Addr) (n c : Nat) (l : List UInt8) (w : World) (hK : K.length = 64)
    (hp : Row w ao n l) (hnc : n ≤ c) (hmax : n ≤ 140737488355328) (hnil : ao = none → n = 0 ∧ c = 0) (hao : ∀ b' o', ao = some ⟨b', o', none⟩ → b' < w.heap.size)
    (hbg : ∀ i, i < 8 → w.cell? ⟨0, i, none⟩ = some (uv (S.list.getD i 0)))
    (hk : ∀ i, i < 64 → w.cell? ⟨2, i, none⟩ = some (uv (K.getD i 0))) :
    Calls Tryd.prog 43 #[.slice ao n c] w fun e w' => e = .returned (.agg (bvs (shaD S.list K l)).toArray) ∧ Below w.heap.size w w' := by
  have hz : ∀ W : World, (zeroValue 87).run Tryd.prog W = .ok (.agg (hcells (List.replicate 8 0) (List.replicate 64 0) 0 0).toArray) W := fun W => by kernel_rfl
  have hzd : ∀ W : World, (zeroValue 27).run Tryd.prog W = .ok (.agg (bvs (List.replicate 32 0)).toArray) W := fun W => by kernel_rfl
  have hbuilt : Tryd.prog.built 87 [(0, .agg (uvs S.list).toArray)] = some (hcells S.list (List.replicate 64 0) 0 0).toArray := by kernel_rfl
  have hg0 : 0 < w.heap.size := block_lt_of_cell (hbg 0 (by omega))
  have hg1 : 2 < w.heap.size := block_lt_of_cell (hk 0 (by omega))
  have hi42 : Box ((Tryd.prog.info? 83).map (·.size) = some (uvs S.list).length) := ⟨by
    have h : (Tryd.prog.info? 83).map (·.size) = some 8 := by kernel_rfl
    rw [h]; rfl⟩
  have hrg : ∀ W, Below w.heap.size w W → W.rangeAt 0 0 (uvs S.list) := fun W hW j v hj => by
    obtain ⟨hl, rfl⟩ := uvs_at hj
    rw [Nat.zero_add]
    exact (hW.cell (p := ⟨0, j, none⟩) hg0).trans (hbg j hl)
  have HRG := Lib.hid hrg
  have i46 : Box ((Tryd.prog.info? 87).map (·.size) = some (hcells S.list (List.replicate 64 0) 0 0).toArray.size) := ⟨by
    have h : (Tryd.prog.info? 87).map (·.size) = some 74 := by kernel_rfl
    rw [h]; rfl⟩
  obtain ⟨hcs, HCS⟩ : ∃ hcs : Array Value, Box (hcs = (hcells S.list (List.replicate 64 0) 0 0).toArray) := ⟨_, ⟨rfl⟩⟩
  rw [← HCS.out] at hbuilt i46
  have HBU := Lib.hid hbuilt
  obtain ⟨zcs, HZ⟩ : ∃ zcs : Array Value, Box (zcs = (hcells (List.replicate 8 0) (List.replicate 64 0) 0 0).toArray) := ⟨_, ⟨rfl⟩⟩
  rw [← HZ.out] at hz
  obtain ⟨dcs, HDC⟩ : ∃ dcs : Array Value, Box (dcs = (bvs (List.replicate 32 0)).toArray) := ⟨_, ⟨rfl⟩⟩
  rw [← HDC.out] at hzd
  have hzs : Box (zcs.size = hcs.size) := ⟨by rw [HZ.out, HCS.out]; rfl⟩
  have hall : Box (hcs.all (·.oneCell') = true) := ⟨by rw [HCS.out]; exact hcells_all _ _ _ _⟩
  have HK := Lib.hid hk
  clear hbuilt hrg hbg hk
  obtain ⟨out, hout⟩ : ∃ out, shaD S.list K l = out := ⟨_, rfl⟩
  rw [hout]
  have HOUT : Box (shaD S.list K l = out) := ⟨hout⟩
  clear hout
  go_enter Tryd.func43, Tryd.ntmps43
  go_wp2_with (first
    | (refine wpList_load_mid rfl 83 (.global 0) ?_ 0 0 ?_ (uvs S.list) _ ?_ Tryd.underlying83 rfl hi42.out ?_; rfl; rfl; exact HRG.out _ (Below.refl_alloc w _))
    | (refine wpList_built rfl 87 [(0, .tmp 4)] ?_ [(0, .agg (uvs S.list).toArray)] ?_ hcs HBU.out ?_; rfl; rfl)
    | (refine wpList_store_row rfl 87 (.tmp 3) (.tmp 5) ?_ (w.heap.size + 1) zcs hcs 87 ?_ ?_ ?_ hzs.out i46.out hall.out ?_; rfl; rfl; rfl; exact heap_new (by simp)))
  intro w1 g1 G1
  have HB1 : Box (w1.heap[w.heap.size + 1]? = some (.cells (hcells S.list (List.replicate 64 0) 0 0).toArray 87 (0, 0))) := ⟨by rw [← HCS.out]; exact g1.out⟩
  have hbelow1 : Below w.heap.size w w1 := (((Below.refl_alloc w _).alloc (by simp) _)).grown G1 (by simp; omega) (fun k hk => by cases hk; omega)
  have hsz1 : w.heap.size + 2 ≤ w1.heap.size := by have := G1.size; simpa using this
  have R1 : Box (w1.heap[w.heap.size]? = some (.cells dcs 27 (0, 0))) := ⟨(G1.block w.heap.size (by simp; omega) (by simp)).trans (heap_old (heap_new rfl))⟩
  have hp1 : Row w1 ao n l := hp.old hbelow1
  have hne : ∀ b' o', ao = some ⟨b', o', none⟩ → b' ≠ w.heap.size + 1 := fun b' o' h => by
    have := hao b' o' h
    omega
  have hk1 : ∀ i, i < 64 → w1.cell? ⟨2, i, none⟩ = some (uv (K.getD i 0)) := fun i hi => (hbelow1.cell (p := ⟨2, i, none⟩) hg1).trans (HK.out i hi)
  have hw := write_zero K S.list (List.replicate 64 0) 0 (w.heap.size + 1) ao n c l w1 rfl (by simp) hK HB1.out hp1 hnc hmax hnil hne (by omega) hk1
  clear hk1 hne hnil hao hmax hnc
  have hl := hp.1
  subst hl
  obtain ⟨st, hst⟩ : ∃ st, absorb K S.list l (l.length / 64) = st := ⟨_, rfl⟩
  obtain ⟨rest, hrest⟩ : ∃ rest, splice (List.replicate 64 0) 0 (l.drop (64 * (l.length / 64))) = rest := ⟨_, rfl⟩
  obtain ⟨hv, hhv⟩ : ∃ hv, l.length % 64 = hv := ⟨_, rfl⟩
  obtain ⟨tk, htk⟩ : ∃ tk : UInt64, 0 + UInt64.ofNat l.length = tk := ⟨_, rfl⟩
  have htk' : UInt64.ofNat l.length = tk := by rw [← htk]; simp
  have hst8 : st.length = 8 := by rw [← hst, length_absorb]; rfl
  have hrest64 : rest.length = 64 := by
    rw [← hrest, length_splice' (by rw [List.length_drop, List.length_replicate]; omega)]; simp
  have hhv64 : hv < 64 := by omega
  have hsha : shaD S.list K l = finD K st rest hv tk := by unfold shaD; rw [hst, hrest, hhv, htk']
  rw [hst, hrest, hhv, htk] at hw
  clear htk' hst hrest hhv htk
  have HFIN : Box (finD K st rest hv tk = out) := ⟨by rw [← hsha]; exact HOUT.out⟩
  clear hsha
  go_wp2_with (go_at_call 54; refine hw.mono ?_)
  rintro e w2 ⟨rfl, g2, G2⟩
  have hbelow2 : Below w.heap.size w w2 := hbelow1.grown G2 hbelow1.size (fun k hk => by cases hk; omega)
  have hk2 : ∀ i, i < 64 → w2.cell? ⟨2, i, none⟩ = some (uv (K.getD i 0)) := fun i hi => (hbelow2.cell (p := ⟨2, i, none⟩) hg1).trans (HK.out i hi)
  have R2 : Box (w2.heap[w.heap.size]? = some (.cells dcs 27 (0, 0))) := ⟨(G2.block w.heap.size (by omega) (by simp)).trans R1.out⟩
  have hm := summ_any K st rest hv tk (w.heap.size + 1) w2 hst8 hrest64 hK hhv64 g2 hk2
  rw [HFIN.out] at hm
  have hlen : Box (out.length = 32) := ⟨by rw [← HFIN.out]; exact length_outN _ _⟩
  clear hk2 g2 hst8 hrest64 hhv64
  have i24 : Box ((Tryd.prog.info? 27).map (·.size) = some (bvs out).toArray.size) := ⟨by
    have h : (Tryd.prog.info? 27).map (·.size) = some 32 := by kernel_rfl
    rw [h]; simp [hlen.out]⟩
  have hds : Box (dcs.size = (bvs out).toArray.size) := ⟨by rw [HDC.out]; simp [hlen.out]⟩
  go_wp2_with (first
    | (go_at_call 55; refine hm.mono ?_; rintro e w3 ⟨rfl, B3⟩)
    | (refine wpList_store_row rfl 27 (.tmp 2) (.tmp 8) ?_ w.heap.size dcs (bvs out).toArray 27 ?_ ?_ ?_ hds.out i24.out (bvs_all _) ?_; rfl; rfl; rfl; exact ((B3.block _ (heap_lt R2.out)).trans R2.out)))
  intro w4 g4 G4
  have hbelow4 : Below w.heap.size w w4 := ((hbelow2.trans (B3.mono hbelow2.size)).grown G4 (hbelow2.trans (B3.mono hbelow2.size)).size (fun k hk => by cases hk; omega))
  go_wp2
  exact bodyPost_ret (v := .agg (bvs out).toArray) (results_cell_row (p := 2) (ty := 27) rfl _ _ w.heap.size 27 _ (0, 0) _ rfl g4.out Tryd.underlying27 rfl i24.out) rfl ⟨rfl, hbelow4⟩
end Go.Proofs.YteiepenanffhcaaDoor
