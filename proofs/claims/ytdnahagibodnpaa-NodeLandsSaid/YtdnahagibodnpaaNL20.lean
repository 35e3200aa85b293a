/- Texts joined: Read. -/
import Derived.Test.YtdnahagibodnpaaNL19
/- Pages' loads as forms: the walks of node.four, node.read. -/
namespace Go.Proofs.Ytdnahagibodnpaa
set_option linter.unusedSectionVars false
set_option linter.unusedSimpArgs false
open Go Go.RowKit
set_option linter.unusedVariables false
def dec4 (l : List UInt8) : Nat := (l.getD 0 0).toNat + 256 * (l.getD 1 0).toNat + 65536 * (l.getD 2 0).toNat + 16777216 * (l.getD 3 0).toNat
theorem or_nat (a b : Nat) (ha : a < 2 ^ 62) (hb : b < 2 ^ 62) : bits .or .i64 (a : Int) (b : Int) = ((a ||| b : Nat) : Int) := by
  have hw : bits .or .i64 (a : Int) (b : Int) = IntKind.i64.wrap (((BitVec.ofInt 64 (a : Int) ||| BitVec.ofInt 64 (b : Int)).toNat : Nat) : Int) := rfl
  have h1 : (BitVec.ofInt 64 (a : Int)).toNat = a := by simp; omega
  have h2 : (BitVec.ofInt 64 (b : Int)).toNat = b := by simp; omega
  have h3 : a ||| b < 2 ^ 62 := Nat.or_lt_two_pow ha hb
  rw [hw, BitVec.toNat_or, h1, h2, IntKind.wrap_i64]
  omega
theorem or_add (a b k : Nat) (ha : a < 2 ^ k) (hb : b * 2 ^ k < 2 ^ 62) (hk : k ≤ 62) : bits .or .i64 (a : Int) ((b : Int) * ((2 ^ k : Nat) : Int)) = ((a + b * 2 ^ k : Nat) : Int) := by
  have h1 : a < 2 ^ 62 := Nat.lt_of_lt_of_le ha (Nat.pow_le_pow_right (by omega) hk)
  rw [← Int.natCast_mul, or_nat a (b * 2 ^ k) h1 hb, Nat.or_comm, Nat.mul_comm b, ← Nat.two_pow_add_eq_or_of_lt ha, Nat.add_comm]
set_option maxRecDepth 100000 in
set_option maxHeartbeats 2000000 in
theorem four_any (b o n c : Nat) (l : List UInt8) (w : World) (h : Row w (some ⟨b, o, none⟩) n l) (hn : 4 ≤ n) :
    Calls Try.prog 46 #[.slice (some ⟨b, o, none⟩) n c] w fun e w' => e = .returned (.int .i64 (dec4 l : Int)) ∧ ∃ q, w' = w.drewN q := by
  have hl := h.1
  have c0 := h.cell 0 (by omega)
  have c1 := h.cell 1 (by omega)
  have c2 := h.cell 2 (by omega)
  have c3 := h.cell 3 (by omega)
  have hd : dec4 l = (l[0]).toNat + 256 * (l[1]).toNat + 65536 * (l[2]).toNat + 16777216 * (l[3]).toNat := by
    unfold dec4
    simp [List.getD, show 0 < l.length by omega, show 1 < l.length by omega, show 2 < l.length by omega, show 3 < l.length by omega]
  rw [hd]
  generalize l[0] = x0 at *
  generalize l[1] = x1 at *
  generalize l[2] = x2 at *
  generalize l[3] = x3 at *
  have y0 := x0.toNat_lt
  have y1 := x1.toNat_lt
  have y2 := x2.toNat_lt
  have y3 := x3.toNat_lt
  have hn0 : (0 : Int) < n := by omega
  have hn1 : (1 : Int) < n := by omega
  have hn2 : (2 : Int) < n := by omega
  have hn3 : (3 : Int) < n := by omega
  clear h hl hd
  rw [Nat.add_zero] at c0
  go_enter Try.func46, Try.ntmps46
  go_wp2
  go_quiet (fail)
  go_wp2
  go_ret
  refine ⟨?_, _, rfl⟩
  have e1 := or_add x0.toNat x1.toNat 8 (by omega) (by omega) (by omega)
  have e2 := or_add (x0.toNat + x1.toNat * 2 ^ 8) x2.toNat 16 (by omega) (by omega) (by omega)
  have e3 := or_add (x0.toNat + x1.toNat * 2 ^ 8 + x2.toNat * 2 ^ 16) x3.toNat 24 (by omega) (by omega) (by omega)
  show Ending.returned (.int .i64 (bits .or .i64 (bits .or .i64 (bits .or .i64 (x0.toNat : Int) ((x1.toNat : Int) * 256)) ((x2.toNat : Int) * 65536)) ((x3.toNat : Int) * 16777216))) = _
  rw [show (256 : Int) = ((2 ^ 8 : Nat) : Int) from rfl, show (65536 : Int) = ((2 ^ 16 : Nat) : Int) from rfl, show (16777216 : Int) = ((2 ^ 24 : Nat) : Int) from rfl, e1, e2, e3]
  congr 2
  omega
theorem built_leaf0 (ao : Option Addr) (n c : Nat) : Try.prog.built 89 [(1, .slice ao n c)] = some (leafC zero32 (.slice ao n c)).toArray := by kernel_rfl
theorem leafC_all (k : D32) (ao : Option Addr) (n c : Nat) : (leafC k (.slice ao n c)).toArray.all (·.oneCell') = true := by
  rw [Array.all_eq_true_iff_forall_mem]
  intro v hv
  have hv' : v ∈ leafC k (.slice ao n c) := by simpa using hv
  unfold leafC at hv'
  rcases List.mem_append.1 hv' with h | h
  · exact bvs_oneCell _ v h
  · rw [List.mem_singleton.1 h]; rfl
def keyOf (l : List UInt8) : D32 := ⟨(l ++ List.replicate 32 0).take 32, by simp⟩
theorem keyOf_eq {l : List UInt8} (h : 32 ≤ l.length) : (keyOf l).1 = l.take 32 := by
  show (l ++ List.replicate 32 0).take 32 = _
  rw [List.take_append_of_le_length h]
theorem splice_leaf (l : List UInt8) (v : Value) (h : 32 ≤ l.length) : splice (leafC zero32 v) 0 (bvs (l.take 32)) = leafC (keyOf l) v := by
  have h1 : (bvs (l.take 32)).length = 32 := by rw [length_bvs, List.length_take]; omega
  unfold splice leafC
  rw [h1, List.take_zero, List.nil_append, keyOf_eq h, Nat.zero_add, List.drop_append, List.drop_of_length_le (by simp [zero32]), List.nil_append]
  simp [zero32]
set_option maxRecDepth 100000 in
set_option maxHeartbeats 2000000 in
theorem read_leaf (b o o' m c' : Nat) (l : List UInt8) (w : World) (h : Row w (some ⟨b, o, none⟩) (m + 32) l) (hmc : m ≤ c') (hmax : c' + 32 ≤ 9223372036854775807) (hc : (c' = 0 ∧ o' = o) ∨ (0 < c' ∧ o' = o + 32)) :
    Calls Try.prog 30 #[.int .i64 1, .slice (some ⟨b, o, none⟩) (m + 32) (c' + 32)] w fun e w' => e = .returned (.iface 89 (.agg (leafC (keyOf l) (.slice (some ⟨b, o', none⟩) m c')).toArray)) ∧ Below w.heap.size w w' := by
  have hl := h.1
  have hz : ∀ W : World, (zeroValue 89).run Try.prog W = .ok (.agg (leafC zero32 (.slice none 0 0)).toArray) W := fun W => by kernel_rfl
  have hbl := built_leaf0 (some ⟨b, o', none⟩) m c'
  have hsp := splice_leaf l (.slice (some ⟨b, o', none⟩) m c') (by omega)
  have hall := leafC_all zero32 (some ⟨b, o', none⟩) m c'
  have hi : ∀ k : D32, ∀ v, Box ((Try.prog.info? 89).map (·.size) = some (leafC k v).toArray.size) := fun k v => ⟨by
    have h : (Try.prog.info? 89).map (·.size) = some 33 := by kernel_rfl
    rw [h, List.size_toArray, length_leafC]⟩
  have hi1 := hi zero32 (.slice (some ⟨b, o', none⟩) m c')
  have hi2 := hi (keyOf l) (.slice (some ⟨b, o', none⟩) m c')
  have hs12 : Box ((leafC zero32 (.slice none 0 0)).toArray.size = (leafC zero32 (.slice (some ⟨b, o', none⟩) m c')).toArray.size) := ⟨by rw [List.size_toArray, List.size_toArray, length_leafC, length_leafC]⟩
  have hlen33 : Box ((leafC zero32 (.slice (some ⟨b, o', none⟩) m c')).length = 33) := ⟨length_leafC _ _⟩
  have hrow := h.take 32 (by omega)
  have ht32 : (l.take 32).length = 32 := by rw [List.length_take]; omega
  have hal : Try.prog.arrayLen 37 = 32 := by kernel_rfl
  have hu : Try.prog.underlying 23 = some (.slice 5) := Try.underlying23
  have hsz : Box ((Try.prog.info? 5).map (·.size) = some 1) := ⟨by kernel_rfl⟩
  have HS := Box.mk hsp
  have HBL := Box.mk hbl
  have HALL := Box.mk hall
  have HROW := Box.mk hrow
  have HT := Box.mk ht32
  have hblt := h.lt (by omega)
  clear hsp hbl hall hi h hrow ht32 hl
  generalize (leafC zero32 (.slice none 0 0)).toArray = zc at *
  generalize hlz : leafC zero32 (.slice (some ⟨b, o', none⟩) m c') = lz at *
  generalize hlk : leafC (keyOf l) (.slice (some ⟨b, o', none⟩) m c') = lk at *
  clear hlz hlk
  have hmin : (l.take 32).length = Nat.min (m + 32) 32 := by rw [HT.out]; simp only [Nat.min_def]; split <;> omega
  have HMIN := Box.mk hmin
  have hfit : 0 + (l.take 32).length ≤ lz.length := by rw [HT.out, hlen33.out]; omega
  have HFIT := Box.mk hfit
  clear hmin hfit
  rcases hc with ⟨hc, ho⟩ | ⟨hc, ho⟩
  · have hm0 : m = 0 := by omega
    subst ho hc hm0
    go_enter Try.func30, Try.ntmps30
    go_wp2_with (first
      | (refine wpList_builtg ?_ 89 [(1, .tmp 16)] ?_ [(1, .slice (some ⟨b, _, none⟩) 0 _)] ?_ lz.toArray HBL.out ?_; rfl; rfl; rfl)
      | (refine wpList_store_row rfl 89 (.tmp 5) (.tmp 17) ?_ w.heap.size zc lz.toArray 89 ?_ ?_ ?_ hs12.out hi1.out HALL.out ?_; rfl; rfl; rfl; exact heap_new rfl))
    intro w1 g1 G1
    have b1 : Below w.heap.size w w1 := (Below.refl_alloc w _).grown G1 (by simp) (fun k hk => by cases hk; omega)
    have r1 := Box.mk (HROW.out.old b1)
    have hrow1 : Row w1 (some ⟨b, o', none⟩) (l.take 32).length (l.take 32) := by rw [HT.out]; exact r1.out
    have HR1 := Box.mk hrow1
    clear hrow1 G1 r1
    go_wp2_with (refine wpList_copy_bytes rfl (.tmp 19) (.tmp 20) 23 23 ?_ hu hsz.out (some ⟨w.heap.size, 0, none⟩) (some ⟨b, o', none⟩) 32 32 32 32 ?_ ?_ w.heap.size 0 lz 89 g1.out (l.take 32) ?_ (fun _ => rfl) HR1.out ?_ ?_; rfl; rfl; rfl; exact HMIN.out; exact HFIT.out)
    intro w2 g2 G2
    have b2 : Below w.heap.size w w2 := b1.grown G2 b1.size (fun k hk => by cases hk; omega)
    have g3 : Box (w2.heap[w.heap.size]? = some (.cells lk.toArray 89 (0, 0))) := ⟨by rw [← HS.out]; exact g2.out⟩
    clear g2 G2
    go_wp2_with (refine wpList_load_row rfl 89 (.tmp 5) ?_ w.heap.size ?_ 89 lk.toArray (0, 0) _ g3.out Try.underlying89 rfl hi2.out ?_; rfl; rfl)
    go_ret
    exact ⟨rfl, b2⟩
  · subst ho
    go_enter Try.func30, Try.ntmps30
    go_wp2_with (first
      | (refine wpList_builtg ?_ 89 [(1, .tmp 16)] ?_ [(1, .slice (some ⟨b, _, none⟩) m _)] ?_ lz.toArray HBL.out ?_; rfl; rfl; rfl)
      | (refine wpList_store_row rfl 89 (.tmp 5) (.tmp 17) ?_ w.heap.size zc lz.toArray 89 ?_ ?_ ?_ hs12.out hi1.out HALL.out ?_; rfl; rfl; rfl; exact heap_new rfl))
    intro w1 g1 G1
    have b1 : Below w.heap.size w w1 := (Below.refl_alloc w _).grown G1 (by simp) (fun k hk => by cases hk; omega)
    have r1 := Box.mk (HROW.out.old b1)
    have hrow1 : Row w1 (some ⟨b, o, none⟩) (l.take 32).length (l.take 32) := by rw [HT.out]; exact r1.out
    have HR1 := Box.mk hrow1
    clear hrow1 G1 r1
    go_wp2_with (refine wpList_copy_bytes rfl (.tmp 19) (.tmp 20) 23 23 ?_ hu hsz.out (some ⟨w.heap.size, 0, none⟩) (some ⟨b, o, none⟩) 32 32 (m + 32) (c' + 32) ?_ ?_ w.heap.size 0 lz 89 g1.out (l.take 32) ?_ (fun _ => rfl) HR1.out ?_ ?_; rfl; rfl; rfl; exact HMIN.out; exact HFIT.out)
    intro w2 g2 G2
    have b2 : Below w.heap.size w w2 := b1.grown G2 b1.size (fun k hk => by cases hk; omega)
    have g3 : Box (w2.heap[w.heap.size]? = some (.cells lk.toArray 89 (0, 0))) := ⟨by rw [← HS.out]; exact g2.out⟩
    clear g2 G2
    go_wp2_with (refine wpList_load_row rfl 89 (.tmp 5) ?_ w.heap.size ?_ 89 lk.toArray (0, 0) _ g3.out Try.underlying89 rfl hi2.out ?_; rfl; rfl)
    go_ret
    exact ⟨rfl, b2⟩
end Go.Proofs.Ytdnahagibodnpaa
