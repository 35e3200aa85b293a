/- Texts joined: OwnD, RClimb, RClimbW. -/
import Derived.Test.YteiepenanffhcaaDoorP01
import Derived.Great.BuildSlice
import Derived.Test.YteiepenanffhcaaDoorP15
import Derived.Test.YteiepenanffhcaaDoorP16
import Derived.Test.YteiepenanffhcaaDoorP00
/- Lists of digests of the call's own: append, one written out. No program in sight. -/
namespace Go.Proofs.YteiepenanffhcaaDoor
open Go Go.RowKit
set_option linter.unusedVariables false

/-- The cells of a list of digests. -/
def fl (ds : List D32) : List Value := ds.flatMap fun d => bvs d.1
theorem fl_nil : fl [] = [] := rfl
theorem fl_snoc (ds : List D32) (d : D32) : fl (ds ++ [d]) = fl ds ++ bvs d.1 := by simp [fl]
theorem fl_cons (d : D32) (ds : List D32) : fl (d :: ds) = bvs d.1 ++ fl ds := by simp [fl]
theorem length_fl : ∀ ds : List D32, (fl ds).length = ds.length * 32
  | [] => rfl
  | d :: ds => by rw [fl_cons, List.length_append, length_fl ds, length_bvs, d.2, List.length_cons]; omega
theorem fl_at : ∀ (ds : List D32) (i j : Nat) (hi : i < ds.length), j < 32 → (fl ds)[32 * i + j]? = (bvs (ds[i]).1)[j]?
  | d :: ds, 0, j, _, hj => by
    rw [fl_cons, Nat.mul_zero, Nat.zero_add, List.getElem?_append_left (by rw [length_bvs, d.2]; exact hj)]
    rfl
  | d :: ds, i + 1, j, hi, hj => by
    have hl : (bvs d.1).length = 32 := by rw [length_bvs, d.2]
    rw [fl_cons, List.getElem?_append_right (by omega), hl, show 32 * (i + 1) + j - 32 = 32 * i + j by omega]
    exact fl_at ds i j (by simpa using hi) hj

/-- A list of digests of the call's own. -/
def OwnD (w : World) (base : Nat) (e : TypeId) (v : Value) (ds : List D32) : Prop := w.ownsRow base e 32 v ds.length (fl ds)
theorem OwnD.nil (w : World) (base : Nat) (e : TypeId) : OwnD w base e (.slice none 0 0) [] := ⟨rfl, .inl ⟨rfl, rfl⟩⟩
theorem OwnD.below {w w' : World} {base : Nat} {e : TypeId} {v : Value} {ds : List D32} (h : OwnD w base e v ds) (hb : Below w.heap.size w w') : OwnD w' base e v ds := by
  obtain ⟨hl, h⟩ := h
  refine ⟨hl, ?_⟩
  rcases h with ⟨rfl, hn⟩ | ⟨g, cap, cur, rfl, h1, h2, h3⟩
  · exact .inl ⟨rfl, hn⟩
  · exact .inr ⟨g, cap, cur, rfl, h1, (hb.block g (heap_lt h2)).trans h2, h3⟩
theorem OwnD.grown {w w' : World} {base b : Nat} {e : TypeId} {v : Value} {ds : List D32} (h : OwnD w base e v ds) (hg : w.grownBy w' (some b)) (hne : v.ownBlock ≠ some b) : OwnD w' base e v ds :=
  World.ownsRow.kept h hg (.inr hne)
/-- What it reads as. -/
theorem OwnD.at {w : World} {base : Nat} {e : TypeId} {v : Value} {ds : List D32} (h : OwnD w base e v ds) (hn : 0 < ds.length) :
    ∃ g cap, v = .slice (some ⟨g, 0, none⟩) ds.length cap ∧ base ≤ g ∧ g < w.heap.size ∧ ∀ i (hi : i < ds.length), w.rangeAt g (32 * i) (bvs (ds[i]).1) := by
  obtain ⟨hl, ⟨rfl, h0⟩ | ⟨g, cap, cur, rfl, hb, hg, hc, hm, hs, ht⟩⟩ := h
  · omega
  refine ⟨g, cap, rfl, hb, heap_lt hg, fun i hi j u hu => ?_⟩
  have hj : j < 32 := by have := (List.getElem?_eq_some_iff.1 hu).1; rwa [length_bvs, (ds[i]).2] at this
  rw [cell_of_row w g (32 * i + j) cur e (0, 0) hg, ← Array.getElem?_toList, ← hu, ← fl_at ds i j hi hj, ← ht, List.getElem?_take, if_pos (by omega)]
theorem OwnD.block {w : World} {base : Nat} {e : TypeId} {v : Value} {ds : List D32} (h : OwnD w base e v ds) : ∀ g, v.ownBlock = some g → base ≤ g ∧ g < w.heap.size := by
  intro g hv
  obtain ⟨hl, ⟨rfl, h0⟩ | ⟨g', cap, cur, rfl, hb, hg, hc, hm, hs, ht⟩⟩ := h
  · cases hv
  · cases hv; exact ⟨hb, heap_lt hg⟩

theorem fold_set : ∀ (l : List Value) (k : Nat) (z : Array Value), k + l.length ≤ z.size →
    ((l.zipIdx k).foldl (fun (cs : Array Value) (p : Value × Nat) => cs.setIfInBounds (0 * 32 + p.2) p.1) z).toList = z.toList.take k ++ (l ++ z.toList.drop (k + l.length))
  | [], k, z, _ => by simp
  | c :: l, k, z, h => by
    rw [List.length_cons] at h
    have hk : k < z.toList.length := by simp; omega
    have ih := fold_set l (k + 1) (z.setIfInBounds (0 * 32 + k) c) (by simp; omega)
    rw [List.zipIdx_cons, List.foldl_cons, ih]
    have hz : (z.setIfInBounds (0 * 32 + k) c).toList = z.toList.take k ++ c :: z.toList.drop (k + 1) := by
      rw [Array.toList_setIfInBounds, Nat.zero_mul, Nat.zero_add, List.set_eq_take_append_cons_drop, if_pos hk]
    rw [hz]
    have ht : (z.toList.take k).length = k := by rw [List.length_take]; omega
    have hd : z.toList.drop (k + (l.length + 1)) = (z.toList.drop (k + 1)).drop l.length := by rw [List.drop_drop]; congr 1; omega
    rw [List.length_cons, hd]
    generalize z.toList.take k = A at ht
    generalize z.toList.drop (k + 1) = D
    have h1 : (A ++ c :: D).take (k + 1) = A ++ [c] := by
      rw [← ht, List.take_length_add_append]; rfl
    have h2 : (A ++ c :: D).drop (k + 1 + l.length) = D.drop l.length := by
      rw [← ht, Nat.add_assoc, List.drop_length_add_append, Nat.add_comm 1, List.drop_succ_cons]
    rw [h1, h2]
    simp
theorem fill32 (z : Array Value) (hz : z.size = 32) (d : D32) : Instr.fill (fun i => some (i * 32, 32)) z [(0, .agg (dc d))] = some (dc d) := by
  have hs := size_dc d
  have hc : (Value.agg (dc d)).cells = dc d := rfl
  unfold Instr.fill
  simp only [hc, hs]
  rw [if_neg (by simp; omega)]
  unfold Instr.fill
  congr 1
  apply Array.ext'
  rw [← Array.foldl_toList, Array.toList_zipIdx]
  have := fold_set (dc d).toList 0 z (by rw [Array.length_toList, hs, hz]; omega)
  rw [List.take_zero, List.nil_append, Array.length_toList, hs, List.drop_of_length_le (by simp; omega), List.append_nil] at this
  exact this

/-- A list of one digest, written out. -/
theorem wpList_lit32 {P : Program} {ops : Array Oper} {rest : List Oper} {o : Oper} {a : Act} {w : World} {Q : Exit → Act → World → Prop} (hg : o.guard = none) (t e : TypeId) (x : Operand) (ho : o.op = .buildSlice t 1 #[(0, x)])
    (d : D32) (hx : a.eval x = .agg (dc d)) (hu : P.underlying t = some (.slice e)) (hi : (P.info? e).map (fun i => (i.zero, i.size, i.bytes)) = some (some (.agg (dc zero32)), 32, 32))
    (h : wpList P ops Q rest (a.put o.dst (.slice (some ⟨w.heap.size, 0, none⟩) 1 1)) (w.alloc (.cells (dc d) e))) : wpList P ops Q (o :: rest) a w := by
  obtain ⟨i, h1, h2, h3, h4⟩ := info_parts hi
  refine wpList_buildSlice hg t e 1 #[(0, x)] ho (dc d) i (.agg (dc zero32)) hu h1 h2 (by rw [h3]; decide) (by rw [h3]; decide) ?_ h
  have hm : (#[(0, x)].map fun (p : Nat × Operand) => (p.1, a.eval p.2)).toList = [(0, .agg (dc d))] := by simp [hx]
  have hm' : (#[(0, x)].map fun (i, x) => (i, a.eval x)).toList = [(0, .agg (dc d))] := hm
  rw [hm', h3]
  exact fill32 _ (by simp) d
/-- 'append' of one digest. -/
theorem wpList_append_d32 {P : Program} {ops : Array Oper} {rest : List Oper} {o : Oper} {a : Act} {w : World} {Q : Exit → Act → World → Prop} (hg : o.guard = none) (s x : Operand) (t e : TypeId) (ho : o.op = .call { callee := .builtin .append, args := #[s, x], argTypes := #[t, t] })
    (hu : P.underlying t = some (.slice e)) (hi : (P.info? e).map (fun i => (i.zero, i.size, i.bytes)) = some (some (.agg (dc zero32)), 32, 32))
    (base : Nat) (v : Value) (ds : List D32) (hs : a.eval s = v) (hown : OwnD w base e v ds) (b : Nat) (c : Nat) (d : D32) (hx : a.eval x = .slice (some ⟨b, 0, none⟩) 1 c) (hd : w.rangeAt b 0 (bvs d.1)) (hb : ds.length ≤ 2097152) (hbase : base ≤ w.heap.size)
    (h : ∀ v' w', OwnD w' base e v' (ds ++ [d]) → w.grownBy w' v.ownBlock → wpList P ops Q rest (a.put o.dst v') w') : wpList P ops Q (o :: rest) a w := by
  obtain ⟨i, h1, h2, h3, h4⟩ := info_parts hi
  refine wpList_append_own w hg s x t ho base e i (.agg (dc zero32)) 32 32 hu h1 h2 h3 h4 (by show (dc zero32).size = 32; exact size_dc _) (by decide) v ds.length (fl ds) hs hown ⟨b, 0, none⟩ 1 c (bvs d.1) hx (by rw [length_bvs, d.2]) ?_ (bvs_oneCell d.1) (by unfold maxLen; omega) (by omega) hbase fun v' w' h6 h7 _ => h v' w' ?_ h7
  · intro j u hu
    have := hd j u hu
    rw [Addr.add_mid]
    exact this
  · unfold OwnD
    rw [List.length_append, fl_snoc]
    exact h6

theorem OwnD.slice {w : World} {base : Nat} {e : TypeId} {v : Value} {ds : List D32} (h : OwnD w base e v ds) : ∃ ao cap, v = .slice ao ds.length cap := by
  obtain ⟨hl, ⟨rfl, h0⟩ | ⟨g, cap, cur, rfl, _⟩⟩ := h
  · exact ⟨none, 0, by rw [h0]⟩
  · exact ⟨_, _, rfl⟩
theorem OwnD.lit (w : World) (base : Nat) (e : TypeId) (d : D32) (h : base ≤ w.heap.size) : OwnD (w.alloc (.cells (dc d) e)) base e (.slice (some ⟨w.heap.size, 0, none⟩) 1 1) [d] := by
  have hf : fl [d] = bvs d.1 := by simp [fl]
  refine ⟨?_, .inr ⟨w.heap.size, 1, dc d, rfl, h, heap_alloc_new w _, Nat.le_refl _, by unfold maxLen; omega, by rw [size_dc], ?_⟩⟩
  · rw [hf, length_bvs, d.2]; rfl
  · rw [hf, dc_toList]
    exact List.take_of_length_le (by rw [length_bvs, d.2]; exact Nat.le_refl _)
end Go.Proofs.YteiepenanffhcaaDoor

/- The reference's climbs: the walks of ledgerref9.bit, Empties, ClimbWith, Climb. -/
namespace Go.Proofs.YteiepenanffhcaaDoor
open Go Go.RowKit
set_option linter.unusedVariables false

set_option maxRecDepth 100000 in
set_option maxHeartbeats 1000000 in
theorem rbit_any (k : D32) (i : Nat) (hi : i < 256) (w : World) :
    Calls Tryd.prog 58 #[.agg (dc k), .int .i64 i] w fun e w' => e = .returned (.int .i64 (bitI k i)) ∧ Below w.heap.size w w' := by
  have hB : bitI k i = (((k.1.getD (i / 8) 0).toNat / 2 ^ (7 - i % 8) % 2 : Nat) : Int) := by
    unfold bitI
    rw [if_pos (by omega), Int.toNat_natCast]
  have hk32 := k.2
  have hcell : (w.alloc (.cells (dc k) 26)).cell? ⟨w.heap.size, i / 8, none⟩ = some (.int .u8 ((k.1.getD (i / 8) 0).toNat : Int)) := by
    rw [cell_d32 (heap_new rfl) (i / 8) (by omega)]
    simp [List.getD, List.getElem?_eq_getElem (show i / 8 < k.1.length by omega)]
  rw [hB]
  have hb256 := (k.1.getD (i / 8) 0).toNat_lt
  generalize (k.1.getD (i / 8) 0).toNat = B at *
  clear hB hk32
  have f0 : (0 : Int) ≤ (i : Int) / 8 := by omega
  have f1 : (i : Int) / 8 < 32 := by omega
  have f2 : ((i : Int) / 8).toNat = i / 8 := by omega
  have B0 := Box.mk (Below.refl_alloc w (.cells (dc k) 26))
  go_enter Tryd.func58, Tryd.ntmps58
  go_wp2
  clear hcell f0 f1 f2
  go_loopw [5, 6] (fun v j wr => ∃ n : Nat, i % 8 ≤ n ∧ n ≤ 7 ∧ j = .int .i64 n ∧ v = .int .i64 ((B / 2 ^ (n - i % 8) : Nat) : Int) ∧ Box (Below w.heap.size w wr)) (fun _ j _ => 7 - (intOf j).toNat)
  case atStart => exact ⟨i % 8, by omega, by omega, by simp, by simp, B0⟩
  case round =>
    obtain ⟨n, hn1, hn2, rfl, rfl, br⟩ := hrel
    have hq : B / 2 ^ (n - i % 8) ≤ B := Nat.div_le_self _ _
    by_cases hlt : n < 7
    · have hs := Box.mk (show B / 2 ^ (n + 1 - i % 8) = B / 2 ^ (n - i % 8) / 2 by rw [show n + 1 - i % 8 = (n - i % 8) + 1 by omega, Nat.pow_succ, Nat.div_div_eq_div_mul])
      generalize B / 2 ^ (n - i % 8) = Q at *
      go_wp2
      go_roundw
      case rel => exact ⟨n + 1, by omega, by omega, by go_num, by rw [hs.out]; go_num, br⟩
      case measure => simp [intOf]; omega
    · obtain rfl : n = 7 := by omega
      rw [show ((7 : Nat) : Int) = 7 from rfl]
      obtain ⟨Q, hQ⟩ : ∃ Q, B / 2 ^ (7 - i % 8) = Q := ⟨_, rfl⟩
      have HQ := Box.mk hQ
      rw [hQ] at hq ⊢
      clear hQ
      go_wp2
      go_ret
      exact ⟨ret_int (by rw [HQ.out]; omega), br.out⟩

theorem ownD_base {w : World} {a b : Nat} {e : TypeId} {v : Value} {ds : List D32} (h : OwnD w b e v ds) (hab : a ≤ b) : OwnD w a e v ds := by
  obtain ⟨hl, h⟩ := h
  refine ⟨hl, ?_⟩
  rcases h with h | ⟨g, cap, cur, rfl, h1, h2⟩
  · exact .inl h
  · exact .inr ⟨g, cap, cur, rfl, Nat.le_trans hab h1, h2⟩
/-- The digests of the empty subtrees of the first n heights. -/
def emDs (S : S8) (K : List UInt32) (width : Int) (n : Nat) : List D32 := (List.range n).map (emD S K width)
theorem length_emDs (S : S8) (K : List UInt32) (width : Int) (n : Nat) : (emDs S K width n).length = n := by simp [emDs]
theorem emDs_succ (S : S8) (K : List UInt32) (width : Int) (n : Nat) : emDs S K width (n + 1) = emDs S K width n ++ [emD S K width n] := by simp [emDs, List.range_succ]

set_option maxRecDepth 100000 in
set_option maxHeartbeats 2000000 in
theorem rempties_any {S : S8} {K : List UInt32} (width : Int) (w : World) (hK : K.length = 64) (hL : LaidR S K w) :
    Calls Tryd.prog 48 #[.int .i64 width] w fun e w' => (∃ v, e = .returned v ∧ OwnD w' w.heap.size 27 v (emDs S K width 257)) ∧ Below w.heap.size w w' := by
  have hzd : ∀ W : World, (zeroValue 27).run Tryd.prog W = .ok (.agg (dc zero32)) W := fun W => by kernel_rfl
  have hds : ∀ d e : D32, Box ((dc d).size = (dc e).size) := fun d e => ⟨by rw [size_dc, size_dc]⟩
  have i24 : ∀ d : D32, Box ((Tryd.prog.info? 27).map (·.size) = some (dc d).size) := fun d => ⟨by rw [size_dc]; kernel_rfl⟩
  have U26 : Tryd.prog.underlying 69 = some (.slice 27) := Tryd.underlying69
  have I24 : (Tryd.prog.info? 27).map (fun i => (i.zero, i.size, i.bytes)) = some (some (.agg (dc zero32)), 32, 32) := by kernel_rfl
  have hcut := Box.mk (fun (g : Nat) (W : World) (hW : Below w.heap.size w W) (hr : Row W (some ⟨g, 0, none⟩) 1 [2]) => rcut_any (S := S) (K := K) width (some ⟨g, 0, none⟩) 1 1 [2] W hK (hL.old hW) hr (by intro h; cases h) (by omega))
  obtain ⟨c0, hc0⟩ : ∃ d, cutD (sha S K [2]) width = d := ⟨_, rfl⟩
  rw [hc0] at hcut
  have h0 := Box.mk (show emD S K width 0 = c0 from hc0)
  have HL := Box.mk hL
  have HK := Box.mk hK
  have hR := Box.mk (show Row (w.alloc (.cells #[.int .u8 2] 5)) (some ⟨w.heap.size, 0, none⟩) 1 [2] from Row.lit w #[.int .u8 2] 5 [2] rfl)
  have bA := Box.mk (Below.refl_alloc w (.cells #[.int .u8 2] 5))
  clear hc0 hL hK
  go_enter Tryd.func48, Tryd.ntmps48
  go_wp2_with (go_at_call 44; refine (calls_box (hcut.out _ _ bA.out hR.out)).mono ?_)
  rintro e w1 ⟨⟨rfl, hB⟩⟩
  have b1 := Box.mk (bA.out.trans (hB.mono bA.out.size))
  clear hB hR bA hcut
  go_wp2_with ((with_reducible refine wpList_store_row ?_ 27 (.tmp 3) (.tmp 8) ?_ w1.heap.size (dc zero32) (dc c0) 27 ?_ ?_ ?_ (hds _ _).out (i24 _).out (dc_all _) ?_); rfl; rfl; rfl; rfl; exact heap_new rfl)
  intro w2 g2 G2
  have B12 : Below w1.heap.size w1 w2 := (Below.refl_alloc w1 _).grown G2 (by simp) (fun k hk => by cases hk; omega)
  have b2 := Box.mk (b1.out.trans (B12.mono b1.out.size))
  have x2 := Box.mk (show w2.heap[w1.heap.size]? = some (.cells (dc c0) 27 (0, 0)) from g2.out)
  have hw01 := Box.mk b1.out.size
  clear g2 G2 B12 b1
  have o2 := Box.mk (OwnD.lit w2 w2.heap.size 27 c0 (Nat.le_refl _))
  have b3 := Box.mk (b2.out.alloc b2.out.size (.cells (dc c0) 27))
  have x3 := Box.mk (heap_old (o := .cells (dc c0) 27) x2.out)
  go_wp2_with (first
    | ((with_reducible refine arm_row 27 (.tmp 3) ?_ rfl w1.heap.size ?_ 27 (dc c0) (0, 0) _ x2.out Tryd.underlying27 rfl (i24 _).out ?_); rfl; rfl)
    | ((with_reducible refine wpList_lit32 rfl 69 27 (.tmp 9) ?_ c0 ?_ U26 I24 ?_); rfl; rfl))
  have hne2 := Box.mk (heap_lt x2.out)
  have hw2 := Box.mk (show w2.heap.size ≤ (w2.alloc (.cells (dc c0) 27)).heap.size by simp)
  have o3 := Box.mk (show OwnD (w2.alloc (.cells (dc c0) 27)) w2.heap.size 27 (.slice (some ⟨w2.heap.size, 0, none⟩) 1 1) (emDs S K width 1) by rw [show emDs S K width 1 = [c0] by rw [← h0.out]; rfl]; exact o2.out)
  clear o2 x2 b2
  generalize w2.alloc (.cells (dc c0) 27) = w3 at *
  go_loopw [4, 5] (fun v i wr => ∃ (k : Nat) (d : D32), k ≤ 256 ∧ i = .int .i64 k ∧ Box (d = emD S K width k) ∧ Box (wr.heap[w1.heap.size]? = some (.cells (dc d) 27 (0, 0))) ∧ Box (OwnD wr w2.heap.size 27 v (emDs S K width (k + 1))) ∧ Box (Below w.heap.size w wr) ∧ Box (w2.heap.size ≤ wr.heap.size)) (fun _ i _ => 256 - (intOf i).toNat)
  case atStart => exact ⟨0, c0, Nat.zero_le _, rfl, ⟨h0.out.symm⟩, x3, o3, b3, hw2⟩
  clear x3 o3 b3 hw2
  case round =>
    obtain ⟨k, d, hk, rfl, hd, xr, ow, br, sr⟩ := hrel
    by_cases hlt : k < 256
    · have hnx := Box.mk (show emD S K width (k + 1) = brD S K width d d by rw [hd.out, emD])
      have hbr := Box.mk (rbranch_any width d d wr HK.out (HL.out.old br.out))
      have hl := Box.mk (length_emDs S K width (k + 1))
      have hsu := Box.mk (show emDs S K width (k + 1 + 1) = emDs S K width (k + 1) ++ [brD S K width d d] by rw [emDs_succ S K width (k + 1), hnx.out])
      generalize brD S K width d d = b at *
      generalize emDs S K width (k + 1) = ds at *
      go_wp2_with (first
        | ((with_reducible refine arm_row 27 (.tmp 3) ?_ rfl w1.heap.size ?_ 27 (dc d) (0, 0) _ xr.out Tryd.underlying27 rfl (i24 _).out ?_); rfl; rfl)
        | (go_at_call 31; refine (calls_box hbr.out).mono ?_))
      rintro e w4 ⟨⟨rfl, hB5⟩⟩
      have b4 := Box.mk (br.out.trans (hB5.mono br.out.size))
      have o4 := Box.mk (ow.out.below hB5)
      have x4 := Box.mk ((hB5.block _ (heap_lt xr.out)).trans xr.out)
      have s4 := Box.mk (Nat.le_trans sr.out hB5.size)
      clear hB5 br ow xr hbr sr
      go_wp2_with ((with_reducible refine wpList_store_row ?_ 27 (.tmp 3) (.tmp 18) ?_ w1.heap.size (dc d) (dc b) 27 ?_ ?_ x4.out (hds _ _).out (i24 _).out (dc_all _) ?_); rfl; rfl; rfl; rfl)
      intro w5 g5 G5
      have b5 := Box.mk (b4.out.grown G5 b4.out.size (fun k hk => by cases hk; have := hw01.out; omega))
      have o5 := Box.mk (o4.out.grown G5 (by intro hx; have := (o4.out.block _ hx).1; have := hne2.out; omega))
      have x5 := Box.mk (show w5.heap[w1.heap.size]? = some (.cells (dc b) 27 (0, 0)) from g5.out)
      have s5 := Box.mk (Nat.le_trans s4.out G5.size)
      clear g5 G5 b4 o4 x4 s4
      have o6 := Box.mk (o5.out.below (Below.refl_alloc w5 (.cells (dc b) 27)))
      have b6 := Box.mk (b5.out.alloc b5.out.size (.cells (dc b) 27))
      have x6 := Box.mk (heap_old (o := .cells (dc b) 27) x5.out)
      have r6 := Box.mk (show (w5.alloc (.cells (dc b) 27)).rangeAt w5.heap.size 0 (bvs b.1) from rangeAt_block (heap_new rfl))
      have s6 := Box.mk (show w2.heap.size ≤ (w5.alloc (.cells (dc b) 27)).heap.size by have := s5.out; simp; omega)
      have hl5 := Box.mk (show ds.length ≤ 2097152 by rw [hl.out]; omega)
      go_wp2_with (first
        | ((with_reducible refine arm_row 27 (.tmp 3) ?_ rfl w1.heap.size ?_ 27 (dc b) (0, 0) _ x5.out Tryd.underlying27 rfl (i24 _).out ?_); rfl; rfl)
        | ((with_reducible refine wpList_lit32 rfl 69 27 (.tmp 20) ?_ b ?_ U26 I24 ?_); rfl; rfl)
        | ((with_reducible refine wpList_append_d32 rfl (.tmp 19) (.tmp 21) 69 27 ?_ U26 I24 w2.heap.size _ ds ?_ o6.out w5.heap.size 1 b ?_ r6.out hl5.out s6.out ?_); rfl; rfl; rfl))
      intro v' w7 own7 G7
      have b7 := Box.mk (b6.out.grown G7 b6.out.size (fun g hg => by have := (o6.out.block g hg).1; have := hne2.out; have := hw01.out; omega))
      have x7 := Box.mk ((G7.block _ (heap_lt x6.out) (by intro hx; have := (o6.out.block _ hx.symm).1; have := hne2.out; omega)).trans x6.out)
      have o7 := Box.mk own7
      have s7 := Box.mk (Nat.le_trans s6.out G7.size)
      clear own7 G7 b5 o5 x5 s5 o6 b6 x6 r6 s6
      go_wp2
      go_roundw
      case rel => exact ⟨k + 1, b, by omega, by go_num, ⟨hnx.out.symm⟩, x7, ⟨by rw [hsu.out]; exact o7.out⟩, b7, s7⟩
      case measure => simp [intOf]; omega
    · obtain rfl : k = 256 := by omega
      rw [show ((256 : Nat) : Int) = 256 from rfl]
      have o8 := Box.mk (show OwnD wr w.heap.size _ _ (emDs S K width 257) from ownD_base ow.out (by have := hne2.out; have := hw01.out; omega))
      clear ow xr
      go_wp2
      go_ret
      exact ⟨⟨_, rfl, o8.out⟩, br.out⟩
end Go.Proofs.YteiepenanffhcaaDoor

/- The reference's climbs: the walks of ledgerref9.ClimbWith and Climb. -/
namespace Go.Proofs.YteiepenanffhcaaDoor
open Go Go.RowKit
set_option linter.unusedVariables false

set_option maxRecDepth 100000 in
set_option maxHeartbeats 4000000 in
theorem rclimbWith_any {S : S8} {K : List UInt32} (g cap : Nat) (width : Int) (k : D32) (a : Int) (d0 : D32) (b : Int) (w : World) (hK : K.length = 64) (hL : LaidR S K w) (hg : g < w.heap.size)
    (hE : ∀ i, i < 257 → w.rangeAt g (32 * i) (bvs (emD S K width i).1)) :
    Calls Tryd.prog 49 #[.slice (some ⟨g, 0, none⟩) 257 cap, .int .i64 width, .agg (dc k), .int .i64 a, .agg (dc d0), .int .i64 b] w fun e w' => e = .returned (.agg (dc (climbD S K width k a d0 b))) ∧ Below w.heap.size w w' := by
  have hzd : ∀ W : World, (zeroValue 27).run Tryd.prog W = .ok (.agg (dc zero32)) W := fun W => by kernel_rfl
  have hds : ∀ d e : D32, Box ((dc d).size = (dc e).size) := fun d e => ⟨by rw [size_dc, size_dc]⟩
  have i24 : ∀ d : D32, Box ((Tryd.prog.info? 27).map (·.size) = some (dc d).size) := fun d => ⟨by rw [size_dc]; kernel_rfl⟩
  have i26 : Box ((Tryd.prog.info? 26).map (·.size) = some (dc k).size) := ⟨by rw [size_dc]; kernel_rfl⟩
  have hiD : Hid ((Tryd.prog.info? 27).map (·.size) = some 32) := by unfold Hid; kernel_rfl
  have UD : Tryd.prog.underlying 27 = some (.array 32 5) := Tryd.underlying27
  obtain ⟨A, hA⟩ : ∃ A : Nat, clamp a 0 256 = (A : Int) := ⟨(clamp a 0 256).toNat, by unfold clamp; omega⟩
  obtain ⟨B, hB⟩ : ∃ B : Nat, clamp b 0 256 = (B : Int) := ⟨(clamp b 0 256).toNat, by unfold clamp; omega⟩
  have hwa := Box.mk (fun W => lwithin_any a 0 256 W (by omega))
  have hwb := Box.mk (fun W => lwithin_any b 0 256 W (by omega))
  have hcut := Box.mk (fun W => rcut1_any d0 width W)
  unfold climbD
  rw [hA] at hwa ⊢
  rw [hB] at hwb ⊢
  have hA6 := Box.mk (show A ≤ 256 by unfold clamp at hA; omega)
  have hB6 := Box.mk (show B ≤ 256 by unfold clamp at hB; omega)
  rw [show ((A : Int)).toNat = A by omega, show ((B : Int)).toNat = B by omega]
  clear hA hB
  generalize cutD d0 width = c at hcut ⊢
  have HE := Box.mk hE
  have HL := Box.mk hL
  have HK := Box.mk hK
  have HG := Box.mk hg
  clear hE hL hK hg
  go_enter Tryd.func49, Tryd.ntmps49
  go_upto_region 1 with fail
  refine wp_anyWorld (fun W => Box (W.heap[w.heap.size]? = some (.cells (dc k) 26 (0, 0))) ∧ Box (W.heap[w.heap.size + 1]? = some (.cells (dc d0) 27 (0, 0))) ∧ Box (W.heap[w.heap.size + 1 + 1]? = some (.cells (dc zero32) 27 (0, 0))) ∧ Box (Below w.heap.size w W))
    ⟨⟨heap_old (heap_old (heap_new rfl))⟩, ⟨heap_old (heap_new (by simp))⟩, ⟨heap_new (by simp)⟩, ⟨((Below.refl_alloc w _).alloc (by simp) _).alloc (by simp; omega) _⟩⟩ ?_
  rintro W ⟨A0, A2, A1, B0⟩
  go_wp2_with (go_at_call 46; refine (calls_box (hwa.out _)).mono ?_)
  rintro e w' ⟨⟨rfl, rfl⟩⟩
  clear hwa
  go_wp2_with (go_at_call 46; refine (calls_box (hwb.out _)).mono ?_)
  rintro e w' ⟨⟨rfl, rfl⟩⟩
  clear hwb
  go_wp2_with (first
    | ((with_reducible refine arm_row 27 (.tmp 10) ?_ rfl (w.heap.size + 1) ?_ 27 (dc d0) (0, 0) _ A2.out Tryd.underlying27 rfl (i24 _).out ?_); rfl; rfl)
    | (go_at_call 57; refine (calls_box (hcut.out _)).mono ?_))
  rintro e w1 ⟨⟨rfl, hB⟩⟩
  have b1 := Box.mk (B0.out.trans (hB.mono B0.out.size))
  have q1 := Box.mk ((hB.block _ (heap_lt A1.out)).trans A1.out)
  have k1 := Box.mk ((hB.block _ (heap_lt A0.out)).trans A0.out)
  have x1 := Box.mk ((hB.block _ (heap_lt A2.out)).trans A2.out)
  clear hB A0 A1 A2 B0 hcut
  go_wp2_with ((with_reducible refine wpList_store_row ?_ 27 (.tmp 10) (.tmp 23) ?_ (w.heap.size + 1) (dc d0) (dc c) 27 ?_ ?_ x1.out (hds _ _).out (i24 _).out (dc_all _) ?_); rfl; rfl; rfl; rfl)
  intro w2 g2 G2
  have b2 := Box.mk (b1.out.grown G2 b1.out.size (fun k hk => by cases hk; omega))
  have q2 := Box.mk ((G2.block _ (heap_lt q1.out) (by simp)).trans q1.out)
  have k2 := Box.mk ((G2.block _ (heap_lt k1.out) (by simp)).trans k1.out)
  have x2 := Box.mk (show w2.heap[w.heap.size + 1]? = some (.cells (dc c) 27 (0, 0)) from g2.out)
  clear g2 G2 b1 q1 k1 x1
  go_wp2
  go_loopw [15, 16] (fun i t16 wr => ∃ (j : Nat) (d : D32), A ≤ j ∧ (j ≤ B ∨ j = A) ∧ i = .int .i64 j ∧ Box (d = climbN S K width k A c (j - A)) ∧ Box (wr.heap[w.heap.size]? = some (.cells (dc k) 26 (0, 0))) ∧ Box (wr.heap[w.heap.size + 1]? = some (.cells (dc d) 27 (0, 0))) ∧
     Box (wr.heap[w.heap.size + 1 + 1]? = some (.cells (dc zero32) 27 (0, 0))) ∧ Box (Below w.heap.size w wr)) (fun i _ _ => B - (intOf i).toNat)
  case atStart => exact ⟨A, c, Nat.le_refl _, .inr rfl, rfl, ⟨by rw [Nat.sub_self]; rfl⟩, k2, x2, q2, b2⟩
  clear x2 q2 b2 k2
  case round =>
    obtain ⟨j, d, hj1, hj2, rfl, hd, kr, xr, qr, br⟩ := hrel
    by_cases hlt : j < B
    · have hjj := Box.mk (show j < 256 by have := hB6.out; omega)
      have hbt := Box.mk (rbit_any k (255 - j) (by omega) wr)
      have hsub : ((255 : Int) - (j : Int)) = ((255 - j : Nat) : Int) := by have := hjj.out; omega
      have er := Box.mk (rangeAt_below (HE.out j (by have := hjj.out; omega)) br.out HG.out)
      have hstep := Box.mk (show climbN S K width k A c (j + 1 - A) = stepD S K width k j d by
        rw [show j + 1 - A = (j - A) + 1 by omega, climbN, ← hd.out, show A + (j - A) = j by omega])
      have hbc : bitI k ((255 : Int) - (j : Int)) = bitI k ((255 - j : Nat) : Int) := by rw [hsub]
      unfold stepD at hstep
      rw [hbc] at hstep
      generalize emD S K width j = em at *
      generalize bitI k ((255 - j : Nat) : Int) = bt at *
      have hj3 := hjj.out
      have w255 := IntWalk.i64_in (255 - (j : Int)) (by omega)
      clear hbc hj2
      go_wp2_with (first
        | ((with_reducible refine arm_row 26 (.tmp 8) ?_ rfl w.heap.size ?_ 26 (dc k) (0, 0) _ kr.out Tryd.underlying26 rfl i26.out ?_); rfl; rfl)
        | (go_at_call 58; refine (calls_box hbt.out).mono ?_))
      rintro e w3 ⟨⟨rfl, hB⟩⟩
      have b3 := Box.mk (br.out.trans (hB.mono br.out.size))
      have q3 := Box.mk ((hB.block _ (heap_lt qr.out)).trans qr.out)
      have k3 := Box.mk ((hB.block _ (heap_lt kr.out)).trans kr.out)
      have x3 := Box.mk ((hB.block _ (heap_lt xr.out)).trans xr.out)
      have e3 := Box.mk (rangeAt_below er.out hB (Nat.lt_of_lt_of_le HG.out br.out.size))
      clear hB qr kr xr er br hbt hsub w255
      by_cases hbz : bt = 0
      · rw [if_pos hbz] at hstep
        subst hbz
        have hbr := Box.mk (rbranch_any width d em w3.drew HK.out ((HL.out.old b3.out).old (Below.refl _ w3).drew))
        generalize brD S K width d em = nd at *
        go_wp2
        have n0 : (0 : Int) ≤ (j : Int) := by omega
        have n1 : (j : Int) < 257 := by omega
        refine wp_region_tail 6 (by kernel_rfl) (by kernel_rfl) ?_
        simp only [List.take_succ_cons, List.take_zero, List.drop_succ_cons, List.drop_zero]
        have xd := rangeAt_below (rangeAt_block x3.out) (Below.refl _ w3).drew (heap_lt x3.out)
        have e33 := e3.out
        rw [Nat.mul_comm 32 j] at e33
        have ed := rangeAt_below e33 (Below.refl _ w3).drew (Nat.lt_of_lt_of_le HG.out b3.out.size)
        repeat (first
          | (refine wpStill_load32 rfl 27 (.tmp 10) rfl (w.heap.size + 1) 0 rfl d xd UD hiD ?_; simp only [Act.put, List.setIfInBounds_toArray, List.set_cons_succ, List.set_cons_zero])
          | (refine wpStill_load32 rfl 27 (.tmp 40) rfl g (j * 32) rfl em ed UD hiD ?_; simp only [Act.put, List.setIfInBounds_toArray, List.set_cons_succ, List.set_cons_zero])
          | still_step)
        refine wpStill_nil ?_
        clear xd ed n0 n1 e33
        go_wp2_with (go_at_call 31; refine (calls_box hbr.out).mono ?_)
        rintro e w4 ⟨⟨rfl, hB⟩⟩
        have hB4 : Below w3.heap.size w3 w4 := ((Below.refl _ w3).drew).trans hB
        have b4 := Box.mk (b3.out.trans (hB4.mono b3.out.size))
        have q4 := Box.mk ((hB4.block _ (heap_lt q3.out)).trans q3.out)
        have k4 := Box.mk ((hB4.block _ (heap_lt k3.out)).trans k3.out)
        have x4 := Box.mk ((hB4.block _ (heap_lt x3.out)).trans x3.out)
        clear hB hB4 q3 k3 x3 e3 b3 hbr
        go_wp2_with ((with_reducible refine wpList_store_row ?_ 27 (.tmp 10) (.tmp 42) ?_ (w.heap.size + 1) (dc d) (dc nd) 27 ?_ ?_ x4.out (hds _ _).out (i24 _).out (dc_all _) ?_); rfl; rfl; rfl; rfl)
        intro w5 g5 G5
        have b5 := Box.mk (b4.out.grown G5 b4.out.size (fun k hk => by cases hk; omega))
        have q5 := Box.mk ((G5.block _ (heap_lt q4.out) (by simp)).trans q4.out)
        have k5 := Box.mk ((G5.block _ (heap_lt k4.out) (by simp)).trans k4.out)
        have x5 := Box.mk (show w5.heap[w.heap.size + 1]? = some (.cells (dc nd) 27 (0, 0)) from g5.out)
        clear g5 G5 b4 q4 k4 x4
        have hj9 := hjj.out
        go_wp2
        go_roundw
        case rel => exact ⟨j + 1, nd, by omega, .inl (by omega), by go_num, ⟨hstep.out.symm⟩, k5, x5, q5, b5⟩
        case measure => simp [intOf]; omega
      · rw [if_neg hbz] at hstep
        have hbr := Box.mk (rbranch_any width em d w3.drew HK.out ((HL.out.old b3.out).old (Below.refl _ w3).drew))
        generalize brD S K width em d = nd at *
        go_wp2
        have n0 : (0 : Int) ≤ (j : Int) := by omega
        have n1 : (j : Int) < 257 := by omega
        refine wp_region_tail 6 (by kernel_rfl) (by kernel_rfl) ?_
        simp only [List.take_succ_cons, List.take_zero, List.drop_succ_cons, List.drop_zero]
        have xd := rangeAt_below (rangeAt_block x3.out) (Below.refl _ w3).drew (heap_lt x3.out)
        have e33 := e3.out
        rw [Nat.mul_comm 32 j] at e33
        have ed := rangeAt_below e33 (Below.refl _ w3).drew (Nat.lt_of_lt_of_le HG.out b3.out.size)
        repeat (first
          | (refine wpStill_load32 rfl 27 (.tmp 10) rfl (w.heap.size + 1) 0 rfl d xd UD hiD ?_; simp only [Act.put, List.setIfInBounds_toArray, List.set_cons_succ, List.set_cons_zero])
          | (refine wpStill_load32 rfl 27 (.tmp 46) rfl g (j * 32) rfl em ed UD hiD ?_; simp only [Act.put, List.setIfInBounds_toArray, List.set_cons_succ, List.set_cons_zero])
          | still_step)
        refine wpStill_nil ?_
        clear xd ed n0 n1 e33
        go_wp2_with (go_at_call 31; refine (calls_box hbr.out).mono ?_)
        rintro e w4 ⟨⟨rfl, hB⟩⟩
        have hB4 : Below w3.heap.size w3 w4 := ((Below.refl _ w3).drew).trans hB
        have b4 := Box.mk (b3.out.trans (hB4.mono b3.out.size))
        have q4 := Box.mk ((hB4.block _ (heap_lt q3.out)).trans q3.out)
        have k4 := Box.mk ((hB4.block _ (heap_lt k3.out)).trans k3.out)
        have x4 := Box.mk ((hB4.block _ (heap_lt x3.out)).trans x3.out)
        clear hB hB4 q3 k3 x3 e3 b3 hbr
        go_wp2_with ((with_reducible refine wpList_store_row ?_ 27 (.tmp 10) (.tmp 49) ?_ (w.heap.size + 1) (dc d) (dc nd) 27 ?_ ?_ x4.out (hds _ _).out (i24 _).out (dc_all _) ?_); rfl; rfl; rfl; rfl)
        intro w5 g5 G5
        have b5 := Box.mk (b4.out.grown G5 b4.out.size (fun k hk => by cases hk; omega))
        have q5 := Box.mk ((G5.block _ (heap_lt q4.out) (by simp)).trans q4.out)
        have k5 := Box.mk ((G5.block _ (heap_lt k4.out) (by simp)).trans k4.out)
        have x5 := Box.mk (show w5.heap[w.heap.size + 1]? = some (.cells (dc nd) 27 (0, 0)) from g5.out)
        clear g5 G5 b4 q4 k4 x4
        have hj9 := hjj.out
        go_wp2
        go_roundw
        case rel => exact ⟨j + 1, nd, by omega, .inl (by omega), by go_num, ⟨hstep.out.symm⟩, k5, x5, q5, b5⟩
        case measure => simp [intOf]; omega
    · have hend := Box.mk (show climbN S K width k A c (B - A) = d by rw [hd.out]; congr 1; omega)
      go_wp2_with (first
        | ((with_reducible refine arm_row 27 (.tmp 10) ?_ rfl (w.heap.size + 1) ?_ 27 (dc d) (0, 0) _ xr.out Tryd.underlying27 rfl (i24 _).out ?_); rfl; rfl)
        | ((with_reducible refine wpList_store_row ?_ 27 (.tmp 12) (.tmp 50) ?_ (w.heap.size + 1 + 1) (dc zero32) (dc d) 27 ?_ ?_ qr.out (hds _ _).out (i24 _).out (dc_all _) ?_); rfl; rfl; rfl; rfl))
      intro w8 g8 G8
      go_wp2
      exact bodyPost_ret (v := .agg (dc d)) (results_cell_row (p := 12) (ty := 27) rfl _ _ (w.heap.size + 1 + 1) 27 _ (0, 0) _ rfl g8.out Tryd.underlying27 rfl (i24 _).out) rfl ⟨by rw [hend.out], br.out.grown G8 br.out.size (fun k hk => by cases hk; omega)⟩

set_option maxRecDepth 100000 in
set_option maxHeartbeats 1000000 in
theorem rclimb_any {S : S8} {K : List UInt32} (width : Int) (k : D32) (a : Int) (d0 : D32) (b : Int) (w : World) (hK : K.length = 64) (hL : LaidR S K w) :
    Calls Tryd.prog 35 #[.int .i64 width, .agg (dc k), .int .i64 a, .agg (dc d0), .int .i64 b] w fun e w' => e = .returned (.agg (dc (climbD S K width k a d0 b))) ∧ Below w.heap.size w w' := by
  have hzd : ∀ W : World, (zeroValue 27).run Tryd.prog W = .ok (.agg (dc zero32)) W := fun W => by kernel_rfl
  have hds : ∀ d e : D32, Box ((dc d).size = (dc e).size) := fun d e => ⟨by rw [size_dc, size_dc]⟩
  have i24 : ∀ d : D32, Box ((Tryd.prog.info? 27).map (·.size) = some (dc d).size) := fun d => ⟨by rw [size_dc]; kernel_rfl⟩
  have i26 : Box ((Tryd.prog.info? 26).map (·.size) = some (dc k).size) := ⟨by rw [size_dc]; kernel_rfl⟩
  have hemp := Box.mk (fun W (hW : Below w.heap.size w W) => rempties_any (S := S) (K := K) width W hK (hL.old hW))
  have hcl := Box.mk (fun g cap W (hW : Below w.heap.size w W) (hg : g < W.heap.size) (hE : ∀ i, i < 257 → W.rangeAt g (32 * i) (bvs (emD S K width i).1)) => rclimbWith_any (S := S) (K := K) g cap width k a d0 b W hK (hL.old hW) hg hE)
  have hlen := Box.mk (length_emDs S K width 257)
  have hget := Box.mk (show ∀ i (hi : i < 257), (emDs S K width 257)[i]'(by rw [length_emDs]; exact hi) = emD S K width i from fun i hi => by simp [emDs])
  clear hK hL
  generalize climbD S K width k a d0 b = D at *
  go_enter Tryd.func35, Tryd.ntmps35
  go_upto_region 1 with fail
  refine wp_anyWorld (fun W => Box (W.heap[w.heap.size]? = some (.cells (dc k) 26 (0, 0))) ∧ Box (W.heap[w.heap.size + 1]? = some (.cells (dc d0) 27 (0, 0))) ∧ Box (W.heap[w.heap.size + 1 + 1]? = some (.cells (dc zero32) 27 (0, 0))) ∧ Box (Below w.heap.size w W))
    ⟨⟨heap_old (heap_old (heap_new rfl))⟩, ⟨heap_old (heap_new (by simp))⟩, ⟨heap_new (by simp)⟩, ⟨((Below.refl_alloc w _).alloc (by simp) _).alloc (by simp; omega) _⟩⟩ ?_
  rintro W ⟨A0, A2, A1, B0⟩
  go_wp2_with (go_at_call 48; refine (calls_box (hemp.out _ B0.out)).mono ?_)
  rintro e w1 ⟨⟨⟨v, rfl, hO⟩, hB⟩⟩
  have b1 := Box.mk (B0.out.trans (hB.mono B0.out.size))
  have q1 := Box.mk ((hB.block _ (heap_lt A1.out)).trans A1.out)
  have k1 := Box.mk ((hB.block _ (heap_lt A0.out)).trans A0.out)
  have x1 := Box.mk ((hB.block _ (heap_lt A2.out)).trans A2.out)
  obtain ⟨g, cap, rfl, hg1, hg2, hr⟩ := hO.at (by rw [hlen.out]; omega)
  have HR := Box.mk (show ∀ i, i < 257 → w1.rangeAt g (32 * i) (bvs (emD S K width i).1) from fun i hi => by
    have := hr i (by rw [hlen.out]; exact hi)
    rwa [hget.out i hi] at this)
  have HG := Box.mk hg2
  rw [hlen.out]
  clear hO hr hg1 hg2 hB A0 A1 A2 B0 hemp hget
  have hc := Box.mk (hcl.out g cap w1 b1.out HG.out HR.out)
  clear HR hcl
  go_wp2_with (first
    | ((with_reducible refine arm_row 26 (.tmp 6) ?_ rfl w.heap.size ?_ 26 (dc k) (0, 0) _ k1.out Tryd.underlying26 rfl i26.out ?_); rfl; rfl)
    | ((with_reducible refine arm_row 27 (.tmp 8) ?_ rfl (w.heap.size + 1) ?_ 27 (dc d0) (0, 0) _ x1.out Tryd.underlying27 rfl (i24 _).out ?_); rfl; rfl)
    | (go_at_call 49; refine (calls_box hc.out).mono ?_))
  rintro e w3 ⟨⟨rfl, hB⟩⟩
  have b3 := Box.mk (b1.out.trans (hB.mono b1.out.size))
  have q3 := Box.mk ((hB.block _ (heap_lt q1.out)).trans q1.out)
  clear hB q1 b1 k1 x1 hc
  go_wp2_with ((with_reducible refine wpList_store_row ?_ 27 (.tmp 10) (.tmp 20) ?_ (w.heap.size + 1 + 1) (dc zero32) (dc D) 27 ?_ ?_ q3.out (hds _ _).out (i24 _).out (dc_all _) ?_); rfl; rfl; rfl; rfl)
  intro w8 g8 G8
  go_wp2
  exact bodyPost_ret (v := .agg (dc D)) (results_cell_row (p := 10) (ty := 27) rfl _ _ (w.heap.size + 1 + 1) 27 _ (0, 0) _ rfl g8.out Tryd.underlying27 rfl (i24 _).out) rfl ⟨rfl, b3.out.grown G8 b3.out.size (fun k hk => by cases hk; omega)⟩
end Go.Proofs.YteiepenanffhcaaDoor
