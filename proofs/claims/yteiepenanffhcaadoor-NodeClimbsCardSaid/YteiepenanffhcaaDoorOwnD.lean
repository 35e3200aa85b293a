/- Lists of digests of the call's own: append, one written out. No program in sight. -/
import Derived.Test.YteiepenanffhcaaDoorArm2
import Derived.Great.BuildSlice
namespace Go.Proofs.YteiepenanffhcaaDoor
open Go Go.RowKit
set_option linter.unusedVariables false

/-- The cells of a list of digests. -/
def fl (ds : List D32) : List Value := ds.flatMap fun d => bvs d.1
theorem fl_nil : fl [] = [] := rfl
theorem fl_snoc (ds : List D32) (d : D32) : fl (ds ++ [d]) = fl ds ++ bvs d.1 := by simp [fl]
theorem fl_cons (d : D32) (ds : List D32) : fl (d :: ds) = bvs d.1 ++ fl ds := by simp [fl]
theorem length_fl : ∀ ds : List D32, (fl ds).length = ds.length * 32
  | [] => rfl
  | d :: ds => by rw [fl_cons, List.length_append, length_fl ds, length_bvs, d.2, List.length_cons]; omega
theorem fl_at : ∀ (ds : List D32) (i j : Nat) (hi : i < ds.length), j < 32 → (fl ds)[32 * i + j]? = (bvs (ds[i]).1)[j]?
  | d :: ds, 0, j, _, hj => by
    rw [fl_cons, Nat.mul_zero, Nat.zero_add, List.getElem?_append_left (by rw [length_bvs, d.2]; exact hj)]
    rfl
  | d :: ds, i + 1, j, hi, hj => by
    have hl : (bvs d.1).length = 32 := by rw [length_bvs, d.2]
    rw [fl_cons, List.getElem?_append_right (by omega), hl, show 32 * (i + 1) + j - 32 = 32 * i + j by omega]
    exact fl_at ds i j (by simpa using hi) hj

/-- A list of digests of the call's own. -/
def OwnD (w : World) (base : Nat) (e : TypeId) (v : Value) (ds : List D32) : Prop := w.ownsRow base e 32 v ds.length (fl ds)
theorem OwnD.nil (w : World) (base : Nat) (e : TypeId) : OwnD w base e (.slice none 0 0) [] := ⟨rfl, .inl ⟨rfl, rfl⟩⟩
theorem OwnD.below {w w' : World} {base : Nat} {e : TypeId} {v : Value} {ds : List D32} (h : OwnD w base e v ds) (hb : Below w.heap.size w w') : OwnD w' base e v ds := by
  obtain ⟨hl, h⟩ := h
  refine ⟨hl, ?_⟩
  rcases h with ⟨rfl, hn⟩ | ⟨g, cap, cur, rfl, h1, h2, h3⟩
  · exact .inl ⟨rfl, hn⟩
  · exact .inr ⟨g, cap, cur, rfl, h1, (hb.block g (heap_lt h2)).trans h2, h3⟩
theorem OwnD.grown {w w' : World} {base b : Nat} {e : TypeId} {v : Value} {ds : List D32} (h : OwnD w base e v ds) (hg : w.grownBy w' (some b)) (hne : v.ownBlock ≠ some b) : OwnD w' base e v ds :=
  World.ownsRow.kept h hg (.inr hne)
/-- What it reads as. -/
theorem OwnD.at {w : World} {base : Nat} {e : TypeId} {v : Value} {ds : List D32} (h : OwnD w base e v ds) (hn : 0 < ds.length) :
    ∃ g cap, v = .slice (some ⟨g, 0, none⟩) ds.length cap ∧ base ≤ g ∧ g < w.heap.size ∧ ∀ i (hi : i < ds.length), w.rangeAt g (32 * i) (bvs (ds[i]).1) := by
  obtain ⟨hl, ⟨rfl, h0⟩ | ⟨g, cap, cur, rfl, hb, hg, hc, hm, hs, ht⟩⟩ := h
  · omega
  refine ⟨g, cap, rfl, hb, heap_lt hg, fun i hi j u hu => ?_⟩
  have hj : j < 32 := by have := (List.getElem?_eq_some_iff.1 hu).1; rwa [length_bvs, (ds[i]).2] at this
  rw [cell_of_row w g (32 * i + j) cur e (0, 0) hg, ← Array.getElem?_toList, ← hu, ← fl_at ds i j hi hj, ← ht, List.getElem?_take, if_pos (by omega)]
theorem OwnD.block {w : World} {base : Nat} {e : TypeId} {v : Value} {ds : List D32} (h : OwnD w base e v ds) : ∀ g, v.ownBlock = some g → base ≤ g ∧ g < w.heap.size := by
  intro g hv
  obtain ⟨hl, ⟨rfl, h0⟩ | ⟨g', cap, cur, rfl, hb, hg, hc, hm, hs, ht⟩⟩ := h
  · cases hv
  · cases hv; exact ⟨hb, heap_lt hg⟩

theorem fold_set : ∀ (l : List Value) (k : Nat) (z : Array Value), k + l.length ≤ z.size →
    ((l.zipIdx k).foldl (fun (cs : Array Value) (p : Value × Nat) => cs.setIfInBounds (0 * 32 + p.2) p.1) z).toList = z.toList.take k ++ (l ++ z.toList.drop (k + l.length))
  | [], k, z, _ => by simp
  | c :: l, k, z, h => by
    rw [List.length_cons] at h
    have hk : k < z.toList.length := by simp; omega
    have ih := fold_set l (k + 1) (z.setIfInBounds (0 * 32 + k) c) (by simp; omega)
    rw [List.zipIdx_cons, List.foldl_cons, ih]
    have hz : (z.setIfInBounds (0 * 32 + k) c).toList = z.toList.take k ++ c :: z.toList.drop (k + 1) := by
      rw [Array.toList_setIfInBounds, Nat.zero_mul, Nat.zero_add, List.set_eq_take_append_cons_drop, if_pos hk]
    rw [hz]
    have ht : (z.toList.take k).length = k := by rw [List.length_take]; omega
    have hd : z.toList.drop (k + (l.length + 1)) = (z.toList.drop (k + 1)).drop l.length := by rw [List.drop_drop]; congr 1; omega
    rw [List.length_cons, hd]
    generalize z.toList.take k = A at ht
    generalize z.toList.drop (k + 1) = D
    have h1 : (A ++ c :: D).take (k + 1) = A ++ [c] := by
      rw [← ht, List.take_length_add_append]; rfl
    have h2 : (A ++ c :: D).drop (k + 1 + l.length) = D.drop l.length := by
      rw [← ht, Nat.add_assoc, List.drop_length_add_append, Nat.add_comm 1, List.drop_succ_cons]
    rw [h1, h2]
    simp
theorem fill32 (z : Array Value) (hz : z.size = 32) (d : D32) : Instr.fill (fun i => some (i * 32, 32)) z [(0, .agg (dc d))] = some (dc d) := by
  have hs := size_dc d
  have hc : (Value.agg (dc d)).cells = dc d := rfl
  unfold Instr.fill
  simp only [hc, hs]
  rw [if_neg (by simp; omega)]
  unfold Instr.fill
  congr 1
  apply Array.ext'
  rw [← Array.foldl_toList, Array.toList_zipIdx]
  have := fold_set (dc d).toList 0 z (by rw [Array.length_toList, hs, hz]; omega)
  rw [List.take_zero, List.nil_append, Array.length_toList, hs, List.drop_of_length_le (by simp; omega), List.append_nil] at this
  exact this

/-- A list of one digest, written out. -/
theorem wpList_lit32 {P : Program} {ops : Array Oper} {rest : List Oper} {o : Oper} {a : Act} {w : World} {Q : Exit → Act → World → Prop} (hg : o.guard = none) (t e : TypeId) (x : Operand) (ho : o.op = .buildSlice t 1 #[(0, x)])
    (d : D32) (hx : a.eval x = .agg (dc d)) (hu : P.underlying t = some (.slice e)) (hi : (P.info? e).map (fun i => (i.zero, i.size, i.bytes)) = some (some (.agg (dc zero32)), 32, 32))
    (h : wpList P ops Q rest (a.put o.dst (.slice (some ⟨w.heap.size, 0, none⟩) 1 1)) (w.alloc (.cells (dc d) e))) : wpList P ops Q (o :: rest) a w := by
  obtain ⟨i, h1, h2, h3, h4⟩ := info_parts hi
  refine wpList_buildSlice hg t e 1 #[(0, x)] ho (dc d) i (.agg (dc zero32)) hu h1 h2 (by rw [h3]; decide) (by rw [h3]; decide) ?_ h
  have hm : (#[(0, x)].map fun (p : Nat × Operand) => (p.1, a.eval p.2)).toList = [(0, .agg (dc d))] := by simp [hx]
  have hm' : (#[(0, x)].map fun (i, x) => (i, a.eval x)).toList = [(0, .agg (dc d))] := hm
  rw [hm', h3]
  exact fill32 _ (by simp) d
/-- 'append' of one digest. -/
theorem wpList_append_d32 {P : Program} {ops : Array Oper} {rest : List Oper} {o : Oper} {a : Act} {w : World} {Q : Exit → Act → World → Prop} (hg : o.guard = none) (s x : Operand) (t e : TypeId) (ho : o.op = .call { callee := .builtin .append, args := #[s, x], argTypes := #[t, t] })
    (hu : P.underlying t = some (.slice e)) (hi : (P.info? e).map (fun i => (i.zero, i.size, i.bytes)) = some (some (.agg (dc zero32)), 32, 32))
    (base : Nat) (v : Value) (ds : List D32) (hs : a.eval s = v) (hown : OwnD w base e v ds) (b : Nat) (c : Nat) (d : D32) (hx : a.eval x = .slice (some ⟨b, 0, none⟩) 1 c) (hd : w.rangeAt b 0 (bvs d.1)) (hb : ds.length ≤ 2097152) (hbase : base ≤ w.heap.size)
    (h : ∀ v' w', OwnD w' base e v' (ds ++ [d]) → w.grownBy w' v.ownBlock → wpList P ops Q rest (a.put o.dst v') w') : wpList P ops Q (o :: rest) a w := by
  obtain ⟨i, h1, h2, h3, h4⟩ := info_parts hi
  refine wpList_append_own w hg s x t ho base e i (.agg (dc zero32)) 32 32 hu h1 h2 h3 h4 (by show (dc zero32).size = 32; exact size_dc _) (by decide) v ds.length (fl ds) hs hown ⟨b, 0, none⟩ 1 c (bvs d.1) hx (by rw [length_bvs, d.2]) ?_ (bvs_oneCell d.1) (by unfold maxLen; omega) (by omega) hbase fun v' w' h6 h7 _ => h v' w' ?_ h7
  · intro j u hu
    have := hd j u hu
    rw [Addr.add_mid]
    exact this
  · unfold OwnD
    rw [List.length_append, fl_snoc]
    exact h6

theorem OwnD.slice {w : World} {base : Nat} {e : TypeId} {v : Value} {ds : List D32} (h : OwnD w base e v ds) : ∃ ao cap, v = .slice ao ds.length cap := by
  obtain ⟨hl, ⟨rfl, h0⟩ | ⟨g, cap, cur, rfl, _⟩⟩ := h
  · exact ⟨none, 0, by rw [h0]⟩
  · exact ⟨_, _, rfl⟩
theorem OwnD.lit (w : World) (base : Nat) (e : TypeId) (d : D32) (h : base ≤ w.heap.size) : OwnD (w.alloc (.cells (dc d) e)) base e (.slice (some ⟨w.heap.size, 0, none⟩) 1 1) [d] := by
  have hf : fl [d] = bvs d.1 := by simp [fl]
  refine ⟨?_, .inr ⟨w.heap.size, 1, dc d, rfl, h, heap_alloc_new w _, Nat.le_refl _, by unfold maxLen; omega, by rw [size_dc], ?_⟩⟩
  · rw [hf, length_bvs, d.2]; rfl
  · rw [hf, dc_toList]
    exact List.take_of_length_le (by rw [length_bvs, d.2]; exact Nat.le_refl _)
end Go.Proofs.YteiepenanffhcaaDoor
