/- Texts joined: Hmap, I64, Disk0, Disk1. -/
import Derived.Test.YtopdhanbmnfeeaaDoorIR04
import Derived.Test.YtopdhanbmnfeeaaDoorIR03
import Derived.Test.YtopdhanbmnfeeaaDoorIR00
import Derived.Test.YtopdhanbmnfeeaaDoorRows
/- Many blocks as one assertion (cells by block), and a map of numbers to pointers. No program in sight. -/
namespace Go.Proofs.YtopdhanbmnfeeaaDoor
set_option linter.unusedSimpArgs false
open Go Go.RowKit Go.ChangeMaps Go.MapKept Go.Maps
open Go.WideElems (Fit rd rg pl rd_val elemAt)
set_option linter.unusedVariables false
set_option linter.unusedSectionVars false
def hmap (ks : List (Nat × TypeId)) (m : HM) : Asn where
  foot := ks.map (·.1)
  holds w := ∀ q ∈ ks, w.heap[q.1]? = some (.cells (m q.1).toArray q.2 (0, 0))
  lt w h b hb := by
    obtain ⟨q, hq, rfl⟩ := List.mem_map.1 hb
    exact heap_lt (h q hq)
  keep w w' h hk q hq := (hk q.1 (List.mem_map.2 ⟨q, hq, rfl⟩)).trans (h q hq)
theorem hmap_at {ks : List (Nat × TypeId)} {m : HM} {w : World} {g : Nat} {T : TypeId} (h : (hmap ks m).holds w) (hk : (g, T) ∈ ks) : (blk g T (m g)).holds w := h _ hk
theorem hmap_keys {ks : List (Nat × TypeId)} (hn : (ks.map (·.1)).Nodup) {g : Nat} {T T' : TypeId} (h : (g, T) ∈ ks) (h' : (g, T') ∈ ks) : T = T' := by
  induction ks with
  | nil => cases h
  | cons q ks ih =>
    rw [List.map_cons, List.nodup_cons] at hn
    rcases List.mem_cons.1 h with rfl | h1 <;> rcases List.mem_cons.1 h' with h2 | h2
    · cases h2; rfl
    · exact absurd (List.mem_map.2 ⟨_, h2, rfl⟩) hn.1
    · subst h2; exact absurd (List.mem_map.2 ⟨_, h1, rfl⟩) hn.1
    · exact ih hn.2 h1 h2
section
variable {P : Program} {ops : Array Oper} {Q : Exit → Act → World → Prop} {rest : List Oper} {o : Oper} {a : Act} {w w' w0 : World} {F : List Nat} {L R : List Asn} {K : Act → World → Prop} {x y : Operand} {t : TypeId} {S : World → Prop} {ks : List (Nat × TypeId)} {m : HM} {g off : Nat} {T : TypeId} {v : Value}
theorem hmap_cell (M : Mem w0 F w L) (i : Nat) (hi : L[i]? = some (hmap ks m)) (hk : (g, T) ∈ ks) (hv : m.rd g off = some v) : w.cell? ⟨g, off, none⟩ = some v := cell_of_blk (hmap_at (M.get i hi) hk) hv
theorem y_hload (hw : Region.wanted o (yielded ops a.tmps) = true) (ho : o.op = .load t x) (hx : a.eval x = .pointer (some ⟨g, off, none⟩)) (hi : ∀ w, (isAgg t).run P w = .ok false w) (hS : ∀ w, S w → (hmap ks m).holds w) (hk : (g, T) ∈ ks) (hv : m.rd g off = some v) :
    YieldsIf P ops S o v a := y_load (T := T) (C := m g) hw ho hx hi (fun w h => hmap_at (hS w h) hk) hv
theorem y_hloadb {d : TypeDesc} {cs : List Value} (hw : Region.wanted o (yielded ops a.tmps) = true) (ho : o.op = .load t x) (hx : a.eval x = .pointer (some ⟨g, off, none⟩)) (hu : P.underlying t = some d) (hd : d.isRow = true) (hi : Box ((P.info? t).map (·.size) = some cs.length))
    (hS : ∀ w, S w → (hmap ks m).holds w) (hk : (g, T) ∈ ks) (hv : ((m g).drop off).take cs.length = cs) : YieldsIf P ops S o (.agg cs.toArray) a := y_loadb (T := T) (C := m g) hw ho hx hu hd hi (fun w h => hmap_at (hS w h) hk) hv
theorem hmap_put {C' : List Value} (h : (hmap ks m).holds w) (hn : (ks.map (·.1)).Nodup) (hk : (g, T) ∈ ks) {m' : HM} (hm : m' g = C') (hm2 : ∀ x, x ≠ g → m' x = m x) (hb : w'.heap[g]? = some (.cells C'.toArray T (0, 0))) (hg : w.grownBy w' (some g)) : (hmap ks m').holds w' := by
  rintro ⟨x, T'⟩ hx
  by_cases e : x = g
  · subst e
    obtain rfl := hmap_keys hn hk hx
    show w'.heap[x]? = some (.cells (m' x).toArray T (0, 0))
    rw [hm]; exact hb
  · show w'.heap[x]? = some (.cells (m' x).toArray T' (0, 0))
    rw [hm2 x e]
    have h0 : w.heap[x]? = some (.cells (m x).toArray T' (0, 0)) := h _ hx
    rw [← h0]
    exact (Grew.of hg (F := [g]) (fun y hy => by cases hy; simp)).block x (heap_lt h0) (by simpa using e)
theorem Mem.setH (M : Mem w0 F w L) (i : Nat) (hi : L[i]? = some (hmap ks m)) (hk : (g, T) ∈ ks) {m' : HM} {C' : List Value} (hm : m' g = C') (hm2 : ∀ x, x ≠ g → m' x = m x) (hb : w'.heap[g]? = some (.cells C'.toArray T (0, 0))) (hg : w.grownBy w' (some g)) : Mem w0 F w' (L.set i (hmap ks m')) := by
  have hn : (hmap ks m).foot.Nodup := by
    have := M.nodup
    unfold foots List.Nodup at this
    rw [List.pairwise_flatMap] at this
    exact this.1 _ (List.mem_of_getElem? hi)
  refine M.upd i hi (Mem.one hg (fun c hc => ?_) (hmap_put (M.get i hi) hn hk hm hm2 hb hg) hn (fun b hb => .inl hb))
  cases hc
  exact List.mem_map.2 ⟨_, hk, rfl⟩
theorem e_hstore (M : Mem w0 F w L) (i : Nat) (ho : o.op = .store t x y) (hgd : o.guard = none) (hx : a.eval x = .pointer (some ⟨g, off, none⟩)) (hy : a.eval y = v) (hv : v.cells = #[v]) (h1 : v.oneCell' = true)
    (hs : ∀ w, (sizeOf t).run P w = .ok 1 w) (hi : L[i]? = some (hmap ks m)) (hk : (g, T) ∈ ks) (hlt : (m.rd g off).isSome)
    (h : ∀ w', Mem w0 F w' (L.set i (hmap ks (m.wr g off v))) → K (a.put o.dst undef) w') : Oper.wp P o a w K Q := by
  have hs' := size_of_run hs
  have hlt' : off < (m g).length := by
    unfold HM.rd at hlt
    rcases Nat.lt_or_ge off (m g).length with h | h
    · exact h
    · rw [List.getElem?_eq_none h] at hlt; cases hlt
  refine oper_list hgd (arm_store_v t x y ho hgd g off hx v hy hv h1 hs' (m g) T (hmap_at (M.get i hi) hk) hlt' fun w' hb hg => ⟨rfl, h w' ?_⟩)
  refine M.setH i hi hk (C' := (m g).set off v) ?_ (fun x hx => ?_) hb.out hg
  · unfold HM.wr; rw [if_pos rfl]
  · unfold HM.wr; rw [if_neg hx]
theorem e_hstore2 (M : Mem w0 F w L) (i : Nat) {u v : Value} (ho : o.op = .store t x y) (hgd : o.guard = none) (hx : a.eval x = .pointer (some ⟨g, off, none⟩)) (hy : a.eval y = .agg #[u, v])
    (hs : Box ((P.info? t).map (·.size) = some 2)) (h1 : u.oneCell' = true ∧ v.oneCell' = true) (hi : L[i]? = some (hmap ks m)) (hk : (g, T) ∈ ks) (hlt : off + 2 ≤ (m g).length)
    (h : ∀ w', Mem w0 F w' (L.set i (hmap ks ((m.wr g off u).wr g (off + 1) v))) → K (a.put o.dst undef) w') : Oper.wp P o a w K Q := by
  refine oper_list hgd (arm_store_mid t x y ho hgd g off (m g) [u, v] T hx hy (hmap_at (M.get i hi) hk) hlt hs.out (by simp [h1.1, h1.2]) fun w' hb hg => ⟨rfl, h w' ?_⟩)
  refine M.setH i hi hk (C' := splice (m g) off [u, v]) ?_ (fun x hx => ?_) hb.out hg
  · simp only [HM.wr, ↓reduceIte]
    apply List.ext_getElem?
    intro j
    unfold splice
    have hl : ((m g).take off).length = off := by rw [List.length_take]; omega
    rcases Nat.lt_or_ge j off with hj | hj
    · rw [List.getElem?_set_ne (by omega), List.getElem?_set_ne (by omega), List.getElem?_append_left (by omega), List.getElem?_take_of_lt hj]
    · rw [List.getElem?_append_right (by omega), hl]
      obtain rfl | rfl | hj2 : j = off ∨ j = off + 1 ∨ off + 2 ≤ j := by omega
      · rw [List.getElem?_set_ne (by omega), List.getElem?_set_self (by omega), Nat.sub_self]; rfl
      · rw [List.getElem?_set_self (by rw [List.length_set]; omega), show off + 1 - off = 1 by omega]; rfl
      · rw [List.getElem?_set_ne (by omega), List.getElem?_set_ne (by omega), List.getElem?_append_right (by simp; omega), List.getElem?_drop]
        simp only [List.length_cons, List.length_nil]
        congr 1
        omega
  · simp only [HM.wr, if_neg hx]
theorem Mem.hjoin {C : List Value} (h : Mem w0 F w (blk g T C :: hmap ks m :: R)) : Mem w0 F w (hmap ((g, T) :: ks) (m.put g C) :: R) ∧ g ∉ ks.map (·.1) := by
  have hn := h.nodup
  rw [foots_cons, foots_cons] at hn
  have hg : g ∉ ks.map (·.1) := fun hx => by
    have := (List.nodup_append.1 hn).2.2 g (by simp [blk]) g (List.mem_append_left _ hx)
    exact this rfl
  refine ⟨⟨h.grew, fun A hA => ?_, ?_, fun b hb => h.new b ?_⟩, hg⟩
  · rcases List.mem_cons.1 hA with rfl | hA
    · rintro ⟨x, T'⟩ hx
      rcases List.mem_cons.1 hx with e | hx
      · cases e
        have := h.get 0 (A := blk g T C) rfl
        show w.heap[g]? = some (.cells ((m.put g C) g).toArray T (0, 0))
        unfold HM.put
        rw [if_pos rfl]; exact this
      · have h1 : w.heap[x]? = some (.cells (m x).toArray T' (0, 0)) := h.get 1 (A := hmap ks m) rfl _ hx
        show w.heap[x]? = some (.cells ((m.put g C) x).toArray T' (0, 0))
        unfold HM.put
        rw [if_neg (fun e => hg (by rw [← e]; exact List.mem_map.2 ⟨_, hx, rfl⟩))]; exact h1
    · exact h.all A (by simp [hA])
  · rw [foots_cons]
    exact hn
  · rw [foots_cons] at hb
    rw [foots_cons, foots_cons]
    exact hb
theorem Mem.hone {C : List Value} (h : Mem w0 F w (blk g T C :: R)) : Mem w0 F w (hmap [(g, T)] (fun _ => C) :: R) :=
  ⟨h.grew, fun A hA => by
    rcases List.mem_cons.1 hA with rfl | hA
    · intro q hq
      obtain rfl : q = (g, T) := by simpa using hq
      exact h.get 0 (A := blk g T C) rfl
    · exact h.all A (by simp [hA]), by have := h.nodup; rw [foots_cons] at this ⊢; exact this, fun b hb => h.new b (by rw [foots_cons] at hb ⊢; exact hb)⟩
end
def refElem (v : Value) : Option (DataW Value × List MemPlace) := some (.held v, [])
def MapR (P : Program) (k : TypeId) (w : World) (b n : Nat) (f : Int → Option Addr) : Prop :=
  ∃ D, w.ownsMap (H := Value) P k refElem b n D ∧ IsMap D ∧ ∀ i : Int, -9223372036854775808 ≤ i → i ≤ 9223372036854775807 → D.atKey (.int .i64 i) (.held (.pointer none)) = .held (.pointer (f i))
def mapr (P : Program) (k : TypeId) (b n : Nat) (f : Int → Option Addr) : Asn where
  foot := [b]
  holds w := MapR P k w b n f
  lt w h b' hb := by
    obtain rfl : b' = b := by simpa using hb
    obtain ⟨D, h1, _⟩ := h; exact h1.lt
  keep w w' h hk := by
    obtain ⟨D, ⟨es, clock, hb, F, h1, h2⟩, h3⟩ := h
    exact ⟨D, ⟨es, clock, (hk b (by simp)).trans hb, F, h1, h2⟩, h3⟩
section
variable {P : Program} {ops : Array Oper} {Q : Exit → Act → World → Prop} {rest : List Oper} {o : Oper} {a : Act} {w w' w0 : World} {F : List Nat} {L R : List Asn} {K : Act → World → Prop} {x y : Operand} {t : TypeId} {S : World → Prop} {g n : Nat} {kt et : TypeId} {f : Int → Option Addr} {i k : Int}
theorem wf_i64' (h : -9223372036854775808 ≤ k ∧ k ≤ 9223372036854775807) : (Lit.int .i64 k).wf = true := WalkArith.wf_i64 h
theorem y_mlook {q : Option Addr} (hw : Region.wanted o (yielded ops a.tmps) = true) (hS : ∀ w, S w → (mapr P kt g n f).holds w) (hk : P.underlying kt = some (.int .i64)) (ht : P.underlying t = some (.map kt et)) (hz : ∀ W, (zeroValue et).run P W = .ok (.pointer none) W)
    {m x : Operand} (ho : o.op = Op.lookup t m x false) (hm' : a.eval m = .map (some g)) (hx : a.eval x = .int .i64 k) (hp : -9223372036854775808 ≤ k ∧ k ≤ 9223372036854775807) (hq : f k = q) : YieldsIf P ops S o (.pointer q) a :=
  y_run hw fun w hSw => by
    subst hq
    obtain ⟨D, h1, h2, h3⟩ := hS w hSw
    obtain ⟨v, ps, hrun, hv⟩ := World.ownsMap.lookup h1 (int_keyed hk) ht (hz w) (R := refElem) (z := .pointer none) (zd := .held (.pointer none)) (zp := []) rfl (keyOf_int_mk hk (wf_i64' hp))
    rw [h3 k hp.1 hp.2] at hv
    obtain rfl : v = .pointer (f k) := by
      unfold refElem at hv
      have := congrArg Prod.fst (Option.some.inj hv)
      injection this
    unfold execOp
    simp only [ho, hm', hx, Sem.run_bind, hrun, Result.andThen_ok]
    rfl
theorem lit_ne {i k : Int} (h : i ≠ k) : (Lit.int .i64 i) ≠ .int .i64 k := by
  intro e
  injection e with _ e
  exact h e
theorem e_mset (M : Mem w0 F w L) (i : Nat) (hi : L[i]? = some (mapr P kt g n f)) (hk : P.underlying kt = some (.int .i64)) (ht : P.underlying t = some (.map kt et))
    {m x v : Operand} {q : Option Addr} (ho : o.op = Op.mapUpdate t m x v) (hg : o.guard = none) (hm' : a.eval m = .map (some g)) (hx : a.eval x = .int .i64 k) (hv : a.eval v = .pointer q) (hp : -9223372036854775808 ≤ k ∧ k ≤ 9223372036854775807) (hn : n < 100000000000000)
    (h : ∀ w', Mem w0 F w' (L.set i (mapr P kt g (n + 1) (fun j => if j = k then q else f j))) → K (a.put o.dst undef) w') : Oper.wp P o a w K Q := by
  obtain ⟨D, h1, h2, h3⟩ := M.get i hi
  obtain ⟨w', hrun, r1, r2⟩ := World.ownsMap.update (R := refElem) h1 (int_keyed hk) ht (by unfold maxLen; omega) (key := .int .i64 k) (val := .pointer q) (d := .held (.pointer q)) (ps := []) (keyOf_int_mk hk (wf_i64' hp)) rfl
  have hkl : WideAt.IsKeyLit (.int .i64 k) := trivial
  unfold Oper.wp execOp
  simp only [ho, hm', hx, hv, Sem.run_bind, hrun, Result.andThen_ok]
  refine h w' (M.upd i hi (Mem.one r2 (fun c hc => by cases hc; simp [mapr]) ⟨_, r1, h2.put _ _, fun j j1 j2 => ?_⟩ (by simp [mapr]) fun c hc => .inl hc))
  show _ = DataW.held (Value.pointer (if j = k then q else f j))
  by_cases hj : j = k
  · subst hj
    rw [atKey_put_same h2 hkl, if_pos rfl]
  · rw [atKey_put_other (lit_ne hj), if_neg hj]
    exact h3 j j1 j2
theorem e_mdel (M : Mem w0 F w L) (i : Nat) (hi : L[i]? = some (mapr P kt g n f)) (hk : P.underlying kt = some (.int .i64)) (ht : P.underlying t = some (.map kt et))
    {m x : Operand} (ho : o.op = Op.call { callee := Callee.builtin Builtin.delete, args := #[m, x], argTypes := #[t, kt] }) (hg : o.guard = none) (hm' : a.eval m = .map (some g)) (hx : a.eval x = .int .i64 k) (hp : -9223372036854775808 ≤ k ∧ k ≤ 9223372036854775807)
    (h : ∀ w', Mem w0 F w' (L.set i (mapr P kt g n (fun j => if j = k then none else f j))) → K (a.put o.dst (.tuple #[])) w') : Oper.wp P o a w K Q := by
  obtain ⟨D, h1, h2, h3⟩ := M.get i hi
  refine oper_list hg (wpList_delete_own w hg m x t kt ho et (int_keyed hk) ht refElem g n D hm' h1 _ (.int .i64 k) hx (keyOf_int_mk hk (wf_i64' hp)) fun w' r1 r2 => ⟨rfl, h w' ?_⟩)
  refine M.upd i hi (Mem.one r2.grown (fun c hc => by cases hc; simp [mapr]) ⟨_, r1, r1.isMap, fun j j1 j2 => ?_⟩ (by simp [mapr]) fun c hc => .inl hc)
  show _ = DataW.held (Value.pointer (if j = k then none else f j))
  by_cases hj : j = k
  · subst hj
    rw [atKey_del_same, if_pos rfl]
  · rw [atKey_del_other (lit_ne hj), if_neg hj]
    exact h3 j j1 j2
theorem e_mmake (M : Mem w0 F w L) (ho : o.op = .makeMap t none) (h : ∀ g w', Mem w0 F w' (mapr P kt g 0 (fun _ => none) :: L) → K (a.put o.dst (.map (some g))) w') : Oper.wp P o a w K Q := by
  unfold Oper.wp execOp
  simp only [ho, Instr.makeMap, Option.map_none, Sem.run_bind, newObj]
  refine h _ _ (M.step (R := [mapr P kt w.heap.size 0 (fun _ => none)]) ⟨Grew.low (Below.refl_alloc w (.map #[] 0)) _, fun A hA => ?_, by simp [foots, mapr], by simp [foots, mapr]⟩)
  obtain rfl : A = _ := by simpa using hA
  exact ⟨.map [], World.ownsMap_made w P kt _, isMap_empty, fun i _ _ => rfl⟩
end
end Go.Proofs.YtopdhanbmnfeeaaDoor

/- Numbers of an int. No program in sight. -/
namespace Go.Proofs.YtopdhanbmnfeeaaDoor
set_option linter.unusedSectionVars false
set_option linter.unusedSimpArgs false
set_option linter.unusedVariables false
open Go Go.RowKit
def inI (a : Int) : Prop := -9223372036854775808 ≤ a ∧ a ≤ 9223372036854775807
theorem inI_wrap (a : Int) : inI (wrap64 a) := by unfold inI wrap64; omega
end Go.Proofs.YtopdhanbmnfeeaaDoor

/- A disk as a value; rows of like pieces. No program in sight. -/
namespace Go.Proofs.YtopdhanbmnfeeaaDoor
set_option linter.unusedSectionVars false
set_option linter.unusedSimpArgs false
open Go Go.RowKit
set_option linter.unusedVariables false
section flat
variable {α β : Type} (f : α → List β) (n : Nat)
theorem flat_len : ∀ (l : List α), (∀ y ∈ l, (f y).length = n) → (l.flatMap f).length = n * l.length
  | [], _ => by simp
  | y :: l, h => by
    rw [List.flatMap_cons, List.length_append, h y (List.mem_cons_self ..), flat_len l (fun z hz => h z (List.mem_cons_of_mem _ hz)), List.length_cons, Nat.mul_add, Nat.mul_one, Nat.add_comm]
theorem flat_get : ∀ (l : List α) (i : Nat) (x : α), (∀ y ∈ l, (f y).length = n) → l[i]? = some x → ((l.flatMap f).drop (n * i)).take n = f x
  | [], i, x, _, h => by simp at h
  | y :: l, 0, x, hn, h => by
    have e : y = x := by simpa using h
    subst e
    rw [List.flatMap_cons, Nat.mul_zero, List.drop_zero, List.take_left' (hn y (List.mem_cons_self ..))]
  | y :: l, i + 1, x, hn, h => by
    have h1 := hn y (List.mem_cons_self ..)
    rw [List.flatMap_cons, Nat.mul_add, Nat.mul_one, Nat.add_comm, ← List.drop_drop, List.drop_left' h1]
    exact flat_get l i x (fun z hz => hn z (List.mem_cons_of_mem _ hz)) (by simpa using h)
theorem flat_upd : ∀ (l : List α) (i : Nat) (x y : α) (o : Nat) (m : List β), (∀ y ∈ l, (f y).length = n) → l[i]? = some x → o + m.length ≤ n → f y = splice (f x) o m → splice (l.flatMap f) (n * i + o) m = (l.set i y).flatMap f
  | [], i, x, y, o, m, _, h, _, _ => by simp at h
  | z :: l, 0, x, y, o, m, hn, h, hm, hy => by
    have e : z = x := by simpa using h
    subst e
    have h1 := hn z (List.mem_cons_self ..)
    unfold splice at hy ⊢
    rw [List.set_cons_zero, List.flatMap_cons, List.flatMap_cons, hy, Nat.mul_zero, Nat.zero_add, List.take_append_of_le_length (by omega), List.drop_append_of_le_length (by omega)]
    simp [List.append_assoc]
  | z :: l, i + 1, x, y, o, m, hn, h, hm, hy => by
    have h1 := hn z (List.mem_cons_self ..)
    have ih := flat_upd l i x y o m (fun z hz => hn z (List.mem_cons_of_mem _ hz)) (by simpa using h) hm hy
    rw [List.set_cons_succ, List.flatMap_cons, List.flatMap_cons, ← ih]
    have e1 : n * (i + 1) + o = (f z).length + (n * i + o) := by rw [Nat.mul_add, h1]; omega
    unfold splice
    rw [e1, List.take_length_add_append, Nat.add_assoc (f z).length, List.drop_length_add_append, List.append_assoc]
end flat
theorem splice_bvs (l m : List UInt8) (o : Nat) : splice (bvs l) o (bvs m) = bvs (splice l o m) := by
  unfold splice bvs
  simp [List.map_take, List.map_drop]
theorem splice_all {α : Type} (l m : List α) (h : l.length = m.length) : splice l 0 m = m := by
  unfold splice; simp [← h]
def pagesC (ps : List (List UInt8)) : List Value := ps.flatMap bvs
def wC (x : Wr) : List Value := .int .i64 (x.1 : Int) :: bvs x.2
def qC (q : List Wr) : List Value := q.flatMap wC
theorem wC_one (x : Wr) : ∀ u ∈ wC x, u.oneCell' = true := by
  intro u hu
  rcases List.mem_cons.1 hu with rfl | hu
  · rfl
  · exact bvs_oneCell _ u hu
structure DV where
  pages : List (List UInt8)
  q : List Wr
  armed : Int
  dead : Bool
  epoch : Int
  reads : Int
  writes : Int
  syncs : Int
structure DOk (D : DV) : Prop where
  lo : 3 ≤ D.pages.length
  hi : D.pages.length ≤ 4096
  len : ∀ p ∈ D.pages, p.length = 256
  qs : ∀ x ∈ D.q, x.1 < D.pages.length ∧ x.2.length = 256
  arm : 0 ≤ D.armed ∧ D.armed ≤ 9223372036854775807
  ep : inI D.epoch
theorem pages_get {ps : List (List UInt8)} (h : ∀ p ∈ ps, p.length = 256) {i : Nat} (hi : i < ps.length) : (ps.getD i []).length = 256 := by
  rw [List.getD_eq_getElem?_getD, List.getElem?_eq_getElem hi]
  exact h _ (List.getElem_mem hi)
theorem pages_set {ps : List (List UInt8)} (h : ∀ p ∈ ps, p.length = 256) {i : Nat} {d : List UInt8} (hd : d.length = 256) : ∀ p ∈ ps.set i d, p.length = 256 := by
  intro p hp
  rcases List.mem_or_eq_of_mem_set hp with h1 | h1
  · exact h p h1
  · rw [h1]; exact hd
def zeroPage : List UInt8 := List.replicate 256 0
def newD (n : Nat) : DV := ⟨List.replicate n zeroPage, [], 0, false, 0, 0, 0, 0⟩
theorem newD_ok {n : Nat} (h1 : 3 ≤ n) (h2 : n ≤ 4096) : DOk (newD n) where
  lo := by simpa [newD] using h1
  hi := by simpa [newD] using h2
  len p hp := by
    have := List.eq_of_mem_replicate hp
    rw [this]; exact List.length_replicate
  qs x hx := by cases hx
  arm := ⟨Int.le_refl 0, by show (0 : Int) ≤ _; decide⟩
  ep := by show inI 0; unfold inI; decide
def DV.pg (D : DV) (p : Nat) : List UInt8 := D.pages.getD p []
def DV.cur (D : DV) (p : Nat) : List UInt8 := curP (D.pg p) D.q p
def DV.has (D : DV) (p : Int) : Prop := 0 ≤ p ∧ p < D.pages.length
instance (D : DV) (p : Int) : Decidable (D.has p) := inferInstanceAs (Decidable (_ ∧ _))
theorem cur_len {D : DV} (h : DOk D) {p : Nat} (hp : p < D.pages.length) : (D.cur p).length = 256 := by
  unfold DV.cur
  cases hl : lastAt D.q p with
  | none => rw [curP_none _ _ _ hl]; exact pages_get h.len hp
  | some i =>
    obtain ⟨x, h1, _, h3⟩ := curP_some (D.pg p) p D.q i hl
    rw [h3]
    exact (h.qs x (List.mem_of_getElem? h1)).2
def actD (D : DV) : DV := if D.armed = 0 then D else { D with armed := D.armed - 1, dead := decide (D.armed = 1) }
def actE (D : DV) : Int := if D.armed = 1 then 2 else 0
def readD (D : DV) (p : Int) : DV := if D.dead then D else if D.has p then { D with reads := wrap64 (D.reads + 1) } else D
def readE (D : DV) (p : Int) : Int := if D.dead then 2 else if D.has p then 0 else 41
def readL (D : DV) (p : Int) : List UInt8 := if D.dead then [] else if D.has p then D.cur p.toNat else []
def writeE (D : DV) (p : Int) (d : List UInt8) : Int := if D.dead then 2 else if D.has p then (if d.length = 256 then actE D else 42) else 41
def openW (D : DV) (p : Int) (d : List UInt8) : DV := { D with q := D.q ++ [(p.toNat, d)], writes := wrap64 (D.writes + 1) }
def writeD (D : DV) (p : Int) (d : List UInt8) : DV := if D.dead then D else if D.has p then (if d.length = 256 then actD (openW D p d) else D) else D
def applyQ (ps : List (List UInt8)) (q : List Wr) : List (List UInt8) := q.foldl (fun ps x => ps.set x.1 x.2) ps
def syncE (D : DV) : Int := if D.dead then 2 else actE D
def flushD (D : DV) : DV := { D with pages := applyQ D.pages D.q, q := [], syncs := wrap64 (D.syncs + 1) }
def syncD (D : DV) : DV := if D.dead then D else if D.armed = 1 then actD D else flushD (actD D)
def armD (D : DV) (n : Int) : DV := if D.dead then D else { D with armed := max n 0 }
def mix1 (fate : UInt8) (new old : List UInt8) (j : Nat) : List UInt8 := if fate.toNat >>> j % 2 = 1 then splice old (64 * j) ((new.drop (64 * j)).take 64) else old
def mixS (fate : UInt8) (new old : List UInt8) (k : Nat) : List UInt8 := (List.range k).foldl (mix1 fate new) old
def crashP (ps : List (List UInt8)) (l : List (Wr × UInt8)) : List (List UInt8) := l.foldl (fun ps x => ps.set x.1.1 (mixS x.2 x.1.2 (ps.getD x.1.1 []) 4)) ps
def crashD (D : DV) (fates : List UInt8) : DV := { D with pages := crashP D.pages (D.q.zip fates), q := [], dead := false, armed := 0, epoch := wrap64 (D.epoch + 1) }
def claimD (D : DV) : DV := { D with epoch := wrap64 (D.epoch + 1) }
theorem applyQ_snoc (ps : List (List UInt8)) (q : List Wr) (x : Wr) : applyQ ps (q ++ [x]) = (applyQ ps q).set x.1 x.2 := by unfold applyQ; rw [List.foldl_append]; rfl
theorem applyQ_len (ps : List (List UInt8)) (q : List Wr) : (applyQ ps q).length = ps.length := by
  revert q
  refine snocInd rfl fun q x ih => ?_
  rw [applyQ_snoc, List.length_set, ih]
theorem applyQ_each {ps : List (List UInt8)} (h : ∀ p ∈ ps, p.length = 256) : ∀ (q : List Wr), (∀ x ∈ q, x.2.length = 256) → ∀ p ∈ applyQ ps q, p.length = 256 := by
  refine snocInd (fun _ => h) fun q x ih hq => ?_
  rw [applyQ_snoc]
  exact pages_set (ih fun y hy => hq y (List.mem_append_left _ hy)) (hq x (by simp))
theorem length_mix1 (fate : UInt8) (new old : List UInt8) (j : Nat) (hn : new.length = 256) (ho : old.length = 256) (hj : j < 4) : (mix1 fate new old j).length = 256 := by
  unfold mix1
  split
  · rw [length_splice, ho]
    rw [List.length_take, List.length_drop]; omega
  · exact ho
theorem mixS_succ (fate : UInt8) (new old : List UInt8) (k : Nat) : mixS fate new old (k + 1) = mix1 fate new (mixS fate new old k) k := by
  unfold mixS; rw [List.range_succ, List.foldl_append]; rfl
theorem length_mixS (fate : UInt8) (new old : List UInt8) (hn : new.length = 256) (ho : old.length = 256) : ∀ k, k ≤ 4 → (mixS fate new old k).length = 256
  | 0, _ => ho
  | k + 1, h => by rw [mixS_succ]; exact length_mix1 _ _ _ _ hn (length_mixS fate new old hn ho k (by omega)) (by omega)
theorem crashP_snoc (ps : List (List UInt8)) (l : List (Wr × UInt8)) (x : Wr × UInt8) : crashP ps (l ++ [x]) = (crashP ps l).set x.1.1 (mixS x.2 x.1.2 ((crashP ps l).getD x.1.1 []) 4) := by
  unfold crashP; rw [List.foldl_append]; rfl
theorem crashP_len (ps : List (List UInt8)) (l : List (Wr × UInt8)) : (crashP ps l).length = ps.length := by
  revert l
  refine snocInd rfl fun q x ih => ?_
  rw [crashP_snoc, List.length_set, ih]
theorem crashP_each {ps : List (List UInt8)} (h : ∀ p ∈ ps, p.length = 256) : ∀ (l : List (Wr × UInt8)), (∀ x ∈ l, x.1.1 < ps.length ∧ x.1.2.length = 256) → ∀ p ∈ crashP ps l, p.length = 256 := by
  refine snocInd (fun _ => h) fun q x ih hq => ?_
  rw [crashP_snoc]
  have h1 := ih fun y hy => hq y (List.mem_append_left _ hy)
  have h2 := hq x (by simp)
  exact pages_set h1 (length_mixS _ _ _ h2.2 (pages_get h1 (by rw [crashP_len]; exact h2.1)) 4 (Nat.le_refl _))
def dC (D : DV) (pg mb : Nat) (qv : Value) : List Value :=
  [.int .i64 D.reads, .int .i64 D.writes, .int .i64 D.syncs, .int .i64 (D.q.length : Int), .slice (some ⟨pg, 0, none⟩) D.pages.length D.pages.length, qv, .map (some mb), .int .i64 D.armed, .bool D.dead, .int .i64 D.epoch]
structure DiskAt (P : Program) (TD TP TW k e : TypeId) (w : World) (D : DV) (p pg mb : Nat) (qv : Value) : Prop where
  ok : DOk D
  blk : w.heap[p]? = some (.cells (dC D pg mb qv).toArray TD (0, 0))
  pgs : w.heap[pg]? = some (.cells (pagesC D.pages).toArray TP (0, 0))
  que : w.ownsRow 0 TW 257 qv D.q.length (qC D.q)
  map : MapAt P k e w mb D.q
  dist : (p :: pg :: mb :: obs qv).Nodup
section
variable {P : Program} {TD TP TW k e : TypeId} {w w' : World} {D : DV} {p pg mb : Nat} {qv : Value}
theorem DiskAt.lt (h : DiskAt P TD TP TW k e w D p pg mb qv) : ∀ g ∈ p :: pg :: mb :: obs qv, g < w.heap.size := by
  intro g hg
  simp only [List.mem_cons] at hg
  rcases hg with rfl | rfl | rfl | hg
  · exact heap_lt h.blk
  · exact heap_lt h.pgs
  · exact h.map.lt
  · exact (ownsRow_lt h.que g (mem_obs.1 hg)).2
theorem DiskAt.kept (h : DiskAt P TD TP TW k e w D p pg mb qv) (hs : ∀ g ∈ p :: pg :: mb :: obs qv, w'.heap[g]? = w.heap[g]?) : DiskAt P TD TP TW k e w' D p pg mb qv where
  ok := h.ok
  blk := (hs p (by simp)).trans h.blk
  pgs := (hs pg (by simp)).trans h.pgs
  que := ownsRow_same h.que fun g hg => hs g (by simp [mem_obs.2 hg])
  map := h.map.kept (hs mb (by simp))
  dist := h.dist
end
end Go.Proofs.YtopdhanbmnfeeaaDoor

/- The program's disk as an assertion. -/
namespace Go.Proofs.YtopdhanbmnfeeaaDoor
set_option linter.unusedSectionVars false
set_option linter.unusedSimpArgs false
open Go Go.RowKit
set_option linter.unusedVariables false
abbrev mapq (b : Nat) (q : List Wr) : Asn := mapq' Tryd.prog 3 3 b q
def diskL (D : DV) (p pg mb : Nat) (qv : Value) : List Asn := [blk p 79 (dC D pg mb qv), blk pg 80 (pagesC D.pages), lst 82 257 qv D.q.length (qC D.q), mapq mb D.q]
def disk (D : DV) (p pg mb : Nat) (qv : Value) : Asn := star (DOk D) (diskL D p pg mb qv)
section
variable {w0 w : World} {F : List Nat} {R : List Asn} {D : DV} {p pg mb : Nat} {qv : Value}
theorem disk_open (h : Mem w0 F w (disk D p pg mb qv :: R)) : DOk D ∧ Mem w0 F w (blk p 79 (dC D pg mb qv) :: blk pg 80 (pagesC D.pages) :: lst 82 257 qv D.q.length (qC D.q) :: mapq mb D.q :: R) := h.open
theorem disk_close (hD : DOk D) (h : Mem w0 F w (blk p 79 (dC D pg mb qv) :: blk pg 80 (pagesC D.pages) :: lst 82 257 qv D.q.length (qC D.q) :: mapq mb D.q :: R)) : Mem w0 F w (disk D p pg mb qv :: R) := Mem.close (X := diskL D p pg mb qv) hD h
end
theorem size_of_len {t n : Nat} (l : List Value) (hl : l.length = n) (h : (Tryd.prog.info? t).map (·.size) = some n) : Box ((Tryd.prog.info? t).map (·.size) = some l.length) := ⟨by rw [hl]; exact h⟩
theorem size_page (l : List UInt8) (h : l.length = 256) : Box ((Tryd.prog.info? 80).map (·.size) = some (bvs l).length) := size_of_len _ (by rw [length_bvs, h]) (by kernel_rfl)
theorem zero_page : ∀ w : World, (zeroValue 80).run Tryd.prog w = .ok (.agg (bvs zeroPage).toArray) w := fun w => by kernel_rfl
theorem bytesT : ElemTy Tryd.prog 31 5 1 1 := elemTy_of (by kernel_rfl)
theorem writesT : ElemTy Tryd.prog 76 82 257 264 := elemTy_of (by kernel_rfl)
theorem pagesT : ElemTy Tryd.prog 75 80 256 256 := elemTy_of (by kernel_rfl)
theorem zeroPage_len : zeroPage.length = 256 := List.length_replicate
theorem pages_row {D : DV} (hD : DOk D) {n : Nat} (hn : n < D.pages.length) : ((pagesC D.pages).drop (256 * n)).take (bvs (D.pg n)).length = bvs (D.pg n) := by
  have hg : D.pages[n]? = some (D.pg n) := by
    unfold DV.pg
    rw [List.getD_eq_getElem?_getD, List.getElem?_eq_getElem hn]; rfl
  have hl : (bvs (D.pg n)).length = 256 := by rw [length_bvs]; exact pages_get hD.len hn
  rw [hl]
  exact flat_get bvs 256 D.pages n (D.pg n) (fun y hy => by rw [length_bvs]; exact hD.len y hy) hg
theorem queue_row {q : List Wr} (hq : ∀ x ∈ q, x.2.length = 256) {i : Nat} {x : Wr} (hi : q[i]? = some x) : ((qC q).drop (257 * i + 1)).take (bvs x.2).length = bvs x.2 := by
  have h := flat_get wC 257 q i x (fun y hy => by simp [wC, hq y hy]) hi
  have hl : (bvs x.2).length = 256 := by rw [length_bvs]; exact hq x (List.mem_of_getElem? hi)
  rw [hl, ← List.drop_drop]
  have h2 := congrArg (List.drop 1) h
  rw [List.drop_take] at h2
  exact h2
end Go.Proofs.YtopdhanbmnfeeaaDoor
