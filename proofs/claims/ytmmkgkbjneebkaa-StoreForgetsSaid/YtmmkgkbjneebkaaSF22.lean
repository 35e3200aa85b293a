/- Texts joined: OpenM, SL2, ConvB, SL3. -/
import Derived.Test.YtmmkgkbjneebkaaRows
import Derived.Test.YtmmkgkbjneebkaaSF01
import Derived.Test.YtmmkgkbjneebkaaSF21
import Derived.SizedLaws
import Derived.Test.YtmmkgkbjneebkaaSF20
import Derived.Test.YtmmkgkbjneebkaaSF18
/- Reading pages to be staged that came in. -/
namespace Go.Proofs.Ytmmkgkbjneebkaa
set_option linter.unusedSectionVars false
set_option linter.unusedSimpArgs false
open Go Go.RowKit Go.ChangeShapes Go.WideShapes Go.ChangeAt Go.Deep
set_option linter.unusedVariables false
def Sized {H : Type} (P : Program) (t : TypeId) (d : DataW H) : Prop := ∀ n ∈ d.weights P t, n ≤ reachBytes
section
variable {H : Type} {enc : TypeId × Value → H} {P : Program} {w : World} {base : Nat} {sp : Nat → Bool} {held : Bool} {t e : TypeId}
theorem sized_arg {ts : List TypeId} {ds : List (DataW H)} (h : (DataW.weightsEach P ts ds).all (· ≤ reachBytes) = true) {j : Nat} {d : DataW H} (ht : ts[j]? = some t) (hd : ds[j]? = some d) : Sized P t d := fun n hn => by
  have := List.all_eq_true.1 h _ (DataW.weights_mem_each ht hd n hn)
  simpa using this
theorem sized_part {fs : Array Field} {parts : List (DataW H)} (hu : P.underlying t = some (.struct fs)) (h : Sized P t (.agg parts)) {i : Nat} {f : Field} {d : DataW H} (hf : fs[i]? = some f) (hd : parts[i]? = some d) : Sized P f.type d := fun n hn => by
  refine h n ?_
  have : (DataW.agg parts).weights P t = DataW.weightsEach P (fs.toList.map (·.type)) parts := by simp [DataW.weights, hu]
  rw [this]
  exact DataW.weights_mem_each (j := i) (by simp [hf]) hd n hn
theorem weights_mem_all : ∀ {ds : List (DataW H)} {j : Nat} {d : DataW H}, ds[j]? = some d → ∀ n ∈ d.weights P e, n ∈ DataW.weightsAll P e ds
  | d0 :: ds, 0, d, hd, n, hn => by
    simp only [List.getElem?_cons_zero, Option.some.injEq] at hd
    subst hd
    simp only [DataW.weightsAll, List.mem_append]
    exact Or.inl hn
  | d0 :: ds, j + 1, d, hd, n, hn => by
    simp only [List.getElem?_cons_succ] at hd
    simp only [DataW.weightsAll, List.mem_append]
    exact Or.inr (weights_mem_all hd n hn)
  | [], _, _, hd, _, _ => by simp at hd
theorem sized_elem {es ss : List (DataW H)} (hu : P.underlying t = some (.slice e)) (h : Sized P t (.slice es ss)) {i : Nat} {d : DataW H} (hd : es[i]? = some d) : Sized P e d := fun n hn => by
  refine h n ?_
  simp only [DataW.weights, hu, List.mem_cons, List.mem_append]
  exact .inr (.inl (weights_mem_all hd n hn))
theorem sized_len {es ss : List (DataW H)} (hu : P.underlying t = some (.slice e)) (h : Sized P t (.slice es ss)) : (es.length + ss.length) * P.bytesOf e ≤ reachBytes :=
  h _ (by simp [DataW.weights, hu])
theorem chain_step {cs x : List Value} (o k : Nat) (h : (cs.drop o).take k = x) : cs.drop o = x ++ cs.drop (o + k) := by
  rw [← h, ← List.drop_drop, List.take_append_drop]
theorem trod_row {fuel : Nat} {cs : List Value} {x : DataW H × List MemPlace} (hsp : ∀ b, sp b = true) (ht : P.underlying t = some (.slice e)) (he : P.underlying e = some (.int .u8)) (hc : P.cellsOf e = 1) (hby : P.bytesOf e = 1)
    (h : DataW.trod enc P w base sp held fuel t cs = some x) :
    ∃ (ao : Option Addr) (n c : Nat) (l : List UInt8), cs = [.slice ao n c] ∧ InRow w ao n c l ∧ c ≤ maxLen ∧ (Sized P t x.1 → c ≤ 140737488351232) := by
  rcases open_ints ht he hc h with ⟨hcs, hx⟩ | ⟨a, len, cap, zs, hcs, _, hl, hm, hz, hx, hcell, hw⟩
  · exact ⟨none, 0, 0, [], hcs, ⟨Row.nil, fun _ => ⟨rfl, rfl⟩, Nat.le_refl _⟩, Nat.zero_le _, fun _ => by omega⟩
  · rw [hsp, if_pos rfl] at hz
    obtain ⟨l, hr⟩ := row_of_ints (len := len) (by omega) hcell hw
    refine ⟨some a, len, cap, l, hcs, ⟨hr, (fun h => by cases h), hl⟩, hm, fun hs => ?_⟩
    rw [hx] at hs
    have := sized_len ht hs
    rw [hby] at this
    simp only [lits, List.length_map, List.length_take, List.length_drop, reachBytes] at this
    omega
end
section
variable {H : Type} {enc : TypeId × Value → H} {P : Program} {w : World} {base : Nat} {sp : Nat → Bool} {held : Bool} {t e : TypeId}
def ListIn {α : Type} (cC : α → List Value) (k : Nat) (w : World) (ao : Option Addr) (n : Nat) (os : List α) : Prop :=
  os.length = n ∧ ∀ (i : Nat) (o : α), os[i]? = some o → ∃ b off, ao = some ⟨b, off, none⟩ ∧ w.rangeAt b (off + i * k) (cC o)
theorem open_list {α : Type} [Inhabited α] (cC : α → List Value) (k : Nat) (hk : ∀ o, (cC o).length = k) (hk0 : 0 < k) (ok : α → Prop) (ht : P.underlying t = some (.slice e)) (hct : P.cellsOf e = k) (hbt : 1 ≤ P.bytesOf e)
    (one : ∀ fuel cs x, DataW.trod enc P w base sp held fuel e cs = some x → Sized P e x.1 → ∃ o, cs = cC o ∧ ok o)
    {r : Reach} {b0 : Nat} {v : Value} {d : DataW H} {p : List MemPlace} (hv : Value.okWide P w r b0 t v) (h : DataW.Trod enc P w base sp held t v d p) (hs : Sized P t d) :
    ∃ (ao : Option Addr) (n c : Nat) (os : List α), v = .slice ao n c ∧ (ListIn cC k w ao n os ∧ n ≤ c) ∧ n ≤ 4611686018427387904 ∧ ∀ o ∈ os, ok o := by
  obtain ⟨a0, n, c, rfl⟩ := okWide_slice ht hv
  obtain ⟨fuel, hf⟩ := h
  rcases open_slice ht hf with ⟨hcs, hx⟩ | ⟨a, len, cap, m, f, D, Pl, hcs, _, hl, hm, hmm, hx, hel⟩
  · simp [Value.cells] at hcs
    obtain ⟨rfl, rfl, rfl⟩ := hcs
    exact ⟨none, 0, 0, [], rfl, ⟨⟨rfl, fun i o h => by simp at h⟩, Nat.le_refl _⟩, by omega, fun o ho => by cases ho⟩
  · simp [Value.cells] at hcs
    obtain ⟨rfl, rfl, rfl⟩ := hcs
    have hd : d = .slice ((List.range n).map D) ((List.range (m - n)).map fun j => D (n + j)) := (Prod.mk.inj hx).1
    rw [hd] at hs
    have hlen := sized_len ht hs
    have hn : n ≤ 4611686018427387904 := by
      simp only [List.length_map, List.length_range, reachBytes] at hlen
      have h1 : n * 1 ≤ (n + (m - n)) * P.bytesOf e := Nat.mul_le_mul (by omega) hbt
      omega
    have hnm : n ≤ m := by rw [hmm]; split <;> omega
    rw [hct] at hel
    have each : ∀ i, i < n → ∃ o : α, (∃ b off, a = ⟨b, off, none⟩ ∧ w.rangeAt b (off + i * k) (cC o)) ∧ ok o := by
      have one' : ∀ i, i < n → ∃ cs' : List Value, ∃ o : α, w.cells? base (a.add (i * k)) k = some cs' ∧ cs' = cC o ∧ ok o := fun i hi => by
        obtain ⟨cs', h1, h2⟩ := hel i (by omega)
        obtain ⟨o, h3, h4⟩ := one _ _ _ h2 (sized_elem (i := i) ht hs (by simp [hi]))
        exact ⟨cs', o, h1, h3, h4⟩
      intro i hi
      obtain ⟨cs', o, h1, rfl, h4⟩ := one' i hi
      obtain ⟨h3, hl', h5⟩ := World.cells?_some h1
      have hlo := hk o
      obtain ⟨b, off, s⟩ := a
      have hcell : ∀ j v, (cC o)[j]? = some v → w.cell? (((⟨b, off, s⟩ : Addr).add (i * k)).add j) = some v := by
        intro j v hv
        have := h5 j (by have := (List.getElem?_eq_some_iff.1 hv).1; omega)
        rw [this]; exact hv
      have hs0 : s = none := by
        obtain ⟨c0, o0, g1, rfl, _⟩ := one' 0 (by omega)
        have hl0 := hk o0
        obtain ⟨_, _, g5⟩ := World.cells?_some g1
        have := g5 0 (by omega)
        rw [List.getElem?_eq_getElem (by omega)] at this
        simpa [Addr.add] using World.cell?_spot this
      subst hs0
      refine ⟨o, ⟨b, off, rfl, fun j v hv => ?_⟩, h4⟩
      have := hcell j v hv
      rw [Addr.add_mid, Addr.add_mid] at this
      exact this
    obtain ⟨V, hV⟩ := choose_lt (α := α) (p := fun i o => (∃ b off, a = ⟨b, off, none⟩ ∧ w.rangeAt b (off + i * k) (cC o)) ∧ ok o) each
    refine ⟨some a, n, c, (List.range n).map V, rfl, ⟨⟨by simp, fun i o hi => ?_⟩, hl⟩, hn, fun o ho => ?_⟩
    · obtain ⟨hi', rfl⟩ : i < n ∧ V i = o := by
        rw [List.getElem?_map] at hi
        rcases Nat.lt_or_ge i n with h | h
        · rw [List.getElem?_range h] at hi
          exact ⟨h, by simpa using hi⟩
        · rw [List.getElem?_eq_none (by simpa using h)] at hi; simp at hi
      obtain ⟨⟨b, o, rfl, hr⟩, _⟩ := hV i hi'
      exact ⟨b, o, rfl, hr⟩
    · obtain ⟨i, hi, rfl⟩ := List.mem_map.1 ho
      exact (hV i (by simpa using hi)).2
end
def MadeIn (w : World) (a : MV) : Prop := Row w a.ao a.n a.l ∧ (a.ao = none → a.n = 0 ∧ a.c = 0) ∧ a.n ≤ a.c ∧ a.c ≤ 140737488351232
section
variable {H : Type} {enc : TypeId × Value → H} {w : World} {base : Nat} {sp : Nat → Bool} {held : Bool}
theorem field_of {fs : Array Field} {i t o : Nat} (h : (fs[i]?).map (fun f => (f.type, f.offset)) = some (t, o)) : ∃ f, fs[i]? = some f ∧ f.type = t ∧ f.offset = o := by
  cases hf : fs[i]? with
  | none => rw [hf] at h; cases h
  | some f => rw [hf] at h; simp only [Option.map_some, Option.some.injEq, Prod.mk.injEq] at h; exact ⟨f, rfl, h.1, h.2⟩
theorem trod_made {fuel : Nat} {cs : List Value} {x : DataW H × List MemPlace} (hsp : ∀ b, sp b = true) (h : DataW.trod enc Try.prog w base sp held fuel 126 cs = some x) (hs : Sized Try.prog 126 x.1) :
    ∃ (o : MV), cs = madeC o ∧ MadeIn w o := by
  have hu : Try.prog.underlying 126 = some (.struct (Try.prog.fieldsOf 126)) := by kernel_rfl
  obtain ⟨xs, n, _, hx, hlen, hxl, hf⟩ := DataW.trod_struct hu h
  have hfs : (Try.prog.fieldsOf 126).size = 2 := by kernel_rfl
  have hct : Try.prog.cellsOf 126 = 2 := by kernel_rfl
  rw [hfs] at hxl
  rw [hct] at hlen
  have ci : Try.prog.cellsOf 3 = 1 := by kernel_rfl
  have cb : Try.prog.cellsOf 44 = 1 := by kernel_rfl
  have c8 : Try.prog.cellsOf 5 = 1 := by kernel_rfl
  have by8 : Try.prog.bytesOf 5 = 1 := by kernel_rfl
  have get : ∀ (i t o : Nat), i < 2 → ((Try.prog.fieldsOf 126)[i]?).map (fun f => (f.type, f.offset)) = some (t, o) → ∃ y, DataW.trod enc Try.prog w base sp held n t ((cs.drop o).take (Try.prog.cellsOf t)) = some y ∧ Sized Try.prog t y.1 := fun i t o hi h => by
    obtain ⟨f, h1, rfl, rfl⟩ := field_of h
    have hy : xs[i]? = some (xs[i]'(by omega)) := List.getElem?_eq_getElem (by omega)
    refine ⟨_, (hf i f h1).trans hy, ?_⟩
    rw [hx] at hs
    exact sized_part hu hs h1 (by simp [hy])
  obtain ⟨y0, t0, _⟩ := get 0 3 0 (by omega) (by kernel_rfl)
  obtain ⟨y2, t2, s2⟩ := get 1 44 1 (by omega) (by kernel_rfl)
  rw [ci] at t0
  rw [cb] at t2
  obtain ⟨a0, e0, _, w0⟩ := DataW.trod_int Try.underlying3 t0
  obtain ⟨ao, m, c, l, e7, hr, hm, hsv⟩ := trod_row hsp Try.underlying44 Try.underlying5 c8 by8 t2
  refine ⟨⟨a0, ao, m, c, l⟩, ?_, ⟨hr.1, hr.2.1, hr.2.2, hsv s2⟩⟩
  have q0 := chain_step 0 1 e0
  rw [List.drop_zero] at q0
  rw [q0, chain_step (0 + 1) 1 e7, List.drop_of_length_le (by omega)]
  simp [madeC]
set_option maxRecDepth 100000 in
theorem open_mades {r : Reach} {b0 : Nat} {v : Value} {d : DataW H} {p : List MemPlace} (hsp : ∀ b, sp b = true) (hv : Value.okWide Try.prog w r b0 22 v) (h : DataW.Trod enc Try.prog w base sp held 22 v d p)
    (hs : Sized Try.prog 22 d) :
    ∃ (ao : Option Addr) (n c : Nat) (os : List MV), v = .slice ao n c ∧ (ListIn madeC 2 w ao n os ∧ n ≤ c) ∧ n ≤ 4611686018427387904 ∧ ∀ o ∈ os, MadeIn w o := by
  have hct : Try.prog.cellsOf 126 = 2 := by kernel_rfl
  have hbt : 1 ≤ Try.prog.bytesOf 126 := of_decide_eq_true (by kernel_rfl)
  exact open_list (H := H) (enc := enc) (P := Try.prog) (w := w) (base := base) (sp := sp) (held := held) (r := r) (b0 := b0) (v := v) (d := d) (p := p) (t := 22) (e := 126) madeC 2 (fun _ => rfl) (by decide) (MadeIn w) Try.underlying22 hct hbt (fun _ _ _ h1 h2 => trod_made hsp h1 h2) hv h hs
end
theorem Mem.range {w0 w : World} {F : List Nat} {L : List Asn} (h : Mem w0 F w L) {b o : Nat} {ys : List Value} (hr : w0.rangeAt b o ys) (hF : b ∉ F) : w.rangeAt b o ys := fun j v hj => by
  have h1 := hr j v hj
  exact (World.cell?_of_block (w := w0) (w' := w) (a := ⟨b, o + j, none⟩) (h.old (block_lt_of_cell h1) hF)).trans h1
theorem Mem.off_row {w0 w : World} {L : List Asn} (h : Mem w0 [] w L) {ao : Option Addr} {n : Nat} {l : List UInt8} (hr : Row w0 ao n l) : ∀ b o, ao = some ⟨b, o, none⟩ → 0 < n → b ∉ foots L := by
  intro b o e hn
  obtain ⟨b', o', e', hc⟩ := hr.2 0 (by rw [hr.1]; exact hn)
  rw [e'] at e
  cases e
  exact h.old_off (block_lt_of_cell hc) (by simp)
theorem Mem.below {w w' : World} {L : List Asn} (h : Mem w [] w' L) : Below w.heap.size w w' := ⟨h.grew.os, h.grew.tape, h.grew.output, h.grew.size, fun k hk => h.grew.block k hk (by simp)⟩
theorem mades_of {w0 w : World} {L : List Asn} (h : Mem w0 [] w L) {aa : Option Addr} {n : Nat} {ms : List MV} (hl : ListIn madeC 2 w0 aa n ms) (hok : ∀ m ∈ ms, MadeIn w0 m) : MadesIn w (foots L) aa ms :=
  ⟨fun i m hm => by
    obtain ⟨b, off, e, hr⟩ := hl.2 i m hm
    exact ⟨b, off, e, h.range hr (by simp), h.old_off (block_lt_of_cell (hr 0 _ rfl)) (by simp)⟩,
   fun m hm => ⟨h.row (hok m hm).1 (by simp), by have h1 := (hok m hm).2.2; omega, h.off_row (hok m hm).1⟩⟩
end Go.Proofs.Ytmmkgkbjneebkaa

/- The statements' own stages and loads. -/
namespace Go.Proofs.Ytmmkgkbjneebkaa
set_option linter.unusedSectionVars false
open Go Go.RowKit
set_option linter.unusedVariables false
set_option linter.unusedSimpArgs false
theorem take_snoc_map {α β : Type} {l : List α} {i : Nat} {m : α} (f : α → β) (h : l[i]? = some m) : (l.take (i + 1)).map f = (l.take i).map f ++ [f m] := by
  obtain ⟨hi, rfl⟩ := List.getElem?_eq_some_iff.1 h
  rw [List.take_succ_eq_append_getElem hi, List.map_append]
  rfl
set_option maxRecDepth 100000 in
set_option maxHeartbeats 4000000 in
theorem stages_any {D : DV} {V : FV} {C : CS} {X : SX} {s f p pg mb : Nat} {qv : Value} {w : World} (hM : Mem w (foots [disk D p pg mb qv, blk f 117 (fC V p), sto C V.s.mark s f X]) w [disk D p pg mb qv, blk f 117 (fC V p), sto C V.s.mark s f X]) {pz : Pgs} (hSI : SInv D V C pz) (ms : List MV) (aa : Option Addr) (ac : Nat) (hms : MadesIn w (foots [disk D p pg mb qv, blk f 117 (fC V p), sto C V.s.mark s f X]) aa ms) (hfit : V.s.mark + (C.kp.length : Int) + (ms.length : Int) ≤ (D.pages.length : Int)) (hXn : X.x.n + ms.length < 100000000000000) : Calls Try.prog 14 #[.pointer (some ⟨s, 0, none⟩), .slice aa ms.length ac, .int .i64 (V.s.mark + (C.kp.length : Int))] w fun e' w' => ∃ C' X', e' = .returned (.bool true) ∧ SInv D V C' pz ∧ C'.kp.map enP = C.kp.map enP ++ ms.map mkP ∧ X'.x.n ≤ X.x.n + ms.length ∧ Mem w (foots [disk D p pg mb qv, blk f 117 (fC V p), sto C V.s.mark s f X]) w' [disk D p pg mb qv, blk f 117 (fC V p), sto C' V.s.mark s f X'] := by
  have M := hM
  clear hM
  have hpl : D.pages.length ≤ 4096 := hSI.inv.ok.hi
  have hmk := (sto_ok (M.get 2 rfl)).mk2
  go_enter Try.func14, Try.ntmps14
  refine wp_seq_k (fun K1 hK1 => ?_)
  refine wp_region_lit ?_
  refine pl M (y_assign (v := .bool false) rfl rfl rfl) ?_
  simp only [Act.put, zq1, zq2, zq3]
  refine wpList_nil ?_
  refine hK1 _ _ ?_
  clear hK1
  refine wp_seq_k (fun K2 hK2 => ?_)
  refine wp_seq_k (fun K3 hK3 => ?_)
  refine wp_region_lit ?_
  refine pl M (y_assign (v := .int .i64 0) rfl rfl rfl) ?_
  simp only [Act.put, zq1, zq2, zq3]
  refine wpList_nil ?_
  refine hK3 _ _ ?_
  clear hK3
  refine wp_block ?_
  refine zlp (fun n' a' w' => ∃ (i : Nat) (Ck : CS) (Xk : SX) (us4 : List Value), n' = (ms.length - i) ∧ a' = (⟨#[.pointer (some ⟨s, 0, none⟩), .slice aa ms.length ac, .int .i64 (V.s.mark + (C.kp.length : Int)), undef, undef, undef, (us4.getD 0 undef), .int .i64 (i : Int), (us4.getD 1 undef), (us4.getD 2 undef), (us4.getD 3 undef), (us4.getD 4 undef), (us4.getD 5 undef), (us4.getD 6 undef), (us4.getD 7 undef), (us4.getD 8 undef), (us4.getD 9 undef), (us4.getD 10 undef), (us4.getD 11 undef), (us4.getD 12 undef), (us4.getD 13 undef), (us4.getD 14 undef), (us4.getD 15 undef), (us4.getD 16 undef), (us4.getD 17 undef), (us4.getD 18 undef), (us4.getD 19 undef), (us4.getD 20 undef), (us4.getD 21 undef), (us4.getD 22 undef), (us4.getD 23 undef), (us4.getD 24 undef), (us4.getD 25 undef), (us4.getD 26 undef), (us4.getD 27 undef), (us4.getD 28 undef), (us4.getD 29 undef), (us4.getD 30 undef), (us4.getD 31 undef), (us4.getD 32 undef), (us4.getD 33 undef), (us4.getD 34 undef)], []⟩ : Act) ∧ (SInv D V Ck pz) ∧ (Ck.kp.map enP = C.kp.map enP ++ (ms.take i).map mkP) ∧ (Xk.x.n ≤ X.x.n + i) ∧ (i ≤ ms.length) ∧ Mem w (foots [disk D p pg mb qv, blk f 117 (fC V p), sto C V.s.mark s f X]) w' [disk D p pg mb qv, blk f 117 (fC V p), sto Ck V.s.mark s f Xk]) (ms.length - 0) ⟨0, C, X, [.bool false, undef, undef, undef, undef, undef, undef, undef, undef, undef, undef, undef, undef, undef, undef, undef, undef, undef, undef, undef, undef, undef, undef, undef, undef, undef, undef, undef, undef, undef, undef, undef, undef, undef, undef], rfl, rfl, hSI, by simp, Nat.le_refl _, Nat.zero_le _, (M.arr [0, 1, 2] (by decide))⟩ ?_
  clear M
  rintro n' a' w5 ⟨i, Ck, Xk, us4, rfl, rfl, hSt, hkp, hxn, hi, M5⟩
  refine wp_seq_k (fun K6 hK6 => ?_)
  refine wp_seq_k (fun K7 hK7 => ?_)
  refine wp_region_lit ?_
  refine pl M5 (y_move (v := .int .i64 (i : Int)) rfl rfl rfl) ?_
  simp only [Act.put, zq1, zq2, zq3]
  refine pl M5 (y_move (v := .slice aa ms.length ac) rfl rfl rfl) ?_
  simp only [Act.put, zq1, zq2, zq3]
  refine pl M5 (y_len rfl rfl rfl Try.underlying22) ?_
  simp only [Act.put, zq1, zq2, zq3]
  rcases Decidable.em ((i : Int) < (ms.length : Int)) with h8 | h8
  · obtain ⟨m, hm⟩ : ∃ m, ms[i]? = some m := ⟨_, List.getElem?_eq_getElem (by omega)⟩
    obtain ⟨ga, oa, hao, hra, hgF⟩ := hms.el i m hm
    obtain ⟨hrow, hmn, hmo⟩ := hms.row m (List.mem_of_getElem? hm)
    refine pl M5 (y_lss (b := true) rfl rfl rfl rfl (decide_eq_true h8)) ?_
    simp only [Act.put, zq1, zq2, zq3]
    refine wpList_nil ?_
    refine hK7 _ _ ?_
    clear hK7
    refine wp_cond_true rfl ?_
    refine wp_skip ?_
    refine hK6 _ _ ?_
    clear hK6
    refine wp_seq_k (fun K9 hK9 => ?_)
    refine wp_block ?_
    refine wp_seq_k (fun K10 hK10 => ?_)
    have M11 := M5.drew
    refine held_begin (fun W => Mem w (foots [disk D p pg mb qv, blk f 117 (fC V p), sto C V.s.mark s f X]) W []) (by kernel_rfl) (M11.arr [] (by decide)) (fun hS => ?_)
    refine held_take 0 _ rfl (by kernel_rfl) (by kernel_rfl) (by kernel_rfl) (y_move (v := .pointer (some ⟨s, 0, none⟩)) rfl rfl rfl) hS ?_
    simp only [Act.put, zq1, zq2, zq3]
    refine held_take 1 _ rfl (by kernel_rfl) (by kernel_rfl) (by kernel_rfl) (y_move (v := .slice aa ms.length ac) rfl rfl rfl) hS ?_
    simp only [Act.put, zq1, zq2, zq3]
    refine held_take 2 _ rfl (by kernel_rfl) (by kernel_rfl) (by kernel_rfl) (y_move (v := .int .i64 (i : Int)) rfl rfl rfl) hS ?_
    simp only [Act.put, zq1, zq2, zq3]
    refine held_take 3 _ rfl (by kernel_rfl) (by kernel_rfl) (by kernel_rfl) (y_ias (r := oa + i * 2) rfl rfl (congrArg (fun z => Value.slice z ms.length ac) hao) rfl Try.underlying22 Try.sizeOf126 (by omega) (by omega)) hS ?_
    simp only [Act.put, zq1, zq2, zq3]
    refine held_take 4 _ rfl (by kernel_rfl) (by kernel_rfl) (by kernel_rfl) (y_fa (r := oa + i * 2) rfl rfl rfl Try.underlying126 rfl Try.sizeOf3 rfl) hS ?_
    simp only [Act.put, zq1, zq2, zq3]
    refine held_take 5 _ rfl (by kernel_rfl) (by kernel_rfl) (by kernel_rfl) (y_loadc (v := .int .i64 m.k) rfl rfl rfl Try.isAgg3 (fun W hW => (hW.range hra hgF) 0 _ rfl)) hS ?_
    simp only [Act.put, zq1, zq2, zq3]
    refine held_take 7 _ rfl (by kernel_rfl) (by kernel_rfl) (by kernel_rfl) (y_move (v := .slice aa ms.length ac) rfl rfl rfl) hS ?_
    simp only [Act.put, zq1, zq2, zq3]
    refine held_take 8 _ rfl (by kernel_rfl) (by kernel_rfl) (by kernel_rfl) (y_move (v := .int .i64 (i : Int)) rfl rfl rfl) hS ?_
    simp only [Act.put, zq1, zq2, zq3]
    refine held_take 9 _ rfl (by kernel_rfl) (by kernel_rfl) (by kernel_rfl) (y_ias (r := oa + i * 2) rfl rfl (congrArg (fun z => Value.slice z ms.length ac) hao) rfl Try.underlying22 Try.sizeOf126 (by omega) (by omega)) hS ?_
    simp only [Act.put, zq1, zq2, zq3]
    refine held_take 10 _ rfl (by kernel_rfl) (by kernel_rfl) (by kernel_rfl) (y_fa (r := oa + i * 2 + 1) rfl rfl rfl Try.underlying126 rfl Try.sizeOf44 rfl) hS ?_
    simp only [Act.put, zq1, zq2, zq3]
    refine held_take 11 _ rfl (by kernel_rfl) (by kernel_rfl) (by kernel_rfl) (y_loadc (v := .slice m.ao m.n m.c) rfl rfl rfl Try.isAgg44 (fun W hW => (hW.range hra hgF) 1 _ rfl)) hS ?_
    simp only [Act.put, zq1, zq2, zq3]
    refine held_step 6 (by kernel_rfl) rfl (by rfl) (fun K hK => ?_)
    refine e_call 10 [.int .i64 m.k, .int .i64 1, .int .i64 3] rfl rfl Try.call10 ((mkP_kind m ▸ nwhole_any m.k 1 3 (by decide) (by decide) (by decide))) ?_
    rintro e w12 ⟨rfl, H12⟩
    have M12 : Mem w _ w12 [disk D p pg mb qv, blk f 117 (fC V p), sto Ck V.s.mark s f Xk] := M11.step H12
    refine ⟨_, rfl, ?_⟩
    refine hK.out _ _ (M12.arr [] (by decide)) (fun hS => ?_)
    clear hK K
    simp only [Act.put, zq1, zq2, zq3]
    refine held_step 12 (by kernel_rfl) rfl (by rfl) (fun K hK => ?_)
    refine e_call 25 [.slice m.ao m.n m.c, .int .i64 246] rfl rfl Try.call25 (short_any m.ao m.n m.c 246 m.l (M12.row hrow hmo) (by decide) hmn) ?_
    rintro e w13 ⟨a7, c7, rfl, H13⟩
    have M13 : Mem w _ w13 [bytesL (.slice a7 (m.l.take 246).length c7) (m.l.take 246), disk D p pg mb qv, blk f 117 (fC V p), sto Ck V.s.mark s f Xk] := M12.step H13
    refine ⟨_, rfl, ?_⟩
    refine hK.out _ _ (M13.arr [] (by decide)) (fun hS => ?_)
    clear hK K
    simp only [Act.put, zq1, zq2, zq3]
    have hbl := M13.get 0 rfl
    have hb9 := bytesL_nil hbl
    have hof : ∀ b₁ o, a7 = some ⟨b₁, o, none⟩ → 0 < (m.l.take 246).length → b₁ ∉ foots [disk D p pg mb qv, blk f 117 (fC V p), sto Ck V.s.mark s f Xk] := fun b₁ o e _ => Mem.off3 (M13.arr [0, 1, 2, 3] (by decide)) (by subst e; simp [bytesL, lst, obs, Value.ownBlock])
    have hkl : Ck.kp.length = C.kp.length + i := by have := congrArg List.length hkp; simp only [List.length_append, List.length_map, List.length_take] at this; omega
    have hwk := mkP_kind m
    have hX14 : Mem w _ w13 ([disk D p pg mb qv, blk f 117 (fC V p), sto Ck V.s.mark s f Xk] ++ [bytesL (.slice a7 (m.l.take 246).length c7) (m.l.take 246)]) := M13.arr [1, 2, 3, 0] (by decide)
    have hCH14 := sstage_ok (Mem.here hX14) hSt (mkP m).1 a7 (m.l.take 246).length c7 (m.l.take 246) (mkP_ok m) (bytesL_row hbl) hb9.2.2.2 hof (by omega) (by omega)
    refine held_step 13 (by kernel_rfl) rfl (by rfl) (fun K hK => ?_)
    refine e_call 44 [.pointer (some ⟨s, 0, none⟩), .int .i64 ((mkP m).1 : Int), .slice a7 ((m.l.take 246).length) c7] rfl rfl Try.call44 (hCH14) ?_
    rintro e w14 ⟨C2, X2, rfl, hS2, hk2, hx2, H14⟩
    have M14 : Mem w _ w14 [disk D p pg mb qv, blk f 117 (fC V p), sto C2 V.s.mark s f X2, bytesL (.slice a7 (m.l.take 246).length c7) (m.l.take 246)] := Mem.frame hX14 H14
    refine ⟨_, rfl, ?_⟩
    refine hK.out _ _ (M14.arr [] (by decide)) (fun hS => ?_)
    clear hK K
    simp only [Act.put, zq1, zq2, zq3]
    refine held_take 14 _ rfl (by kernel_rfl) (by kernel_rfl) (by kernel_rfl) (y_move (v := .tuple #[.int .i64 (V.s.mark + (Ck.kp.length : Int)), .int .i64 0]) rfl rfl rfl) hS ?_
    simp only [Act.put, zq1, zq2, zq3]
    refine held_take 15 _ rfl (by kernel_rfl) (by kernel_rfl) (by kernel_rfl) (y_ext (v := .int .i64 (V.s.mark + (Ck.kp.length : Int))) rfl rfl rfl rfl) hS ?_
    simp only [Act.put, zq1, zq2, zq3]
    refine held_take 16 _ rfl (by kernel_rfl) (by kernel_rfl) (by kernel_rfl) (y_ext (v := .int .i64 0) rfl rfl rfl rfl) hS ?_
    simp only [Act.put, zq1, zq2, zq3]
    refine held_take 17 _ rfl (by kernel_rfl) (by kernel_rfl) (by kernel_rfl) (y_assign (v := .int .i64 (V.s.mark + (Ck.kp.length : Int))) rfl rfl rfl) hS ?_
    simp only [Act.put, zq1, zq2, zq3]
    refine held_take 18 _ rfl (by kernel_rfl) (by kernel_rfl) (by kernel_rfl) (y_assign (v := .int .i64 0) rfl rfl rfl) hS ?_
    simp only [Act.put, zq1, zq2, zq3]
    refine held_done (by kernel_rfl) ?_ _
    refine hK10 _ _ ?_
    clear hK10
    refine wp_seq_k (fun K15 hK15 => ?_)
    refine wp_region_lit ?_
    refine pl M14 (y_move (v := .int .i64 0) rfl rfl rfl) ?_
    simp only [Act.put, zq1, zq2, zq3]
    refine pl M14 (y_neq (b := false) rfl rfl rfl rfl (by rw [decide_eq_true (by decide)]; rfl)) ?_
    simp only [Act.put, zq1, zq2, zq3]
    refine pl M14 (y_move (v := .bool false) rfl rfl rfl) ?_
    simp only [Act.put, zq1, zq2, zq3]
    refine pl M14 (y_move (v := .int .i64 (V.s.mark + (Ck.kp.length : Int))) rfl rfl rfl) ?_
    simp only [Act.put, zq1, zq2, zq3]
    refine pl M14 (y_move (v := .int .i64 (V.s.mark + (C.kp.length : Int))) rfl rfl rfl) ?_
    simp only [Act.put, zq1, zq2, zq3]
    refine pl M14 (y_move (v := .int .i64 (i : Int)) rfl rfl rfl) ?_
    simp only [Act.put, zq1, zq2, zq3]
    refine pl M14 (y_add (r := V.s.mark + (C.kp.length : Int) + (i : Int)) rfl rfl rfl rfl (rfl) (by omega)) ?_
    simp only [Act.put, zq1, zq2, zq3]
    refine pl M14 (y_neq (b := false) rfl rfl rfl rfl (by rw [decide_eq_true (by omega)]; rfl)) ?_
    simp only [Act.put, zq1, zq2, zq3]
    refine pl M14 (y_pickF (v := .bool false) rfl rfl rfl rfl) ?_
    simp only [Act.put, zq1, zq2, zq3]
    refine wpList_nil ?_
    refine hK15 _ _ ?_
    clear hK15
    refine wp_cond_false rfl ?_
    refine wp_skip ?_
    refine hK9 _ _ ?_
    clear hK9
    refine wp_region_lit ?_
    refine pl M14 (y_move (v := .int .i64 (i : Int)) rfl rfl rfl) ?_
    simp only [Act.put, zq1, zq2, zq3]
    refine pl M14 (y_add (r := (i : Int) + 1) rfl rfl rfl rfl (rfl) (by omega)) ?_
    simp only [Act.put, zq1, zq2, zq3]
    refine pl M14 (y_assign (v := .int .i64 ((i : Int) + 1)) rfl rfl rfl) ?_
    simp only [Act.put, zq1, zq2, zq3]
    refine wpList_nil ?_
    refine ⟨_, ?_, i + 1, C2, X2, [(us4.getD 0 undef), .int .i64 (V.s.mark + (Ck.kp.length : Int)), .int .i64 0, .int .i64 (i : Int), .slice aa ms.length ac, .int .i64 (ms.length : Int), .bool true, .int .i64 (i : Int), .int .i64 ((i : Int) + 1), .tuple #[.int .i64 (V.s.mark + (Ck.kp.length : Int)), .int .i64 0], .pointer (some ⟨s, 0, none⟩), .slice aa ms.length ac, .int .i64 (i : Int), .pointer (some ⟨ga, oa + i * 2, none⟩), .pointer (some ⟨ga, oa + i * 2, none⟩), .int .i64 m.k, .int .i64 ((mkP m).1 : Int), .slice aa ms.length ac, .int .i64 (i : Int), .pointer (some ⟨ga, oa + i * 2, none⟩), .pointer (some ⟨ga, oa + i * 2 + 1, none⟩), .slice m.ao m.n m.c, .slice a7 ((m.l.take 246).length) c7, .tuple #[.int .i64 (V.s.mark + (Ck.kp.length : Int)), .int .i64 0], .int .i64 (V.s.mark + (Ck.kp.length : Int)), .int .i64 0, .int .i64 0, .bool false, .bool false, .int .i64 (V.s.mark + (Ck.kp.length : Int)), .int .i64 (V.s.mark + (C.kp.length : Int)), .int .i64 (i : Int), .int .i64 (V.s.mark + (C.kp.length : Int) + (i : Int)), .bool false, .bool false], rfl, rfl, hS2, (by rw [hk2, hkp, take_snoc_map mkP hm, List.append_assoc]; rfl), by omega, by omega, (M14.arr [0, 1, 2] (by decide))⟩
    omega
  · refine pl M5 (y_lss (b := false) rfl rfl rfl rfl (decide_eq_false h8)) ?_
    simp only [Act.put, zq1, zq2, zq3]
    refine wpList_nil ?_
    refine hK7 _ _ ?_
    clear hK7
    refine wp_cond_false rfl ?_
    refine wp_exit ?_
    refine hK2 _ _ ?_
    clear hK2
    refine wp_seq_k (fun K16 hK16 => ?_)
    refine wp_region_lit ?_
    refine pl M5 (y_assign (v := .bool true) rfl rfl rfl) ?_
    simp only [Act.put, zq1, zq2, zq3]
    refine wpList_nil ?_
    refine hK16 _ _ ?_
    clear hK16
    refine wp_ret ?_
    try simp only [Exit.inBlock, Exit.then]
    refine bodyPost_ret (v := .bool true) (res1 rfl rfl) rfl ?_
    have hie : i = ms.length := by omega
    subst hie
    exact ⟨Ck, Xk, rfl, hSt, by rw [hkp, List.take_length], hxn, (M5.arr [0, 1, 2] (by decide))⟩
theorem same8_any (a0 a1 : Option Addr) (n0 c0 n1 c1 : Nat) (l0 l1 : List UInt8) {w : World} (h0 : Row w a0 n0 l0) (h1 : Row w a1 n1 l1) (m0 : n0 ≤ maxLen) (m1 : n1 ≤ maxLen) (he : l0 = l1 := by rfl) :
    Calls Try.prog 40 #[.slice a0 n0 c0, .slice a1 n1 c1] w fun e w' => e = .returned (.bool true) ∧ Mem w [] w' [] := by
  refine (sameBytes_any a0 a1 n0 c0 n1 c1 l0 l1 w h0 h1 m0 m1).mono ?_
  rintro e w' ⟨rfl, q, rfl⟩
  subst he
  exact ⟨by rw [eqB_true rfl], (Mem.nil w).low (below_drewN2 (Below.refl _ _) q)⟩
set_option maxRecDepth 100000 in
set_option maxHeartbeats 4000000 in
theorem loads_any {D : DV} {V : FV} {C : CS} {X : SX} {s f p pg mb : Nat} {qv : Value} {w : World} (hM : Mem w (foots [disk D p pg mb qv, blk f 117 (fC V p), sto C V.s.mark s f X]) w [disk D p pg mb qv, blk f 117 (fC V p), sto C V.s.mark s f X]) {pz : Pgs} (hSI : SInv D V C pz) (ms : List MV) (aa : Option Addr) (ac : Nat) (hms : MadesIn w (foots [disk D p pg mb qv, blk f 117 (fC V p), sto C V.s.mark s f X]) aa ms) (from0 : Nat) (hfr : from0 ≤ 1000000 ∧ ms.length ≤ 1000000) (hpg : ∀ i m, ms[i]? = some m → PgIs V C pz (from0 + i) (mkP m)) (hXn : X.x.n + ms.length < 100000000000000) : Calls Try.prog 15 #[.pointer (some ⟨s, 0, none⟩), .slice aa ms.length ac, .int .i64 (from0 : Int)] w fun e' w' => ∃ r C' X', e' = .returned (.bool true) ∧ SInv { D with reads := r } V C' pz ∧ C'.kp = C.kp ∧ X'.x.n ≤ X.x.n + ms.length ∧ Mem w (foots [disk D p pg mb qv, blk f 117 (fC V p), sto C V.s.mark s f X]) w' [disk { D with reads := r } p pg mb qv, blk f 117 (fC V p), sto C' V.s.mark s f X'] := by
  have M := hM
  clear hM
  go_enter Try.func15, Try.ntmps15
  refine wp_seq_k (fun K1 hK1 => ?_)
  refine wp_region_lit ?_
  refine pl M (y_assign (v := .bool false) rfl rfl rfl) ?_
  simp only [Act.put, zq1, zq2, zq3]
  refine wpList_nil ?_
  refine hK1 _ _ ?_
  clear hK1
  refine wp_seq_k (fun K2 hK2 => ?_)
  refine wp_seq_k (fun K3 hK3 => ?_)
  refine wp_region_lit ?_
  refine pl M (y_assign (v := .int .i64 0) rfl rfl rfl) ?_
  simp only [Act.put, zq1, zq2, zq3]
  refine wpList_nil ?_
  refine hK3 _ _ ?_
  clear hK3
  refine wp_block ?_
  refine zlp (fun n' a' w' => ∃ (i : Nat) (Ck : CS) (Xk : SX) (rk : Int) (us4 : List Value), n' = (ms.length - i) ∧ a' = (⟨#[.pointer (some ⟨s, 0, none⟩), .slice aa ms.length ac, .int .i64 (from0 : Int), undef, undef, undef, (us4.getD 0 undef), .int .i64 (i : Int), (us4.getD 1 undef), (us4.getD 2 undef), (us4.getD 3 undef), (us4.getD 4 undef), (us4.getD 5 undef), (us4.getD 6 undef), (us4.getD 7 undef), (us4.getD 8 undef), (us4.getD 9 undef), (us4.getD 10 undef), (us4.getD 11 undef), (us4.getD 12 undef), (us4.getD 13 undef), (us4.getD 14 undef), (us4.getD 15 undef), (us4.getD 16 undef), (us4.getD 17 undef), (us4.getD 18 undef), (us4.getD 19 undef), (us4.getD 20 undef), (us4.getD 21 undef), (us4.getD 22 undef), (us4.getD 23 undef), (us4.getD 24 undef), (us4.getD 25 undef), (us4.getD 26 undef), (us4.getD 27 undef), (us4.getD 28 undef), (us4.getD 29 undef), (us4.getD 30 undef), (us4.getD 31 undef), (us4.getD 32 undef), (us4.getD 33 undef), (us4.getD 34 undef), (us4.getD 35 undef), (us4.getD 36 undef), (us4.getD 37 undef), (us4.getD 38 undef), (us4.getD 39 undef), (us4.getD 40 undef), (us4.getD 41 undef)], []⟩ : Act) ∧ (SInv { D with reads := rk } V Ck pz) ∧ (Ck.kp = C.kp) ∧ (Xk.x.n ≤ X.x.n + i) ∧ (i ≤ ms.length) ∧ Mem w (foots [disk D p pg mb qv, blk f 117 (fC V p), sto C V.s.mark s f X]) w' [disk ({ D with reads := rk } : DV) p pg mb qv, blk f 117 (fC V p), sto Ck V.s.mark s f Xk]) (ms.length - 0) ⟨0, C, X, D.reads, [.bool false, undef, undef, undef, undef, undef, undef, undef, undef, undef, undef, undef, undef, undef, undef, undef, undef, undef, undef, undef, undef, undef, undef, undef, undef, undef, undef, undef, undef, undef, undef, undef, undef, undef, undef, undef, undef, undef, undef, undef, undef, undef], rfl, rfl, hSI, rfl, Nat.le_refl _, Nat.zero_le _, (M.arr [0, 1, 2] (by decide))⟩ ?_
  clear M
  rintro n' a' w5 ⟨i, Ck, Xk, rk, us4, rfl, rfl, hS, hkp, hxn, hi, M5⟩
  refine wp_seq_k (fun K6 hK6 => ?_)
  refine wp_seq_k (fun K7 hK7 => ?_)
  refine wp_region_lit ?_
  refine pl M5 (y_move (v := .int .i64 (i : Int)) rfl rfl rfl) ?_
  simp only [Act.put, zq1, zq2, zq3]
  refine pl M5 (y_move (v := .slice aa ms.length ac) rfl rfl rfl) ?_
  simp only [Act.put, zq1, zq2, zq3]
  refine pl M5 (y_len rfl rfl rfl Try.underlying22) ?_
  simp only [Act.put, zq1, zq2, zq3]
  rcases Decidable.em ((i : Int) < (ms.length : Int)) with h8 | h8
  · obtain ⟨m, hm⟩ : ∃ m, ms[i]? = some m := ⟨_, List.getElem?_eq_getElem (by omega)⟩
    obtain ⟨ga, oa, hao, hra, hgF⟩ := hms.el i m hm
    obtain ⟨hrow, hmn, hmo⟩ := hms.row m (List.mem_of_getElem? hm)
    refine pl M5 (y_lss (b := true) rfl rfl rfl rfl (decide_eq_true h8)) ?_
    simp only [Act.put, zq1, zq2, zq3]
    refine wpList_nil ?_
    refine hK7 _ _ ?_
    clear hK7
    refine wp_cond_true rfl ?_
    refine wp_skip ?_
    refine hK6 _ _ ?_
    clear hK6
    refine wp_seq_k (fun K9 hK9 => ?_)
    refine wp_block ?_
    refine wp_seq_k (fun K10 hK10 => ?_)
    refine wp_region_lit ?_
    refine pl M5 (y_move (v := .pointer (some ⟨s, 0, none⟩)) rfl rfl rfl) ?_
    simp only [Act.put, zq1, zq2, zq3]
    refine pl M5 (y_move (v := .int .i64 (from0 : Int)) rfl rfl rfl) ?_
    simp only [Act.put, zq1, zq2, zq3]
    refine pl M5 (y_move (v := .int .i64 (i : Int)) rfl rfl rfl) ?_
    simp only [Act.put, zq1, zq2, zq3]
    refine pl M5 (y_add (r := ((from0 + i : Nat) : Int)) rfl rfl rfl rfl (by omega) (by omega)) ?_
    simp only [Act.put, zq1, zq2, zq3]
    have hX11 : Mem w _ w5 ([disk ({ D with reads := rk } : DV) p pg mb qv, blk f 117 (fC V p), sto Ck V.s.mark s f Xk] ++ []) := M5.arr [0, 1, 2] (by decide)
    have hCH11 := sload_ok (Mem.here hX11) hS (n := from0 + i) (x := mkP m) ((hpg i m hm).same hkp) (by omega)
    refine pe rfl (fun K hK => ?_)
    refine e_call 34 [.pointer (some ⟨s, 0, none⟩), .int .i64 ((from0 + i : Nat) : Int)] rfl rfl Try.call34 (hCH11) ?_
    rintro e w11 ⟨a8, c8, r8, C2, X2, rfl, hl8, hS2, hk2, hx2, H11⟩
    have M11 : Mem w _ w11 [bytesL (.slice a8 (mkP m).2.length c8) (mkP m).2, disk ({ D with reads := r8 } : DV) p pg mb qv, blk f 117 (fC V p), sto C2 V.s.mark s f X2] := Mem.frame hX11 H11
    refine ⟨_, rfl, ?_⟩
    refine hK.out _ _ ?_
    clear hK K
    simp only [Act.put, zq1, zq2, zq3]
    refine pl M11 (y_move (v := .tuple #[.int .i64 ((mkP m).1 : Int), .slice a8 ((mkP m).2.length) c8, .int .i64 0]) rfl rfl rfl) ?_
    simp only [Act.put, zq1, zq2, zq3]
    refine pl M11 (y_ext (v := .int .i64 ((mkP m).1 : Int)) rfl rfl rfl rfl) ?_
    simp only [Act.put, zq1, zq2, zq3]
    refine pl M11 (y_ext (v := .slice a8 ((mkP m).2.length) c8) rfl rfl rfl rfl) ?_
    simp only [Act.put, zq1, zq2, zq3]
    refine pl M11 (y_ext (v := .int .i64 0) rfl rfl rfl rfl) ?_
    simp only [Act.put, zq1, zq2, zq3]
    refine pl M11 (y_assign (v := .int .i64 ((mkP m).1 : Int)) rfl rfl rfl) ?_
    simp only [Act.put, zq1, zq2, zq3]
    refine pl M11 (y_assign (v := .slice a8 ((mkP m).2.length) c8) rfl rfl rfl) ?_
    simp only [Act.put, zq1, zq2, zq3]
    refine pl M11 (y_assign (v := .int .i64 0) rfl rfl rfl) ?_
    simp only [Act.put, zq1, zq2, zq3]
    refine wpList_nil ?_
    refine hK10 _ _ ?_
    clear hK10
    refine wp_seq_k (fun K12 hK12 => ?_)
    refine wp_region_lit ?_
    refine pl M11 (y_move (v := .int .i64 0) rfl rfl rfl) ?_
    simp only [Act.put, zq1, zq2, zq3]
    refine pl M11 (y_neq (b := false) rfl rfl rfl rfl (by rw [decide_eq_true (by decide)]; rfl)) ?_
    simp only [Act.put, zq1, zq2, zq3]
    refine pl M11 (y_move (v := .bool false) rfl rfl rfl) ?_
    simp only [Act.put, zq1, zq2, zq3]
    refine pl M11 (y_move (v := .int .i64 ((mkP m).1 : Int)) rfl rfl rfl) ?_
    simp only [Act.put, zq1, zq2, zq3]
    refine pl M11 (y_move (v := .slice aa ms.length ac) rfl rfl rfl) ?_
    simp only [Act.put, zq1, zq2, zq3]
    refine pl M11 (y_move (v := .int .i64 (i : Int)) rfl rfl rfl) ?_
    simp only [Act.put, zq1, zq2, zq3]
    refine pl M11 (y_ias (r := oa + i * 2) rfl rfl (congrArg (fun z => Value.slice z ms.length ac) hao) rfl Try.underlying22 Try.sizeOf126 (by omega) (by omega)) ?_
    simp only [Act.put, zq1, zq2, zq3]
    refine pl M11 (y_fa (r := oa + i * 2) rfl rfl rfl Try.underlying126 rfl Try.sizeOf3 rfl) ?_
    simp only [Act.put, zq1, zq2, zq3]
    refine pl M11 (y_loadc (v := .int .i64 m.k) rfl rfl rfl Try.isAgg3 (fun W hW => (hW.range hra hgF) 0 _ rfl)) ?_
    simp only [Act.put, zq1, zq2, zq3]
    refine pe rfl (fun K hK => ?_)
    refine e_call 10 [.int .i64 m.k, .int .i64 1, .int .i64 3] rfl rfl Try.call10 ((mkP_kind m ▸ nwhole_any m.k 1 3 (by decide) (by decide) (by decide))) ?_
    rintro e w13 ⟨rfl, H13⟩
    have M13 : Mem w _ w13 [bytesL (.slice a8 (mkP m).2.length c8) (mkP m).2, disk ({ D with reads := r8 } : DV) p pg mb qv, blk f 117 (fC V p), sto C2 V.s.mark s f X2] := M11.step H13
    refine ⟨_, rfl, ?_⟩
    refine hK.out _ _ ?_
    clear hK K
    simp only [Act.put, zq1, zq2, zq3]
    refine pl M13 (y_neq (b := false) rfl rfl rfl rfl (by rw [decide_eq_true rfl]; rfl)) ?_
    simp only [Act.put, zq1, zq2, zq3]
    refine pl M13 (y_pickF (v := .bool false) rfl rfl rfl rfl) ?_
    simp only [Act.put, zq1, zq2, zq3]
    refine pl M13 (y_move (v := .bool false) rfl rfl rfl) ?_
    simp only [Act.put, zq1, zq2, zq3]
    refine pl M13 (y_move (v := .slice a8 ((mkP m).2.length) c8) rfl rfl rfl) ?_
    simp only [Act.put, zq1, zq2, zq3]
    refine pl M13 (y_move (v := .slice aa ms.length ac) rfl rfl rfl) ?_
    simp only [Act.put, zq1, zq2, zq3]
    refine pl M13 (y_move (v := .int .i64 (i : Int)) rfl rfl rfl) ?_
    simp only [Act.put, zq1, zq2, zq3]
    refine pl M13 (y_ias (r := oa + i * 2) rfl rfl (congrArg (fun z => Value.slice z ms.length ac) hao) rfl Try.underlying22 Try.sizeOf126 (by omega) (by omega)) ?_
    simp only [Act.put, zq1, zq2, zq3]
    refine pl M13 (y_fa (r := oa + i * 2 + 1) rfl rfl rfl Try.underlying126 rfl Try.sizeOf44 rfl) ?_
    simp only [Act.put, zq1, zq2, zq3]
    refine pl M13 (y_loadc (v := .slice m.ao m.n m.c) rfl rfl rfl Try.isAgg44 (fun W hW => (hW.range hra hgF) 1 _ rfl)) ?_
    simp only [Act.put, zq1, zq2, zq3]
    refine pe rfl (fun K hK => ?_)
    refine e_call 25 [.slice m.ao m.n m.c, .int .i64 246] rfl rfl Try.call25 (short_any m.ao m.n m.c 246 m.l (M13.row hrow hmo) (by decide) hmn) ?_
    rintro e w14 ⟨a7, c7, rfl, H14⟩
    have M14 : Mem w _ w14 [bytesL (.slice a7 (m.l.take 246).length c7) (m.l.take 246), bytesL (.slice a8 (mkP m).2.length c8) (mkP m).2, disk ({ D with reads := r8 } : DV) p pg mb qv, blk f 117 (fC V p), sto C2 V.s.mark s f X2] := M13.step H14
    refine ⟨_, rfl, ?_⟩
    refine hK.out _ _ ?_
    clear hK K
    simp only [Act.put, zq1, zq2, zq3]
    have hrg := bytesL_row (M14.get 1 rfl)
    have hro := bytesL_row (M14.get 0 rfl)
    refine pe rfl (fun K hK => ?_)
    refine e_call 40 [.slice a8 ((mkP m).2.length) c8, .slice a7 ((m.l.take 246).length) c7] rfl rfl Try.call40 (same8_any a8 a7 (mkP m).2.length c8 (m.l.take 246).length c7 (mkP m).2 (m.l.take 246) hrg hro (by unfold maxLen; omega) (by unfold maxLen; rw [List.length_take]; omega)) ?_
    rintro e w15 ⟨rfl, H15⟩
    have M15 : Mem w _ w15 [bytesL (.slice a7 (m.l.take 246).length c7) (m.l.take 246), bytesL (.slice a8 (mkP m).2.length c8) (mkP m).2, disk ({ D with reads := r8 } : DV) p pg mb qv, blk f 117 (fC V p), sto C2 V.s.mark s f X2] := M14.step H15
    refine ⟨_, rfl, ?_⟩
    refine hK.out _ _ ?_
    clear hK K
    simp only [Act.put, zq1, zq2, zq3]
    refine pl M15 (y_not rfl rfl rfl rfl) ?_
    simp only [Act.put, zq1, zq2, zq3]
    refine pl M15 (y_pickF (v := .bool false) rfl rfl rfl rfl) ?_
    simp only [Act.put, zq1, zq2, zq3]
    refine wpList_nil ?_
    refine hK12 _ _ ?_
    clear hK12
    refine wp_cond_false rfl ?_
    refine wp_skip ?_
    refine hK9 _ _ ?_
    clear hK9
    refine wp_region_lit ?_
    refine pl M15 (y_move (v := .int .i64 (i : Int)) rfl rfl rfl) ?_
    simp only [Act.put, zq1, zq2, zq3]
    refine pl M15 (y_add (r := (i : Int) + 1) rfl rfl rfl rfl (rfl) (by omega)) ?_
    simp only [Act.put, zq1, zq2, zq3]
    refine pl M15 (y_assign (v := .int .i64 ((i : Int) + 1)) rfl rfl rfl) ?_
    simp only [Act.put, zq1, zq2, zq3]
    refine wpList_nil ?_
    refine ⟨_, ?_, i + 1, C2, X2, r8, [(us4.getD 0 undef), .int .i64 ((mkP m).1 : Int), .slice a8 ((mkP m).2.length) c8, .int .i64 0, .int .i64 (i : Int), .slice aa ms.length ac, .int .i64 (ms.length : Int), .bool true, .int .i64 (i : Int), .int .i64 ((i : Int) + 1), .tuple #[.int .i64 ((mkP m).1 : Int), .slice a8 ((mkP m).2.length) c8, .int .i64 0], .pointer (some ⟨s, 0, none⟩), .int .i64 (from0 : Int), .int .i64 (i : Int), .int .i64 ((from0 + i : Nat) : Int), .tuple #[.int .i64 ((mkP m).1 : Int), .slice a8 ((mkP m).2.length) c8, .int .i64 0], .int .i64 ((mkP m).1 : Int), .slice a8 ((mkP m).2.length) c8, .int .i64 0, .int .i64 0, .bool false, .bool false, .int .i64 ((mkP m).1 : Int), .slice aa ms.length ac, .int .i64 (i : Int), .pointer (some ⟨ga, oa + i * 2, none⟩), .pointer (some ⟨ga, oa + i * 2, none⟩), .int .i64 m.k, .int .i64 ((mkP m).1 : Int), .bool false, .bool false, .bool false, .slice a8 ((mkP m).2.length) c8, .slice aa ms.length ac, .int .i64 (i : Int), .pointer (some ⟨ga, oa + i * 2, none⟩), .pointer (some ⟨ga, oa + i * 2 + 1, none⟩), .slice m.ao m.n m.c, .slice a7 ((m.l.take 246).length) c7, .bool true, .bool false, .bool false], rfl, rfl, hS2, (hk2.trans hkp), by omega, by omega, (M15.arr [2, 3, 4] (by decide))⟩
    omega
  · refine pl M5 (y_lss (b := false) rfl rfl rfl rfl (decide_eq_false h8)) ?_
    simp only [Act.put, zq1, zq2, zq3]
    refine wpList_nil ?_
    refine hK7 _ _ ?_
    clear hK7
    refine wp_cond_false rfl ?_
    refine wp_exit ?_
    refine hK2 _ _ ?_
    clear hK2
    refine wp_seq_k (fun K16 hK16 => ?_)
    refine wp_region_lit ?_
    refine pl M5 (y_assign (v := .bool true) rfl rfl rfl) ?_
    simp only [Act.put, zq1, zq2, zq3]
    refine wpList_nil ?_
    refine hK16 _ _ ?_
    clear hK16
    refine wp_ret ?_
    try simp only [Exit.inBlock, Exit.then]
    refine bodyPost_ret (v := .bool true) (res1 rfl rfl) rfl ?_
    exact ⟨rk, Ck, Xk, rfl, hS, hkp, by omega, (M5.arr [0, 1, 2] (by decide))⟩
end Go.Proofs.Ytmmkgkbjneebkaa

/- The conversion of a literal's row to its own type: the place behind its last cell is marked. No program in sight. -/
namespace Go.Proofs.Ytmmkgkbjneebkaa
set_option linter.unusedSectionVars false
set_option linter.unusedSimpArgs false
open Go Go.RowKit
set_option linter.unusedVariables false
def blkf (g : Nat) (T : TypeId) (C : List Value) : Asn where
  foot := [g]
  holds w := w.heap[g]? = some (.cells C.toArray T (C.length, C.length + 1))
  lt w h b hb := by
    obtain rfl : b = g := by simpa using hb
    exact heap_lt h
  keep w w' h hk := (hk g (by simp)).trans h
theorem blkf_row {g : Nat} {T : TypeId} {l : List UInt8} {w : World} (h : (blkf g T (bvs l)).holds w) : Row w (some ⟨g, 0, none⟩) l.length l := by
  refine ⟨rfl, fun i hi => ⟨g, 0, rfl, ?_⟩⟩
  have h0 : w.heap[g]? = some (.cells (bvs l).toArray T ((bvs l).length, (bvs l).length + 1)) := h
  show w.cell? ⟨g, 0 + i, none⟩ = _
  rw [cell_of_row w g (0 + i) _ T _ h0, Nat.zero_add, List.getElem?_toArray, bvs_getElem?, List.getElem?_eq_getElem hi]
  rfl
section
variable {P : Program} {Q : Exit → Act → World → Prop} {o : Oper} {a : Act} {w w0 : World} {K : Act → World → Prop} {x : Operand} {t e : TypeId} {F : List Nat} {L : List Asn}
theorem e_convb (M : Mem w0 F w L) (i : Nat) {g n c : Nat} {T : TypeId} {C : List Value} (hi : L[i]? = some (blk g T C)) (ho : o.op = .convert t t x) (hx : a.eval x = .slice (some ⟨g, 0, none⟩) n c) (ht : P.underlying t = some (.slice e)) (he : P.underlying e = some (.int .u8))
    (h : ∀ w', Mem w0 F w' (L.set i (blkf g T C)) → K (a.put o.dst (.slice (some ⟨g, 0, none⟩) n c)) w') : Oper.wp P o a w K Q := by
  have hb : w.heap[g]? = some (.cells C.toArray T (0, 0)) := M.get i hi
  have hsh : w.shape? g = some (T, C.length) := by
    unfold World.shape?
    rw [hb]
    simp
  have hrun : (convert t t (.slice (some ⟨g, 0, none⟩) n c)).run P w = .ok (.slice (some ⟨g, 0, none⟩) n c) (w.freeze ⟨g, C.length, none⟩ 1) := by
    simp [convert, run_underlying ht, run_underlying he, markStringish, hsh]
  have hg : w.grownBy (w.freeze ⟨g, C.length, none⟩ 1) (some g) := by
    unfold World.freeze
    rw [if_neg (by decide)]
    refine ⟨rfl, rfl, rfl, by simp, fun k hk hn => ?_⟩
    show (w.heap.modify g _)[k]? = _
    rw [Array.getElem?_modify, if_neg (fun e => hn (by rw [e]))]
  have hb2 : (blkf g T C).holds (w.freeze ⟨g, C.length, none⟩ 1) := by
    show (w.freeze ⟨g, C.length, none⟩ 1).heap[g]? = _
    unfold World.freeze
    rw [if_neg (by decide)]
    show (w.heap.modify g _)[g]? = _
    rw [Array.getElem?_modify, if_pos rfl, hb]
    rfl
  unfold Oper.wp execOp
  simp only [ho, hx, Sem.run_bind, hrun, Result.andThen_ok]
  exact h _ (M.upd i hi (Mem.one hg (fun y hy => by cases hy; simp [blk]) hb2 (by simp [blkf]) (fun y hy => .inl hy)))
end
end Go.Proofs.Ytmmkgkbjneebkaa

/- The statements' own known; New and Flush where all is well. -/
namespace Go.Proofs.Ytmmkgkbjneebkaa
set_option linter.unusedSectionVars false
open Go Go.RowKit
set_option linter.unusedVariables false
set_option linter.unusedSimpArgs false
theorem SInv.fresh {D : DV} {V : FV} {pz : Pgs} (h : Inv D V pz) (hnx : V.next = V.s.mark) (room : Int) : SInv D V (newC room) pz :=
  ⟨h, hnx, fun e he => (by cases he), fun e he => (by cases he), by have := h.nextp; show V.s.mark + ((0 : Nat) : Int) ≤ _; omega⟩
theorem fv_same {V : FV} (h : V.next = V.s.mark) : ({ V with next := V.s.mark } : FV) = V := by
  rw [← h]
theorem snew_fit {D : DV} {V : FV} {f p pg mb : Nat} {qv : Value} {w : World} (hM : Mem w (foots [disk D p pg mb qv, blk f 117 (fC V p)]) w [disk D p pg mb qv, blk f 117 (fC V p)]) {pz : Pgs} (hI : Inv D V pz) (hnx : V.next = V.s.mark) (room : Int) (hr : 0 ≤ room ∧ room ≤ 4096) :
    Calls Try.prog 13 #[.pointer (some ⟨f, 0, none⟩), .int .i64 room] w fun e' w' => ∃ s X, e' = .returned (.tuple #[.pointer (some ⟨s, 0, none⟩), .int .i64 0]) ∧ X.x.n = 0 ∧ SInv D V (newC room) pz ∧ Mem w (foots [disk D p pg mb qv, blk f 117 (fC V p)]) w' [disk D p pg mb qv, blk f 117 (fC V p), sto (newC room) V.s.mark s f X] := by
  have h2 := hI.plat.mark2
  have h3 := hI.plat.markp
  have h4 := hI.ok.hi
  refine (snew_ok hM room hI.isLive (by omega) (by omega) ⟨h2, by omega⟩).mono ?_
  rintro e' w' ⟨s, X, rfl, hn, h⟩
  rw [fv_same hnx] at h
  exact ⟨s, X, rfl, hn, SInv.fresh hI hnx room, h⟩
theorem sflush_good {D : DV} {V : FV} {C : CS} {X : SX} {s f p pg mb : Nat} {qv : Value} {w : World} (hM : Mem w (foots [disk D p pg mb qv, blk f 117 (fC V p), sto C V.s.mark s f X]) w [disk D p pg mb qv, blk f 117 (fC V p), sto C V.s.mark s f X]) {pz : Pgs} (hS : SInv D V C pz) (head : Int) (hh : head = 0 ∨ (2 ≤ head ∧ head < V.s.mark + (C.kp.length : Int))) (hg : V.s.gen < 1099511627776) (ha : D.armed = 0 ∨ (C.kp.length : Int) + 3 < D.armed) (hq : D.q.length ≤ 300000000000) :
    Calls Try.prog 18 #[.pointer (some ⟨s, 0, none⟩), .int .i64 head] w fun e' w' => ∃ E qv' C' X', e' = .returned (.int .i64 0) ∧ SInv E ⟨flushS V C head, V.s.mark + (C.kp.length : Int), V.mine⟩ C' (putAll pz V.s.mark.toNat C.kp) ∧ C'.kp = [] ∧ E.q = [] ∧ E.pages.length = D.pages.length ∧ (E.armed = if D.armed = 0 then 0 else D.armed - ((C.kp.length : Int) + 3)) ∧ X'.x.n = X.x.n ∧ Mem w (foots [disk D p pg mb qv, blk f 117 (fC V p), sto C V.s.mark s f X]) w' [disk E p pg mb qv', blk f 117 (fC ⟨flushS V C head, V.s.mark + (C.kp.length : Int), V.mine⟩ p), sto C' (V.s.mark + (C.kp.length : Int)) s f X'] := by
  have hok := sto_ok (hM.get 2 rfl)
  obtain ⟨E, e1, e2, e3, e4, e5, e6⟩ := (hS.flush hok hh hg).1 ha
  refine (sflush_any hM head hS.inv.fok hS.nx hq hS.inv.ok.hi).mono ?_
  rintro e' w' ⟨qv', X', rfl, hn, h⟩
  rw [e1] at h
  refine ⟨E, qv', _, X', by rw [e1], e2, by rw [e3]; rfl, e4, e5, e6, hn, h⟩
theorem sflush_down {D : DV} {V : FV} {C : CS} {X : SX} {s f p pg mb : Nat} {qv : Value} {w : World} (hM : Mem w (foots [disk D p pg mb qv, blk f 117 (fC V p), sto C V.s.mark s f X]) w [disk D p pg mb qv, blk f 117 (fC V p), sto C V.s.mark s f X]) {pz : Pgs} (hS : SInv D V C pz) (head : Int) (hh : head = 0 ∨ (2 ≤ head ∧ head < V.s.mark + (C.kp.length : Int))) (hg : V.s.gen < 1099511627776) (ha : 1 ≤ D.armed ∧ D.armed ≤ (C.kp.length : Int) + 3) (hq : D.q.length ≤ 300000000000) :
    Calls Try.prog 18 #[.pointer (some ⟨s, 0, none⟩), .int .i64 head] w fun e' w' => ∃ E V' qv' X', e' = .returned (.int .i64 2) ∧ flushR D V C head = (E, V', 2) ∧ V'.s = V.s ∧ V'.next = V.s.mark ∧ E.dead = true ∧ E.epoch = V.mine ∧ E.pages.length = D.pages.length ∧ X'.x.n = X.x.n ∧ Mem w (foots [disk D p pg mb qv, blk f 117 (fC V p), sto C V.s.mark s f X]) w' [disk E p pg mb qv', blk f 117 (fC V' p), sto C V.s.mark s f X'] := by
  have hok := sto_ok (hM.get 2 rfl)
  obtain ⟨E, V', e1, e2, e3, e4, e5, e6, e7⟩ := (hS.flush hok hh hg).2 ha
  refine (sflush_any hM head hS.inv.fok hS.nx hq hS.inv.ok.hi).mono ?_
  rintro e' w' ⟨qv', X', rfl, hn, h⟩
  rw [e1, e2] at h
  have h' : Mem w (foots [disk D p pg mb qv, blk f 117 (fC V p), sto C V.s.mark s f X]) w' [disk E p pg mb qv', blk f 117 (fC V' p), sto C V'.s.mark s f X'] := h
  rw [e3] at h'
  exact ⟨E, V', qv', X', by rw [e1], e1, e3, e4, e5, e6, e7, hn, h'⟩
theorem pg_staged {V : FV} {C C' : CS} {pz : Pgs} {ms : List MV} {i n : Nat} {m : MV} (h : C'.kp.map enP = C.kp.map enP ++ ms.map mkP) (hm : ms[i]? = some m) (hn : (n : Int) = V.s.mark + (C.kp.length : Int) + (i : Int)) : PgIs V C' pz n (mkP m) := by
  right
  have h1 : (C'.kp.map enP)[C.kp.length + i]? = some (mkP m) := by
    rw [h, List.getElem?_append_right (by rw [List.length_map]; omega), List.length_map, show C.kp.length + i - C.kp.length = i by omega, List.getElem?_map, hm]
    rfl
  rw [List.getElem?_map] at h1
  obtain ⟨e, he, h2⟩ := Option.map_eq_some_iff.1 h1
  exact ⟨C.kp.length + i, e, by omega, he, h2⟩
theorem stages_at {D : DV} {V : FV} {C : CS} {X : SX} {s f p pg mb : Nat} {qv : Value} {w : World} (hM : Mem w (foots [disk D p pg mb qv, blk f 117 (fC V p), sto C V.s.mark s f X]) w [disk D p pg mb qv, blk f 117 (fC V p), sto C V.s.mark s f X]) {pz : Pgs} (hSI : SInv D V C pz) (ms : List MV) (aa : Option Addr) (ac : Nat) (hms : MadesIn w (foots [disk D p pg mb qv, blk f 117 (fC V p), sto C V.s.mark s f X]) aa ms) (fr : Int) (hfr : fr = V.s.mark + (C.kp.length : Int)) (hfit : V.s.mark + (C.kp.length : Int) + (ms.length : Int) ≤ (D.pages.length : Int)) (hXn : X.x.n + ms.length < 100000000000000) :
    Calls Try.prog 14 #[.pointer (some ⟨s, 0, none⟩), .slice aa ms.length ac, .int .i64 fr] w fun e' w' => ∃ C' X', e' = .returned (.bool true) ∧ SInv D V C' pz ∧ C'.kp.map enP = C.kp.map enP ++ ms.map mkP ∧ X'.x.n ≤ X.x.n + ms.length ∧ Mem w (foots [disk D p pg mb qv, blk f 117 (fC V p), sto C V.s.mark s f X]) w' [disk D p pg mb qv, blk f 117 (fC V p), sto C' V.s.mark s f X'] := by
  subst hfr
  exact stages_any hM hSI ms aa ac hms hfit hXn
theorem loads_at {D : DV} {V : FV} {C : CS} {X : SX} {s f p pg mb : Nat} {qv : Value} {w : World} (hM : Mem w (foots [disk D p pg mb qv, blk f 117 (fC V p), sto C V.s.mark s f X]) w [disk D p pg mb qv, blk f 117 (fC V p), sto C V.s.mark s f X]) {pz : Pgs} (hSI : SInv D V C pz) (ms : List MV) (aa : Option Addr) (ac : Nat) (hms : MadesIn w (foots [disk D p pg mb qv, blk f 117 (fC V p), sto C V.s.mark s f X]) aa ms) (fr : Int) (from0 : Nat) (hf0 : fr = (from0 : Int)) (hfr : from0 ≤ 1000000 ∧ ms.length ≤ 1000000) (hpg : ∀ i m, ms[i]? = some m → PgIs V C pz (from0 + i) (mkP m)) (hXn : X.x.n + ms.length < 100000000000000) :
    Calls Try.prog 15 #[.pointer (some ⟨s, 0, none⟩), .slice aa ms.length ac, .int .i64 fr] w fun e' w' => ∃ r C' X', e' = .returned (.bool true) ∧ SInv { D with reads := r } V C' pz ∧ C'.kp = C.kp ∧ X'.x.n ≤ X.x.n + ms.length ∧ Mem w (foots [disk D p pg mb qv, blk f 117 (fC V p), sto C V.s.mark s f X]) w' [disk { D with reads := r } p pg mb qv, blk f 117 (fC V p), sto C' V.s.mark s f X'] := by
  subst hf0
  exact loads_any hM hSI ms aa ac hms from0 hfr hpg hXn
theorem cut_mades (aa : Option Addr) (an ac : Nat) (ms : List MV) (k : Nat) (hl : ms.length = an) (hc : an ≤ ac) {w : World} : Calls Try.prog 8 #[.slice aa an ac, .int .i64 (k : Int)] w fun e w' => e = .returned (.slice aa (ms.take k).length ac) ∧ Mem w [] w' [] := by
  have h := cut_any aa an ac k hc (w := w)
  rw [List.length_take, hl, Nat.min_comm k an]
  exact h
theorem MadesIn.same {w w' : World} {F F' : List Nat} {aa : Option Addr} {ms : List MV} (h : MadesIn w F aa ms) : True := trivial
set_option maxRecDepth 100000 in
set_option maxHeartbeats 4000000 in
theorem known_any  {w : World} : Calls Try.prog 11 #[] w fun e w' => e = .returned (.bool true) ∧ Mem w [] w' [] := by
  have M := Mem.nil w
  go_enter Try.func11, Try.ntmps11
  refine wp_seq_k (fun K1 hK1 => ?_)
  refine wp_region_lit ?_
  refine pl M (y_assign (v := .bool false) rfl rfl rfl) ?_
  simp only [Act.put, zq1, zq2, zq3]
  refine wpList_nil ?_
  refine hK1 _ _ ?_
  clear hK1
  refine wp_seq_k (fun K2 hK2 => ?_)
  refine wp_region_lit ?_
  refine pe rfl (fun K hK => ?_)
  refine e_call 9 [.int .i64 5, .int .i64 32] rfl rfl Try.call9 (begun_any 5 32 ⟨by decide, by decide⟩ ⟨by decide, by decide⟩) ?_
  rintro e w3 ⟨p, pg, mb, qv1, E1, rfl, H3, hP1, hq1, hd1, ha1, hl1⟩
  have M3 : Mem w [] w3 [disk E1 p pg mb qv1] := M.step H3
  refine ⟨_, rfl, ?_⟩
  refine hK.out _ _ ?_
  clear hK K
  simp only [Act.put, zq1, zq2, zq3]
  refine pl M3 (y_assign (v := .pointer (some ⟨p, 0, none⟩)) rfl rfl rfl) ?_
  simp only [Act.put, zq1, zq2, zq3]
  refine wpList_nil ?_
  refine hK2 _ _ ?_
  clear hK2
  refine wp_seq_k (fun K4 hK4 => ?_)
  refine wp_seq_k (fun K5 hK5 => ?_)
  refine wp_region_lit ?_
  refine pl M3 (y_move (v := .pointer (some ⟨p, 0, none⟩)) rfl rfl rfl) ?_
  simp only [Act.put, zq1, zq2, zq3]
  refine pl M3 (y_eqnil (r := false) rfl rfl rfl rfl Try.underlying24 rfl) ?_
  simp only [Act.put, zq1, zq2, zq3]
  refine wpList_nil ?_
  refine hK5 _ _ ?_
  clear hK5
  refine wp_cond_false rfl ?_
  refine wp_skip ?_
  refine hK4 _ _ ?_
  clear hK4
  refine wp_seq_k (fun K6 hK6 => ?_)
  refine wp_region_lit ?_
  refine pl M3 (y_move (v := .pointer (some ⟨p, 0, none⟩)) rfl rfl rfl) ?_
  simp only [Act.put, zq1, zq2, zq3]
  have hX7 : Mem w [] w3 ([disk E1 p pg mb qv1] ++ []) := M3.arr [0] (by decide)
  refine pe rfl (fun K hK => ?_)
  refine e_call 12 [.pointer (some ⟨p, 0, none⟩)] rfl rfl Try.call12 (open_fit (Mem.here hX7) hP1 hd1) ?_
  rintro e w7 ⟨f, E, m, rfl, H7, hI, hq2, hp2, ha2, he2⟩
  have M7 : Mem w [] w7 [disk E p pg mb qv1, blk f 117 (fC (⟨(secondS 32 5), (secondS 32 5).mark, m⟩ : FV) p)] := Mem.frame hX7 H7
  refine ⟨_, rfl, ?_⟩
  refine hK.out _ _ ?_
  clear hK K
  simp only [Act.put, zq1, zq2, zq3]
  refine pl M7 (y_move (v := .tuple #[.pointer (some ⟨f, 0, none⟩), .int .i64 0]) rfl rfl rfl) ?_
  simp only [Act.put, zq1, zq2, zq3]
  refine pl M7 (y_ext (v := .pointer (some ⟨f, 0, none⟩)) rfl rfl rfl rfl) ?_
  simp only [Act.put, zq1, zq2, zq3]
  refine pl M7 (y_ext (v := .int .i64 0) rfl rfl rfl rfl) ?_
  simp only [Act.put, zq1, zq2, zq3]
  refine pl M7 (y_assign (v := .pointer (some ⟨f, 0, none⟩)) rfl rfl rfl) ?_
  simp only [Act.put, zq1, zq2, zq3]
  refine pl M7 (y_assign (v := .int .i64 0) rfl rfl rfl) ?_
  simp only [Act.put, zq1, zq2, zq3]
  refine wpList_nil ?_
  refine hK6 _ _ ?_
  clear hK6
  refine wp_seq_k (fun K8 hK8 => ?_)
  refine wp_seq_k (fun K9 hK9 => ?_)
  refine wp_region_lit ?_
  refine pl M7 (y_move (v := .int .i64 0) rfl rfl rfl) ?_
  simp only [Act.put, zq1, zq2, zq3]
  refine pl M7 (y_neq (b := false) rfl rfl rfl rfl (by rw [decide_eq_true (by decide)]; rfl)) ?_
  simp only [Act.put, zq1, zq2, zq3]
  refine pl M7 (y_move (v := .bool false) rfl rfl rfl) ?_
  simp only [Act.put, zq1, zq2, zq3]
  refine pl M7 (y_move (v := .pointer (some ⟨f, 0, none⟩)) rfl rfl rfl) ?_
  simp only [Act.put, zq1, zq2, zq3]
  refine pl M7 (y_eqnil (r := false) rfl rfl rfl rfl Try.underlying28 rfl) ?_
  simp only [Act.put, zq1, zq2, zq3]
  refine pl M7 (y_pickF (v := .bool false) rfl rfl rfl rfl) ?_
  simp only [Act.put, zq1, zq2, zq3]
  refine wpList_nil ?_
  refine hK9 _ _ ?_
  clear hK9
  refine wp_cond_false rfl ?_
  refine wp_skip ?_
  refine hK8 _ _ ?_
  clear hK8
  refine wp_seq_k (fun K10 hK10 => ?_)
  refine wp_region_lit ?_
  refine pl M7 (y_move (v := .pointer (some ⟨f, 0, none⟩)) rfl rfl rfl) ?_
  simp only [Act.put, zq1, zq2, zq3]
  have hpl5 : E.pages.length = 5 := by rw [hp2]; exact hl1
  have hX11 : Mem w [] w7 ([disk E p pg mb qv1, blk f 117 (fC (⟨(secondS 32 5), (secondS 32 5).mark, m⟩ : FV) p)] ++ []) := M7.arr [0, 1] (by decide)
  have hCH11 := snew_fit (Mem.here hX11) hI rfl 1 (⟨by decide, by decide⟩)
  refine pe rfl (fun K hK => ?_)
  refine e_call 13 [.pointer (some ⟨f, 0, none⟩), .int .i64 1] rfl rfl Try.call13 (hCH11) ?_
  rintro e w11 ⟨s, X, rfl, hX0, hS0, H11⟩
  have M11 : Mem w [] w11 [disk E p pg mb qv1, blk f 117 (fC (⟨secondS 32 5, (secondS 32 5).mark, m⟩ : FV) p), sto (newC 1) ((⟨secondS 32 5, (secondS 32 5).mark, m⟩ : FV).s.mark) s f X] := Mem.frame hX11 H11
  refine ⟨_, rfl, ?_⟩
  refine hK.out _ _ ?_
  clear hK K
  simp only [Act.put, zq1, zq2, zq3]
  have hroom : (⟨secondS 32 5, (secondS 32 5).mark, m⟩ : FV).s.mark + (((newC 1).kp.length : Nat) : Int) < (E.pages.length : Int) := by rw [hpl5]; show (2 : Int) + ((0 : Nat) : Int) < ((5 : Nat) : Int); decide
  refine pl M11 (y_move (v := .tuple #[.pointer (some ⟨s, 0, none⟩), .int .i64 0]) rfl rfl rfl) ?_
  simp only [Act.put, zq1, zq2, zq3]
  refine pl M11 (y_ext (v := .pointer (some ⟨s, 0, none⟩)) rfl rfl rfl rfl) ?_
  simp only [Act.put, zq1, zq2, zq3]
  refine pl M11 (y_ext (v := .int .i64 0) rfl rfl rfl rfl) ?_
  simp only [Act.put, zq1, zq2, zq3]
  refine pl M11 (y_assign (v := .pointer (some ⟨s, 0, none⟩)) rfl rfl rfl) ?_
  simp only [Act.put, zq1, zq2, zq3]
  refine pl M11 (y_assign (v := .int .i64 0) rfl rfl rfl) ?_
  simp only [Act.put, zq1, zq2, zq3]
  refine wpList_nil ?_
  refine hK10 _ _ ?_
  clear hK10
  refine wp_seq_k (fun K12 hK12 => ?_)
  refine wp_seq_k (fun K13 hK13 => ?_)
  refine wp_region_lit ?_
  refine pl M11 (y_move (v := .int .i64 0) rfl rfl rfl) ?_
  simp only [Act.put, zq1, zq2, zq3]
  refine pl M11 (y_neq (b := false) rfl rfl rfl rfl (by rw [decide_eq_true (by decide)]; rfl)) ?_
  simp only [Act.put, zq1, zq2, zq3]
  refine pl M11 (y_move (v := .bool false) rfl rfl rfl) ?_
  simp only [Act.put, zq1, zq2, zq3]
  refine pl M11 (y_move (v := .pointer (some ⟨s, 0, none⟩)) rfl rfl rfl) ?_
  simp only [Act.put, zq1, zq2, zq3]
  refine pl M11 (y_eqnil (r := false) rfl rfl rfl rfl Try.underlying32 rfl) ?_
  simp only [Act.put, zq1, zq2, zq3]
  refine pl M11 (y_pickF (v := .bool false) rfl rfl rfl rfl) ?_
  simp only [Act.put, zq1, zq2, zq3]
  refine wpList_nil ?_
  refine hK13 _ _ ?_
  clear hK13
  refine wp_cond_false rfl ?_
  refine wp_skip ?_
  refine hK12 _ _ ?_
  clear hK12
  refine wp_seq_k (fun K14 hK14 => ?_)
  refine wp_region_lit ?_
  refine pl M11 (y_move (v := .pointer (some ⟨s, 0, none⟩)) rfl rfl rfl) ?_
  simp only [Act.put, zq1, zq2, zq3]
  refine pe rfl (fun K hK => ?_)
  refine e_bslice M11 (bvs [97]) (pv := [(0, .int .u8 97)]) rfl rfl Try.underlying44 Try.sizeOf5 Try.zeroValue5 (by decide) (by kernel_rfl) ?_
  intro g15 w16 (M16 : Mem w [] w16 [blk g15 5 (bvs [97]), disk E p pg mb qv1, blk f 117 (fC (⟨secondS 32 5, (secondS 32 5).mark, m⟩ : FV) p), sto (newC 1) ((⟨secondS 32 5, (secondS 32 5).mark, m⟩ : FV).s.mark) s f X])
  clear M11
  refine hK.out _ _ ?_
  clear hK K
  simp only [Act.put, zq1, zq2, zq3]
  refine pe rfl (fun K hK => ?_)
  refine e_convb M16 0 rfl rfl rfl Try.underlying44 Try.underlying5 ?_
  intro w17 (M17 : Mem w [] w17 [blkf g15 5 (bvs [97]), disk E p pg mb qv1, blk f 117 (fC (⟨secondS 32 5, (secondS 32 5).mark, m⟩ : FV) p), sto (newC 1) ((⟨secondS 32 5, (secondS 32 5).mark, m⟩ : FV).s.mark) s f X])
  clear M16
  refine hK.out _ _ ?_
  clear hK K
  simp only [Act.put, zq1, zq2, zq3]
  have hof : ∀ b₁ o, (some ⟨g15, 0, none⟩ : Option Addr) = some ⟨b₁, o, none⟩ → 0 < 1 → b₁ ∉ foots [disk E p pg mb qv1, blk f 117 (fC (⟨secondS 32 5, (secondS 32 5).mark, m⟩ : FV) p), sto (newC 1) ((⟨secondS 32 5, (secondS 32 5).mark, m⟩ : FV).s.mark) s f X] := fun b₁ o e _ => Mem.off3 (M17.arr [0, 1, 2, 3] (by decide)) (by cases e; simp [blkf])
  have hX18 : Mem w [] w17 ([disk E p pg mb qv1, blk f 117 (fC (⟨secondS 32 5, (secondS 32 5).mark, m⟩ : FV) p), sto (newC 1) ((⟨secondS 32 5, (secondS 32 5).mark, m⟩ : FV).s.mark) s f X] ++ [blkf g15 5 (bvs [97])]) := M17.arr [1, 2, 3, 0] (by decide)
  have hCH18 := sstage_ok (Mem.here hX18) hS0 1 (some ⟨g15, 0, none⟩) 1 1 [97] ⟨⟨by decide, by decide⟩, by decide⟩ (blkf_row (l := [97]) (M17.get 0 rfl)) (fun h => by cases h) hof hroom (by rw [hX0]; decide)
  refine pe rfl (fun K hK => ?_)
  refine e_call 44 [.pointer (some ⟨s, 0, none⟩), .int .i64 1, .slice (some ⟨g15, 0, none⟩) 1 1] rfl rfl Try.call44 (hCH18) ?_
  rintro e w18 ⟨C2, X2, rfl, hS2, hk2, hx2, H18⟩
  have M18 : Mem w [] w18 [disk E p pg mb qv1, blk f 117 (fC (⟨secondS 32 5, (secondS 32 5).mark, m⟩ : FV) p), sto C2 ((⟨secondS 32 5, (secondS 32 5).mark, m⟩ : FV).s.mark) s f X2, blkf g15 5 (bvs [97])] := Mem.frame hX18 H18
  refine ⟨_, rfl, ?_⟩
  refine hK.out _ _ ?_
  clear hK K
  simp only [Act.put, zq1, zq2, zq3]
  refine pl M18 (y_move (v := .tuple #[.int .i64 2, .int .i64 0]) rfl rfl rfl) ?_
  simp only [Act.put, zq1, zq2, zq3]
  refine pl M18 (y_ext (v := .int .i64 2) rfl rfl rfl rfl) ?_
  simp only [Act.put, zq1, zq2, zq3]
  refine pl M18 (y_ext (v := .int .i64 0) rfl rfl rfl rfl) ?_
  simp only [Act.put, zq1, zq2, zq3]
  refine pl M18 (y_assign (v := .int .i64 2) rfl rfl rfl) ?_
  simp only [Act.put, zq1, zq2, zq3]
  refine pl M18 (y_assign (v := .int .i64 0) rfl rfl rfl) ?_
  simp only [Act.put, zq1, zq2, zq3]
  refine wpList_nil ?_
  refine hK14 _ _ ?_
  clear hK14
  refine wp_seq_k (fun K19 hK19 => ?_)
  refine wp_seq_k (fun K20 hK20 => ?_)
  refine wp_region_lit ?_
  refine pl M18 (y_move (v := .int .i64 2) rfl rfl rfl) ?_
  simp only [Act.put, zq1, zq2, zq3]
  refine pl M18 (y_neq (b := false) rfl rfl rfl rfl (by rw [decide_eq_true (by decide)]; rfl)) ?_
  simp only [Act.put, zq1, zq2, zq3]
  refine pl M18 (y_move (v := .bool false) rfl rfl rfl) ?_
  simp only [Act.put, zq1, zq2, zq3]
  refine pl M18 (y_move (v := .int .i64 0) rfl rfl rfl) ?_
  simp only [Act.put, zq1, zq2, zq3]
  refine pl M18 (y_neq (b := false) rfl rfl rfl rfl (by rw [decide_eq_true (by decide)]; rfl)) ?_
  simp only [Act.put, zq1, zq2, zq3]
  refine pl M18 (y_pickF (v := .bool false) rfl rfl rfl rfl) ?_
  simp only [Act.put, zq1, zq2, zq3]
  refine wpList_nil ?_
  refine hK20 _ _ ?_
  clear hK20
  refine wp_cond_false rfl ?_
  refine wp_skip ?_
  refine hK19 _ _ ?_
  clear hK19
  refine wp_seq_k (fun K21 hK21 => ?_)
  refine wp_region_lit ?_
  refine pl M18 (y_move (v := .pointer (some ⟨s, 0, none⟩)) rfl rfl rfl) ?_
  simp only [Act.put, zq1, zq2, zq3]
  have hpg : PgIs (⟨secondS 32 5, (secondS 32 5).mark, m⟩ : FV) C2 [] 2 (1, [97]) := by
    right
    have h1 : (C2.kp.map enP)[0]? = some (1, [97]) := by rw [hk2]; rfl
    rw [List.getElem?_map] at h1
    obtain ⟨e, he, h2⟩ := Option.map_eq_some_iff.1 h1
    exact ⟨0, e, by rfl, he, h2⟩
  have hX22 : Mem w [] w18 ([disk E p pg mb qv1, blk f 117 (fC (⟨secondS 32 5, (secondS 32 5).mark, m⟩ : FV) p), sto C2 ((⟨secondS 32 5, (secondS 32 5).mark, m⟩ : FV).s.mark) s f X2] ++ [blkf g15 5 (bvs [97])]) := M18.arr [0, 1, 2, 3] (by decide)
  have hCH22 := sload_ok (Mem.here hX22) hS2 (n := 2) (x := (1, [97])) hpg (by omega)
  refine pe rfl (fun K hK => ?_)
  refine e_call 34 [.pointer (some ⟨s, 0, none⟩), .int .i64 2] rfl rfl Try.call34 (hCH22) ?_
  rintro e w22 ⟨a8, c8, r8, C3, X3, rfl, hl8, hS3, hk3, hx3, H22⟩
  have M22 : Mem w [] w22 [bytesL (.slice a8 1 c8) [97], disk ({ E with reads := r8 } : DV) p pg mb qv1, blk f 117 (fC (⟨secondS 32 5, (secondS 32 5).mark, m⟩ : FV) p), sto C3 ((⟨secondS 32 5, (secondS 32 5).mark, m⟩ : FV).s.mark) s f X3, blkf g15 5 (bvs [97])] := Mem.frame hX22 H22
  refine ⟨_, rfl, ?_⟩
  refine hK.out _ _ ?_
  clear hK K
  simp only [Act.put, zq1, zq2, zq3]
  refine pl M22 (y_move (v := .tuple #[.int .i64 1, .slice a8 1 c8, .int .i64 0]) rfl rfl rfl) ?_
  simp only [Act.put, zq1, zq2, zq3]
  refine pl M22 (y_ext (v := .int .i64 1) rfl rfl rfl rfl) ?_
  simp only [Act.put, zq1, zq2, zq3]
  refine pl M22 (y_ext (v := .slice a8 1 c8) rfl rfl rfl rfl) ?_
  simp only [Act.put, zq1, zq2, zq3]
  refine pl M22 (y_ext (v := .int .i64 0) rfl rfl rfl rfl) ?_
  simp only [Act.put, zq1, zq2, zq3]
  refine pl M22 (y_assign (v := .int .i64 1) rfl rfl rfl) ?_
  simp only [Act.put, zq1, zq2, zq3]
  refine pl M22 (y_assign (v := .slice a8 1 c8) rfl rfl rfl) ?_
  simp only [Act.put, zq1, zq2, zq3]
  refine pl M22 (y_assign (v := .int .i64 0) rfl rfl rfl) ?_
  simp only [Act.put, zq1, zq2, zq3]
  refine wpList_nil ?_
  refine hK21 _ _ ?_
  clear hK21
  refine wp_seq_k (fun K23 hK23 => ?_)
  refine wp_region_lit ?_
  refine pl M22 (y_move (v := .int .i64 1) rfl rfl rfl) ?_
  simp only [Act.put, zq1, zq2, zq3]
  refine pl M22 (y_eql (b := true) rfl rfl rfl rfl (decide_eq_true (by decide))) ?_
  simp only [Act.put, zq1, zq2, zq3]
  refine pl M22 (y_move (v := .bool true) rfl rfl rfl) ?_
  simp only [Act.put, zq1, zq2, zq3]
  refine pl M22 (y_move (v := .int .i64 0) rfl rfl rfl) ?_
  simp only [Act.put, zq1, zq2, zq3]
  refine pl M22 (y_eql (b := true) rfl rfl rfl rfl (decide_eq_true (by decide))) ?_
  simp only [Act.put, zq1, zq2, zq3]
  refine pl M22 (y_pickT (v := .bool true) rfl rfl rfl rfl) ?_
  simp only [Act.put, zq1, zq2, zq3]
  refine pl M22 (y_move (v := .bool true) rfl rfl rfl) ?_
  simp only [Act.put, zq1, zq2, zq3]
  refine pl M22 (y_move (v := .slice a8 1 c8) rfl rfl rfl) ?_
  simp only [Act.put, zq1, zq2, zq3]
  refine pe rfl (fun K hK => ?_)
  refine e_bslice M22 (bvs [97]) (pv := [(0, .int .u8 97)]) rfl rfl Try.underlying44 Try.sizeOf5 Try.zeroValue5 (by decide) (by kernel_rfl) ?_
  intro g24 w25 (M25 : Mem w [] w25 [blk g24 5 (bvs [97]), bytesL (.slice a8 1 c8) [97], disk ({ E with reads := r8 } : DV) p pg mb qv1, blk f 117 (fC (⟨secondS 32 5, (secondS 32 5).mark, m⟩ : FV) p), sto C3 ((⟨secondS 32 5, (secondS 32 5).mark, m⟩ : FV).s.mark) s f X3, blkf g15 5 (bvs [97])])
  clear M22
  refine hK.out _ _ ?_
  clear hK K
  simp only [Act.put, zq1, zq2, zq3]
  refine pe rfl (fun K hK => ?_)
  refine e_convb M25 0 rfl rfl rfl Try.underlying44 Try.underlying5 ?_
  intro w26 (M26 : Mem w [] w26 [blkf g24 5 (bvs [97]), bytesL (.slice a8 1 c8) [97], disk ({ E with reads := r8 } : DV) p pg mb qv1, blk f 117 (fC (⟨secondS 32 5, (secondS 32 5).mark, m⟩ : FV) p), sto C3 ((⟨secondS 32 5, (secondS 32 5).mark, m⟩ : FV).s.mark) s f X3, blkf g15 5 (bvs [97])])
  clear M25
  refine hK.out _ _ ?_
  clear hK K
  simp only [Act.put, zq1, zq2, zq3]
  have hrg := bytesL_row (M26.get 1 rfl)
  refine pe rfl (fun K hK => ?_)
  refine e_call 40 [.slice a8 1 c8, .slice (some ⟨g24, 0, none⟩) 1 1] rfl rfl Try.call40 (same8_any a8 (some ⟨g24, 0, none⟩) 1 c8 1 1 [97] [97] hrg (blkf_row (l := [97]) (M26.get 0 rfl)) (by decide) (by decide)) ?_
  rintro e w27 ⟨rfl, H27⟩
  have M27 : Mem w [] w27 [blkf g24 5 (bvs [97]), bytesL (.slice a8 1 c8) [97], disk ({ E with reads := r8 } : DV) p pg mb qv1, blk f 117 (fC (⟨secondS 32 5, (secondS 32 5).mark, m⟩ : FV) p), sto C3 ((⟨secondS 32 5, (secondS 32 5).mark, m⟩ : FV).s.mark) s f X3, blkf g15 5 (bvs [97])] := M26.step H27
  refine ⟨_, rfl, ?_⟩
  refine hK.out _ _ ?_
  clear hK K
  simp only [Act.put, zq1, zq2, zq3]
  refine pl M27 (y_pickT (v := .bool true) rfl rfl rfl rfl) ?_
  simp only [Act.put, zq1, zq2, zq3]
  refine pl M27 (y_move (v := .bool true) rfl rfl rfl) ?_
  simp only [Act.put, zq1, zq2, zq3]
  refine pl M27 (y_move (v := .pointer (some ⟨s, 0, none⟩)) rfl rfl rfl) ?_
  simp only [Act.put, zq1, zq2, zq3]
  have hX28 : Mem w [] w27 ([disk ({ E with reads := r8 } : DV) p pg mb qv1, blk f 117 (fC (⟨secondS 32 5, (secondS 32 5).mark, m⟩ : FV) p), sto C3 ((⟨secondS 32 5, (secondS 32 5).mark, m⟩ : FV).s.mark) s f X3] ++ [blkf g24 5 (bvs [97]), bytesL (.slice a8 1 c8) [97], blkf g15 5 (bvs [97])]) := M27.arr [2, 3, 4, 0, 1, 5] (by decide)
  have hCH28 := spages_any (Mem.here hX28)
  refine pe rfl (fun K hK => ?_)
  refine e_call 45 [.pointer (some ⟨s, 0, none⟩)] rfl rfl Try.call45 (hCH28) ?_
  rintro e w28 ⟨rfl, H28⟩
  have M28 : Mem w [] w28 [disk ({ E with reads := r8 } : DV) p pg mb qv1, blk f 117 (fC (⟨secondS 32 5, (secondS 32 5).mark, m⟩ : FV) p), sto C3 ((⟨secondS 32 5, (secondS 32 5).mark, m⟩ : FV).s.mark) s f X3, blkf g24 5 (bvs [97]), bytesL (.slice a8 1 c8) [97], blkf g15 5 (bvs [97])] := Mem.frame hX28 H28
  refine ⟨_, rfl, ?_⟩
  refine hK.out _ _ ?_
  clear hK K
  simp only [Act.put, zq1, zq2, zq3]
  refine pl M28 (y_eql (b := true) rfl rfl rfl rfl (decide_eq_true (show (E.pages.length : Int) = 5 by omega))) ?_
  simp only [Act.put, zq1, zq2, zq3]
  refine pl M28 (y_pickT (v := .bool true) rfl rfl rfl rfl) ?_
  simp only [Act.put, zq1, zq2, zq3]
  refine pl M28 (y_assign (v := .bool true) rfl rfl rfl) ?_
  simp only [Act.put, zq1, zq2, zq3]
  refine wpList_nil ?_
  refine hK23 _ _ ?_
  clear hK23
  refine wp_ret ?_
  try simp only [Exit.inBlock, Exit.then]
  refine bodyPost_ret (v := .bool true) (res1 rfl rfl) rfl ?_
  exact ⟨rfl, M28.arr [] (by decide)⟩
end Go.Proofs.Ytmmkgkbjneebkaa
