/- Texts joined: OpenM, SL2, ConvB, SL3. -/
import Derived.Test.YtfbamkgmnbobeaaDoorRows
import Derived.Test.YtfbamkgmnbobeaaDoorSY20
import Derived.Test.YtfbamkgmnbobeaaDoorSY19
import Derived.SizedLaws
import Derived.Test.YtfbamkgmnbobeaaDoorSY04
import Derived.Test.YtfbamkgmnbobeaaDoorSY17
/- Reading pages to be staged that came in. -/
namespace Go.Proofs.YtfbamkgmnbobeaaDoor
set_option linter.unusedSectionVars false
set_option linter.unusedSimpArgs false
open Go Go.RowKit Go.ChangeShapes Go.WideShapes Go.ChangeAt Go.Deep
set_option linter.unusedVariables false
def Sized {H : Type} (P : Program) (t : TypeId) (d : DataW H) : Prop := ∀ n ∈ d.weights P t, n ≤ reachBytes
section
variable {H : Type} {enc : TypeId × Value → H} {P : Program} {w : World} {base : Nat} {sp : Nat → Bool} {held : Bool} {t e : TypeId}
theorem sized_arg {ts : List TypeId} {ds : List (DataW H)} (h : (DataW.weightsEach P ts ds).all (· ≤ reachBytes) = true) {j : Nat} {d : DataW H} (ht : ts[j]? = some t) (hd : ds[j]? = some d) : Sized P t d := fun n hn => by
  have := List.all_eq_true.1 h _ (DataW.weights_mem_each ht hd n hn)
  simpa using this
theorem sized_part {fs : Array Field} {parts : List (DataW H)} (hu : P.underlying t = some (.struct fs)) (h : Sized P t (.agg parts)) {i : Nat} {f : Field} {d : DataW H} (hf : fs[i]? = some f) (hd : parts[i]? = some d) : Sized P f.type d := fun n hn => by
  refine h n ?_
  have : (DataW.agg parts).weights P t = DataW.weightsEach P (fs.toList.map (·.type)) parts := by simp [DataW.weights, hu]
  rw [this]
  exact DataW.weights_mem_each (j := i) (by simp [hf]) hd n hn
theorem weights_mem_all : ∀ {ds : List (DataW H)} {j : Nat} {d : DataW H}, ds[j]? = some d → ∀ n ∈ d.weights P e, n ∈ DataW.weightsAll P e ds
  | d0 :: ds, 0, d, hd, n, hn => by
    simp only [List.getElem?_cons_zero, Option.some.injEq] at hd
    subst hd
    simp only [DataW.weightsAll, List.mem_append]
    exact Or.inl hn
  | d0 :: ds, j + 1, d, hd, n, hn => by
    simp only [List.getElem?_cons_succ] at hd
    simp only [DataW.weightsAll, List.mem_append]
    exact Or.inr (weights_mem_all hd n hn)
  | [], _, _, hd, _, _ => by simp at hd
theorem sized_elem {es ss : List (DataW H)} (hu : P.underlying t = some (.slice e)) (h : Sized P t (.slice es ss)) {i : Nat} {d : DataW H} (hd : es[i]? = some d) : Sized P e d := fun n hn => by
  refine h n ?_
  simp only [DataW.weights, hu, List.mem_cons, List.mem_append]
  exact .inr (.inl (weights_mem_all hd n hn))
theorem sized_len {es ss : List (DataW H)} (hu : P.underlying t = some (.slice e)) (h : Sized P t (.slice es ss)) : (es.length + ss.length) * P.bytesOf e ≤ reachBytes :=
  h _ (by simp [DataW.weights, hu])
theorem chain_step {cs x : List Value} (o k : Nat) (h : (cs.drop o).take k = x) : cs.drop o = x ++ cs.drop (o + k) := by
  rw [← h, ← List.drop_drop, List.take_append_drop]
theorem trod_row {fuel : Nat} {cs : List Value} {x : DataW H × List MemPlace} (hsp : ∀ b, sp b = true) (ht : P.underlying t = some (.slice e)) (he : P.underlying e = some (.int .u8)) (hc : P.cellsOf e = 1) (hby : P.bytesOf e = 1)
    (h : DataW.trod enc P w base sp held fuel t cs = some x) :
    ∃ (ao : Option Addr) (n c : Nat) (l : List UInt8), cs = [.slice ao n c] ∧ InRow w ao n c l ∧ c ≤ maxLen ∧ (Sized P t x.1 → c ≤ 140737488351232) := by
  rcases open_ints ht he hc h with ⟨hcs, hx⟩ | ⟨a, len, cap, zs, hcs, _, hl, hm, hz, hx, hcell, hw⟩
  · exact ⟨none, 0, 0, [], hcs, ⟨Row.nil, fun _ => ⟨rfl, rfl⟩, Nat.le_refl _⟩, Nat.zero_le _, fun _ => by omega⟩
  · rw [hsp, if_pos rfl] at hz
    obtain ⟨l, hr⟩ := row_of_ints (len := len) (by omega) hcell hw
    refine ⟨some a, len, cap, l, hcs, ⟨hr, (fun h => by cases h), hl⟩, hm, fun hs => ?_⟩
    rw [hx] at hs
    have := sized_len ht hs
    rw [hby] at this
    simp only [lits, List.length_map, List.length_take, List.length_drop, reachBytes] at this
    omega
end
section
variable {H : Type} {enc : TypeId × Value → H} {P : Program} {w : World} {base : Nat} {sp : Nat → Bool} {held : Bool} {t e : TypeId}
def ListIn {α : Type} (cC : α → List Value) (k : Nat) (w : World) (ao : Option Addr) (n : Nat) (os : List α) : Prop :=
  os.length = n ∧ ∀ (i : Nat) (o : α), os[i]? = some o → ∃ b off, ao = some ⟨b, off, none⟩ ∧ w.rangeAt b (off + i * k) (cC o)
theorem open_list {α : Type} [Inhabited α] (cC : α → List Value) (k : Nat) (hk : ∀ o, (cC o).length = k) (hk0 : 0 < k) (ok : α → Prop) (ht : P.underlying t = some (.slice e)) (hct : P.cellsOf e = k) (hbt : 1 ≤ P.bytesOf e)
    (one : ∀ fuel cs x, DataW.trod enc P w base sp held fuel e cs = some x → Sized P e x.1 → ∃ o, cs = cC o ∧ ok o)
    {r : Reach} {b0 : Nat} {v : Value} {d : DataW H} {p : List MemPlace} (hv : Value.okWide P w r b0 t v) (h : DataW.Trod enc P w base sp held t v d p) (hs : Sized P t d) :
    ∃ (ao : Option Addr) (n c : Nat) (os : List α), v = .slice ao n c ∧ (ListIn cC k w ao n os ∧ n ≤ c) ∧ n ≤ 4611686018427387904 ∧ ∀ o ∈ os, ok o := by
  obtain ⟨a0, n, c, rfl⟩ := okWide_slice ht hv
  obtain ⟨fuel, hf⟩ := h
  rcases open_slice ht hf with ⟨hcs, hx⟩ | ⟨a, len, cap, m, f, D, Pl, hcs, _, hl, hm, hmm, hx, hel⟩
  · simp [Value.cells] at hcs
    obtain ⟨rfl, rfl, rfl⟩ := hcs
    exact ⟨none, 0, 0, [], rfl, ⟨⟨rfl, fun i o h => by simp at h⟩, Nat.le_refl _⟩, by omega, fun o ho => by cases ho⟩
  · simp [Value.cells] at hcs
    obtain ⟨rfl, rfl, rfl⟩ := hcs
    have hd : d = .slice ((List.range n).map D) ((List.range (m - n)).map fun j => D (n + j)) := (Prod.mk.inj hx).1
    rw [hd] at hs
    have hlen := sized_len ht hs
    have hn : n ≤ 4611686018427387904 := by
      simp only [List.length_map, List.length_range, reachBytes] at hlen
      have h1 : n * 1 ≤ (n + (m - n)) * P.bytesOf e := Nat.mul_le_mul (by omega) hbt
      omega
    have hnm : n ≤ m := by rw [hmm]; split <;> omega
    rw [hct] at hel
    have each : ∀ i, i < n → ∃ o : α, (∃ b off, a = ⟨b, off, none⟩ ∧ w.rangeAt b (off + i * k) (cC o)) ∧ ok o := by
      have one' : ∀ i, i < n → ∃ cs' : List Value, ∃ o : α, w.cells? base (a.add (i * k)) k = some cs' ∧ cs' = cC o ∧ ok o := fun i hi => by
        obtain ⟨cs', h1, h2⟩ := hel i (by omega)
        obtain ⟨o, h3, h4⟩ := one _ _ _ h2 (sized_elem (i := i) ht hs (by simp [hi]))
        exact ⟨cs', o, h1, h3, h4⟩
      intro i hi
      obtain ⟨cs', o, h1, rfl, h4⟩ := one' i hi
      obtain ⟨h3, hl', h5⟩ := World.cells?_some h1
      have hlo := hk o
      obtain ⟨b, off, s⟩ := a
      have hcell : ∀ j v, (cC o)[j]? = some v → w.cell? (((⟨b, off, s⟩ : Addr).add (i * k)).add j) = some v := by
        intro j v hv
        have := h5 j (by have := (List.getElem?_eq_some_iff.1 hv).1; omega)
        rw [this]; exact hv
      have hs0 : s = none := by
        obtain ⟨c0, o0, g1, rfl, _⟩ := one' 0 (by omega)
        have hl0 := hk o0
        obtain ⟨_, _, g5⟩ := World.cells?_some g1
        have := g5 0 (by omega)
        rw [List.getElem?_eq_getElem (by omega)] at this
        simpa [Addr.add] using World.cell?_spot this
      subst hs0
      refine ⟨o, ⟨b, off, rfl, fun j v hv => ?_⟩, h4⟩
      have := hcell j v hv
      rw [Addr.add_mid, Addr.add_mid] at this
      exact this
    obtain ⟨V, hV⟩ := choose_lt (α := α) (p := fun i o => (∃ b off, a = ⟨b, off, none⟩ ∧ w.rangeAt b (off + i * k) (cC o)) ∧ ok o) each
    refine ⟨some a, n, c, (List.range n).map V, rfl, ⟨⟨by simp, fun i o hi => ?_⟩, hl⟩, hn, fun o ho => ?_⟩
    · obtain ⟨hi', rfl⟩ : i < n ∧ V i = o := by
        rw [List.getElem?_map] at hi
        rcases Nat.lt_or_ge i n with h | h
        · rw [List.getElem?_range h] at hi
          exact ⟨h, by simpa using hi⟩
        · rw [List.getElem?_eq_none (by simpa using h)] at hi; simp at hi
      obtain ⟨⟨b, o, rfl, hr⟩, _⟩ := hV i hi'
      exact ⟨b, o, rfl, hr⟩
    · obtain ⟨i, hi, rfl⟩ := List.mem_map.1 ho
      exact (hV i (by simpa using hi)).2
end
def MadeIn (w : World) (a : MV) : Prop := Row w a.ao a.n a.l ∧ (a.ao = none → a.n = 0 ∧ a.c = 0) ∧ a.n ≤ a.c ∧ a.c ≤ 140737488351232
section
variable {H : Type} {enc : TypeId × Value → H} {w : World} {base : Nat} {sp : Nat → Bool} {held : Bool}
theorem field_of {fs : Array Field} {i t o : Nat} (h : (fs[i]?).map (fun f => (f.type, f.offset)) = some (t, o)) : ∃ f, fs[i]? = some f ∧ f.type = t ∧ f.offset = o := by
  cases hf : fs[i]? with
  | none => rw [hf] at h; cases h
  | some f => rw [hf] at h; simp only [Option.map_some, Option.some.injEq, Prod.mk.injEq] at h; exact ⟨f, rfl, h.1, h.2⟩
theorem trod_made {fuel : Nat} {cs : List Value} {x : DataW H × List MemPlace} (hsp : ∀ b, sp b = true) (h : DataW.trod enc Tryd.prog w base sp held fuel 57 cs = some x) (hs : Sized Tryd.prog 57 x.1) :
    ∃ (o : MV), cs = madeC o ∧ MadeIn w o := by
  have hu : Tryd.prog.underlying 57 = some (.struct (Tryd.prog.fieldsOf 57)) := by kernel_rfl
  obtain ⟨xs, n, _, hx, hlen, hxl, hf⟩ := DataW.trod_struct hu h
  have hfs : (Tryd.prog.fieldsOf 57).size = 2 := by kernel_rfl
  have hct : Tryd.prog.cellsOf 57 = 2 := by kernel_rfl
  rw [hfs] at hxl
  rw [hct] at hlen
  have ci : Tryd.prog.cellsOf 3 = 1 := by kernel_rfl
  have cb : Tryd.prog.cellsOf 23 = 1 := by kernel_rfl
  have c8 : Tryd.prog.cellsOf 5 = 1 := by kernel_rfl
  have by8 : Tryd.prog.bytesOf 5 = 1 := by kernel_rfl
  have get : ∀ (i t o : Nat), i < 2 → ((Tryd.prog.fieldsOf 57)[i]?).map (fun f => (f.type, f.offset)) = some (t, o) → ∃ y, DataW.trod enc Tryd.prog w base sp held n t ((cs.drop o).take (Tryd.prog.cellsOf t)) = some y ∧ Sized Tryd.prog t y.1 := fun i t o hi h => by
    obtain ⟨f, h1, rfl, rfl⟩ := field_of h
    have hy : xs[i]? = some (xs[i]'(by omega)) := List.getElem?_eq_getElem (by omega)
    refine ⟨_, (hf i f h1).trans hy, ?_⟩
    rw [hx] at hs
    exact sized_part hu hs h1 (by simp [hy])
  obtain ⟨y0, t0, _⟩ := get 0 3 0 (by omega) (by kernel_rfl)
  obtain ⟨y2, t2, s2⟩ := get 1 23 1 (by omega) (by kernel_rfl)
  rw [ci] at t0
  rw [cb] at t2
  obtain ⟨a0, e0, _, w0⟩ := DataW.trod_int Tryd.underlying3 t0
  obtain ⟨ao, m, c, l, e7, hr, hm, hsv⟩ := trod_row hsp Tryd.underlying23 Tryd.underlying5 c8 by8 t2
  refine ⟨⟨a0, ao, m, c, l⟩, ?_, ⟨hr.1, hr.2.1, hr.2.2, hsv s2⟩⟩
  have q0 := chain_step 0 1 e0
  rw [List.drop_zero] at q0
  rw [q0, chain_step (0 + 1) 1 e7, List.drop_of_length_le (by omega)]
  simp [madeC]
end
theorem Mem.range {w0 w : World} {F : List Nat} {L : List Asn} (h : Mem w0 F w L) {b o : Nat} {ys : List Value} (hr : w0.rangeAt b o ys) (hF : b ∉ F) : w.rangeAt b o ys := fun j v hj => by
  have h1 := hr j v hj
  exact (World.cell?_of_block (w := w0) (w' := w) (a := ⟨b, o + j, none⟩) (h.old (block_lt_of_cell h1) hF)).trans h1
theorem Mem.off_row {w0 w : World} {L : List Asn} (h : Mem w0 [] w L) {ao : Option Addr} {n : Nat} {l : List UInt8} (hr : Row w0 ao n l) : ∀ b o, ao = some ⟨b, o, none⟩ → 0 < n → b ∉ foots L := by
  intro b o e hn
  obtain ⟨b', o', e', hc⟩ := hr.2 0 (by rw [hr.1]; exact hn)
  rw [e'] at e
  cases e
  exact h.old_off (block_lt_of_cell hc) (by simp)
theorem Mem.below {w w' : World} {L : List Asn} (h : Mem w [] w' L) : Below w.heap.size w w' := ⟨h.grew.os, h.grew.tape, h.grew.output, h.grew.size, fun k hk => h.grew.block k hk (by simp)⟩
theorem mades_of {w0 w : World} {L : List Asn} (h : Mem w0 [] w L) {aa : Option Addr} {n : Nat} {ms : List MV} (hl : ListIn madeC 2 w0 aa n ms) (hok : ∀ m ∈ ms, MadeIn w0 m) : MadesIn w (foots L) aa ms :=
  ⟨fun i m hm => by
    obtain ⟨b, off, e, hr⟩ := hl.2 i m hm
    exact ⟨b, off, e, h.range hr (by simp), h.old_off (block_lt_of_cell (hr 0 _ rfl)) (by simp)⟩,
   fun m hm => ⟨h.row (hok m hm).1 (by simp), by have h1 := (hok m hm).2.2; omega, h.off_row (hok m hm).1⟩⟩
end Go.Proofs.YtfbamkgmnbobeaaDoor

/- The statements' own stages and loads. -/
namespace Go.Proofs.YtfbamkgmnbobeaaDoor
set_option linter.unusedSectionVars false
open Go Go.RowKit
set_option maxRecDepth 100000
set_option maxHeartbeats 40000000
set_option linter.unusedVariables false
set_option linter.unusedSimpArgs false
theorem take_snoc_map {α β : Type} {l : List α} {i : Nat} {m : α} (f : α → β) (h : l[i]? = some m) : (l.take (i + 1)).map f = (l.take i).map f ++ [f m] := by
  obtain ⟨hi, rfl⟩ := List.getElem?_eq_some_iff.1 h
  rw [List.take_succ_eq_append_getElem hi, List.map_append]
  rfl
theorem stages_any {D : DV} {V : FV} {C : CS} {X : SX} {s f p pg mb : Nat} {qv : Value} {w : World} (hM : zM w [disk D p pg mb qv, blk f 88 (fC V p), sto C V.s.mark s f X]) {pz : Pgs} (hSI : SInv D V C pz) (ms : List MV) (aa : Option Addr) (ac : Nat) (hms : MadesIn w (foots [disk D p pg mb qv, blk f 88 (fC V p), sto C V.s.mark s f X]) aa ms) (hfit : V.s.mark + (C.kp.length : Int) + (ms.length : Int) ≤ (D.pages.length : Int)) (hXn : X.x.n + ms.length < 100000000000000) : zC 9 [zP s 0, .slice aa ms.length ac, zI (V.s.mark + (C.kp.length : Int))] w fun e' w' => ∃ C' X', e' = .returned (.bool true) ∧ SInv D V C' pz ∧ C'.kp.map enP = C.kp.map enP ++ ms.map mkP ∧ X'.x.n ≤ X.x.n + ms.length ∧ zD w [disk D p pg mb qv, blk f 88 (fC V p), sto C V.s.mark s f X] w' [disk D p pg mb qv, blk f 88 (fC V p), sto C' V.s.mark s f X'] := by
 have M := hM;clear hM;have hpl : D.pages.length ≤ 4096 := hSI.inv.ok.hi;have hmk := (sto_ok (M.get 2 rfl)).mk2;go_enter Tryd.func9, Tryd.ntmps9;refine zin ?_;refine zk fun K1 hK1 => zr ?_;refine zp 1 rfl ?_;refine zw (hK1 _ _ (zk fun K2 hK2 => zk fun K3 hK3 => zr ?_));refine zp 1 rfl ?_;refine zw (hK3 _ _ (zbl ?_));refine zlp (fun n' a' w' => ∃ (i : Nat) (Ck : CS) (Xk : SX) (us4 : List Value), n' = (ms.length - i) ∧ a' = (⟨#[zP s 0, .slice aa ms.length ac, zI (V.s.mark + (C.kp.length : Int)), undef, undef, undef, (zU us4 0), zI (i : Int), (zU us4 1), (zU us4 2), (zU us4 3), (zU us4 4), (zU us4 5), (zU us4 6), (zU us4 7), (zU us4 8), (zU us4 9), (zU us4 10), (zU us4 11), (zU us4 12), (zU us4 13), (zU us4 14), (zU us4 15), (zU us4 16), (zU us4 17), (zU us4 18), (zU us4 19), (zU us4 20), (zU us4 21), (zU us4 22), (zU us4 23), (zU us4 24), (zU us4 25), (zU us4 26), (zU us4 27), (zU us4 28), (zU us4 29), (zU us4 30), (zU us4 31), (zU us4 32), (zU us4 33), (zU us4 34)], []⟩ : Act) ∧ (SInv D V Ck pz) ∧ (Ck.kp.map enP = C.kp.map enP ++ (ms.take i).map mkP) ∧ (Xk.x.n ≤ X.x.n + i) ∧ (i ≤ ms.length) ∧ zD w [disk D p pg mb qv, blk f 88 (fC V p), sto C V.s.mark s f X] w' [disk D p pg mb qv, blk f 88 (fC V p), sto Ck V.s.mark s f Xk]) (ms.length - 0) ⟨0, C, X, [.bool false, undef, undef, undef, undef, undef, undef, undef, undef, undef, undef, undef, undef, undef, undef, undef, undef, undef, undef, undef, undef, undef, undef, undef, undef, undef, undef, undef, undef, undef, undef, undef, undef, undef, undef], rfl, (zmk (by kernel_rfl)), hSI, by simp, Nat.le_refl _, Nat.zero_le _, (M.arr [0, 1, 2] (by decide))⟩ ?_;clear M;rintro n' a' w5 ⟨i, Ck, Xk, us4, rfl, rfl, hSt, hkp, hxn, hi, M5⟩;refine zin ?_;refine zk fun K6 hK6 => zk fun K7 hK7 => zr ?_;refine zp 2 rfl (zo M5 (y_len (zwn rfl) rfl (zev rfl) zu22) ?_);rcases zem ((i : Int) < (ms.length : Int)) with h8 | h8
 ·obtain ⟨m, hm⟩ : ∃ m, ms[i]? = some m := ⟨_, List.getElem?_eq_getElem (by omega)⟩;obtain ⟨ga, oa, hao, hra, hgF⟩ := hms.el i m hm;obtain ⟨hrow, hmn, hmo⟩ := hms.row m (List.mem_of_getElem? hm);refine zo M5 (zlss rfl (zT h8)) ?_;refine zw (hK7 _ _ (zct rfl (zsk (hK6 _ _ (zk fun K9 hK9 => ?_)))));refine zbl (zk fun K10 hK10 => ?_);have M11 := M5.drew;have hzM11 := M11.pk [];simp only[Y3,Y4,Y1,Y2]at hzM11;refine zhb hzM11 (by kernel_rfl) fun hS => ?_;refine zt 0 rfl (zy rfl) hS (zt 1 rfl (zy rfl) hS (zt 2 rfl (zy rfl) hS ?_));refine zt 3 rfl (y_ias (r := oa + i * 2) (zwn rfl) rfl ((zev rfl).trans (congrArg (fun z => Value.slice z ms.length ac) hao)) (zev rfl) zu22 Tryd.sizeOf57 (by first | omega | (dsimp only; omega)) (by first | omega | (dsimp only; omega))) hS (zt 4 rfl (zf (oa + i * 2) Tryd.underlying57 rfl zz3) hS ?_);refine zt 5 rfl (y_loadc (v := zI m.k) (zwn rfl) rfl (zev rfl) zg3 (fun W hW => (hW.range hra hgF) 0 _ rfl)) hS (zt 7 rfl (zy rfl) hS (zt 8 rfl (zy rfl) hS ?_));refine zt 9 rfl (y_ias (r := oa + i * 2) (zwn rfl) rfl ((zev rfl).trans (congrArg (fun z => Value.slice z ms.length ac) hao)) (zev rfl) zu22 Tryd.sizeOf57 (by first | omega | (dsimp only; omega)) (by first | omega | (dsimp only; omega))) hS (zt 10 rfl (zf (oa + i * 2 + 1) Tryd.underlying57 rfl Tryd.sizeOf23) hS ?_);refine zt 11 rfl (y_loadc (v := .slice m.ao m.n m.c) (zwn rfl) rfl (zev rfl) Tryd.isAgg23 (fun W hW => (hW.range hra hgF) 1 _ rfl)) hS ?_;refine held_step 6 (by kernel_rfl) rfl (zwn rfl) (fun K hK => ?_);refine e_call 10 [zI m.k, zI 1, zI 3] rfl (zls_eval rfl) Tryd.call10 ((mkP_kind m ▸ nwhole_any m.k 1 3 (by decide) (by decide) (by decide))) ?_;rintro e w12 ⟨rfl, H12⟩;have M12 := M11.step H12;simp only[Y1,Y2]at M12;refine ⟨_, rfl, ?_⟩;refine hK.out _ _ (M12.arr [] (by decide)) (fun hS => zpa ?_);refine held_step 12 (by kernel_rfl) rfl (zwn rfl) (fun K hK => ?_);refine e_call 21 [.slice m.ao m.n m.c, zI 246] rfl (zls_eval rfl) Tryd.call21 (short_any m.ao m.n m.c 246 m.l (M12.row hrow hmo) (by decide) hmn) ?_;rintro e w13 ⟨a7, c7, rfl, H13⟩;have M13 := M12.step H13;simp only[Y1,Y2]at M13;refine ⟨_, rfl, ?_⟩;refine hK.out _ _ (M13.arr [] (by decide)) (fun hS => zpa ?_);have hbl := M13.get 0 rfl;have hb9 := bytesL_nil hbl;have hof : ∀ b₁ o, a7 = some ⟨b₁, o, none⟩ → 0 < (m.l.take 246).length → b₁ ∉ foots [disk D p pg mb qv, blk f 88 (fC V p), sto Ck V.s.mark s f Xk] := fun b₁ o e _ => Mem.off3 (M13.arr [0, 1, 2, 3] (by decide)) (by subst e; simp [bytesL, lst, obs, Value.ownBlock]);have hkl : Ck.kp.length = C.kp.length + i := by have := congrArg List.length hkp; simp only [List.length_append, List.length_map, List.length_take] at this; omega
  have hwk := mkP_kind m;have hX14 : zD w [disk D p pg mb qv, blk f 88 (fC V p), sto C V.s.mark s f X] w13 ([disk D p pg mb qv, blk f 88 (fC V p), sto Ck V.s.mark s f Xk] ++ [bytesL (.slice a7 (m.l.take 246).length c7) (m.l.take 246)]) := M13.arr [1, 2, 3, 0] (by decide);have hCH14 := sstage_ok (Mem.h3 hX14) hSt (mkP m).1 a7 (m.l.take 246).length c7 (m.l.take 246) (mkP_ok m) (bytesL_row hbl) hb9.2.2.2 hof (by omega) (by omega);refine held_step 13 (by kernel_rfl) rfl (zwn rfl) (fun K hK => ?_);refine e_call 29 [zP s 0, zI ((mkP m).1 : Int), .slice a7 ((m.l.take 246).length) c7] rfl (zls_eval rfl) Tryd.call29 (hCH14) ?_;rintro e w14 ⟨C2, X2, rfl, hS2, hk2, hx2, H14⟩;have M14 : zD w [disk D p pg mb qv, blk f 88 (fC V p), sto C V.s.mark s f X] w14 [disk D p pg mb qv, blk f 88 (fC V p), sto C2 V.s.mark s f X2, bytesL (.slice a7 (m.l.take 246).length c7) (m.l.take 246)] := Mem.f3 hX14 H14;refine ⟨_, rfl, ?_⟩;refine hK.out _ _ (M14.arr [] (by decide)) (fun hS => zpa ?_);refine zt 14 rfl (zy rfl) hS (zt 15 rfl (zy rfl) hS (zt 16 rfl (zy rfl) hS (zt 17 rfl (zy rfl) hS (zt 18 rfl (zy rfl) hS ?_))));refine held_done (by kernel_rfl) (hK10 _ _ ?_) _;refine zk fun K15 hK15 => zr ?_;refine zp 1 rfl (zo M14 (zneq (b := false) rfl (by rw [decide_eq_true (by decide)]; rfl)) (zp 4 rfl (zo M14 (y_add (r := V.s.mark + (C.kp.length : Int) + (i : Int)) (zwn rfl) rfl (zev rfl) (zev rfl) (rfl) (by omega)) (zo M14 (zneq (b := false) rfl (by rw [decide_eq_true (by omega)]; rfl)) ?_))));refine zp 1 rfl ?_;refine zw (hK15 _ _ (zcf rfl (zsk (hK9 _ _ (zr ?_)))));refine zp 1 rfl (zo M14 (y_add (r := (i : Int) + 1) (zwn rfl) rfl (zev rfl) (zev rfl) (rfl) (by omega)) (zp 1 rfl ?_));refine zw ?_;refine ⟨_, ?_, i + 1, C2, X2, [(zU us4 0), zI (V.s.mark + (Ck.kp.length : Int)), zI 0, zI (i : Int), .slice aa ms.length ac, zI (ms.length : Int), .bool true, zI (i : Int), zI ((i : Int) + 1), .tuple #[zI (V.s.mark + (Ck.kp.length : Int)), zI 0], zP s 0, .slice aa ms.length ac, zI (i : Int), zP ga (oa + i * 2), zP ga (oa + i * 2), zI m.k, zI ((mkP m).1 : Int), .slice aa ms.length ac, zI (i : Int), zP ga (oa + i * 2), zP ga (oa + i * 2 + 1), .slice m.ao m.n m.c, .slice a7 ((m.l.take 246).length) c7, .tuple #[zI (V.s.mark + (Ck.kp.length : Int)), zI 0], zI (V.s.mark + (Ck.kp.length : Int)), zI 0, zI 0, .bool false, .bool false, zI (V.s.mark + (Ck.kp.length : Int)), zI (V.s.mark + (C.kp.length : Int)), zI (i : Int), zI (V.s.mark + (C.kp.length : Int) + (i : Int)), .bool false, .bool false], rfl, (zmk (by kernel_rfl)), hS2, (by rw [hk2, hkp, take_snoc_map mkP hm, List.append_assoc]; rfl), by omega, by omega, (M14.arr [0, 1, 2] (by decide))⟩;omega
 ·refine zo M5 (zlss rfl (zF h8)) ?_;refine zw (hK7 _ _ (zcf rfl (zx (hK2 _ _ (zk fun K16 hK16 => ?_)))));refine zr ?_;refine zp 1 rfl ?_;refine zw (hK16 _ _ (zrt ?_));(try simp only[zi,zj]);refine zR (v := .bool true) (res1 rfl (zgd rfl)) (zdf _) ?_;have hie : i = ms.length := by omega
  subst hie;exact ⟨Ck, Xk, rfl, hSt, by rw [hkp, List.take_length], hxn, (M5.arr [0, 1, 2] (by decide))⟩
theorem same8_any (a0 a1 : Option Addr) (n0 c0 n1 c1 : Nat) (l0 l1 : List UInt8) {w : World} (h0 : Row w a0 n0 l0) (h1 : Row w a1 n1 l1) (m0 : n0 ≤ maxLen) (m1 : n1 ≤ maxLen) (he : l0 = l1 := by rfl) :
    Calls Tryd.prog 17 #[.slice a0 n0 c0, .slice a1 n1 c1] w fun e w' => e = .returned (.bool true) ∧ Mem w [] w' [] := by
  refine (sameBytes_any a0 a1 n0 c0 n1 c1 l0 l1 w h0 h1 m0 m1).mono ?_
  rintro e w' ⟨rfl, q, rfl⟩
  subst he
  exact ⟨by rw [eqB_true rfl], (Mem.nil w).low (below_drewN2 (Below.refl _ _) q)⟩
end Go.Proofs.YtfbamkgmnbobeaaDoor

/- The conversion of a literal's row to its own type: the place behind its last cell is marked. No program in sight. -/
namespace Go.Proofs.YtfbamkgmnbobeaaDoor
set_option linter.unusedSectionVars false
set_option linter.unusedSimpArgs false
open Go Go.RowKit
set_option linter.unusedVariables false
section
variable {P : Program} {Q : Exit → Act → World → Prop} {o : Oper} {a : Act} {w w0 : World} {K : Act → World → Prop} {x : Operand} {t e : TypeId} {F : List Nat} {L : List Asn}
end
end Go.Proofs.YtfbamkgmnbobeaaDoor

/- The statements' own known; New and Flush where all is well. -/
namespace Go.Proofs.YtfbamkgmnbobeaaDoor
set_option linter.unusedSectionVars false
open Go Go.RowKit
set_option linter.unusedVariables false
set_option linter.unusedSimpArgs false
theorem SInv.fresh {D : DV} {V : FV} {pz : Pgs} (h : Inv D V pz) (hnx : V.next = V.s.mark) (room : Int) : SInv D V (newC room) pz :=
  ⟨h, hnx, fun e he => (by cases he), fun e he => (by cases he), by have := h.nextp; show V.s.mark + ((0 : Nat) : Int) ≤ _; omega⟩
theorem fv_same {V : FV} (h : V.next = V.s.mark) : ({ V with next := V.s.mark } : FV) = V := by
  rw [← h]
theorem snew_fit {D : DV} {V : FV} {f p pg mb : Nat} {qv : Value} {w : World} (hM : Mem w (foots [disk D p pg mb qv, blk f 88 (fC V p)]) w [disk D p pg mb qv, blk f 88 (fC V p)]) {pz : Pgs} (hI : Inv D V pz) (hnx : V.next = V.s.mark) (room : Int) (hr : 0 ≤ room ∧ room ≤ 4096) :
    Calls Tryd.prog 28 #[.pointer (some ⟨f, 0, none⟩), .int .i64 room] w fun e' w' => ∃ s X, e' = .returned (.tuple #[.pointer (some ⟨s, 0, none⟩), .int .i64 0]) ∧ X.x.n = 0 ∧ SInv D V (newC room) pz ∧ Mem w (foots [disk D p pg mb qv, blk f 88 (fC V p)]) w' [disk D p pg mb qv, blk f 88 (fC V p), sto (newC room) V.s.mark s f X] := by
  have h2 := hI.plat.mark2
  have h3 := hI.plat.markp
  have h4 := hI.ok.hi
  refine (snew_ok hM room hI.isLive (by omega) (by omega) ⟨h2, by omega⟩).mono ?_
  rintro e' w' ⟨s, X, rfl, hn, h⟩
  rw [fv_same hnx] at h
  exact ⟨s, X, rfl, hn, SInv.fresh hI hnx room, h⟩
theorem stages_at {D : DV} {V : FV} {C : CS} {X : SX} {s f p pg mb : Nat} {qv : Value} {w : World} (hM : Mem w (foots [disk D p pg mb qv, blk f 88 (fC V p), sto C V.s.mark s f X]) w [disk D p pg mb qv, blk f 88 (fC V p), sto C V.s.mark s f X]) {pz : Pgs} (hSI : SInv D V C pz) (ms : List MV) (aa : Option Addr) (ac : Nat) (hms : MadesIn w (foots [disk D p pg mb qv, blk f 88 (fC V p), sto C V.s.mark s f X]) aa ms) (fr : Int) (hfr : fr = V.s.mark + (C.kp.length : Int)) (hfit : V.s.mark + (C.kp.length : Int) + (ms.length : Int) ≤ (D.pages.length : Int)) (hXn : X.x.n + ms.length < 100000000000000) :
    Calls Tryd.prog 9 #[.pointer (some ⟨s, 0, none⟩), .slice aa ms.length ac, .int .i64 fr] w fun e' w' => ∃ C' X', e' = .returned (.bool true) ∧ SInv D V C' pz ∧ C'.kp.map enP = C.kp.map enP ++ ms.map mkP ∧ X'.x.n ≤ X.x.n + ms.length ∧ Mem w (foots [disk D p pg mb qv, blk f 88 (fC V p), sto C V.s.mark s f X]) w' [disk D p pg mb qv, blk f 88 (fC V p), sto C' V.s.mark s f X'] := by
  subst hfr
  exact stages_any hM hSI ms aa ac hms hfit hXn
theorem cut_mades (aa : Option Addr) (an ac : Nat) (ms : List MV) (k : Nat) (hl : ms.length = an) (hc : an ≤ ac) {w : World} : Calls Tryd.prog 8 #[.slice aa an ac, .int .i64 (k : Int)] w fun e w' => e = .returned (.slice aa (ms.take k).length ac) ∧ Mem w [] w' [] := by
  have h := cut_any aa an ac k hc (w := w)
  rw [List.length_take, hl, Nat.min_comm k an]
  exact h
theorem MadesIn.same {w w' : World} {F F' : List Nat} {aa : Option Addr} {ms : List MV} (h : MadesIn w F aa ms) : True := trivial
end Go.Proofs.YtfbamkgmnbobeaaDoor
