/- Texts joined. -/
import Derived.Test.YtodhlfinbbajfaaGreatDoorGF00
import Derived.ProofKit
import Derived.OpenShut
import Derived.Deep.Slices
import Derived.SizedLaws
import Derived.Test.YtodhlfinbbajfaaGreatDoorRows
import Derived.Test.YtodhlfinbbajfaaGreatDoorGF20
import Derived.Test.YtodhlfinbbajfaaGreatDoorGF03
namespace Go.Proofs.YtodhlfinbbajfaaGreatDoor
open Go Go.RowKit
set_option linter.unusedVariables false
set_option linter.unusedSimpArgs false
set_option linter.unusedSectionVars false
set_option maxRecDepth 100000
set_option maxHeartbeats 40000000
section
open Go Go.RowKit Go.ChangeShapes Go.WideShapes Go.ChangeAt Go.Deep
instance : Inhabited D32 := ⟨Jy5⟩
section
variable {H : Type} {enc : TypeId × Value → H} {P : Program} {w : World} {base : Nat} {sp : Nat → Bool} {held : Bool} {t e : TypeId}
def InRow (w : World) (ao : Option Addr) (n c : Nat) (l : List UInt8) : Prop :=
  Row w ao n l ∧ (ao = none → n = 0 ∧ c = 0) ∧ n ≤ c
theorem Jp0 {a : Addr} {zs : List Int} {len : Nat} (hl : len ≤ zs.length) (hc : ∀ i, i < zs.length → w.cell? (a.add i) = some (.int .u8 (zs.getD i 0))) (hw : ∀ n ∈ zs, (Lit.int .u8 n).wf = true) :
    ∃ l : List UInt8, Row w (some a) len l := by
 refine ⟨(zs.take len).map fun z => UInt8.ofNat z.toNat, by simp; omega, fun i hi => ?_⟩;have hi' : i < len := by simp at hi; omega
 have h1 := hc i (by omega);have h0 := hc 0 (by omega);obtain ⟨b, o, s⟩ := a;have hs : s = none := by simpa [Addr.add] using World.cell?_spot h0
 subst hs;refine ⟨b, o, rfl, ?_⟩;rw [Addr.add_mid] at h1;rw [h1, List.getElem_map, List.getElem_take];have hiz : i < zs.length := by omega
 have hwi := bounds_u8 (hw _ (List.getElem_mem hiz));have : zs.getD i 0 = zs[i]'(by omega) := by simp [List.getD, List.getElem?_eq_getElem (show i < zs.length by omega)]
 rw [this, UInt8.toNat_ofNat'];congr 2;omega
end
end
section
open Go
theorem Jvk {H : Type} (d : DataW H) : 1 ≤ Rows.uptoBulk d := by
 cases d with
 | lit l => cases l <;> simp [Rows.uptoBulk];| _ => simp [Rows.uptoBulk]
theorem Jm5 {H : Type} : ∀ l : List (DataW H), l.length ≤ Rows.uptoBulkAll l
  | [] => by simp
  | d :: l => by
    have h1 := Jvk d
    have h2 := Jm5 l
    simp only [Rows.uptoBulkAll, List.length_cons]
    omega
theorem Jh5 {H : Type} {d : DataW H} : ∀ {l : List (DataW H)}, d ∈ l → Rows.uptoBulk d ≤ Rows.uptoBulkAll l
  | x :: l, h => by
    simp only [Rows.uptoBulkAll]
    rcases List.mem_cons.1 h with rfl | h
    · omega
    · have := Jh5 h; omega
theorem Jl9 {H : Type} (es ss : List (DataW H)) : es.length + ss.length ≤ Rows.uptoBulk (.slice es ss) := by
 have h1 := Jm5 es;have h2 := Jm5 ss;simp only [Rows.uptoBulk];omega
theorem Jrm {H : Type} {l : List (DataW H)} (hk : Rows.uptoSmall H l = true) : Rows.uptoBulkAll l ≤ 1048576 := of_decide_eq_true hk
end
section
open Go.ChangeShapes Go.WideShapes Go.ChangeAt Go.Deep
def Jil {H : Type} (P : Program) (t : TypeId) (d : DataW H) : Prop := ∀ n ∈ d.weights P t, n ≤ reachBytes
section
variable {H : Type} {enc : TypeId × Value → H} {P : Program} {w : World} {base : Nat} {sp : Nat → Bool} {held : Bool} {t e : TypeId}
theorem Jt3 {ts : List TypeId} {ds : List (DataW H)} (h : (DataW.weightsEach P ts ds).all (· ≤ reachBytes) = true) {j : Nat} {d : DataW H} (ht : ts[j]? = some t) (hd : ds[j]? = some d) : Jil P t d := fun n hn => by
  have := List.all_eq_true.1 h _ (DataW.weights_mem_each ht hd n hn)
  simpa using this
theorem Jj7 {fs : Array Field} {parts : List (DataW H)} (hu : P.underlying t = some (.struct fs)) (h : Jil P t (.agg parts)) {i : Nat} {f : Field} {d : DataW H} (hf : fs[i]? = some f) (hd : parts[i]? = some d) : Jil P f.type d := fun n hn => by
  refine h n ?_
  have : (DataW.agg parts).weights P t = DataW.weightsEach P (fs.toList.map (·.type)) parts := by simp [DataW.weights, hu]
  rw [this]
  exact DataW.weights_mem_each (j := i) (by simp [hf]) hd n hn
theorem Jhn : ∀ {ds : List (DataW H)} {j : Nat} {d : DataW H}, ds[j]? = some d → ∀ n ∈ d.weights P e, n ∈ DataW.weightsAll P e ds
  | d0 :: ds, 0, d, hd, n, hn => by
    simp only [List.getElem?_cons_zero, Option.some.injEq] at hd
    subst hd
    simp only [DataW.weightsAll, List.mem_append]
    exact Or.inl hn
  | d0 :: ds, j + 1, d, hd, n, hn => by
    simp only [List.getElem?_cons_succ] at hd
    simp only [DataW.weightsAll, List.mem_append]
    exact Or.inr (Jhn hd n hn)
  | [], _, _, hd, _, _ => by simp at hd
theorem Jr2 {es ss : List (DataW H)} (hu : P.underlying t = some (.slice e)) (h : Jil P t (.slice es ss)) {i : Nat} {d : DataW H} (hd : es[i]? = some d) : Jil P e d := fun n hn => by
  refine h n ?_
  simp only [DataW.weights, hu, List.mem_cons, List.mem_append]
  exact .inr (.inl (Jhn hd n hn))
theorem Jol {es ss : List (DataW H)} (hu : P.underlying t = some (.slice e)) (h : Jil P t (.slice es ss)) : (es.length + ss.length) * P.bytesOf e ≤ reachBytes :=
  h _ (by simp [DataW.weights, hu])
theorem Jck {cs x : List Value} (o k : Nat) (h : (cs.drop o).take k = x) : cs.drop o = x ++ cs.drop (o + k) := by
 rw [← h, ← List.drop_drop, List.take_append_drop]
end
section
variable {H : Type} {enc : TypeId × Value → H} {P : Program} {w : World} {base : Nat} {sp : Nat → Bool} {held : Bool} {t e : TypeId}
def Jiq {α : Type} (cC : α → List Value) (k : Nat) (w : World) (ao : Option Addr) (n : Nat) (os : List α) : Prop :=
  os.length = n ∧ ∀ (i : Nat) (o : α), os[i]? = some o → ∃ b off, ao = some ⟨b, off, none⟩ ∧ w.rangeAt b (off + i * k) (cC o)
end
deriving instance Inhabited for OpV
section
variable {H : Type} {enc : TypeId × Value → H} {P : Program} {w : World} {base : Nat} {sp : Nat → Bool} {held : Bool} {t e : TypeId}
theorem Jom {fuel : Nat} {cs : List Value} {x : DataW H × List MemPlace} (hsp : ∀ b, sp b = true) (ht : P.underlying t = some (.slice e)) (he : P.underlying e = some (.int .u8)) (hc : P.cellsOf e = 1) (hby : P.bytesOf e = 1)
    (h : DataW.trod enc P w base sp held fuel t cs = some x) :
    ∃ (ao : Option Addr) (n c : Nat) (l : List UInt8), cs = [.slice ao n c] ∧ InRow w ao n c l ∧ (Jil P t x.1 → c ≤ 140737488351232) ∧ n ≤ Rows.uptoBulk x.1 := by
 rcases open_ints ht he hc h with ⟨hcs, hx⟩ | ⟨a, len, cap, zs, hcs, _, hl, hm, hz, hx, hcell, hw⟩
 ·exact ⟨none, 0, 0, [], hcs, ⟨Row.nil, fun _ => ⟨rfl, rfl⟩, Nat.le_refl _⟩, fun _ => by omega, Nat.zero_le _⟩
 ·rw [hsp, if_pos rfl] at hz;obtain ⟨l, hr⟩ := Jp0 (len := len) (by omega) hcell hw;refine ⟨some a, len, cap, l, hcs, ⟨hr, (fun h => by cases h), hl⟩, fun hs => ?_, ?_⟩
  ·rw [hx] at hs;have := Jol ht hs;rw [hby] at this;simp only [lits, List.length_map, List.length_take, List.length_drop, reachBytes] at this;omega
  ·rw [hx];refine Nat.le_trans ?_ (Jl9 _ _);simp only [lits, List.length_map, List.length_take, List.length_drop];omega
end
section
variable {H : Type} {enc : TypeId × Value → H} {w : World} {base : Nat} {sp : Nat → Bool} {held : Bool}
theorem Jnl {fs : Array Field} {i t o : Nat} (h : (fs[i]?).map (fun f => (f.type, f.offset)) = some (t, o)) : ∃ f, fs[i]? = some f ∧ f.type = t ∧ f.offset = o := by
 cases hf : fs[i]? with
 | none => rw [hf] at h; cases h;| some f => rw [hf] at h; simp only [Option.map_some, Option.some.injEq, Prod.mk.injEq] at h; exact ⟨f, rfl, h.1, h.2⟩
def Jzg (w : World) (ao : Option Addr) (n c : Nat) (l : List UInt8) : Prop := Row w ao n l ∧ (ao = none → n = 0 ∧ c = 0) ∧ n ≤ c ∧ c ≤ 140737488351232 ∧ n ≤ 1048576
def OpIn (w : World) (o : OpV) : Prop := Jzg w o.ao o.rn o.rc o.l ∧ inI o.n
def StIn (w : World) (s : StV) : Prop := Jzg w s.ao s.rn s.rc s.l
theorem Jzh {n : Int} (h : (Lit.int .u32 n).wf = true) : Value.int .u32 n = .int .u32 ((UInt32.ofNat n.toNat).toNat : Int) := by
 have := bounds_u32 h;congr 1;rw [UInt32.toNat_ofNat'];omega
set_option maxRecDepth 100000 in
theorem Jmi {fuel : Nat} {cs : List Value} {x : DataW H × List MemPlace} (hsp : ∀ b, sp b = true) (h : DataW.trod enc Tryz.prog w base sp held fuel 24 cs = some x) (hs : Jil Tryz.prog 24 x.1) (hbk : Rows.uptoBulk x.1 ≤ 1048576) :
    ∃ (o : StV), cs = stC o ∧ StIn w o := by
 have hu : Tryz.prog.underlying 24 = some (.struct (Tryz.prog.fieldsOf 24)) := by kernel_rfl
 obtain ⟨xs, n, _, hx, hlen, hxl, hf⟩ := DataW.trod_struct hu h;have hfs : (Tryz.prog.fieldsOf 24).size = 2 := by kernel_rfl
 have hct : Tryz.prog.cellsOf 24 = 2 := by kernel_rfl
 rw [hfs] at hxl;rw [hct] at hlen;have c8 : Tryz.prog.cellsOf 5 = 1 := by kernel_rfl
 have by8 : Tryz.prog.bytesOf 5 = 1 := by kernel_rfl
 have get : ∀ (i t o : Nat), i < 2 → ((Tryz.prog.fieldsOf 24)[i]?).map (fun f => (f.type, f.offset)) = some (t, o) → ∃ y, DataW.trod enc Tryz.prog w base sp held n t ((cs.drop o).take (Tryz.prog.cellsOf t)) = some y ∧ Jil Tryz.prog t y.1 ∧ Rows.uptoBulk y.1 ≤ 1048576 := fun i t o hi h => by
   obtain ⟨f, h1, rfl, rfl⟩ := Jnl h;have hy : xs[i]? = some (xs[i]'(by omega)) := List.getElem?_eq_getElem (by omega);rw [hx] at hs hbk;refine ⟨_, (hf i f h1).trans hy, Jj7 hu hs h1 (by simp [hy]), Nat.le_trans ?_ hbk⟩;simp only [Rows.uptoBulk];exact Nat.le_succ_of_le (Jh5 (List.mem_of_getElem? (i := i) (by simp [hy])))
 obtain ⟨y0, t0, s0, b0⟩ := get 0 3 0 (by omega) (by kernel_rfl);rw [show Tryz.prog.cellsOf 3 = 1 by kernel_rfl] at t0;obtain ⟨a0, e0, _, w0⟩ := DataW.trod_int Tryz.underlying3 t0;obtain ⟨y1, t1, s1, b1⟩ := get 1 22 1 (by omega) (by kernel_rfl);rw [show Tryz.prog.cellsOf 22 = 1 by kernel_rfl] at t1;obtain ⟨ao1, m1, c1, l1, e1, hr1, hsv1, hbv1⟩ := Jom hsp Tryz.underlying22 Tryz.underlying5 c8 by8 t1;refine ⟨⟨a0, ao1, m1, c1, l1⟩, ?_, ⟨hr1.1, hr1.2.1, hr1.2.2, hsv1 s1, Nat.le_trans hbv1 b1⟩⟩;have q0 := Jck 0 1 e0;rw [List.drop_zero] at q0;rw [q0, Jck (0 + 1) 1 e1, List.drop_of_length_le (by omega)];simp [stC]
set_option maxRecDepth 100000 in
theorem Jv7 {fuel : Nat} {cs : List Value} {x : DataW H × List MemPlace} (hsp : ∀ b, sp b = true) (h : DataW.trod enc Tryz.prog w base sp held fuel 37 cs = some x) (hs : Jil Tryz.prog 37 x.1) (hbk : Rows.uptoBulk x.1 ≤ 1048576) :
    ∃ (o : OpV), cs = opC o ∧ OpIn w o := by
 have hu : Tryz.prog.underlying 37 = some (.struct (Tryz.prog.fieldsOf 37)) := by kernel_rfl
 obtain ⟨xs, n, _, hx, hlen, hxl, hf⟩ := DataW.trod_struct hu h;have hfs : (Tryz.prog.fieldsOf 37).size = 8 := by kernel_rfl
 have hct : Tryz.prog.cellsOf 37 = 8 := by kernel_rfl
 rw [hfs] at hxl;rw [hct] at hlen;have c8 : Tryz.prog.cellsOf 5 = 1 := by kernel_rfl
 have by8 : Tryz.prog.bytesOf 5 = 1 := by kernel_rfl
 have get : ∀ (i t o : Nat), i < 8 → ((Tryz.prog.fieldsOf 37)[i]?).map (fun f => (f.type, f.offset)) = some (t, o) → ∃ y, DataW.trod enc Tryz.prog w base sp held n t ((cs.drop o).take (Tryz.prog.cellsOf t)) = some y ∧ Jil Tryz.prog t y.1 ∧ Rows.uptoBulk y.1 ≤ 1048576 := fun i t o hi h => by
   obtain ⟨f, h1, rfl, rfl⟩ := Jnl h;have hy : xs[i]? = some (xs[i]'(by omega)) := List.getElem?_eq_getElem (by omega);rw [hx] at hs hbk;refine ⟨_, (hf i f h1).trans hy, Jj7 hu hs h1 (by simp [hy]), Nat.le_trans ?_ hbk⟩;simp only [Rows.uptoBulk];exact Nat.le_succ_of_le (Jh5 (List.mem_of_getElem? (i := i) (by simp [hy])))
 obtain ⟨y0, t0, s0, b0⟩ := get 0 3 0 (by omega) (by kernel_rfl);rw [show Tryz.prog.cellsOf 3 = 1 by kernel_rfl] at t0;obtain ⟨a0, e0, _, w0⟩ := DataW.trod_int Tryz.underlying3 t0;obtain ⟨y1, t1, s1, b1⟩ := get 1 3 1 (by omega) (by kernel_rfl);rw [show Tryz.prog.cellsOf 3 = 1 by kernel_rfl] at t1;obtain ⟨a1, e1, _, w1⟩ := DataW.trod_int Tryz.underlying3 t1;obtain ⟨y2, t2, s2, b2⟩ := get 2 3 2 (by omega) (by kernel_rfl);rw [show Tryz.prog.cellsOf 3 = 1 by kernel_rfl] at t2;obtain ⟨a2, e2, _, w2⟩ := DataW.trod_int Tryz.underlying3 t2;obtain ⟨y3, t3, s3, b3⟩ := get 3 4 3 (by omega) (by kernel_rfl);rw [show Tryz.prog.cellsOf 4 = 1 by kernel_rfl] at t3;obtain ⟨a3, e3, _⟩ := DataW.trod_bool Tryz.underlying4 t3;obtain ⟨y4, t4, s4, b4⟩ := get 4 3 4 (by omega) (by kernel_rfl);rw [show Tryz.prog.cellsOf 3 = 1 by kernel_rfl] at t4;obtain ⟨a4, e4, _, w4⟩ := DataW.trod_int Tryz.underlying3 t4;obtain ⟨y5, t5, s5, b5⟩ := get 5 3 5 (by omega) (by kernel_rfl);rw [show Tryz.prog.cellsOf 3 = 1 by kernel_rfl] at t5;obtain ⟨a5, e5, _, w5⟩ := DataW.trod_int Tryz.underlying3 t5;obtain ⟨y6, t6, s6, b6⟩ := get 6 22 6 (by omega) (by kernel_rfl);rw [show Tryz.prog.cellsOf 22 = 1 by kernel_rfl] at t6;obtain ⟨ao6, m6, c6, l6, e6, hr6, hsv6, hbv6⟩ := Jom hsp Tryz.underlying22 Tryz.underlying5 c8 by8 t6;obtain ⟨y7, t7, s7, b7⟩ := get 7 35 7 (by omega) (by kernel_rfl);rw [show Tryz.prog.cellsOf 35 = 1 by kernel_rfl] at t7;obtain ⟨a7, e7, _, w7⟩ := DataW.trod_int Tryz.underlying35 t7;refine ⟨⟨a0, a1, a2, a3, a4, a5, ao6, m6, c6, l6, UInt32.ofNat a7.toNat⟩, ?_, ⟨hr6.1, hr6.2.1, hr6.2.2, hsv6 s6, Nat.le_trans hbv6 b6⟩, by have := bounds_i64 w4; unfold inI; omega⟩;rw [Jzh w7] at e7;have q0 := Jck 0 1 e0;rw [List.drop_zero] at q0;rw [q0, Jck (0 + 1) 1 e1, Jck (0 + 1 + 1) 1 e2, Jck (0 + 1 + 1 + 1) 1 e3, Jck (0 + 1 + 1 + 1 + 1) 1 e4, Jck (0 + 1 + 1 + 1 + 1 + 1) 1 e5, Jck (0 + 1 + 1 + 1 + 1 + 1 + 1) 1 e6, Jck (0 + 1 + 1 + 1 + 1 + 1 + 1 + 1) 1 e7, List.drop_of_length_le (by omega)];simp [opC]
theorem Jr3 {P : Program} {t e : TypeId} {α : Type} [Inhabited α] (cC : α → List Value) (k : Nat) (hk : ∀ o, (cC o).length = k) (hk0 : 0 < k) (ok : α → Prop) (ht : P.underlying t = some (.slice e)) (hct : P.cellsOf e = k) (hbt : 1 ≤ P.bytesOf e)
    (one : ∀ fuel cs x, DataW.trod enc P w base sp held fuel e cs = some x → Jil P e x.1 → Rows.uptoBulk x.1 ≤ 1048576 → ∃ o, cs = cC o ∧ ok o)
    {cs : List Value} {d : DataW H} {p : List MemPlace} {fuel : Nat} (hf : DataW.trod enc P w base sp held fuel t cs = some (d, p)) (hs : Jil P t d) (hbk : Rows.uptoBulk d ≤ 1048576) :
    ∃ (ao : Option Addr) (n c : Nat) (os : List α), cs = [.slice ao n c] ∧ Jiq cC k w ao n os ∧ (∀ o ∈ os, ok o) ∧ (ao = none → n = 0 ∧ c = 0) ∧ n ≤ c ∧ n ≤ 1048576 := by
 rcases open_slice ht hf with ⟨hcs, hx⟩ | ⟨a, len, cap, m, f, D, Pl, hcs, _, hl, hm, hmm, hx, hel⟩
 ·exact ⟨none, 0, 0, [], hcs, ⟨rfl, fun i o h => by simp at h⟩, (fun o ho => by cases ho), (fun _ => ⟨rfl, rfl⟩), Nat.le_refl _, Nat.zero_le _⟩
 ·have hd : d = .slice ((List.range len).map D) ((List.range (m - len)).map fun j => D (len + j)) := (Prod.mk.inj hx).1;have hs2 := hs;rw [hd] at hs;have hlen := Jol ht hs;have hnm : len ≤ m := by rw [hmm]; split <;> omega
  rw [hct] at hel
  have each : ∀ i, i < len → ∃ o : α, (∃ b off, a = ⟨b, off, none⟩ ∧ w.rangeAt b (off + i * k) (cC o)) ∧ ok o := by
    have one' : ∀ i, i < len → ∃ cs' : List Value, ∃ o : α, w.cells? base (a.add (i * k)) k = some cs' ∧ cs' = cC o ∧ ok o := fun i hi => by
      obtain ⟨cs', h1, h2⟩ := hel i (by omega);obtain ⟨o, h3, h4⟩ := one _ _ _ h2 (Jr2 (i := i) ht hs (by simp [hi])) (by rw [hd] at hbk; simp only [Rows.uptoBulk] at hbk; have h9 := Jh5 (d := D i) (l := (List.range len).map D) (List.mem_map.2 ⟨i, List.mem_range.2 hi, rfl⟩); exact Nat.le_trans h9 (by omega));exact ⟨cs', o, h1, h3, h4⟩
    intro i hi;obtain ⟨cs', o, h1, rfl, h4⟩ := one' i hi;obtain ⟨h3, hl', h5⟩ := World.cells?_some h1;have hlo := hk o;obtain ⟨b, off, s⟩ := a
    have hcell : ∀ j v, (cC o)[j]? = some v → w.cell? (((⟨b, off, s⟩ : Addr).add (i * k)).add j) = some v := by
      intro j v hv;have := h5 j (by have := (List.getElem?_eq_some_iff.1 hv).1; omega);rw [this]; exact hv
    have hs0 : s = none := by
      obtain ⟨c0, o0, g1, rfl, _⟩ := one' 0 (by omega);have hl0 := hk o0;obtain ⟨_, _, g5⟩ := World.cells?_some g1;have := g5 0 (by omega);rw [List.getElem?_eq_getElem (by omega)] at this;simpa [Addr.add] using World.cell?_spot this
    subst hs0;refine ⟨o, ⟨b, off, rfl, fun j v hv => ?_⟩, h4⟩;have := hcell j v hv;rw [Addr.add_mid, Addr.add_mid] at this;exact this
  obtain ⟨V, hV⟩ := choose_lt (α := α) (p := fun i o => (∃ b off, a = ⟨b, off, none⟩ ∧ w.rangeAt b (off + i * k) (cC o)) ∧ ok o) each;refine ⟨some a, len, cap, (List.range len).map V, hcs, ⟨by simp, fun i o hi => ?_⟩, fun o ho => ?_, (fun h => by cases h), hl, (by rw [hd] at hbk; have := Jl9 (H := H) ((List.range len).map D) ((List.range (m - len)).map fun j => D (len + j)); simp only [List.length_map, List.length_range] at this; omega)⟩
  ·obtain ⟨hi', rfl⟩ : i < len ∧ V i = o := by
     rw [List.getElem?_map] at hi;rcases Nat.lt_or_ge i len with h | h
     ·rw [List.getElem?_range h] at hi;exact ⟨h, by simpa using hi⟩
     ·rw [List.getElem?_eq_none (by simpa using h)] at hi; simp at hi
   obtain ⟨⟨b, o, rfl, hr⟩, _⟩ := hV i hi';exact ⟨b, o, rfl, hr⟩
  ·obtain ⟨i, hi, rfl⟩ := List.mem_map.1 ho;exact (hV i (by simpa using hi)).2
theorem Jp1 {fuel : Nat} {cs : List Value} {x : DataW H × List MemPlace} (hsp : ∀ b, sp b = true) (h : DataW.trod enc Tryz.prog w base sp held fuel 27 cs = some x) (hs : Jil Tryz.prog 27 x.1) (hbk : Rows.uptoBulk x.1 ≤ 1048576) :
    ∃ (a b : StV) (oo : Option Addr) (on oc : Nat) (os : List OpV), cs = scC a b oo on oc ∧ StIn w a ∧ StIn w b ∧ Jiq opC 8 w oo on os ∧ (∀ o ∈ os, OpIn w o) ∧ (oo = none → on = 0 ∧ oc = 0) ∧ on ≤ oc ∧ on ≤ 1048576 := by
 have hu : Tryz.prog.underlying 27 = some (.struct (Tryz.prog.fieldsOf 27)) := by kernel_rfl
 obtain ⟨xs, n, _, hx, hlen, hxl, hf⟩ := DataW.trod_struct hu h;have hfs : (Tryz.prog.fieldsOf 27).size = 3 := by kernel_rfl
 have hct : Tryz.prog.cellsOf 27 = 5 := by kernel_rfl
 rw [hfs] at hxl;rw [hct] at hlen
 have get : ∀ (i t o : Nat), i < 3 → ((Tryz.prog.fieldsOf 27)[i]?).map (fun f => (f.type, f.offset)) = some (t, o) → ∃ y, DataW.trod enc Tryz.prog w base sp held n t ((cs.drop o).take (Tryz.prog.cellsOf t)) = some y ∧ Jil Tryz.prog t y.1 ∧ Rows.uptoBulk y.1 ≤ 1048576 := fun i t o hi h => by
   obtain ⟨f, h1, rfl, rfl⟩ := Jnl h;have hy : xs[i]? = some (xs[i]'(by omega)) := List.getElem?_eq_getElem (by omega);rw [hx] at hs hbk;refine ⟨_, (hf i f h1).trans hy, Jj7 hu hs h1 (by simp [hy]), Nat.le_trans ?_ hbk⟩;simp only [Rows.uptoBulk];exact Nat.le_succ_of_le (Jh5 (List.mem_of_getElem? (i := i) (by simp [hy])))
 obtain ⟨y0, t0, s0, b0⟩ := get 0 24 0 (by omega) (by kernel_rfl);obtain ⟨y1, t1, s1, b1⟩ := get 1 24 2 (by omega) (by kernel_rfl);obtain ⟨y2, t2, s2, b2⟩ := get 2 25 4 (by omega) (by kernel_rfl);rw [show Tryz.prog.cellsOf 24 = 2 by kernel_rfl] at t0 t1;rw [show Tryz.prog.cellsOf 25 = 1 by kernel_rfl] at t2;obtain ⟨a, e0, ha⟩ := Jmi hsp t0 s0 b0;obtain ⟨b, e1, hb⟩ := Jmi hsp t1 s1 b1;obtain ⟨oo, on, oc, os, e2, ho, hok, hnil, hle, hmx⟩ := Jr3 opC 8 (fun _ => rfl) (by decide) (OpIn w) Tryz.underlying25 (show Tryz.prog.cellsOf 37 = 8 by kernel_rfl) (of_decide_eq_true (by kernel_rfl)) (fun _ _ _ h1 h2 h3 => Jv7 hsp h1 h2 h3) t2 s2 b2;refine ⟨a, b, oo, on, oc, os, ?_, ha, hb, ho, hok, hnil, hle, hmx⟩;have q0 := Jck 0 2 e0;rw [List.drop_zero] at q0;rw [q0, Jck (0 + 2) 2 e1, Jck (0 + 2 + 2) 1 e2, List.drop_of_length_le (by omega)];rfl
set_option maxRecDepth 100000 in
theorem Jp2 {r : Reach} {b0 : Nat} {v : Value} {d : DataW H} {p : List MemPlace} (hsp : ∀ b, sp b = true) (hv : Value.okWide Tryz.prog w r b0 27 v) (h : DataW.Trod enc Tryz.prog w base sp held 27 v d p) (hs : Jil Tryz.prog 27 d) (hbk : Rows.uptoBulk d ≤ 1048576) :
    ∃ (a b : StV) (oo : Option Addr) (on oc : Nat) (os : List OpV), v = .agg (scC a b oo on oc).toArray ∧ StIn w a ∧ StIn w b ∧ Jiq opC 8 w oo on os ∧ (∀ o ∈ os, OpIn w o) ∧ (oo = none → on = 0 ∧ oc = 0) ∧ on ≤ oc ∧ on ≤ 1048576 := by
 have hu : Tryz.prog.underlying 27 = some (.struct (Tryz.prog.fieldsOf 27)) := by kernel_rfl
 obtain ⟨cs, rfl, _⟩ := okWide_struct hu hv;obtain ⟨fuel, hf⟩ := h;obtain ⟨a, b, oo, on, oc, os, h1, h2⟩ := Jp1 hsp hf hs hbk;refine ⟨a, b, oo, on, oc, os, ?_, h2⟩;have h3 : cs.toList = scC a b oo on oc := h1;rw [← h3]
end
end
section
variable {gT0 : TypeId}
theorem Mem.below0 {w0 w : World} {T : TypeId} {C : List Value} (h0 : (blk 0 T C).holds w0) (h : Mem w0 (Jag [blk 0 T C]) w [blk 0 T C]) : Below w0.heap.size w0 w :=
  ⟨h.grew.os, h.grew.tape, h.grew.output, h.grew.size, fun k hk => by
    by_cases e : k = 0
    · subst e
      exact (h.all _ (List.mem_cons_self ..)).trans h0.symm
    · exact h.grew.block k hk (by intro hx; rw [Jag, List.mem_flatMap] at hx; obtain ⟨A, hA, hb⟩ := hx; cases hA with
        | head => exact e (by simpa [blk] using hb)
        | tail _ hA => cases hA)⟩
theorem Jw9 (a b : StV) (oo : Option Addr) (oc : Nat) (lo hi : Int) {w : World} (hM : zM w [blk 0 gT0 (bvs Jaa)]) (ha : StOk w a) (hb : StOk w b) (hao : OffZ (Jag [blk 0 gT0 (bvs Jaa)]) a.ao a.rn a.l) (hbo : OffZ (Jag [blk 0 gT0 (bvs Jaa)]) b.ao b.rn b.l) : zC 11 [.agg ((scC a b oo 0 oc)).toArray, zI lo, zI hi] w fun e w' => e = .returned (.bool true) ∧ zD w [blk 0 gT0 (bvs Jaa)] w' [blk 0 gT0 (bvs Jaa)] := by
 have M := hM;clear hM;go_enter Tryz.func11, Tryz.ntmps11;refine zk fun _ hK1 => zr ?_;refine zbx M (scC a b oo 0 oc) rfl fun gsc w2 M2 => ?_;clear M;simp only[Za,Zb,Zc];refine zp 1 rfl (zw (hK1 _ _ (zk fun _ hK3 => zr (zo M2 (zlb 0 rfl zu27 rfl Jlw) ?_))));simp only[Za,Zb,Zc];have hX4 := M2.pk [1, 0];simp only[Y3,Y4,Y1,Y2]at hX4;replace hX4 := hX4.s1;have hCH4 := Jm1 a b oo 0 oc (Mem.here hX4) (ha.onz hao M2 (M2.all (blk 0 gT0 (bvs Jaa)) (by simp))) (hb.onz hbo M2 (M2.all (blk 0 gT0 (bvs Jaa)) (by simp))) (ha.offz hao hX4) (hb.offz hbo hX4);refine zca 12 _ rfl Tryz.call12 (hCH4) ?_;rintro e w4 ⟨rw, S01, rfl, H4⟩;have M4 := Mem.frame hX4 H4;simp only[Y1,Y2]at M4;refine ⟨_, rfl, ?_⟩;simp only[Za,Zb,Zc];refine zp 1 rfl (zw (hK3 _ _ (zk fun _ hK5 => zr (zo M4 (zlb 1 rfl zu27 rfl Jlw) (zp 1 rfl ?_)))));simp only[Za,Zb,Zc];have hX6 := M4.pk [0, 1];simp only[Y3,Y4,Y1,Y2]at hX6;replace hX6 := hX6.s1;have hCH6 := Jm2 a b oo 0 oc (Mem.here hX6) (ha.onz hao M4 (Jc5 (M4.get 0 rfl))) (hb.onz hbo M4 (Jc5 (M4.get 0 rfl))) (ha.offz hao hX6) (hb.offz hbo hX6);refine zca 13 _ rfl Tryz.call13 (hCH6) ?_;rintro e w6 ⟨pw, S02, rfl, H6⟩;have M6 := Mem.frame hX6 H6;simp only[Y1,Y2]at M6;refine ⟨_, rfl, ?_⟩;simp only[Za,Zb,Zc];refine zp 5 rfl (zw (hK5 _ _ (zk fun _ hK7 => zk fun _ hK8 => zr (zp 2 rfl ?_))));simp only[Za,Zb,Zc];refine zw (hK8 _ _ (zcf rfl (zsk (hK7 _ _ (zk fun _ hK9 => ?_)))));refine zk fun _ hK10 => zr ?_;refine zp 1 rfl ?_;simp only[Za,Zb,Zc];refine zw (hK10 _ _ (zbl ?_));refine wp_loop (fun a' w' => ∃  (us11 : List Value), a' = (⟨#[.agg ((scC a b oo 0 oc)).toArray, zI lo, zI hi, zP gsc 0, undef, undef, (zU us11 0), zP rw 0, zP pw 0, .bool true, zI 0, (zU us11 1), (zU us11 2), (zU us11 3), (zU us11 4), .agg ((scC a b oo 0 oc)).toArray, zP rw 0, .tuple #[zP pw 0, .bool true], .agg ((scC a b oo 0 oc)).toArray, zP rw 0, .tuple #[zP pw 0, .bool true], zP pw 0, .bool true, .bool true, .bool false, (zU us11 5), (zU us11 6), (zU us11 7), (zU us11 8), (zU us11 9), (zU us11 10), (zU us11 11), (zU us11 12), (zU us11 13), (zU us11 14), (zU us11 15), (zU us11 16), (zU us11 17), (zU us11 18), (zU us11 19), (zU us11 20), (zU us11 21), (zU us11 22), (zU us11 23), (zU us11 24), (zU us11 25), (zU us11 26), (zU us11 27), (zU us11 28), (zU us11 29), (zU us11 30), (zU us11 31), (zU us11 32), (zU us11 33), (zU us11 34), (zU us11 35), (zU us11 36), (zU us11 37), (zU us11 38), (zU us11 39), (zU us11 40), (zU us11 41), (zU us11 42), (zU us11 43), (zU us11 44), (zU us11 45), (zU us11 46), (zU us11 47), (zU us11 48), (zU us11 49), (zU us11 50), (zU us11 51), (zU us11 52), (zU us11 53)], []⟩ : Act) ∧ zD w [blk 0 gT0 (bvs Jaa)] w' [Jcy gT0 rw S01 ([mkS a, mkS b]) ([none, none, none]) 0, Jdy pw S02 ([mkS a, mkS b]) ([none, none, none]) 0, blk gsc 27 (scC a b oo 0 oc)]) (fun _ _ => 0) ⟨[_,_,_,_,_,_,_,_,_,_,_,_,_,_,_,_,_,_,_,_,_,_,_,_,_,_,_,_,_,_,_,_,_,_,_,_,_,_,_,_,_,_,_,_,_,_,_,_,_,_,_,_,_,_], rfl, M6⟩ ?_;rintro a' w12 ⟨us11, rfl, M12⟩;refine zk fun _ hK13 => zk fun _ hK14 => zr ?_;refine zp 1 rfl (zfl M12 4 zu27 rfl Tryz.sizeOf25 2 rfl Tryz.isAgg25 (zo M12 (Jbp rfl rfl rfl zu25) (zo M12 (zlss rfl (zF (by decide))) ?_)));simp only[Za,Zb,Zc];refine zw (hK14 _ _ (zcf rfl (zx (hK9 _ _ (zk fun _ hK15 => ?_)))));refine zr ?_;refine zp 1 rfl ?_;simp only[Za,Zb,Zc];refine zw (hK15 _ _ (zrt ?_));(try simp only[zi,zj]);refine zR (v := .bool true) (res1 rfl rfl) rfl ?_;have N := (M12.arr [0] (by decide));obtain ⟨hI9, N⟩ := Mem.open N;exact ⟨rfl, N.arr [0] (by decide)⟩
theorem Jxa (a b : StV) (oo : Option Addr) (on oc : Nat) (os : List OpV) (lo hi : Int) {w : World} (hM : Mem w (Jag [blk 0 gT0 (bvs Jaa)]) w [blk 0 gT0 (bvs Jaa)]) (ha : StOk w a) (hb : StOk w b) (hao : OffZ (Jag [blk 0 gT0 (bvs Jaa)]) a.ao a.rn a.l) (hbo : OffZ (Jag [blk 0 gT0 (bvs Jaa)]) b.ao b.rn b.l)
    (hL : Jiq opC 8 w oo on os) (hmax : on ≤ 1048576) (hog : ∀ g x, oo = some ⟨g, x, none⟩ → 0 < on → g ∉ Jag [blk 0 gT0 (bvs Jaa)]) (hok : ∀ o ∈ os, OpZ w (Jag [blk 0 gT0 (bvs Jaa)]) o) :
    Calls Tryz.prog 11 #[.agg ((scC a b oo on oc)).toArray, .int .i64 lo, .int .i64 hi] w fun e w' => e = .returned (.bool true) ∧ Mem w (Jag [blk 0 gT0 (bvs Jaa)]) w' [blk 0 gT0 (bvs Jaa)] := by
 rcases Nat.eq_zero_or_pos on with h | h
 ·subst h;exact Jw9 a b oo oc lo hi hM ha hb hao hbo
 ·obtain ⟨g, off, rfl, _⟩ := hL.2 0 _ (List.getElem?_eq_getElem (by rw [hL.1]; exact h))
  exact Jva a b on oc os lo hi hM ha hb hao hbo hL.1.symm hmax (fun i o hi => by
    obtain ⟨g', off', e, hr⟩ := hL.2 i o hi;cases e
    rw [Nat.mul_comm];exact hr) (hog g off rfl h) hok
end
end Go.Proofs.YtodhlfinbbajfaaGreatDoor
