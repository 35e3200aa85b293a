/- Texts joined: OpenP, ConvB, SL3, SL4. -/
import Derived.Test.YtfbamkgmnbobeaaSB23
import Derived.Test.YtfbamkgmnbobeaaSB20
import Derived.Test.YtfbamkgmnbobeaaSB17
import Derived.Test.YtfbamkgmnbobeaaSB04
/- Reading a script of calls of stores that came in. -/
namespace Go.Proofs.Ytfbamkgmnbobeaa
set_option linter.unusedSectionVars false
set_option linter.unusedSimpArgs false
open Go Go.RowKit Go.ChangeShapes Go.WideShapes Go.ChangeAt Go.Deep
set_option linter.unusedVariables false
structure OV8 where
  k : Int
  a : Int
  n : Int
  m : Int
  ao : Option Addr
  an : Nat
  ac : Nat
  b : Int
  l : List UInt8
instance : Inhabited OV8 := ⟨⟨0, 0, 0, 0, none, 0, 0, 0, []⟩⟩
def opV8 (o : OV8) : List Value := opC8 o.k o.a o.n o.m o.ao o.an o.ac o.b
def OpIn8 (w : World) (o : OV8) : Prop := Row w o.ao o.an o.l ∧ (o.ao = none → o.an = 0 ∧ o.ac = 0) ∧ o.an ≤ o.ac ∧ o.ac ≤ 140737488351232
section
variable {H : Type} {enc : TypeId × Value → H} {w : World} {base : Nat} {sp : Nat → Bool} {held : Bool}
theorem trod_op8 {fuel : Nat} {cs : List Value} {x : DataW H × List MemPlace} (hsp : ∀ b, sp b = true) (h : DataW.trod enc Try.prog w base sp held fuel 57 cs = some x) (hs : Sized Try.prog 57 x.1) :
    ∃ (o : OV8), cs = opV8 o ∧ OpIn8 w o := by
  have hu : Try.prog.underlying 57 = some (.struct (Try.prog.fieldsOf 57)) := by kernel_rfl
  obtain ⟨xs, n, _, hx, hlen, hxl, hf⟩ := DataW.trod_struct hu h
  have hfs : (Try.prog.fieldsOf 57).size = 6 := by kernel_rfl
  have hct : Try.prog.cellsOf 57 = 6 := by kernel_rfl
  rw [hfs] at hxl
  rw [hct] at hlen
  have ci : Try.prog.cellsOf 3 = 1 := by kernel_rfl
  have cu : Try.prog.cellsOf 55 = 1 := by kernel_rfl
  have cb : Try.prog.cellsOf 24 = 1 := by kernel_rfl
  have c8 : Try.prog.cellsOf 5 = 1 := by kernel_rfl
  have by8 : Try.prog.bytesOf 5 = 1 := by kernel_rfl
  have get : ∀ (i t o : Nat), i < 6 → ((Try.prog.fieldsOf 57)[i]?).map (fun f => (f.type, f.offset)) = some (t, o) → ∃ y, DataW.trod enc Try.prog w base sp held n t ((cs.drop o).take (Try.prog.cellsOf t)) = some y ∧ Sized Try.prog t y.1 := fun i t o hi h => by
    obtain ⟨f, h1, rfl, rfl⟩ := field_of h
    have hy : xs[i]? = some (xs[i]'(by omega)) := List.getElem?_eq_getElem (by omega)
    refine ⟨_, (hf i f h1).trans hy, ?_⟩
    rw [hx] at hs
    exact sized_part hu hs h1 (by simp [hy])
  obtain ⟨y0, t0, _⟩ := get 0 3 0 (by omega) (by kernel_rfl)
  obtain ⟨y1, t1, _⟩ := get 1 3 1 (by omega) (by kernel_rfl)
  obtain ⟨y2, t2, _⟩ := get 2 3 2 (by omega) (by kernel_rfl)
  obtain ⟨y3, t3, _⟩ := get 3 3 3 (by omega) (by kernel_rfl)
  obtain ⟨y4, t4, s4⟩ := get 4 24 4 (by omega) (by kernel_rfl)
  obtain ⟨y5, t5, _⟩ := get 5 55 5 (by omega) (by kernel_rfl)
  rw [ci] at t0 t1 t2 t3
  rw [cb] at t4
  rw [cu] at t5
  obtain ⟨a0, e0, _, w0⟩ := DataW.trod_int Try.underlying3 t0
  obtain ⟨a1, e1, _, w1⟩ := DataW.trod_int Try.underlying3 t1
  obtain ⟨a2, e2, _, w2⟩ := DataW.trod_int Try.underlying3 t2
  obtain ⟨a3, e3, _, w3⟩ := DataW.trod_int Try.underlying3 t3
  obtain ⟨ao, m, c, l, e4, hr, hm, hsv⟩ := trod_row hsp Try.underlying24 Try.underlying5 c8 by8 t4
  obtain ⟨a5, e5, _, w5⟩ := DataW.trod_int Try.underlying55 t5
  refine ⟨⟨a0, a1, a2, a3, ao, m, c, a5, l⟩, ?_, ⟨hr.1, hr.2.1, hr.2.2, hsv s4⟩⟩
  have q0 := chain_step 0 1 e0
  rw [List.drop_zero] at q0
  rw [q0, chain_step (0 + 1) 1 e1, chain_step (0 + 1 + 1) 1 e2, chain_step (0 + 1 + 1 + 1) 1 e3, chain_step (0 + 1 + 1 + 1 + 1) 1 e4, chain_step (0 + 1 + 1 + 1 + 1 + 1) 1 e5, List.drop_of_length_le (by omega)]
  simp [opV8, opC8]
set_option maxRecDepth 100000 in
theorem open_ops8 {r : Reach} {b0 : Nat} {v : Value} {d : DataW H} {p : List MemPlace} (hsp : ∀ b, sp b = true) (hv : Value.okWide Try.prog w r b0 44 v) (h : DataW.Trod enc Try.prog w base sp held 44 v d p)
    (hs : Sized Try.prog 44 d) :
    ∃ (ao : Option Addr) (n c : Nat) (os : List OV8), v = .slice ao n c ∧ (ListIn opV8 6 w ao n os ∧ n ≤ 2199023255551) ∧ n ≤ c ∧ ∀ o ∈ os, OpIn8 w o := by
  have hct : Try.prog.cellsOf 57 = 6 := by kernel_rfl
  have hbt : 1 ≤ Try.prog.bytesOf 57 := of_decide_eq_true (by kernel_rfl)
  obtain ⟨ao, n, c, os, rfl, ⟨h1, h2⟩, _, h4⟩ := open_list (H := H) (enc := enc) (P := Try.prog) (w := w) (base := base) (sp := sp) (held := held) (r := r) (b0 := b0) (v := v) (d := d) (p := p) (t := 44) (e := 57) opV8 6 (fun _ => rfl) (by decide) (OpIn8 w) Try.underlying44 hct hbt (fun _ _ _ h1 h2 => trod_op8 hsp h1 h2) hv h hs
  refine ⟨ao, n, c, os, rfl, ⟨h1, ?_⟩, h2, h4⟩
  obtain ⟨fuel, hf⟩ := h
  rcases open_slice Try.underlying44 hf with ⟨hcs, hx⟩ | ⟨a, len, cap, m, f, D, Pl, hcs, _, hl, hm, hmm, hx, hel⟩
  · simp [Value.cells] at hcs
    omega
  · simp [Value.cells] at hcs
    obtain ⟨_, rfl, rfl⟩ := hcs
    have hd : d = .slice ((List.range n).map D) ((List.range (m - n)).map fun j => D (n + j)) := (Prod.mk.inj hx).1
    rw [hd] at hs
    have hlen := sized_len Try.underlying44 hs
    have hby : Try.prog.bytesOf 57 = 64 := by kernel_rfl
    rw [hby] at hlen
    simp only [List.length_map, List.length_range, reachBytes] at hlen
    have hnm : n ≤ m := by rw [hmm]; split <;> omega
    omega
end
end Go.Proofs.Ytfbamkgmnbobeaa

/- The conversion of a literal's row to its own type: the place behind its last cell is marked. No program in sight. -/
namespace Go.Proofs.Ytfbamkgmnbobeaa
set_option linter.unusedSectionVars false
set_option linter.unusedSimpArgs false
open Go Go.RowKit
set_option linter.unusedVariables false
def blkf (g : Nat) (T : TypeId) (C : List Value) : Asn where
  foot := [g]
  holds w := w.heap[g]? = some (.cells C.toArray T (C.length, C.length + 1))
  lt w h b hb := by
    obtain rfl : b = g := by simpa using hb
    exact heap_lt h
  keep w w' h hk := (hk g (by simp)).trans h
theorem blkf_row {g : Nat} {T : TypeId} {l : List UInt8} {w : World} (h : (blkf g T (bvs l)).holds w) : Row w (some ⟨g, 0, none⟩) l.length l := by
  refine ⟨rfl, fun i hi => ⟨g, 0, rfl, ?_⟩⟩
  have h0 : w.heap[g]? = some (.cells (bvs l).toArray T ((bvs l).length, (bvs l).length + 1)) := h
  show w.cell? ⟨g, 0 + i, none⟩ = _
  rw [cell_of_row w g (0 + i) _ T _ h0, Nat.zero_add, List.getElem?_toArray, bvs_getElem?, List.getElem?_eq_getElem hi]
  rfl
section
variable {P : Program} {Q : Exit → Act → World → Prop} {o : Oper} {a : Act} {w w0 : World} {K : Act → World → Prop} {x : Operand} {t e : TypeId} {F : List Nat} {L : List Asn}
theorem e_convb (M : Mem w0 F w L) (i : Nat) {g n c : Nat} {T : TypeId} {C : List Value} (hi : L[i]? = some (blk g T C)) (ho : o.op = .convert t t x) (hx : a.eval x = .slice (some ⟨g, 0, none⟩) n c) (ht : P.underlying t = some (.slice e)) (he : P.underlying e = some (.int .u8))
    (h : ∀ w', Mem w0 F w' (L.set i (blkf g T C)) → K (a.put o.dst (.slice (some ⟨g, 0, none⟩) n c)) w') : Oper.wp P o a w K Q := by
  have hb : w.heap[g]? = some (.cells C.toArray T (0, 0)) := M.get i hi
  have hsh : w.shape? g = some (T, C.length) := by
    unfold World.shape?
    rw [hb]
    simp
  have hrun : (convert t t (.slice (some ⟨g, 0, none⟩) n c)).run P w = .ok (.slice (some ⟨g, 0, none⟩) n c) (w.freeze ⟨g, C.length, none⟩ 1) := by
    simp [convert, run_underlying ht, run_underlying he, markStringish, hsh]
  have hg : w.grownBy (w.freeze ⟨g, C.length, none⟩ 1) (some g) := by
    unfold World.freeze
    rw [if_neg (by decide)]
    refine ⟨rfl, rfl, rfl, by simp, fun k hk hn => ?_⟩
    show (w.heap.modify g _)[k]? = _
    rw [Array.getElem?_modify, if_neg (fun e => hn (by rw [e]))]
  have hb2 : (blkf g T C).holds (w.freeze ⟨g, C.length, none⟩ 1) := by
    show (w.freeze ⟨g, C.length, none⟩ 1).heap[g]? = _
    unfold World.freeze
    rw [if_neg (by decide)]
    show (w.heap.modify g _)[g]? = _
    rw [Array.getElem?_modify, if_pos rfl, hb]
    rfl
  unfold Oper.wp execOp
  simp only [ho, hx, Sem.run_bind, hrun, Result.andThen_ok]
  exact h _ (M.upd i hi (Mem.one hg (fun y hy => by cases hy; simp [blk]) hb2 (by simp [blkf]) (fun y hy => .inl hy)))
end
end Go.Proofs.Ytfbamkgmnbobeaa

/- The statements' own known; New and Flush where all is well. -/
namespace Go.Proofs.Ytfbamkgmnbobeaa
set_option linter.unusedSectionVars false
open Go Go.RowKit
set_option maxRecDepth 100000
set_option maxHeartbeats 40000000
set_option linter.unusedVariables false
set_option linter.unusedSimpArgs false
theorem SInv.fresh {D : DV} {V : FV} {pz : Pgs} (h : Inv D V pz) (hnx : V.next = V.s.mark) (room : Int) : SInv D V (newC room) pz :=
  ⟨h, hnx, fun e he => (by cases he), fun e he => (by cases he), by have := h.nextp; show V.s.mark + ((0 : Nat) : Int) ≤ _; omega⟩
theorem fv_same {V : FV} (h : V.next = V.s.mark) : ({ V with next := V.s.mark } : FV) = V := by
  rw [← h]
theorem snew_fit {D : DV} {V : FV} {f p pg mb : Nat} {qv : Value} {w : World} (hM : Mem w (foots [disk D p pg mb qv, blk f 117 (fC V p)]) w [disk D p pg mb qv, blk f 117 (fC V p)]) {pz : Pgs} (hI : Inv D V pz) (hnx : V.next = V.s.mark) (room : Int) (hr : 0 ≤ room ∧ room ≤ 4096) :
    Calls Try.prog 32 #[.pointer (some ⟨f, 0, none⟩), .int .i64 room] w fun e' w' => ∃ s X, e' = .returned (.tuple #[.pointer (some ⟨s, 0, none⟩), .int .i64 0]) ∧ X.x.n = 0 ∧ SInv D V (newC room) pz ∧ Mem w (foots [disk D p pg mb qv, blk f 117 (fC V p)]) w' [disk D p pg mb qv, blk f 117 (fC V p), sto (newC room) V.s.mark s f X] := by
  have h2 := hI.plat.mark2
  have h3 := hI.plat.markp
  have h4 := hI.ok.hi
  refine (snew_ok hM room hI.isLive (by omega) (by omega) ⟨h2, by omega⟩).mono ?_
  rintro e' w' ⟨s, X, rfl, hn, h⟩
  rw [fv_same hnx] at h
  exact ⟨s, X, rfl, hn, SInv.fresh hI hnx room, h⟩
theorem MadesIn.same {w w' : World} {F F' : List Nat} {aa : Option Addr} {ms : List MV} (h : MadesIn w F aa ms) : True := trivial
theorem known_any  {w : World} : zC 20 [] w fun e w' => e = .returned (.bool true) ∧ Mem w [] w' [] := by
 have M := Mem.nil w;go_enter Try.func20, Try.ntmps20;refine zin ?_;refine zk fun K1 hK1 => zr ?_;refine zp 1 rfl ?_;refine zw (hK1 _ _ (zk fun K2 hK2 => zr ?_));refine zca 7 [zI 5, zI 32] rfl Try.call7 (begun_any 5 32 ⟨by decide, by decide⟩ ⟨by decide, by decide⟩) ?_;rintro e w3 ⟨p, pg, mb, qv1, E1, rfl, H3, hP1, hq1, hd1, ha1, hl1⟩;have M3 : Mem w [] w3 [disk E1 p pg mb qv1] := M.step H3;refine ⟨_, rfl, ?_⟩;refine zp 1 rfl ?_;refine zw (hK2 _ _ (zk fun K4 hK4 => zk fun K5 hK5 => zr ?_));refine zp 1 rfl (zo M3 (y_eqnil (r := false) (zwn rfl) rfl (zev rfl) (zev rfl) zu27 rfl) ?_);refine zw (hK5 _ _ (zcf rfl (zsk (hK4 _ _ (zk fun K6 hK6 => ?_)))));refine zr ?_;refine zp 1 rfl ?_;have hX7 := M3.pk [0];simp only[Y3,Y4,Y1,Y2]at hX7;replace hX7 := hX7.s1;refine zca 31 [zP p 0] rfl Try.call31 (open_fit (Mem.h1 hX7) hP1 hd1) ?_;rintro e w7 ⟨f, E, m, rfl, H7, hI, hq2, hp2, ha2, he2⟩;have M7 : Mem w [] w7 [disk E p pg mb qv1, blk f 117 (fC (⟨(secondS 32 5), (secondS 32 5).mark, m⟩ : FV) p)] := Mem.f1 hX7 H7;refine ⟨_, rfl, ?_⟩;refine zp 5 rfl ?_;refine zw (hK6 _ _ (zk fun K8 hK8 => zk fun K9 hK9 => zr ?_));refine zp 1 rfl (zo M7 (zneq (b := false) rfl (by rw [decide_eq_true (by decide)]; rfl)) (zp 2 rfl (zo M7 (y_eqnil (r := false) (zwn rfl) rfl (zev rfl) (zev rfl) zu86 rfl) (zp 1 rfl ?_))));refine zw (hK9 _ _ (zcf rfl (zsk (hK8 _ _ (zk fun K10 hK10 => ?_)))));refine zr ?_;refine zp 1 rfl ?_;have hpl5 : E.pages.length = 5 := by rw [hp2]; exact hl1
 have hX11 := M7.pk [0, 1];simp only[Y3,Y4,Y1,Y2]at hX11;replace hX11 := hX11.s2;have hCH11 := snew_fit (Mem.h2 hX11) hI rfl 1 (⟨by decide, by decide⟩);refine zca 32 [zP f 0, zI 1] rfl Try.call32 (hCH11) ?_;rintro e w11 ⟨s, X, rfl, hX0, hS0, H11⟩;have M11 : Mem w [] w11 [disk E p pg mb qv1, blk f 117 (fC (⟨secondS 32 5, (secondS 32 5).mark, m⟩ : FV) p), sto (newC 1) ((⟨secondS 32 5, (secondS 32 5).mark, m⟩ : FV).s.mark) s f X] := Mem.f2 hX11 H11;refine ⟨_, rfl, ?_⟩;have hroom : (⟨secondS 32 5, (secondS 32 5).mark, m⟩ : FV).s.mark + (((newC 1).kp.length : Nat) : Int) < (E.pages.length : Int) := by rw [hpl5]; show (2 : Int) + ((0 : Nat) : Int) < ((5 : Nat) : Int); decide
 refine zp 5 rfl ?_;refine zw (hK10 _ _ (zk fun K12 hK12 => zk fun K13 hK13 => zr ?_));refine zp 1 rfl (zo M11 (zneq (b := false) rfl (by rw [decide_eq_true (by decide)]; rfl)) (zp 2 rfl (zo M11 (y_eqnil (r := false) (zwn rfl) rfl (zev rfl) (zev rfl) zu30 rfl) (zp 1 rfl ?_))));refine zw (hK13 _ _ (zcf rfl (zsk (hK12 _ _ (zk fun K14 hK14 => ?_)))));refine zr ?_;refine zp 1 rfl ?_;refine pe (zwn rfl) fun K hK => e_bslice M11 (bvs [97]) (pv := [(0, .int .u8 97)]) rfl (zep rfl) zu24 zz5 z05 (by decide) (by kernel_rfl) ?_;intro g15 w16 M16;refine hK.out _ _ (zpu ?_);refine pe (zwn rfl) fun K hK => e_convb M16 0 rfl rfl (zev rfl) zu24 zu5 ?_;intro w17 (M17 : Mem w [] w17 [blkf g15 5 (bvs [97]), disk E p pg mb qv1, blk f 117 (fC (⟨secondS 32 5, (secondS 32 5).mark, m⟩ : FV) p), sto (newC 1) ((⟨secondS 32 5, (secondS 32 5).mark, m⟩ : FV).s.mark) s f X]);refine hK.out _ _ (zpu ?_);have hof : ∀ b₁ o, (some ⟨g15, 0, none⟩ : Option Addr) = some ⟨b₁, o, none⟩ → 0 < 1 → b₁ ∉ foots [disk E p pg mb qv1, blk f 117 (fC (⟨secondS 32 5, (secondS 32 5).mark, m⟩ : FV) p), sto (newC 1) ((⟨secondS 32 5, (secondS 32 5).mark, m⟩ : FV).s.mark) s f X] := fun b₁ o e _ => Mem.off3 (M17.arr [0, 1, 2, 3] (by decide)) (by cases e; simp [blkf]);have hX18 := M17.pk [1, 2, 3, 0];simp only[Y3,Y4,Y1,Y2]at hX18;replace hX18 := hX18.s3;have hCH18 := sstage_ok (Mem.h3 hX18) hS0 1 (zA g15) 1 1 [97] ⟨⟨by decide, by decide⟩, by decide⟩ (blkf_row (l := [97]) (M17.get 0 rfl)) (fun h => by cases h) hof hroom (by rw [hX0]; decide);refine zca 33 [zP s 0, zI 1, zS g15 1 1] rfl Try.call33 (hCH18) ?_;rintro e w18 ⟨C2, X2, rfl, hS2, hk2, hx2, H18⟩;have M18 : Mem w [] w18 [disk E p pg mb qv1, blk f 117 (fC (⟨secondS 32 5, (secondS 32 5).mark, m⟩ : FV) p), sto C2 ((⟨secondS 32 5, (secondS 32 5).mark, m⟩ : FV).s.mark) s f X2, blkf g15 5 (bvs [97])] := Mem.f3 hX18 H18;refine ⟨_, rfl, ?_⟩;refine zp 5 rfl ?_;refine zw (hK14 _ _ (zk fun K19 hK19 => zk fun K20 hK20 => zr ?_));refine zp 1 rfl (zo M18 (zneq (b := false) rfl (by rw [decide_eq_true (show (⟨secondS 32 5, (secondS 32 5).mark, m⟩ : FV).s.mark + (((newC 1).kp.length : Nat) : Int) = 2 by rfl)]; rfl)) (zp 2 rfl (zo M18 (zneq (b := false) rfl (by rw [decide_eq_true (by decide)]; rfl)) (zp 1 rfl ?_))));refine zw (hK20 _ _ (zcf rfl (zsk (hK19 _ _ (zk fun K21 hK21 => ?_)))));refine zr ?_;refine zp 1 rfl ?_
 have hpg : PgIs (⟨secondS 32 5, (secondS 32 5).mark, m⟩ : FV) C2 [] 2 (1, [97]) := by
   right;have h1 : (C2.kp.map enP)[0]? = some (1, [97]) := by rw [hk2]; rfl
   rw [List.getElem?_map] at h1;obtain ⟨e, he, h2⟩ := Option.map_eq_some_iff.1 h1;exact ⟨0, e, by rfl, he, h2⟩
 have hX22 := M18.pk [0, 1, 2, 3];simp only[Y3,Y4,Y1,Y2]at hX22;replace hX22 := hX22.s3;have hCH22 := sload_ok (Mem.h3 hX22) hS2 (n := 2) (x := (1, [97])) hpg (by omega);refine zca 39 [zP s 0, zI 2] rfl Try.call39 (hCH22) ?_;rintro e w22 ⟨a8, c8, r8, C3, X3, rfl, hl8, hS3, hk3, hx3, H22⟩;have M22 : Mem w [] w22 [bytesL (.slice a8 1 c8) [97], disk ({ E with reads := r8 } : DV) p pg mb qv1, blk f 117 (fC (⟨secondS 32 5, (secondS 32 5).mark, m⟩ : FV) p), sto C3 ((⟨secondS 32 5, (secondS 32 5).mark, m⟩ : FV).s.mark) s f X3, blkf g15 5 (bvs [97])] := Mem.f3 hX22 H22;refine ⟨_, rfl, ?_⟩;refine zp 7 rfl ?_;refine zw (hK21 _ _ (zk fun K23 hK23 => zr ?_));refine zp 1 rfl (zo M22 (zeql rfl (zT (by decide))) (zp 2 rfl (zo M22 (zeql rfl (zT (by decide))) (zp 3 rfl ?_))));refine pe (zwn rfl) fun K hK => e_bslice M22 (bvs [97]) (pv := [(0, .int .u8 97)]) rfl (zep rfl) zu24 zz5 z05 (by decide) (by kernel_rfl) ?_;intro g24 w25 M25;refine hK.out _ _ (zpu ?_);refine pe (zwn rfl) fun K hK => e_convb M25 0 rfl rfl (zev rfl) zu24 zu5 ?_;intro w26 (M26 : Mem w [] w26 [blkf g24 5 (bvs [97]), bytesL (.slice a8 1 c8) [97], disk ({ E with reads := r8 } : DV) p pg mb qv1, blk f 117 (fC (⟨secondS 32 5, (secondS 32 5).mark, m⟩ : FV) p), sto C3 ((⟨secondS 32 5, (secondS 32 5).mark, m⟩ : FV).s.mark) s f X3, blkf g15 5 (bvs [97])]);refine hK.out _ _ (zpu ?_);have hrg := bytesL_row (M26.get 1 rfl);refine zca 27 [.slice a8 1 c8, zS g24 1 1] rfl Try.call27 (same8_any a8 (zA g24) 1 c8 1 1 [97] [97] hrg (blkf_row (l := [97]) (M26.get 0 rfl)) (by decide) (by decide)) ?_;rintro e w27 ⟨rfl, H27⟩;have M27 := M26.st0 H27;refine ⟨_, rfl, ?_⟩;refine zp 3 rfl ?_;have hX28 := M27.pk [2, 3, 4, 0, 1, 5];simp only[Y3,Y4,Y1,Y2]at hX28;replace hX28 := hX28.s3;have hCH28 := spages_any (Mem.h3 hX28);refine zca 43 [zP s 0] rfl zc43 (hCH28) ?_;rintro e w28 ⟨rfl, H28⟩;have M28 : Mem w [] w28 [disk ({ E with reads := r8 } : DV) p pg mb qv1, blk f 117 (fC (⟨secondS 32 5, (secondS 32 5).mark, m⟩ : FV) p), sto C3 ((⟨secondS 32 5, (secondS 32 5).mark, m⟩ : FV).s.mark) s f X3, blkf g24 5 (bvs [97]), bytesL (.slice a8 1 c8) [97], blkf g15 5 (bvs [97])] := Mem.f3 hX28 H28;refine ⟨_, rfl, ?_⟩;refine zo M28 (zeql rfl (zT (show (E.pages.length : Int) = 5 by omega))) (zp 2 rfl ?_);refine zw (hK23 _ _ (zrt ?_));(try simp only[zi,zj]);refine zR (res1 rfl (zgd rfl)) (zdf _) ?_;exact ⟨rfl, M28.arr [] (by decide)⟩
end Go.Proofs.Ytfbamkgmnbobeaa

/- The law StoreForgets. -/
namespace Go.Proofs.Ytfbamkgmnbobeaa
set_option linter.unusedSectionVars false
open Go Go.RowKit
set_option linter.unusedVariables false
set_option linter.unusedSimpArgs false
theorem SInv.arm {D : DV} {V : FV} {C : CS} {pz : Pgs} (h : SInv D V C pz) {n : Int} (hn : n ≤ 9223372036854775807) : SInv (armD D n) V C pz :=
  ⟨h.inv.arm hn, h.nx, h.cl, h.kp, by have e : (armD D n).pages = D.pages := (by unfold armD; split <;> rfl); rw [e]; exact h.fit⟩
end Go.Proofs.Ytfbamkgmnbobeaa
