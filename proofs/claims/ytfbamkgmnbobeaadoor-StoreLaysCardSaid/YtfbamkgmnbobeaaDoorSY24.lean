/- Texts joined: Most, Lays. -/
import Derived.Test.YtfbamkgmnbobeaaDoorSY22
import Derived.Test.YtfbamkgmnbobeaaDoorSY23
/- What StoreMost needs in plain Lean: counts compared, the image of two superblocks, what a Flush refuses. -/
namespace Go.Proofs.YtfbamkgmnbobeaaDoor
set_option linter.unusedSectionVars false
open Go Go.RowKit
set_option linter.unusedVariables false
set_option linter.unusedSimpArgs false
section
variable {P : Program} {ops : Array Oper} {S : World → Prop} {o : Oper} {a : Act} {x y : Operand} {t t' : TypeId}
theorem y_nes {c d : List Value} {r : Bool} (hw : Region.wanted o (yielded ops a.tmps) = true) (ho : o.op = .binOp .neq t x y t') (hx : a.eval x = .agg c.toArray) (hy : a.eval y = .agg d.toArray) (hm : P.eqGuardType P.depth t = false)
    (he : ∀ W, (Op.equalIn 10000 t (.agg c.toArray) (.agg d.toArray)).run P W = .ok (!r) W) : YieldsIf P ops S o (.bool r) a :=
  y_run hw fun w _ => by
    unfold execOp
    simp only [ho, hx, hy, Sem.run_bind, run_neq_struct, run_eqGuard_agg (hm := hm), he, Result.andThen_ok, Bool.not_not]
    rfl
end
theorem Mem.nogd {w0 w : World} {T : TypeId} {C : List Value} {L : List Asn} (h0 : (blk 0 T C).holds w0) (h : Mem w0 (foots [blk 0 T C]) w (blk 0 T C :: L)) : Mem w0 [] w L := by
  have hb : (blk 0 T C).holds w := h.all _ (List.mem_cons_self ..)
  have hn := h.nodup
  rw [foots_cons, List.nodup_append] at hn
  refine ⟨⟨h.grew.os, h.grew.tape, h.grew.output, h.grew.size, fun k hk _ => ?_⟩, fun A hA => h.all A (List.mem_cons_of_mem _ hA), hn.2.1, fun b hb2 => ?_⟩
  · by_cases e : k = 0
    · subst e
      exact Eq.trans hb h0.symm
    · exact h.grew.block k hk (by intro hx; simp [foots, blk] at hx; exact e hx)
  · rcases h.new b (by rw [foots_cons]; exact List.mem_append_right _ hb2) with h1 | h1
    · exact absurd rfl (hn.2.2 b (by simpa [foots] using h1) b hb2)
    · exact .inr h1
section
variable {D : DV} {V : FV} {C : CS} {X : SX} {s f p pg mb : Nat} {qv : Value} {w : World}
end
end Go.Proofs.YtfbamkgmnbobeaaDoor

/- What StoreLays needs in plain Lean: the pages that a Format and a Flush leave, lists of lists written at a place. -/
namespace Go.Proofs.YtfbamkgmnbobeaaDoor
open Go Go.RowKit
set_option linter.unusedVariables false
set_option linter.unusedSimpArgs false
set_option linter.unusedSectionVars false
def setAll (ps : List (List UInt8)) (n : Nat) : List (Nat × List UInt8) → List (List UInt8)
  | [] => ps
  | x :: xs => setAll (ps.set n (pageB x.1 n x.2)) (n + 1) xs
theorem setAll_len : ∀ (xs : List (Nat × List UInt8)) (ps : List (List UInt8)) (n : Nat), (setAll ps n xs).length = ps.length
  | [], _, _ => rfl
  | x :: xs, ps, n => by
    show (setAll (ps.set n _) (n + 1) xs).length = _
    rw [setAll_len xs, List.length_set]
theorem setAll_snoc : ∀ (xs : List (Nat × List UInt8)) (ps : List (List UInt8)) (n : Nat) (x : Nat × List UInt8), setAll ps n (xs ++ [x]) = (setAll ps n xs).set (n + xs.length) (pageB x.1 (n + xs.length) x.2)
  | [], ps, n, x => rfl
  | y :: xs, ps, n, x => by
    show setAll (ps.set n _) (n + 1) (xs ++ [x]) = (setAll (ps.set n _) (n + 1) xs).set (n + (xs.length + 1)) _
    rw [setAll_snoc xs, show n + 1 + xs.length = n + (xs.length + 1) by omega]
    rfl
theorem actD_q0 {D : DV} (h : D.armed = 0) : actD D = D := (act_arm0 h).2
theorem applyQ_one (ps : List (List UInt8)) (n : Nat) (d : List UInt8) : applyQ ps [(n, d)] = ps.set n d := rfl
def outQ (n : Nat) : List En → List Wr
  | [] => []
  | e :: es => (n, pageB e.kd.toNat n e.l) :: outQ (n + 1) es
theorem applyQ_out : ∀ (es : List En) (ps : List (List UInt8)) (n : Nat), applyQ ps (outQ n es) = setAll ps n (es.map enP)
  | [], _, _ => rfl
  | e :: es, ps, n => by
    show applyQ (ps.set n (pageB e.kd.toNat n e.l)) (outQ (n + 1) es) = setAll (ps.set n (pageB e.kd.toNat n e.l)) (n + 1) (es.map enP)
    exact applyQ_out es _ _
theorem appAll_q : ∀ (es : List En) {D : DV} {V : FV} {pz : Pgs}, Inv D V pz → (∀ e ∈ es, PageOk (enP e) ∧ 0 ≤ e.kd) → V.next + (es.length : Int) ≤ (D.pages.length : Int) → D.armed = 0 →
    (appAll D V es).1.pages = D.pages ∧ (appAll D V es).1.q = D.q ++ outQ V.next.toNat es ∧ (appAll D V es).1.armed = 0
  | [], D, V, pz, h, _, _, ha => ⟨rfl, (List.append_nil _).symm, ha⟩
  | e :: es, D, V, pz, h, hk, hr, ha => by
    obtain ⟨hx, hx0⟩ := hk e (List.mem_cons_self ..)
    have hlen : ((e :: es).length : Int) = (es.length : Int) + 1 := by simp
    rw [hlen] at hr
    have hkd : ((e.kd.toNat : Nat) : Int) = e.kd := Int.toNat_of_nonneg hx0
    have hn : V.next < (D.pages.length : Int) := by omega
    have hn2 := h.next2
    obtain ⟨a1, a2, a3, a4⟩ := h.app (k := e.kd.toNat) (l := e.l) hx hn
    rw [hkd] at a1 a2 a3 a4
    have ho : (openW D V.next (pageB e.kd.toNat V.next.toNat e.l)).armed = 0 := ha
    rw [actD_q0 ho] at a2
    have hA : actE D = 0 := (act_arm0 ha).1
    have hE : appE D V e.kd e.l = 0 := by rw [a1]; exact hA
    have hV := (app_yes hE).2
    have hI := a3 hA
    have hstep : appAll D V (e :: es) = appAll (appD D V e.kd e.l) (appV D V e.kd e.l) es := if_pos hE
    rw [hstep, hV]
    have c4 : (appD D V e.kd e.l).pages = D.pages := by rw [a2]; rfl
    have hroom : ({ V with next := V.next + 1 } : FV).next + (es.length : Int) ≤ ((appD D V e.kd e.l).pages.length : Int) := by show V.next + 1 + (es.length : Int) ≤ _; rw [c4]; omega
    obtain ⟨d1, d2, d3⟩ := appAll_q es hI (fun u hu => hk u (List.mem_cons_of_mem _ hu)) hroom (by rw [a2]; exact ha)
    refine ⟨by rw [d1, c4], ?_, d3⟩
    rw [d2]
    have e1 : (appD D V e.kd e.l).q = D.q ++ [(V.next.toNat, pageB e.kd.toNat V.next.toNat e.l)] := by rw [a2]; rfl
    have e2 : ({ V with next := V.next + 1 } : FV).next.toNat = V.next.toNat + 1 := by show (V.next + 1).toNat = _; omega
    rw [e1, e2, List.append_assoc]
    rfl
section
variable {D : DV} {V : FV} {C : CS} {pz : Pgs} {X : SX}
theorem SInv.flush_pages (h : SInv D V C pz) (hS : SOk C V.s.mark X) {head : Int} (hh : head = 0 ∨ (2 ≤ head ∧ head < V.s.mark + (C.kp.length : Int))) (hg : V.s.gen < 1099511627776) (ha : D.armed = 0) (hq : D.q = []) :
    (flushR D V C head).1.pages = (setAll D.pages V.s.mark.toNat (C.kp.map enP)).set ((V.s.gen + 1) % 2).toNat (superB (flushS V C head)) := by
  have hnL : ¬ liveE D V ≠ 0 := fun x => x h.inv.isLive
  have hf := h.fit
  have hm := hS.mk2
  have hnx := h.nx
  have hen : ∀ e ∈ C.kp, PageOk (enP e) ∧ 0 ≤ e.kd := h.kp
  obtain ⟨G, b1, b2, b3, _, _, _⟩ := (appAll_go C.kp h.inv hen (by omega)).1 (.inl ha)
  obtain ⟨d1, d2, d3⟩ := appAll_q C.kp h.inv hen (by omega) ha
  rw [b1] at d1 d2 d3
  have ga : G.armed = 0 := d3
  have hh2 : head = 0 ∨ (2 ≤ head ∧ head < ({ V with next := V.next + (C.kp.length : Int) } : FV).next) := by
    show head = 0 ∨ (2 ≤ head ∧ head < V.next + (C.kp.length : Int))
    omega
  have hps : pubS ({ V with next := V.next + (C.kp.length : Int) } : FV) head = flushS V C head := by
    unfold pubS flushS
    rw [hnx]
  have p1 : (pubR G { V with next := V.next + (C.kp.length : Int) } head).2 = 0 ∧ pubR G { V with next := V.next + (C.kp.length : Int) } head = (pubD3 G (flushS V C head), 0) := by
    rcases b2.pub hh2 hg with ⟨c1, c2, _⟩ | ⟨_, c2, _⟩
    · rw [hps] at c2; exact ⟨c1, c2⟩
    · exact absurd ga c2
  have hR : flushR D V C head = ((pubR G { V with next := V.next + (C.kp.length : Int) } head).1, pubV G { V with next := V.next + (C.kp.length : Int) } head, 0) := by
    unfold flushR
    rw [if_neg hnL, if_neg (by omega), if_neg (by omega), b1, if_neg (fun h => h rfl), if_neg (fun h => h p1.1)]
  rw [hR]
  show (pubR G { V with next := V.next + (C.kp.length : Int) } head).1.pages = _
  rw [p1.2]
  have q1 : pubD1 G = flushD G := by unfold pubD1; rw [actD_q0 ga]
  have q2 : pubD2 G (flushS V C head) = openW (flushD G) ((flushS V C head).gen % 2) (superB (flushS V C head)) := by
    unfold pubD2
    rw [q1]
    exact actD_q0 ga
  show (flushD (actD (pubD2 G (flushS V C head)))).pages = _
  rw [q2, actD_q0 (D := openW (flushD G) _ _) ga]
  show applyQ (applyQ G.pages G.q) [(((flushS V C head).gen % 2).toNat, superB (flushS V C head))] = _
  have d1 : G.pages = D.pages := d1
  have d2 : G.q = D.q ++ outQ V.next.toNat C.kp := d2
  rw [applyQ_one, d1, d2, hq, List.nil_append, applyQ_out, hnx]
  rfl
end
theorem writeD_alive {D : DV} (hd : D.dead = false) {p : Int} (hp : D.has p) {d : List UInt8} (hl : d.length = 256) (ha : D.armed = 0) : writeD D p d = openW D p d := by
  rw [(write_alive hd hp hl).2]
  exact actD_q0 ha
theorem syncD_alive {D : DV} (hd : D.dead = false) (ha : D.armed = 0) : syncD D = flushD D := by
  rw [(sync_alive hd).2, if_pos (act_arm0 ha).1, actD_q0 ha]
theorem Blank.format_pages {D : DV} (h : Blank D) {w : Int} (hw : 1 ≤ w ∧ w ≤ 32) (ha : D.armed = 0) :
    (formatR D w).1.pages = (D.pages.set 0 (superB (firstS w D.pages.length))).set 1 (superB (secondS w D.pages.length)) := by
  obtain ⟨f1, f2, f3, f4, f5, _, _⟩ := slotsD_same D
  have hR : formatR D w = runS [wS (firstS w D.pages.length), yS, wS (secondS w D.pages.length), yS] (slotsD D) := by
    unfold formatR
    rw [if_neg (by rw [h.pow]; decide), if_neg (by omega), if_neg (by rw [h.slots]; decide)]
    rfl
  have h0 : (formatR D w).2 = 0 := by
    rcases h.format hw with ⟨_, h1, _⟩ | ⟨h1, _⟩
    · exact h1
    · omega
  have split : ∀ (f : DV → DV × Int) (fs : List (DV → DV × Int)) (E : DV), (runS (f :: fs) E).2 = 0 → runS (f :: fs) E = runS fs (f E).1 := fun f fs E hE => by
    have e : runS (f :: fs) E = if (f E).2 = 0 then runS fs (f E).1 else f E := rfl
    by_cases hx : (f E).2 = 0
    · rw [if_pos hx] at e; exact e
    · rw [e, if_neg hx] at hE; exact absurd hE hx
  have hlo := h.ok.lo
  rw [hR] at h0 ⊢
  have e1 := split _ _ _ h0; rw [e1] at h0 ⊢
  have e2 := split _ _ _ h0; rw [e2] at h0 ⊢
  have e3 := split _ _ _ h0; rw [e3] at h0 ⊢
  have e4 := split _ _ _ h0; rw [e4]
  have a0 : (slotsD D).armed = 0 := by rw [f5]; exact ha
  have d0 : (slotsD D).dead = false := by rw [f4]; exact h.pow
  have p0 : (slotsD D).has ((firstS w D.pages.length).gen % 2) := ⟨by show (0 : Int) ≤ 0 % 2; decide, by rw [f1]; show (0 : Int) % 2 < _; omega⟩
  have w1 : (wS (firstS w D.pages.length) (slotsD D)).1 = openW (slotsD D) 0 (superB (firstS w D.pages.length)) := writeD_alive d0 p0 (length_superB _) a0
  have y1 : (yS (wS (firstS w D.pages.length) (slotsD D)).1).1 = flushD (openW (slotsD D) 0 (superB (firstS w D.pages.length))) := by
    rw [w1]
    exact syncD_alive d0 a0
  obtain ⟨G, hG⟩ : ∃ G, G = flushD (openW (slotsD D) 0 (superB (firstS w D.pages.length))) := ⟨_, rfl⟩
  rw [y1, ← hG]
  have gp : G.pages = D.pages.set 0 (superB (firstS w D.pages.length)) := by
    rw [hG]
    show applyQ (slotsD D).pages ((slotsD D).q ++ [((0 : Int).toNat, superB (firstS w D.pages.length))]) = _
    rw [f1, f2, h.que, List.nil_append]
    rfl
  have gq : G.q = [] := by rw [hG]; rfl
  have gd : G.dead = false := by rw [hG]; exact d0
  have ga : G.armed = 0 := by rw [hG]; exact a0
  have p1 : G.has ((secondS w D.pages.length).gen % 2) := ⟨by show (0 : Int) ≤ 1 % 2; decide, by rw [gp, List.length_set]; show (1 : Int) % 2 < _; omega⟩
  have w2 : (wS (secondS w D.pages.length) G).1 = openW G 1 (superB (secondS w D.pages.length)) := writeD_alive gd p1 (length_superB _) ga
  show ((yS (wS (secondS w D.pages.length) G).1).1).pages = _
  have y2 : (yS (wS (secondS w D.pages.length) G).1).1 = flushD (openW G 1 (superB (secondS w D.pages.length))) := by
    rw [w2]
    exact syncD_alive gd ga
  rw [y2]
  show applyQ G.pages (G.q ++ [((1 : Int).toNat, superB (secondS w D.pages.length))]) = _
  rw [gq, gp, List.nil_append]
  rfl
section
variable {w0 w : World} {F : List Nat} {R : List Asn}
theorem inner_set {vs : List Value} {ls : List (List UInt8)} (h : vs.length = ls.length) (i : Nat) (v : Value) (l : List UInt8) : inner (vs.set i v) (ls.set i l) = (inner vs ls).set i (bytesL v l) := by
  unfold inner
  apply List.ext_getElem?
  intro j
  simp only [List.getElem?_zipWith, List.getElem?_set, List.length_zipWith]
  by_cases hj : i = j
  · subst hj
    by_cases hl : i < ls.length
    · simp [h, hl]
    · simp [h, hl]
  · simp [hj]
theorem Mem.setA {L : List Asn} {B : Asn} (h : Mem w0 F w (B :: (L ++ R))) (i : Nat) : Mem w0 F w (L.set i B ++ R) ∨ L.length ≤ i := by
  by_cases hi : i < L.length
  · left
    obtain ⟨X, Y, h1, h2⟩ := set_split L i L[i] B (List.getElem?_eq_getElem hi)
    rw [h2]
    rw [h1] at h
    have h3 : Mem w0 F w (L[i] :: (B :: ((X ++ Y) ++ R))) := h.perm (by
      have p1 : (B :: ((X ++ L[i] :: Y) ++ R)).Perm (B :: (L[i] :: ((X ++ Y) ++ R))) := by
        refine List.Perm.cons _ ?_
        rw [List.append_assoc, List.cons_append, List.append_assoc]
        exact List.perm_middle
      exact p1.trans (List.Perm.swap _ _ _))
    have h4 : Mem w0 F w (B :: ((X ++ Y) ++ R)) := h3.sub (List.Sublist.cons _ (List.Sublist.refl _))
    refine h4.perm ?_
    rw [List.append_assoc, List.append_assoc, List.cons_append]
    exact List.perm_middle.symm
  · exact .inr (by omega)
theorem rows8_set {lv v : Value} {vs : List Value} {ls : List (List UInt8)} {l : List UInt8} {i : Nat} (hv : vs.length = ls.length) (hi : i < ls.length) (h : Mem w0 F w (lst 23 1 lv ls.length (vs.set i v) :: innerA vs ls :: bytesL v l :: R)) : Mem w0 F w (rows lv (vs.set i v) (ls.set i l) :: R) := by
  have h1 : Mem w0 F w (innerA vs ls :: (bytesL v l :: (lst 23 1 lv ls.length (vs.set i v) :: R))) := h.perm ((List.Perm.swap _ _ _).trans (List.Perm.cons _ (List.Perm.swap _ _ _)))
  have h2 := (Mem.open (X := inner vs ls) h1).2
  have h2' : Mem w0 F w (bytesL v l :: (inner vs ls ++ (lst 23 1 lv ls.length (vs.set i v) :: R))) := h2.perm List.perm_middle
  have h3 : Mem w0 F w ((inner vs ls).set i (bytesL v l) ++ (lst 23 1 lv ls.length (vs.set i v) :: R)) := by
    rcases h2'.setA i with hx | hx
    · exact hx
    · exfalso
      unfold inner at hx
      rw [List.length_zipWith] at hx
      omega
  rw [← inner_set hv] at h3
  have h4 : Mem w0 F w (innerA (vs.set i v) (ls.set i l) :: (lst 23 1 lv ls.length (vs.set i v) :: R)) := Mem.close (X := inner (vs.set i v) (ls.set i l)) trivial h3
  have h5 : Mem w0 F w (lst 23 1 lv (ls.set i l).length (vs.set i v) :: innerA (vs.set i v) (ls.set i l) :: R) := by
    rw [List.length_set]
    exact h4.perm (List.Perm.swap _ _ _)
  exact Mem.close (X := rowsL lv (vs.set i v) (ls.set i l)) (by rw [List.length_set, List.length_set, hv]) h5
end
section
variable {w0 w : World} {F : List Nat} {R : List Asn}
theorem rows9_open {lv : Value} {vs : List Value} {ls : List (List UInt8)} (h : Mem w0 F w (rows lv vs ls :: R)) : vs.length = ls.length ∧ Mem w0 F w (lst 23 1 lv ls.length vs :: innerA vs ls :: R) := h.open
theorem rows9_snoc {lv v : Value} {vs : List Value} {ls : List (List UInt8)} {l : List UInt8} (hv : vs.length = ls.length) (h : Mem w0 F w (lst 23 1 lv (ls.length + 1) (vs ++ [v]) :: innerA vs ls :: bytesL v l :: R)) : Mem w0 F w (rows lv (vs ++ [v]) (ls ++ [l]) :: R) := by
  have h1 : Mem w0 F w (innerA vs ls :: (bytesL v l :: (lst 23 1 lv (ls.length + 1) (vs ++ [v]) :: R))) := h.perm ((List.Perm.swap _ _ _).trans (List.Perm.cons _ (List.Perm.swap _ _ _)))
  have h2 := (Mem.open (X := inner vs ls) h1).2
  have h3 : Mem w0 F w (innerA (vs ++ [v]) (ls ++ [l]) :: (lst 23 1 lv (ls.length + 1) (vs ++ [v]) :: R)) := Mem.close (X := inner (vs ++ [v]) (ls ++ [l])) trivial (by
    rw [inner_snoc hv, List.append_assoc]; exact h2)
  have h4 : Mem w0 F w (lst 23 1 lv (ls ++ [l]).length (vs ++ [v]) :: innerA (vs ++ [v]) (ls ++ [l]) :: R) := by
    rw [List.length_append]
    exact h3.perm (List.Perm.swap _ _ _)
  exact Mem.close (X := rowsL lv (vs ++ [v]) (ls ++ [l])) (by rw [List.length_append, List.length_append, hv]; rfl) h4
theorem rows9_nil (h : Mem w0 F w R) : Mem w0 F w (rows (.slice none 0 0) [] [] :: R) := by
  refine (h.step (R := [rows (.slice none 0 0) [] []]) ⟨Grew.refl _ _, fun B hB => ?_, by simp [foots, rows, star, rowsL, innerA, inner, lst, obs, Value.ownBlock], by simp [foots, rows, star, rowsL, innerA, inner, lst, obs, Value.ownBlock]⟩)
  obtain rfl : B = _ := by simpa using hB
  refine ⟨rfl, fun A hA => ?_⟩
  rcases List.mem_cons.1 hA with rfl | hA
  · exact World.ownsRow_nil _ _ _ _
  · obtain rfl := List.mem_singleton.1 hA
    exact ⟨trivial, fun B hB => by cases hB⟩
end
theorem flatten_page : ∀ (ps : List (List UInt8)) (p : Nat), (∀ x ∈ ps, x.length = 256) → p < ps.length → ((ps.flatten.drop (256 * p)).take 256) = ps.getD p []
  | [], p, _, h => by simp at h
  | x :: xs, 0, hl, _ => by
    have := hl x (List.mem_cons_self ..)
    rw [List.flatten_cons, Nat.mul_zero, List.drop_zero, List.take_append_of_le_length (by omega), List.take_of_length_le (by omega)]
    rfl
  | x :: xs, p + 1, hl, h => by
    have := hl x (List.mem_cons_self ..)
    rw [List.flatten_cons, show 256 * (p + 1) = x.length + 256 * p by omega, List.drop_append, List.drop_of_length_le (by omega), List.nil_append, Nat.add_sub_cancel_left, flatten_page xs p (fun y hy => hl y (List.mem_cons_of_mem _ hy)) (by simpa using h)]
    rfl
end Go.Proofs.YtfbamkgmnbobeaaDoor
