/- Texts joined: File2, File3, File4, File5. -/
import Derived.Test.YtopdhanbmnfeeaaDoorIR04
import Derived.Test.YtopdhanbmnfeeaaDoorIR13
/- The file: lay, inOrder. -/
namespace Go.Proofs.YtopdhanbmnfeeaaDoor
set_option linter.unusedSectionVars false
open Go Go.RowKit
set_option maxRecDepth 100000
set_option maxHeartbeats 40000000
set_option linter.unusedVariables false
set_option linter.unusedSimpArgs false
structure Stp where
  f : FuncId
  fi : List Value
  ca : List Value
def stpV (x : Stp) : Value := .func (.func x.f) x.fi.toArray x.ca.toArray
theorem lay_any (p : Nat) (s : SupV) (w : World) : zC 34 [zP p 0, .agg (supC s).toArray] w fun e w' => ∃ gs gd, e = .returned (stpV ⟨51, [], [zP gs 0, zP gd 0]⟩) ∧ Mem w [] w' [blk gs 61 (supC s), blk gd 23 [zP p 0]] := by
 have M := Mem.nil w;go_enter Tryd.func34, Tryd.ntmps34;refine zin ?_;refine zk fun K1 hK1 => zr ?_;refine pe (zwn rfl) fun K hK => e_box1 M (zP p 0) rfl rfl (zev rfl) ?_;intro gd w2 (M2 : Mem w [] w2 [blk gd 23 ([zP p 0])]);clear M;refine hK.out _ _ (zpu ?_);refine zbx M2 (supC s) rfl fun gs w3 M3 => ?_;refine zp 1 rfl ?_;refine zw (hK1 _ _ (zk fun K4 hK4 => zr ?_));refine zo M3 (y_func (fv := []) (cv := [zP gs 0, zP gd 0]) (zwn rfl) rfl (zls_eval rfl) (zls_eval rfl)) (zo M3 (y_assign (v := .func (.func 51) #[] #[zP gs 0, zP gd 0]) (zwn rfl) rfl (zev rfl)) ?_);refine zw (hK4 _ _ (zrt ?_));(try simp only[zi,zj]);refine zR (res1 rfl (zgd rfl)) (zdf _) ?_;exact ⟨_, _, rfl, M3⟩
theorem laid_any {D : DV} {p pg mb : Nat} {qv : Value} {gs gd : Nat} {s : SupV} {w : World} (hM : zM w [disk D p pg mb qv, blk gs 61 (supC s), blk gd 23 [zP p 0]]) (hv : ValidS s) (hq : D.q.length ≤ 500000000000) : zC 51 [zP gs 0, zP gd 0] w fun e w' => ∃ qv', e = .returned (zI (writeE D (s.gen % 2) (superB s))) ∧ zD w [disk D p pg mb qv, blk gs 61 (supC s), blk gd 23 [zP p 0]] w' [disk (writeD D (s.gen % 2) (superB s)) p pg mb qv', blk gs 61 (supC s), blk gd 23 [zP p 0]] := by
 obtain ⟨hok, M⟩ := disk_open hM;clear hM;have hg := hv.2.2.1;go_enter Tryd.func51, Tryd.ntmps51;refine zin ?_;refine zk fun K1 hK1 => zr ?_;refine zp 1 rfl ?_;refine zw (hK1 _ _ (zk fun K2 hK2 => zr ?_));refine zo M (zlb 4 rfl zu61 rfl (size_sup _)) ?_;refine zca 52 [.agg (supC s).toArray] rfl Tryd.call52 (packSuper_ok s _ hv) ?_;rintro e w3 ⟨gp, rfl, H3⟩;have M3 := M.step H3;simp only[Y1,Y2]at M3;refine ⟨_, rfl, ?_⟩;refine zp 5 rfl ?_;refine zw (hK2 _ _ (zk fun K4 hK4 => zk fun K5 hK5 => zr ?_));refine zp 1 rfl (zo M3 (zneq (b := false) rfl (by rw [decide_eq_true rfl]; rfl)) ?_);refine zw (hK5 _ _ (zcf rfl (zsk (hK4 _ _ (zk fun K6 hK6 => ?_)))));refine zr ?_;refine zo M3 (zl 6 rfl zg23) (zo M3 (zf 1 zu61 rfl zz3) (zo M3 (zl 5 rfl zg3) (zo M3 (y_rem (r := s.gen % 2) (zwn rfl) rfl (zev rfl) (zev rfl) (by omega) (by rw [Int.tmod_eq_emod_of_nonneg (by omega)])) (zp 1 rfl ?_))));have M7 := M3.pk [1, 2, 3, 4, 0, 5, 6];simp only[Y3,Y4,Y1,Y2]at M7;refine pe (zwn rfl) (fun K hK => ?_);have hnd : zD w [disk D p pg mb qv, blk gs 61 (supC s), blk gd 23 [zP p 0]] w3 [disk D p pg mb qv, blk gp 5 (bvs (superB s)), blk gs 61 (supC s), blk gd 23 ([zP p 0])] := (disk_close hok M7);refine e_call 53 [zP p 0, zI (s.gen % 2), zS gp 256 256] rfl (zls_eval rfl) Tryd.call53 (write_any (Mem.h1 hnd) (s.gen % 2) (zA gp) 256 256 (superB s) (by have := blk_row (M7.get 4 rfl); rwa [length_superB] at this) (fun b o e _ hb => by cases e; exact hnd.apart 0 1 (by decide) rfl rfl (by simp [foots] at hb; exact hb) (by simp [blk])) (by omega) hq) ?_;rintro e w8 ⟨qv', rfl, H⟩;have M8 : zD w [disk D p pg mb qv, blk gs 61 (supC s), blk gd 23 [zP p 0]] w8 [disk (writeD D (s.gen % 2) (superB s)) p pg mb qv', blk gp 5 (bvs (superB s)), blk gs 61 (supC s), blk gd 23 ([zP p 0])] := Mem.f1 hnd H;clear H hnd M7;refine ⟨_, rfl, hK.out _ _ (zpu ?_)⟩;refine zp 1 rfl ?_;refine zw (hK6 _ _ (zrt ?_));(try simp only[zi,zj]);refine zR (res1 rfl (zgd rfl)) (zdf _) ?_;exact ⟨qv', rfl, M8.arr [0, 2, 3] (by decide)⟩
structure Steps (P : Program) (xs : List Stp) (gt : Nat) (R : Nat → World → Prop) (E : Int → World → Prop) : Prop where
  calls : ∀ i x, xs[i]? = some x → ∀ w, R i w → Calls P x.f (x.fi ++ x.ca).toArray w fun e w' => ∃ z : Int, e = .returned (.int .i64 z) ∧ (z = 0 → R (i + 1) w') ∧ (z ≠ 0 → E z w')
  call : ∀ x ∈ xs, ∀ ar w, (callFunc x.f ar).run P w = .ok (.enter x.f ar) w
  row : ∀ i x, xs[i]? = some x → ∀ w, R i w → w.cell? ⟨gt, i, none⟩ = some (stpV x)
theorem inOrder_any {xs : List Stp} {gt : Nat} {R : Nat → World → Prop} {E : Int → World → Prop} (hS : Steps Tryd.prog xs gt R E) (hn : xs.length ≤ 1000) (w : World) (h0 : R 0 w) : zC 33 [zS gt xs.length xs.length] w fun e w' => ∃ z : Int, e = .returned (zI z) ∧ (z = 0 → R xs.length w') ∧ (z ≠ 0 → E z w') := by
 have M := Mem.nil w;go_enter Tryd.func33, Tryd.ntmps33;refine zin ?_;refine zk fun K1 hK1 => zr ?_;refine zp 1 rfl ?_;refine zw (hK1 _ _ (zk fun K2 hK2 => zk fun K3 hK3 => zr ?_));refine zp 1 rfl (zo M (y_len (zwn rfl) rfl (zev rfl) zu118) (zp 1 rfl ?_));refine zw (hK3 _ _ (zbl ?_));refine zlp (fun n' a' w' => ∃ (k : Nat) (us4 : List Value), n' = (xs.length - ((k : Int)).toNat) ∧ a' = (⟨#[zS gt xs.length xs.length, undef, (zU us4 0), undef, (zU us4 1), (zU us4 2), zS gt xs.length xs.length, zI (xs.length : Int), zI (k : Int), (zU us4 3), (zU us4 4), (zU us4 5), (zU us4 6), (zU us4 7), (zU us4 8), (zU us4 9), (zU us4 10), (zU us4 11)], []⟩ : Act) ∧ (k ≤ xs.length) ∧ (R k w') ∧ True) _ ⟨0, [zI 0, undef, undef, undef, undef, undef, undef, undef, undef, undef, undef, undef], rfl, (zmk (by kernel_rfl)), Nat.zero_le _, h0, trivial⟩ ?_;rintro n' a' w5 ⟨k, us4, rfl, rfl, hk, hR, M5⟩;refine zin ?_;have M5 := Mem.nil w5;refine zk fun K6 hK6 => zr ?_;rcases zem ((k : Int) < (xs.length : Int)) with h7 | h7
 ·have hkl : k < xs.length := by omega
  obtain ⟨x, hx⟩ : ∃ x, xs[k]? = some x := ⟨_, List.getElem?_eq_getElem hkl⟩;have hcell := hS.row k x hx _ hR;refine zo M5 (zlss rfl (zT h7)) ?_;refine zw (hK6 _ _ (zk fun K8 hK8 => zct rfl (zsk (hK8 _ _ ?_))));refine zk fun K9 hK9 => zbl (zk fun K10 hK10 => zr ?_);refine zo M5 (y_ias (r := k) (zwn rfl) rfl (zev rfl) (zev rfl) zu118 Tryd.sizeOf87 (by first | omega | (dsimp only; omega)) (by first | omega | (dsimp only; omega))) (zo M5 (y_loadc (v := stpV x) (zwn rfl) rfl (zev rfl) Tryd.isAgg87 (fun W hW => by rw [World.cell?_of_block (w := w5) (w' := W) (hW.old (block_lt_of_cell hcell) (by simp))]; exact hcell)) (zp 1 rfl ?_));refine zw (hK10 _ _ (zk fun K11 hK11 => zr ?_));refine zp 1 rfl ?_;refine pe (zwn rfl) fun K hK => e_callv x.f (x.fi ++ x.ca) rfl (zev rfl) (by simp) (hS.call x (List.mem_of_getElem? hx)) (hS.calls k x hx _ hR) ?_;rintro e w12 ⟨z, rfl, hz1, hz2⟩;have M12 := Mem.nil w12;refine ⟨_, rfl, hK.out _ _ (zpu ?_)⟩;refine zp 1 rfl ?_;refine zw (hK11 _ _ (zk fun K13 hK13 => zr ?_));refine zp 1 rfl ?_;rcases zem (z = 0) with h14 | h14
  ·have hR2 := hz1 h14;refine zo M12 (zneq (b := false) rfl (by rw [decide_eq_true h14]; rfl)) ?_;refine zw (hK13 _ _ (zcf rfl (zsk (hK9 _ _ (zr ?_)))));refine zo M12 (y_add (r := (k : Int) + 1) (zwn rfl) rfl (zev rfl) (zev rfl) (rfl) (by omega)) (zp 1 rfl ?_);refine zw ?_;refine ⟨_, ?_, ⟨k + 1, [(zU us4 0), (stpV x), zI z, .bool true, zP gt k, (stpV x), (stpV x), zI z, zI z, .bool false, (zU us4 10), zI ((k : Int) + 1)], rfl, (zmk (by kernel_rfl)), by omega, hR2, trivial⟩⟩;simp [intOf]; omega
  ·refine zo M12 (zneq (b := true) rfl (by rw [decide_eq_false h14]; rfl)) ?_;refine zw (hK13 _ _ (zct rfl (zk fun K15 hK15 => zr ?_)));refine zp 2 rfl ?_;refine zw (hK15 _ _ (zrt ?_));(try simp only[zi,zj]);refine zR (res1 rfl (zgd rfl)) (zdf _) ?_;exact ⟨z, rfl, fun h => absurd h h14, hz2⟩
 ·obtain rfl : k = xs.length := by omega
  refine zo M5 (zlss rfl (zF h7)) ?_;refine zw (hK6 _ _ (zk fun K16 hK16 => zcf rfl (zx (hK2 _ _ ?_))));refine zk fun K17 hK17 => zr ?_;refine zp 1 rfl ?_;refine zw (hK17 _ _ (zrt ?_));(try simp only[zi,zj]);refine zR (res1 rfl (zgd rfl)) (zdf _) ?_;exact ⟨0, rfl, fun _ => hR, fun h => absurd rfl h⟩
end Go.Proofs.YtopdhanbmnfeeaaDoor

/- The file: Format. -/
namespace Go.Proofs.YtopdhanbmnfeeaaDoor
set_option linter.unusedSectionVars false
open Go Go.RowKit
set_option maxRecDepth 100000
set_option maxHeartbeats 40000000
set_option linter.unusedVariables false
set_option linter.unusedSimpArgs false
def runS : List (DV → DV × Int) → DV → DV × Int
  | [], D => (D, 0)
  | f :: fs, D => if (f D).2 = 0 then runS fs (f D).1 else f D
def wS (s : SupV) (D : DV) : DV × Int := (writeD D (s.gen % 2) (superB s), writeE D (s.gen % 2) (superB s))
def yS (D : DV) : DV × Int := (syncD D, syncE D)
def stAt (fs : List (DV → DV × Int)) (D : DV) : Nat → DV
  | 0 => D
  | i + 1 => ((fs.getD i yS) (stAt fs D i)).1
def resAt (fs : List (DV → DV × Int)) (D : DV) (i : Nat) : Int := ((fs.getD i yS) (stAt fs D i)).2
theorem stAt_cons (f : DV → DV × Int) (fs : List (DV → DV × Int)) (D : DV) : ∀ i, stAt (f :: fs) D (i + 1) = stAt fs (f D).1 i
  | 0 => rfl
  | i + 1 => by
    show ((f :: fs).getD (i + 1) yS (stAt (f :: fs) D (i + 1))).1 = _
    rw [stAt_cons f fs D i]; rfl
theorem resAt_cons (f : DV → DV × Int) (fs : List (DV → DV × Int)) (D : DV) (i : Nat) : resAt (f :: fs) D (i + 1) = resAt fs (f D).1 i := by
  unfold resAt
  rw [stAt_cons]; rfl
theorem runS_ok : ∀ (fs : List (DV → DV × Int)) (D : DV), (∀ j, j < fs.length → resAt fs D j = 0) → runS fs D = (stAt fs D fs.length, 0)
  | [], _, _ => rfl
  | f :: fs, D, h => by
    have h0 : (f D).2 = 0 := h 0 (by simp)
    rw [runS, if_pos h0, runS_ok fs (f D).1 fun j hj => by rw [← resAt_cons]; exact h (j + 1) (by simpa using hj), List.length_cons, stAt_cons]
theorem runS_no : ∀ (fs : List (DV → DV × Int)) (D : DV) (j : Nat), j < fs.length → (∀ i, i < j → resAt fs D i = 0) → resAt fs D j ≠ 0 → runS fs D = (stAt fs D (j + 1), resAt fs D j)
  | f :: fs, D, 0, _, _, h => by
    have h0 : ¬ (f D).2 = 0 := h
    rw [runS, if_neg h0]; rfl
  | f :: fs, D, j + 1, hj, hi, h => by
    have h0 : (f D).2 = 0 := hi 0 (by omega)
    rw [resAt_cons] at h
    rw [runS, if_pos h0, runS_no fs (f D).1 j (by simpa using hj) (fun i h' => by rw [← resAt_cons]; exact hi (i + 1) (by omega)) h, stAt_cons, resAt_cons]
theorem stAt_q (fs : List (DV → DV × Int)) (hq : ∀ f ∈ fs, ∀ E, (f E).1.q.length ≤ E.q.length + 1) (D : DV) : ∀ i, i ≤ fs.length → (stAt fs D i).q.length ≤ D.q.length + i
  | 0, _ => Nat.le_refl _
  | i + 1, h => by
    have ih := stAt_q fs hq D i (by omega)
    have := hq (fs.getD i yS) (by rw [List.getD_eq_getElem?_getD, List.getElem?_eq_getElem (by omega)]; exact List.getElem_mem _) (stAt fs D i)
    show ((fs.getD i yS) (stAt fs D i)).1.q.length ≤ _
    omega
theorem actD_q (D : DV) : (actD D).q = D.q := by
  unfold actD
  split <;> rfl
theorem wS_q (s : SupV) (E : DV) : (wS s E).1.q.length ≤ E.q.length + 1 := by
  show (writeD _ _ _).q.length ≤ _
  unfold writeD
  split
  · omega
  · split
    · split
      · rw [actD_q]; simp [openW]
      · omega
    · omega
theorem yS_q (E : DV) : (yS E).1.q.length ≤ E.q.length + 1 := by
  show (syncD _).q.length ≤ _
  unfold syncD
  split
  · omega
  · split
    · rw [actD_q]; omega
    · simp [flushD]
theorem disk_steps {p pg mb gt : Nat} {w0 : World} {F : List Nat} {X : List Asn} (xs : List Stp) (fs : List (DV → DV × Int)) (hl : xs.length = fs.length) (hn : xs.length ≤ 1000)
    (hrow : ∀ W, (∀ A ∈ X, A.holds W) → ∀ (i : Nat) (x : Stp), xs[i]? = some x → W.cell? ⟨gt, i, none⟩ = some (stpV x)) (hcall : ∀ x ∈ xs, ∀ ar w, (callFunc x.f ar).run Tryd.prog w = .ok (.enter x.f ar) w)
    (each : ∀ (i : Nat) (x : Stp) (f : DV → DV × Int), xs[i]? = some x → fs[i]? = some f → ∀ (E : DV) (qv : Value) (W : World), E.q.length ≤ 499999999999 → Mem w0 F W (disk E p pg mb qv :: X) → Calls Tryd.prog x.f (x.fi ++ x.ca).toArray W fun e w' => ∃ qv', e = .returned (.int .i64 (f E).2) ∧ Mem w0 F w' (disk (f E).1 p pg mb qv' :: X))
    (hq : ∀ f ∈ fs, ∀ E, (f E).1.q.length ≤ E.q.length + 1) {D : DV} {qv : Value} {w : World} (hD : D.q.length ≤ 400000000000) (hM : Mem w0 F w (disk D p pg mb qv :: X)) :
    Calls Tryd.prog 33 #[.slice (some ⟨gt, 0, none⟩) xs.length xs.length] w fun e w' => ∃ qv', e = .returned (.int .i64 (runS fs D).2) ∧ Mem w0 F w' (disk (runS fs D).1 p pg mb qv' :: X) := by
  have hget : ∀ i, i < fs.length → fs[i]? = some (fs.getD i yS) := fun i hi => by rw [List.getD_eq_getElem?_getD, List.getElem?_eq_getElem hi]; rfl
  refine (inOrder_any (xs := xs) (gt := gt) (R := fun i W => (∀ j, j < i → resAt fs D j = 0) ∧ ∃ qv', Mem w0 F W (disk (stAt fs D i) p pg mb qv' :: X))
    (E := fun z W => ∃ j, j < fs.length ∧ (∀ i, i < j → resAt fs D i = 0) ∧ resAt fs D j = z ∧ ∃ qv', Mem w0 F W (disk (stAt fs D (j + 1)) p pg mb qv' :: X)) ⟨?_, hcall, ?_⟩ hn w ⟨fun j hj => by omega, qv, hM⟩).mono ?_
  · rintro i x hx W ⟨h1, qv', h2⟩
    have hi : i < fs.length := by rw [← hl]; exact (List.getElem?_eq_some_iff.1 hx).1
    have hqi := stAt_q fs hq D i (by omega)
    refine (each i x _ hx (hget i hi) _ _ W (by omega) h2).mono ?_
    rintro e W' ⟨qv2, rfl, h3⟩
    refine ⟨_, rfl, fun hz => ⟨fun j hj => ?_, qv2, h3⟩, fun hz => ⟨i, hi, h1, rfl, qv2, h3⟩⟩
    rcases Nat.lt_or_ge j i with h | h
    · exact h1 j h
    · obtain rfl : j = i := by omega
      exact hz
  · rintro i x hx W ⟨_, qv', h2⟩
    exact hrow W (fun A hA => h2.all A (List.mem_cons_of_mem _ hA)) i x hx
  · rintro e W ⟨z, rfl, h1, h2⟩
    by_cases hz : z = 0
    · obtain ⟨h3, qv', h4⟩ := h1 hz
      rw [hl] at h3 h4
      rw [runS_ok fs D h3]
      exact ⟨qv', by rw [hz], h4⟩
    · obtain ⟨j, hj, h3, h4, qv', h5⟩ := h2 hz
      rw [runS_no fs D j hj h3 (by rw [h4]; exact hz)]
      exact ⟨qv', by rw [h4], h5⟩
theorem sync_each {p pg mb : Nat} {w0 : World} {F : List Nat} {X : List Asn} (E : DV) (qv : Value) (W : World) (hM : Mem w0 F W (disk E p pg mb qv :: X)) :
    Calls Tryd.prog 11 #[.pointer (some ⟨p, 0, none⟩)] W fun e w' => ∃ qv', e = .returned (.int .i64 (yS E).2) ∧ Mem w0 F w' (disk (yS E).1 p pg mb qv' :: X) := by
  refine (sync_any (Mem.here (L := [disk E p pg mb qv]) (R := X) hM)).mono ?_
  rintro e w' ⟨qv', rfl, h⟩
  exact ⟨qv', rfl, Mem.frame (Pre := [disk E p pg mb qv]) (Post := [disk (yS E).1 p pg mb qv']) (R := X) hM h⟩
theorem laid_each {p pg mb gs gd : Nat} {s : SupV} {w0 : World} {F : List Nat} {X : List Asn} (hv : ValidS s) (E : DV) (qv : Value) (W : World) (hq : E.q.length ≤ 499999999999) (hM : Mem w0 F W (disk E p pg mb qv :: blk gs 61 (supC s) :: blk gd 23 [.pointer (some ⟨p, 0, none⟩)] :: X)) :
    Calls Tryd.prog 51 #[.pointer (some ⟨gs, 0, none⟩), .pointer (some ⟨gd, 0, none⟩)] W fun e w' => ∃ qv', e = .returned (.int .i64 (wS s E).2) ∧ Mem w0 F w' (disk (wS s E).1 p pg mb qv' :: blk gs 61 (supC s) :: blk gd 23 [.pointer (some ⟨p, 0, none⟩)] :: X) := by
  refine (laid_any (Mem.here (L := [disk E p pg mb qv, blk gs 61 (supC s), blk gd 23 [.pointer (some ⟨p, 0, none⟩)]]) (R := X) hM) hv (by omega)).mono ?_
  rintro e w' ⟨qv', rfl, h⟩
  exact ⟨qv', rfl, Mem.frame (Pre := [disk E p pg mb qv, blk gs 61 (supC s), blk gd 23 [.pointer (some ⟨p, 0, none⟩)]]) (Post := [disk (wS s E).1 p pg mb qv', blk gs 61 (supC s), blk gd 23 [.pointer (some ⟨p, 0, none⟩)]]) (R := X) hM h⟩
theorem valid_new {width g : Int} {n : Nat} (hw : 1 ≤ width ∧ width ≤ 32) (hn : 3 ≤ n ∧ n ≤ 4096) (hg : 0 ≤ g ∧ g ≤ 1) : ValidS ⟨width, g, 2, 0, n⟩ :=
  ⟨hw.1, hw.2, hg.1, by show g ≤ _; omega, by show (3 : Int) ≤ (n : Int); omega, by show (n : Int) ≤ 4096; omega, by show (2 : Int) ≤ 2; omega, by show (2 : Int) ≤ (n : Int); omega, .inl rfl⟩
def formatR (D : DV) (width : Int) : DV × Int :=
  if D.dead then (D, 2) else if width < 1 ∨ 32 < width then (D, 1) else if slotsE D ≠ 55 then (slotsD D, 60)
  else runS [wS ⟨width, 0, 2, 0, D.pages.length⟩, yS, wS ⟨width, 1, 2, 0, D.pages.length⟩, yS] (slotsD D)
theorem slotsD_facts (D : DV) (h : DOk D) : (slotsD D).pages = D.pages ∧ (slotsD D).q = D.q ∧ DOk (slotsD D) := by
  unfold slotsD
  split
  · exact ⟨rfl, rfl, h⟩
  · refine ⟨?_, ?_, readD_ok (readD_ok h 0) 1⟩ <;> unfold readD <;> (repeat' split) <;> rfl
theorem format_dead {D : DV} {p pg mb : Nat} {qv : Value} {w : World} (hM : zM w [disk D p pg mb qv]) (width : Int) (hq : D.q.length ≤ 400000000000) (hd : D.dead = true) : zC 14 [zP p 0, zI width] w fun e w' => ∃ qv', e = .returned (zI (formatR D width).2) ∧ zD w [disk D p pg mb qv] w' [disk (formatR D width).1 p pg mb qv'] := by
 obtain ⟨hok, M⟩ := disk_open hM;clear hM;go_enter Tryd.func14, Tryd.ntmps14;refine zin ?_;refine zk fun K1 hK1 => zr ?_;refine zp 1 rfl ?_;refine zw (hK1 _ _ (zk fun K2 hK2 => zk fun K3 hK3 => zr ?_));refine zp 1 rfl (zo M (y_eqnil (r := false) (zwn rfl) rfl (zev rfl) (zev rfl) zu23 rfl) ?_);refine zw (hK3 _ _ (zcf rfl (zsk (hK2 _ _ (zk fun K4 hK4 => ?_)))));refine zk fun K5 hK5 => zr ?_;refine zp 1 rfl ?_;refine zca 30 [zP p 0] rfl zc30 (power_any (Mem.h1 (disk_close hok M)) ) ?_;rintro e w6 ⟨rfl, H6⟩;have M6 := (disk_open (Mem.f1 (disk_close hok M) H6)).2;(try simp only[Y1,Y2]at M6);rw [(show (!D.dead) = false by rw [hd]; rfl)];refine ⟨_, rfl, ?_⟩;refine zp 1 rfl ?_;refine zw (hK5 _ _ (zct rfl (zk fun K7 hK7 => zr ?_)));refine zp 1 rfl ?_;refine zw (hK7 _ _ (zrt ?_));(try simp only[zi,zj]);refine zR (v := zI 2) (res1 rfl (zgd rfl)) (zdf _) ?_;have e1 : formatR D width = (D, 2) := if_pos hd;rw [e1];exact ⟨_, rfl, disk_close hok M6⟩
theorem format_low {D : DV} {p pg mb : Nat} {qv : Value} {w : World} (hM : zM w [disk D p pg mb qv]) (width : Int) (hq : D.q.length ≤ 400000000000) (hd : D.dead = false) (hw : width < 1) : zC 14 [zP p 0, zI width] w fun e w' => ∃ qv', e = .returned (zI (formatR D width).2) ∧ zD w [disk D p pg mb qv] w' [disk (formatR D width).1 p pg mb qv'] := by
 obtain ⟨hok, M⟩ := disk_open hM;clear hM;go_enter Tryd.func14, Tryd.ntmps14;refine zin ?_;refine zk fun K1 hK1 => zr ?_;refine zp 1 rfl ?_;refine zw (hK1 _ _ (zk fun K2 hK2 => zk fun K3 hK3 => zr ?_));refine zp 1 rfl (zo M (y_eqnil (r := false) (zwn rfl) rfl (zev rfl) (zev rfl) zu23 rfl) ?_);refine zw (hK3 _ _ (zcf rfl (zsk (hK2 _ _ (zk fun K4 hK4 => ?_)))));refine zk fun K5 hK5 => zr ?_;refine zp 1 rfl ?_;refine zca 30 [zP p 0] rfl zc30 (power_any (Mem.h1 (disk_close hok M)) ) ?_;rintro e w6 ⟨rfl, H6⟩;have M6 := (disk_open (Mem.f1 (disk_close hok M) H6)).2;(try simp only[Y1,Y2]at M6);rw [(show (!D.dead) = true by rw [hd]; rfl)];refine ⟨_, rfl, ?_⟩;refine zp 1 rfl ?_;refine zw (hK5 _ _ (zcf rfl (zsk (hK4 _ _ (zk fun K7 hK7 => ?_)))));refine zk fun K8 hK8 => zr ?_;refine zp 1 rfl (zo M6 (zlss rfl (zT (by omega))) (zp 4 rfl ?_));refine zw (hK8 _ _ (zct rfl (zk fun K9 hK9 => zr ?_)));refine zp 1 rfl ?_;refine zw (hK9 _ _ (zrt ?_));(try simp only[zi,zj]);refine zR (v := zI 1) (res1 rfl (zgd rfl)) (zdf _) ?_;have hd' : ¬ D.dead = true := by rw [hd]; decide
 have e1 : formatR D width = (D, 1) := by unfold formatR; rw [if_neg hd', if_pos (by omega)]
 rw [e1];exact ⟨_, rfl, disk_close hok M6⟩
theorem format_high {D : DV} {p pg mb : Nat} {qv : Value} {w : World} (hM : zM w [disk D p pg mb qv]) (width : Int) (hq : D.q.length ≤ 400000000000) (hd : D.dead = false) (hw : 32 < width) : zC 14 [zP p 0, zI width] w fun e w' => ∃ qv', e = .returned (zI (formatR D width).2) ∧ zD w [disk D p pg mb qv] w' [disk (formatR D width).1 p pg mb qv'] := by
 obtain ⟨hok, M⟩ := disk_open hM;clear hM;go_enter Tryd.func14, Tryd.ntmps14;refine zin ?_;refine zk fun K1 hK1 => zr ?_;refine zp 1 rfl ?_;refine zw (hK1 _ _ (zk fun K2 hK2 => zk fun K3 hK3 => zr ?_));refine zp 1 rfl (zo M (y_eqnil (r := false) (zwn rfl) rfl (zev rfl) (zev rfl) zu23 rfl) ?_);refine zw (hK3 _ _ (zcf rfl (zsk (hK2 _ _ (zk fun K4 hK4 => ?_)))));refine zk fun K5 hK5 => zr ?_;refine zp 1 rfl ?_;refine zca 30 [zP p 0] rfl zc30 (power_any (Mem.h1 (disk_close hok M)) ) ?_;rintro e w6 ⟨rfl, H6⟩;have M6 := (disk_open (Mem.f1 (disk_close hok M) H6)).2;(try simp only[Y1,Y2]at M6);rw [(show (!D.dead) = true by rw [hd]; rfl)];refine ⟨_, rfl, ?_⟩;refine zp 1 rfl ?_;refine zw (hK5 _ _ (zcf rfl (zsk (hK4 _ _ (zk fun K7 hK7 => ?_)))));refine zk fun K8 hK8 => zr ?_;refine zp 1 rfl (zo M6 (zlss rfl (zF (by omega))) (zp 2 rfl (zo M6 (zgtr rfl (zT (by omega))) (zp 1 rfl ?_))));refine zw (hK8 _ _ (zct rfl (zk fun K9 hK9 => zr ?_)));refine zp 1 rfl ?_;refine zw (hK9 _ _ (zrt ?_));(try simp only[zi,zj]);refine zR (v := zI 1) (res1 rfl (zgd rfl)) (zdf _) ?_;have hd' : ¬ D.dead = true := by rw [hd]; decide
 have e1 : formatR D width = (D, 1) := by unfold formatR; rw [if_neg hd', if_pos (by omega)]
 rw [e1];exact ⟨_, rfl, disk_close hok M6⟩
theorem format_taken {D : DV} {p pg mb : Nat} {qv : Value} {w : World} (hM : zM w [disk D p pg mb qv]) (width : Int) (hq : D.q.length ≤ 400000000000) (hd : D.dead = false) (hw : 1 ≤ width ∧ width ≤ 32) (h5 : slotsE D ≠ 55) : zC 14 [zP p 0, zI width] w fun e w' => ∃ qv', e = .returned (zI (formatR D width).2) ∧ zD w [disk D p pg mb qv] w' [disk (formatR D width).1 p pg mb qv'] := by
 obtain ⟨hok, M⟩ := disk_open hM;clear hM;have hd' : ¬ D.dead = true := by rw [hd]; decide
 obtain ⟨sp1, sp2, sok⟩ := slotsD_facts D hok;have hlo := hok.lo;have hhi := hok.hi;go_enter Tryd.func14, Tryd.ntmps14;refine zin ?_;refine zk fun K1 hK1 => zr ?_;refine zp 1 rfl ?_;refine zw (hK1 _ _ (zk fun K2 hK2 => zk fun K3 hK3 => zr ?_));refine zp 1 rfl (zo M (y_eqnil (r := false) (zwn rfl) rfl (zev rfl) (zev rfl) zu23 rfl) ?_);refine zw (hK3 _ _ (zcf rfl (zsk (hK2 _ _ (zk fun K4 hK4 => ?_)))));refine zk fun K5 hK5 => zr ?_;refine zp 1 rfl ?_;refine zca 30 [zP p 0] rfl zc30 (power_any (Mem.h1 (disk_close hok M)) ) ?_;rintro e w6 ⟨rfl, H6⟩;have M6 := (disk_open (Mem.f1 (disk_close hok M) H6)).2;(try simp only[Y1,Y2]at M6);rw [(show (!D.dead) = true by rw [hd]; rfl)];refine ⟨_, rfl, ?_⟩;refine zp 1 rfl ?_;refine zw (hK5 _ _ (zcf rfl (zsk (hK4 _ _ (zk fun K7 hK7 => ?_)))));refine zk fun K8 hK8 => zr ?_;refine zp 1 rfl (zo M6 (zlss rfl (zF (by omega))) (zp 2 rfl (zo M6 (zgtr rfl (zF (by omega))) (zp 1 rfl ?_))));refine zw (hK8 _ _ (zcf rfl (zsk (hK7 _ _ (zk fun K9 hK9 => ?_)))));refine zk fun K10 hK10 => zr ?_;refine zp 1 rfl ?_;refine zca 31 [zP p 0] rfl Tryd.call31 (slots_any (Mem.h1 (disk_close hok M6)) ) ?_;rintro e w11 ⟨rfl, H11⟩;have M11 := (disk_open (Mem.f1 (disk_close hok M6) H11)).2;(try simp only[Y1,Y2]at M11);refine ⟨_, rfl, ?_⟩;refine zp 3 rfl ?_;refine zal M11 (supC noSup) rfl zero_sup fun g5 w12 M12 => ?_;refine pe (zwn rfl) fun K hK => e_storew M12 0 (cs := (supC (slotsS D))) rfl rfl (zev rfl) (zev rfl) (size_sup _) (sup_all _) rfl (rfl) ?_;intro w13 M13;simp only[Zg,Zh]at M13;have M14 := M13.pk [1, 2, 3, 4];simp only[Y3,Y4,Y1,Y2]at M14;refine hK.out _ _ (zpu ?_);refine zp 1 rfl ?_;refine zw (hK10 _ _ (zk fun K15 hK15 => zr ?_));refine zp 1 rfl (zo M14 (zneq (b := true) rfl (by rw [decide_eq_false (by omega)]; rfl)) ?_);refine zw (hK15 _ _ (zct rfl (zk fun K16 hK16 => zr ?_)));refine zp 1 rfl ?_;refine zw (hK16 _ _ (zrt ?_));(try simp only[zi,zj]);refine zR (v := zI 60) (res1 rfl (zgd rfl)) (zdf _) ?_;have e1 : formatR D width = (slotsD D, 60) := by unfold formatR; rw [if_neg hd', if_neg (by omega), if_pos h5]
 rw [e1];exact ⟨_, rfl, disk_close sok M14⟩
theorem format_ok {D : DV} {p pg mb : Nat} {qv : Value} {w : World} (hM : zM w [disk D p pg mb qv]) (width : Int) (hq : D.q.length ≤ 400000000000) (hd : D.dead = false) (hw : 1 ≤ width ∧ width ≤ 32) (h5 : slotsE D = 55) : zC 14 [zP p 0, zI width] w fun e w' => ∃ qv', e = .returned (zI (formatR D width).2) ∧ zD w [disk D p pg mb qv] w' [disk (formatR D width).1 p pg mb qv'] := by
 obtain ⟨hok, M⟩ := disk_open hM;clear hM;have hd' : ¬ D.dead = true := by rw [hd]; decide
 obtain ⟨sp1, sp2, sok⟩ := slotsD_facts D hok;have hlo := hok.lo;have hhi := hok.hi;have hv1 : ValidS (⟨width, 0, 2, 0, D.pages.length⟩ : SupV) := valid_new hw ⟨hlo, hhi⟩ (by omega);have hv2 : ValidS (⟨width, 1, 2, 0, D.pages.length⟩ : SupV) := valid_new hw ⟨hlo, hhi⟩ (by omega);go_enter Tryd.func14, Tryd.ntmps14;refine zin ?_;refine zk fun K1 hK1 => zr ?_;refine zp 1 rfl ?_;refine zw (hK1 _ _ (zk fun K2 hK2 => zk fun K3 hK3 => zr ?_));refine zp 1 rfl (zo M (y_eqnil (r := false) (zwn rfl) rfl (zev rfl) (zev rfl) zu23 rfl) ?_);refine zw (hK3 _ _ (zcf rfl (zsk (hK2 _ _ (zk fun K4 hK4 => ?_)))));refine zk fun K5 hK5 => zr ?_;refine zp 1 rfl ?_;refine zca 30 [zP p 0] rfl zc30 (power_any (Mem.h1 (disk_close hok M)) ) ?_;rintro e w6 ⟨rfl, H6⟩;have M6 := (disk_open (Mem.f1 (disk_close hok M) H6)).2;(try simp only[Y1,Y2]at M6);rw [(show (!D.dead) = true by rw [hd]; rfl)];refine ⟨_, rfl, ?_⟩;refine zp 1 rfl ?_;refine zw (hK5 _ _ (zcf rfl (zsk (hK4 _ _ (zk fun K7 hK7 => ?_)))));refine zk fun K8 hK8 => zr ?_;refine zp 1 rfl (zo M6 (zlss rfl (zF (by omega))) (zp 2 rfl (zo M6 (zgtr rfl (zF (by omega))) (zp 1 rfl ?_))));refine zw (hK8 _ _ (zcf rfl (zsk (hK7 _ _ (zk fun K9 hK9 => ?_)))));refine zk fun K10 hK10 => zr ?_;refine zp 1 rfl ?_;refine zca 31 [zP p 0] rfl Tryd.call31 (slots_any (Mem.h1 (disk_close hok M6)) ) ?_;rintro e w11 ⟨rfl, H11⟩;have M11 := (disk_open (Mem.f1 (disk_close hok M6) H11)).2;(try simp only[Y1,Y2]at M11);refine ⟨_, rfl, ?_⟩;refine zp 3 rfl ?_;refine zal M11 (supC noSup) rfl zero_sup fun g5 w12 M12 => ?_;refine pe (zwn rfl) fun K hK => e_storew M12 0 (cs := (supC (slotsS D))) rfl rfl (zev rfl) (zev rfl) (size_sup _) (sup_all _) rfl (rfl) ?_;intro w13 M13;simp only[Zg,Zh]at M13;have M14 := M13.pk [1, 2, 3, 4];simp only[Y3,Y4,Y1,Y2]at M14;refine hK.out _ _ (zpu ?_);refine zp 1 rfl ?_;refine zw (hK10 _ _ (zk fun K15 hK15 => zr ?_));refine zp 1 rfl (zo M14 (zneq (b := false) rfl (by rw [decide_eq_true h5]; rfl)) ?_);refine zw (hK15 _ _ (zcf rfl (zsk (hK9 _ _ (zk fun K16 hK16 => ?_)))));refine zr ?_;refine zp 2 rfl ?_;refine zca 32 [zP p 0] rfl Tryd.call32 (pages_any (Mem.h1 (disk_close sok M14)) ) ?_;rintro e w17 ⟨rfl, H17⟩;have M17 := (disk_open (Mem.f1 (disk_close sok M14) H17)).2;(try simp only[Y1,Y2]at M17);refine ⟨_, rfl, ?_⟩;refine zo M17 (y_build (ps := [(0, .tmp 27), (2, .const (zI 2)), (4, .tmp 29)]) (pv := [(0, zI width), (2, zI 2), (4, zI ((slotsD D).pages.length : Int))]) (cs := (supC (⟨width, 0, 2, 0, D.pages.length⟩ : SupV))) (zwn rfl) rfl (zep rfl) (by rw [← sp1]; kernel_rfl)) ?_;refine zal M17 (supC noSup) rfl zero_sup fun g7 w18 M18 => ?_;refine zsw M18 0 rfl (size_sup _) (sup_all _) rfl fun w19 M19 => ?_;simp only[Zg,Zh]at M19;refine zw (hK16 _ _ (zk fun K20 hK20 => zr ?_));refine zo M19 (zlb 0 rfl zu61 rfl (size_sup _)) ?_;refine zal M19 (supC noSup) rfl zero_sup fun g8 w21 M21 => ?_;refine zsw M21 0 rfl (size_sup _) (sup_all _) rfl fun w22 M22 => ?_;simp only[Zg,Zh]at M22;refine zw (hK20 _ _ (zk fun K23 hK23 => zr ?_));refine zo M22 (zf 1 zu61 rfl zz3) ?_;refine zso M22 0 (v := zI 1) rfl rfl zz3 (show (1 : Nat) < 5 by decide) ?_;intro w24 (M24 : zD w [disk D p pg mb qv] w24 [blk g8 61 (supC (⟨width, 1, 2, 0, D.pages.length⟩ : SupV)), blk g7 61 (supC (⟨width, 0, 2, 0, D.pages.length⟩ : SupV)), blk p 79 (dC (slotsD D) pg mb qv), blk pg 80 (pagesC (slotsD D).pages), lst 82 257 qv ((slotsD D).q.length) (qC (slotsD D).q), mapq mb ((slotsD D).q)]);refine zw (hK23 _ _ (zk fun K25 hK25 => ?_));have M26 := M24.drew;have hzM26 := M26.pk [0, 1];simp only[Y3,Y4,Y1,Y2]at hzM26;refine zhb hzM26 (by kernel_rfl) fun hS => ?_;refine zt 0 rfl (zy rfl) hS (zt 1 rfl (zlb 1 rfl zu61 rfl (size_sup _)) hS (zt 3 rfl (zy rfl) hS ?_));refine zt 4 rfl (y_func (fv := [zP p 0]) (cv := []) (zwn rfl) rfl (zls_eval rfl) (zls_eval rfl)) hS (zt 5 rfl (zy rfl) hS (zt 6 rfl (zlb 0 rfl zu61 rfl (size_sup _)) hS (zt 8 rfl (zy rfl) hS ?_)));refine zt 9 rfl (y_func (fv := [zP p 0]) (cv := []) (zwn rfl) rfl (zls_eval rfl) (zls_eval rfl)) hS ?_;refine held_step 2 (by kernel_rfl) rfl (zwn rfl) (fun K hK => ?_);refine e_call 34 [zP p 0, .agg ((supC (⟨width, 0, 2, 0, D.pages.length⟩ : SupV))).toArray] rfl (zls_eval rfl) Tryd.call34 (lay_any p (⟨width, 0, 2, 0, D.pages.length⟩ : SupV) _) ?_;rintro e w27 ⟨gs1, gd1, rfl, H⟩;have M27 := M26.step H;simp only[Y1,Y2]at M27;refine ⟨_, rfl, ?_⟩;refine hK.out _ _ (M27.arr [2, 3] (by decide)) (fun hS => zpa ?_);refine held_step 7 (by kernel_rfl) rfl (zwn rfl) (fun K hK => ?_);refine e_call 34 [zP p 0, .agg (supC (⟨width, 1, 2, 0, D.pages.length⟩ : SupV)).toArray] rfl (zls_eval rfl) Tryd.call34 (lay_any p (⟨width, 1, 2, 0, D.pages.length⟩ : SupV) _) ?_;rintro e w28 ⟨gs2, gd2, rfl, H⟩;have M28 := M27.step H;simp only[Y1,Y2]at M28;refine ⟨_, rfl, ?_⟩;refine hK.out _ _ (M28.arr [4, 5] (by decide)) (fun hS => zpa ?_);refine held_step 10 (by kernel_rfl) rfl (zwn rfl) (fun K hK => ?_);refine e_bslice M28 ([.func (.func 51) #[] #[zP gs1 0, zP gd1 0], .func (.func 11) #[zP p 0] #[], .func (.func 51) #[] #[zP gs2 0, zP gd2 0], .func (.func 11) #[zP p 0] #[]]) (pv := [(0, .func (.func 51) #[] #[zP gs1 0, zP gd1 0]), (1, .func (.func 11) #[zP p 0] #[]), (2, .func (.func 51) #[] #[zP gs2 0, zP gd2 0]), (3, .func (.func 11) #[zP p 0] #[])]) rfl (zep rfl) zu118 Tryd.sizeOf87 Tryd.zeroValue87 (by decide) (by kernel_rfl) ?_;intro g29 w30 M30;refine hK.out _ _ (M30.arr [5, 6] (by decide)) (fun hS => zpa ?_);have M31 := M30.pk [7, 8, 9, 10, 0, 1, 2, 3, 4, 5, 6];simp only[Y3,Y4,Y1,Y2]at M31;refine held_step 11 (by kernel_rfl) rfl (zwn rfl) (fun K hK => ?_)
 have hino := fun (W0 : World) (qv0 : Value) (hM0 : zD w [disk D p pg mb qv] W0 (disk (slotsD D) p pg mb qv0 :: [blk g29 87 ([.func (.func 51) #[] #[zP gs1 0, zP gd1 0], .func (.func 11) #[zP p 0] #[], .func (.func 51) #[] #[zP gs2 0, zP gd2 0], .func (.func 11) #[zP p 0] #[]]), blk gs2 61 (supC (⟨width, 1, 2, 0, D.pages.length⟩ : SupV)), blk gd2 23 ([zP p 0]), blk gs1 61 (supC (⟨width, 0, 2, 0, D.pages.length⟩ : SupV)), blk gd1 23 ([zP p 0]), blk g8 61 (supC (⟨width, 1, 2, 0, D.pages.length⟩ : SupV)), blk g7 61 (supC (⟨width, 0, 2, 0, D.pages.length⟩ : SupV))])) => disk_steps (p := p) (pg := pg) (mb := mb) (gt := g29) (X := [blk g29 87 ([.func (.func 51) #[] #[zP gs1 0, zP gd1 0], .func (.func 11) #[zP p 0] #[], .func (.func 51) #[] #[zP gs2 0, zP gd2 0], .func (.func 11) #[zP p 0] #[]]), blk gs2 61 (supC (⟨width, 1, 2, 0, D.pages.length⟩ : SupV)), blk gd2 23 ([zP p 0]), blk gs1 61 (supC (⟨width, 0, 2, 0, D.pages.length⟩ : SupV)), blk gd1 23 ([zP p 0]), blk g8 61 (supC (⟨width, 1, 2, 0, D.pages.length⟩ : SupV)), blk g7 61 (supC (⟨width, 0, 2, 0, D.pages.length⟩ : SupV))]) [(⟨51, [], [zP gs1 0, zP gd1 0]⟩ : Stp), (⟨11, [zP p 0], []⟩ : Stp), (⟨51, [], [zP gs2 0, zP gd2 0]⟩ : Stp), (⟨11, [zP p 0], []⟩ : Stp)] [wS (⟨width, 0, 2, 0, D.pages.length⟩ : SupV), yS, wS (⟨width, 1, 2, 0, D.pages.length⟩ : SupV), yS] rfl (by simp)
   (fun W hX i x hx => by
     have hb : (blk g29 87 ([.func (.func 51) #[] #[zP gs1 0, zP gd1 0], .func (.func 11) #[zP p 0] #[], .func (.func 51) #[] #[zP gs2 0, zP gd2 0], .func (.func 11) #[zP p 0] #[]])).holds W := hX _ (List.mem_of_getElem? (i := 0) rfl);match i, hx with
     | 0, hx => cases hx; exact cell_of_blk hb rfl;| 1, hx => cases hx; exact cell_of_blk hb rfl;| 2, hx => cases hx; exact cell_of_blk hb rfl;| 3, hx => cases hx; exact cell_of_blk hb rfl;| i + 4, hx => simp at hx)
   (fun x hx ar w => by
     simp only [List.mem_cons, List.not_mem_nil, or_false] at hx;rcases hx with rfl | rfl | rfl | rfl
     ·exact Tryd.call51 ar w
     ·exact Tryd.call11 ar w
     ·exact Tryd.call51 ar w
     ·exact Tryd.call11 ar w
     )
   (fun i x f hx hf E qvx W hE hM => by
   match i, hx, hf with
   | 0, hx, hf =>
     cases hx; cases hf
     have h2 : zD w [disk D p pg mb qv] W (disk E p pg mb qvx :: blk gs1 61 (supC (⟨width, 0, 2, 0, D.pages.length⟩ : SupV)) :: blk gd1 23 [zP p 0] :: [blk g29 87 ([.func (.func 51) #[] #[zP gs1 0, zP gd1 0], .func (.func 11) #[zP p 0] #[], .func (.func 51) #[] #[zP gs2 0, zP gd2 0], .func (.func 11) #[zP p 0] #[]]), blk gs2 61 (supC (⟨width, 1, 2, 0, D.pages.length⟩ : SupV)), blk gd2 23 ([zP p 0]), blk g8 61 (supC (⟨width, 1, 2, 0, D.pages.length⟩ : SupV)), blk g7 61 (supC (⟨width, 0, 2, 0, D.pages.length⟩ : SupV))]) := hM.arr [0, 4, 5, 1, 2, 3, 6, 7] (by decide);refine (laid_each (X := [blk g29 87 ([.func (.func 51) #[] #[zP gs1 0, zP gd1 0], .func (.func 11) #[zP p 0] #[], .func (.func 51) #[] #[zP gs2 0, zP gd2 0], .func (.func 11) #[zP p 0] #[]]), blk gs2 61 (supC (⟨width, 1, 2, 0, D.pages.length⟩ : SupV)), blk gd2 23 ([zP p 0]), blk g8 61 (supC (⟨width, 1, 2, 0, D.pages.length⟩ : SupV)), blk g7 61 (supC (⟨width, 0, 2, 0, D.pages.length⟩ : SupV))]) hv1 E qvx W hE h2).mono ?_;rintro e w' ⟨qv', rfl, h3⟩;exact ⟨qv', rfl, h3.arr [0, 3, 4, 5, 1, 2, 6, 7] (by decide)⟩
   | 1, hx, hf =>
     cases hx; cases hf; exact sync_each E qvx W hM
   | 2, hx, hf =>
     cases hx; cases hf
     have h2 : zD w [disk D p pg mb qv] W (disk E p pg mb qvx :: blk gs2 61 (supC (⟨width, 1, 2, 0, D.pages.length⟩ : SupV)) :: blk gd2 23 [zP p 0] :: [blk g29 87 ([.func (.func 51) #[] #[zP gs1 0, zP gd1 0], .func (.func 11) #[zP p 0] #[], .func (.func 51) #[] #[zP gs2 0, zP gd2 0], .func (.func 11) #[zP p 0] #[]]), blk gs1 61 (supC (⟨width, 0, 2, 0, D.pages.length⟩ : SupV)), blk gd1 23 ([zP p 0]), blk g8 61 (supC (⟨width, 1, 2, 0, D.pages.length⟩ : SupV)), blk g7 61 (supC (⟨width, 0, 2, 0, D.pages.length⟩ : SupV))]) := hM.arr [0, 2, 3, 1, 4, 5, 6, 7] (by decide);refine (laid_each (X := [blk g29 87 ([.func (.func 51) #[] #[zP gs1 0, zP gd1 0], .func (.func 11) #[zP p 0] #[], .func (.func 51) #[] #[zP gs2 0, zP gd2 0], .func (.func 11) #[zP p 0] #[]]), blk gs1 61 (supC (⟨width, 0, 2, 0, D.pages.length⟩ : SupV)), blk gd1 23 ([zP p 0]), blk g8 61 (supC (⟨width, 1, 2, 0, D.pages.length⟩ : SupV)), blk g7 61 (supC (⟨width, 0, 2, 0, D.pages.length⟩ : SupV))]) hv2 E qvx W hE h2).mono ?_;rintro e w' ⟨qv', rfl, h3⟩;exact ⟨qv', rfl, h3.arr [0, 3, 1, 2, 4, 5, 6, 7] (by decide)⟩
   | 3, hx, hf =>
     cases hx; cases hf; exact sync_each E qvx W hM
   | i + 4, hx, hf => simp at hx)
   (fun f hf E => by
     simp only [List.mem_cons, List.not_mem_nil, or_false] at hf;rcases hf with rfl | rfl | rfl | rfl
     ·exact wS_q _ E
     ·exact yS_q E
     ·exact wS_q _ E
     ·exact yS_q E
     ) (qv := qv0) (by rw [sp2]; exact hq) hM0
 refine e_call 33 [zS g29 4 4] rfl (zls_eval rfl) Tryd.call33 (hino _ _ (disk_close sok M31)) ?_;rintro e w32 ⟨qv', rfl, H⟩;have M32 : zD w [disk D p pg mb qv] w32 [disk (runS [wS (⟨width, 0, 2, 0, D.pages.length⟩ : SupV), yS, wS (⟨width, 1, 2, 0, D.pages.length⟩ : SupV), yS] (slotsD D)).1 p pg mb qv', blk g29 87 ([.func (.func 51) #[] #[zP gs1 0, zP gd1 0], .func (.func 11) #[zP p 0] #[], .func (.func 51) #[] #[zP gs2 0, zP gd2 0], .func (.func 11) #[zP p 0] #[]]), blk gs2 61 (supC (⟨width, 1, 2, 0, D.pages.length⟩ : SupV)), blk gd2 23 ([zP p 0]), blk gs1 61 (supC (⟨width, 0, 2, 0, D.pages.length⟩ : SupV)), blk gd1 23 ([zP p 0]), blk g8 61 (supC (⟨width, 1, 2, 0, D.pages.length⟩ : SupV)), blk g7 61 (supC (⟨width, 0, 2, 0, D.pages.length⟩ : SupV))] := H;clear H hino M31;refine ⟨_, rfl, ?_⟩;refine hK.out _ _ (M32.arr [6, 7] (by decide)) (fun hS => zpa ?_);refine zt 12 rfl (zy rfl) hS ?_;refine held_done (by kernel_rfl) (hK25 _ _ ?_) _;refine zrt ?_;(try simp only[zi,zj]);refine zR (v := zI ((runS [wS (⟨width, 0, 2, 0, D.pages.length⟩ : SupV), yS, wS (⟨width, 1, 2, 0, D.pages.length⟩ : SupV), yS] (slotsD D)).2)) (res1 rfl (zgd rfl)) (zdf _) ?_;have e1 : formatR D width = runS [wS (⟨width, 0, 2, 0, D.pages.length⟩ : SupV), yS, wS (⟨width, 1, 2, 0, D.pages.length⟩ : SupV), yS] (slotsD D) := by unfold formatR; rw [if_neg hd', if_neg (by omega), if_neg (fun h => h h5)]
 rw [e1];exact ⟨_, rfl, M32.arr [0] (by decide)⟩
theorem format_any {D : DV} {p pg mb : Nat} {qv : Value} {w : World} (hM : Mem w (foots [disk D p pg mb qv]) w [disk D p pg mb qv]) (width : Int) (hq : D.q.length ≤ 400000000000) : Calls Tryd.prog 14 #[.pointer (some ⟨p, 0, none⟩), .int .i64 width] w fun e w' => ∃ qv', e = .returned (.int .i64 (formatR D width).2) ∧ Mem w (foots [disk D p pg mb qv]) w' [disk (formatR D width).1 p pg mb qv'] := by
  cases hd : D.dead with
  | true => exact format_dead hM width hq hd
  | false =>
    rcases Int.lt_or_le width 1 with h1 | h1
    · exact format_low hM width hq hd h1
    · rcases Int.lt_or_le 32 width with h2 | h2
      · exact format_high hM width hq hd h2
      · by_cases h5 : slotsE D = 55
        · exact format_ok hM width hq hd ⟨h1, h2⟩ h5
        · exact format_taken hM width hq hd ⟨h1, h2⟩ h5
end Go.Proofs.YtopdhanbmnfeeaaDoor

/- The file: Open, Live, Super, Next, Forget. -/
namespace Go.Proofs.YtopdhanbmnfeeaaDoor
set_option linter.unusedSectionVars false
open Go Go.RowKit
set_option maxRecDepth 100000
set_option maxHeartbeats 40000000
set_option linter.unusedVariables false
set_option linter.unusedSimpArgs false
structure FV where
  s : SupV
  next : Int
  mine : Int
def fC (V : FV) (p : Nat) : List Value := .pointer (some ⟨p, 0, none⟩) :: (supC V.s ++ [.int .i64 V.next, .int .i64 V.mine])
structure FOk (D : DV) (V : FV) : Prop where
  valid : ValidS V.s
  pages : V.s.pages = (D.pages.length : Int)
  lo : 2 ≤ V.next
  hi : V.next ≤ V.s.pages
  mark : V.s.mark ≤ V.next
def liveE (D : DV) (V : FV) : Int := if D.epoch ≠ V.mine then 3 else if D.dead then 2 else 0
def openE (D : DV) : Int := if slotsE D ≠ 0 then slotsE D else if (slotsS D).pages ≠ (D.pages.length : Int) then 4 else 0
def openD (D : DV) : DV := if openE D = 0 then claimD (slotsD D) else slotsD D
def openV (D : DV) : FV := ⟨slotsS D, (slotsS D).mark, (claimD (slotsD D)).epoch⟩
theorem claim_ok {D : DV} (h : DOk D) : DOk (claimD D) := ⟨h.lo, h.hi, h.len, h.qs, h.arm, inI_wrap _⟩
theorem live_any {D : DV} {V : FV} {f p pg mb : Nat} {qv : Value} {w : World} (hM : zM w [disk D p pg mb qv, blk f 99 (fC V p)])  : zC 40 [zP f 0] w fun e w' => e = .returned (zI (liveE D V)) ∧ zD w [disk D p pg mb qv, blk f 99 (fC V p)] w' [disk (D) p pg mb qv, blk f 99 (fC (V) p)] := by
 obtain ⟨hok, M⟩ := disk_open hM;clear hM;go_enter Tryd.func40, Tryd.ntmps40;refine zin ?_;refine zk fun K1 hK1 => zr ?_;refine zp 1 rfl ?_;refine zw (hK1 _ _ (zk fun K2 hK2 => zbl (zk fun K3 hK3 => ?_)));have M4 := M.drew;have hzM4 := M4.pk [4];simp only[Y3,Y4,Y1,Y2]at hzM4;refine zhb hzM4 (by kernel_rfl) fun hS => ?_;refine zt 0 rfl (zy rfl) hS (zt 1 rfl (zy rfl) hS (zt 2 rfl (zf 0 zu99 rfl zz23) hS (zt 3 rfl (zl 0 rfl zg23) hS (zt 5 rfl (zy rfl) hS (zt 6 rfl (zy rfl) hS (zt 7 rfl (zf 7 zu99 rfl zz3) hS (zt 8 rfl (zl 0 rfl zg3) hS ?_)))))));refine held_step 4 (by kernel_rfl) rfl (zwn rfl) (fun K hK => ?_);refine e_call 59 [zP p 0] rfl (zls_eval rfl) Tryd.call59 (epoch_any (Mem.h1 (disk_close hok M4)) ) ?_;rintro e w5 ⟨rfl, H5⟩;have M5 := (disk_open (Mem.f1 (disk_close hok M4) H5)).2;(try simp only[Y1,Y2]at M5);refine ⟨_, rfl, ?_⟩;refine hK.out _ _ (M5.arr [4] (by decide)) (fun hS => zpa ?_);rcases zem (D.epoch = V.mine) with h6 | h6
 ·refine zt 9 rfl (zneq (b := false) rfl (by rw [decide_eq_true h6]; rfl)) hS (zt 10 rfl (zy rfl) hS ?_);refine held_done (by kernel_rfl) (hK3 _ _ ?_) _;refine zcf rfl (zk fun K7 hK7 => zr ?_);refine zp 2 rfl (zo M5 (zf 0 zu99 rfl zz23) (zo M5 (zl 4 rfl zg23) ?_));refine pe (zwn rfl) fun K hK => e_call 30 [zP p 0] rfl (zls_eval rfl) zc30 (power_any (Mem.h1 (disk_close hok M5)) ) ?_;rintro e w8 ⟨rfl, H8⟩;have M8 := (disk_open (Mem.f1 (disk_close hok M5) H8)).2;(try simp only[Y1,Y2]at M8);rcases Bool.eq_false_or_eq_true (!D.dead) with h9 | h9
  ·rw [h9];refine ⟨_, rfl, hK.out _ _ (zpu ?_)⟩;refine zp 2 rfl ?_;refine zw (hK7 _ _ (zcf rfl (zsk (hK2 _ _ (zk fun K10 hK10 => ?_)))));refine zr ?_;refine zp 1 rfl ?_;refine zw (hK10 _ _ (zrt ?_));(try simp only[zi,zj]);refine zR (v := zI 0) (res1 rfl (zgd rfl)) (zdf _) ?_;have hdd : D.dead = false := by revert h9; cases D.dead <;> simp
   have e1 : liveE D V = 0 := by unfold liveE; rw [if_neg (fun h => h h6), if_neg (by rw [hdd]; decide)]
   rw [e1];exact ⟨rfl, (disk_close (D := D) hok (M8.arr [0, 1, 2, 3, 4] (by decide)))⟩
  ·rw [h9];refine ⟨_, rfl, hK.out _ _ (zpu ?_)⟩;refine zp 2 rfl ?_;refine zw (hK7 _ _ (zct rfl (zk fun K11 hK11 => zr ?_)));refine zp 1 rfl ?_;refine zw (hK11 _ _ (zrt ?_));(try simp only[zi,zj]);refine zR (v := zI 2) (res1 rfl (zgd rfl)) (zdf _) ?_;have hdd : D.dead = true := by revert h9; cases D.dead <;> simp
   have e1 : liveE D V = 2 := by unfold liveE; rw [if_neg (fun h => h h6), if_pos hdd]
   rw [e1];exact ⟨rfl, (disk_close (D := D) hok (M8.arr [0, 1, 2, 3, 4] (by decide)))⟩
 ·refine zt 9 rfl (zneq (b := true) rfl (by rw [decide_eq_false h6]; rfl)) hS (zt 10 rfl (zy rfl) hS ?_);refine held_done (by kernel_rfl) (hK3 _ _ ?_) _;refine zct rfl (zk fun K12 hK12 => zr ?_);refine zp 1 rfl ?_;refine zw (hK12 _ _ (zrt ?_));(try simp only[zi,zj]);refine zR (v := zI 3) (res1 rfl (zgd rfl)) (zdf _) ?_;have e1 : liveE D V = 3 := if_pos h6;rw [e1];exact ⟨rfl, (disk_close (D := D) hok (M5.arr [0, 1, 2, 3, 4] (by decide)))⟩
theorem super_any {D : DV} {V : FV} {f p pg mb : Nat} {qv : Value} {w : World} (hM : zM w [disk D p pg mb qv, blk f 99 (fC V p)])  : zC 43 [zP f 0] w fun e w' => e = .returned (.agg (supC V.s).toArray) ∧ zD w [disk D p pg mb qv, blk f 99 (fC V p)] w' [disk (D) p pg mb qv, blk f 99 (fC (V) p)] := by
 obtain ⟨hok, M⟩ := disk_open hM;clear hM;go_enter Tryd.func43, Tryd.ntmps43;refine zin ?_;refine zk fun K1 hK1 => zr ?_;refine zal M (supC noSup) rfl zero_sup ?_;intro gr w2 (M2 : zD w [disk D p pg mb qv, blk f 99 (fC V p)] w2 [blk gr 61 (supC noSup), blk p 79 (dC D pg mb qv), blk pg 80 (pagesC D.pages), lst 82 257 qv D.q.length (qC D.q), mapq mb D.q, blk f 99 (fC V p)]);clear M;refine zw (hK1 _ _ (zk fun K3 hK3 => zr ?_));refine zp 2 rfl (zo M2 (zf 1 zu99 rfl Tryd.sizeOf61) (zo M2 (y_loadb (cs := (supC V.s)) (zwn rfl) rfl (zev rfl) zu61 rfl (size_sup _) (fun W hW => hW.get 5 rfl) (rfl)) ?_));refine zsw M2 0 rfl (size_sup _) (sup_all _) rfl fun w4 M4 => ?_;simp only[Zg,Zh]at M4;refine zw (hK3 _ _ (zrt ?_));(try simp only[zi,zj]);refine zR (resc1 _ rfl rfl (zgd rfl) (M4.get 0 rfl) zu61 (size_sup _)) (zdf _) ?_;exact ⟨rfl, (disk_close (D := D) hok (M4.arr [1, 2, 3, 4, 5] (by decide)))⟩
theorem forget_any {D : DV} {V : FV} {f p pg mb : Nat} {qv : Value} {w : World} (hM : zM w [disk D p pg mb qv, blk f 99 (fC V p)])  : zC 55 [zP f 0] w fun e w' => e = .returned (.tuple #[]) ∧ zD w [disk D p pg mb qv, blk f 99 (fC V p)] w' [disk (D) p pg mb qv, blk f 99 (fC ({ V with next := V.s.mark }) p)] := by
 obtain ⟨hok, M⟩ := disk_open hM;clear hM;go_enter Tryd.func55, Tryd.ntmps55;refine zin ?_;refine zr ?_;refine zp 3 rfl (zo M (zf 1 zu99 rfl Tryd.sizeOf61) (zo M (zf 3 zu61 rfl zz3) (zo M (zl 4 rfl zg3) (zp 1 rfl (zo M (zf 6 zu99 rfl zz3) ?_)))));refine zso M 4 (v := zI V.s.mark) rfl rfl zz3 (show (6 : Nat) < 8 by decide) ?_;intro w1 (M1 : zD w [disk D p pg mb qv, blk f 99 (fC V p)] w1 [blk p 79 (dC D pg mb qv), blk pg 80 (pagesC D.pages), lst 82 257 qv D.q.length (qC D.q), mapq mb D.q, blk f 99 ([zP p 0, zI V.s.width, zI V.s.gen, zI V.s.mark, zI V.s.head, zI V.s.pages, zI V.s.mark, zI V.mine])]);clear M;refine zw ?_;try simp only [Exit.inBlock, Exit.then]
 refine bodyPost_end (v := .tuple #[]) (res0 rfl) (zdf _) ?_;exact ⟨rfl, (disk_close (D := D) hok (M1.arr [0, 1, 2, 3, 4] (by decide)))⟩
theorem open_any {D : DV} {p pg mb : Nat} {qv : Value} {w : World} (hM : zM w [disk D p pg mb qv])  : zC 35 [zP p 0] w fun e w' => (openE D ≠ 0 ∧ e = .returned (.tuple #[.pointer none, zI (openE D)]) ∧ zD w [disk D p pg mb qv] w' [disk (openD D) p pg mb qv]) ∨ (openE D = 0 ∧ ∃ f, e = .returned (.tuple #[zP f 0, zI 0]) ∧ zD w [disk D p pg mb qv] w' [disk (openD D) p pg mb qv, blk f 99 (fC (openV D) p)]) := by
 obtain ⟨hok, M⟩ := disk_open hM;clear hM;obtain ⟨sp1, sp2, sok⟩ := slotsD_facts D hok;go_enter Tryd.func35, Tryd.ntmps35;refine zin ?_;refine zk fun K1 hK1 => zr ?_;refine zp 2 rfl ?_;refine zw (hK1 _ _ (zk fun K2 hK2 => zk fun K3 hK3 => zr ?_));refine zp 1 rfl (zo M (y_eqnil (r := false) (zwn rfl) rfl (zev rfl) (zev rfl) zu23 rfl) ?_);refine zw (hK3 _ _ (zcf rfl (zsk (hK2 _ _ (zk fun K4 hK4 => ?_)))));refine zr ?_;refine zp 1 rfl ?_;refine zca 31 [zP p 0] rfl Tryd.call31 (slots_any (Mem.h1 (disk_close hok M)) ) ?_;rintro e w5 ⟨rfl, H5⟩;have M5 := (disk_open (Mem.f1 (disk_close hok M) H5)).2;(try simp only[Y1,Y2]at M5);refine ⟨_, rfl, ?_⟩;refine zp 3 rfl ?_;refine zal M5 (supC noSup) rfl zero_sup fun gs w6 M6 => ?_;refine zsw M6 0 rfl (size_sup _) (sup_all _) rfl fun w7 M7 => ?_;simp only[Zg,Zh]at M7;refine zp 1 rfl ?_;refine zw (hK4 _ _ (zk fun K8 hK8 => zk fun K9 hK9 => zr ?_));refine zp 1 rfl ?_;rcases zem (slotsE D = 0) with h10 | h10
 ·refine zo M7 (zneq (b := false) rfl (by rw [decide_eq_true h10]; rfl)) ?_;refine zw (hK9 _ _ (zcf rfl (zsk (hK8 _ _ (zk fun K11 hK11 => ?_)))));refine zk fun K12 hK12 => ?_;have M13 := M7.drew;have hzM13 := M13.pk [0];simp only[Y3,Y4,Y1,Y2]at hzM13;refine zhb hzM13 (by kernel_rfl) fun hS => ?_;refine zt 0 rfl (zf 4 zu61 rfl zz3) hS (zt 1 rfl (zl 0 rfl zg3) hS (zt 2 rfl (zy rfl) hS ?_));have M14 := M13.pk [1, 2, 3, 4, 0];simp only[Y3,Y4,Y1,Y2]at M14;refine held_step 3 (by kernel_rfl) rfl (zwn rfl) (fun K hK => ?_);refine e_call 32 [zP p 0] rfl (zls_eval rfl) Tryd.call32 (pages_any (Mem.h1 (disk_close sok M14)) ) ?_;rintro e w15 ⟨rfl, H15⟩;have M15 := (disk_open (Mem.f1 (disk_close sok M14) H15)).2;(try simp only[Y1,Y2]at M15);refine ⟨_, rfl, ?_⟩;refine hK.out _ _ (M15.arr [4] (by decide)) (fun hS => zpa ?_);rcases zem ((slotsS D).pages = ((slotsD D).pages.length : Int)) with h16 | h16
  ·refine zt 4 rfl (zneq (b := false) rfl (by rw [decide_eq_true h16]; rfl)) hS ?_;refine held_done (by kernel_rfl) (hK12 _ _ ?_) _;refine zcf rfl (zsk (hK11 _ _ (zk fun K17 hK17 => ?_)));have M18 := M15.drew;have hzM18 := M18.pk [4];simp only[Y3,Y4,Y1,Y2]at hzM18;refine zhb hzM18 (by kernel_rfl) fun hS => ?_;refine zt 0 rfl (zy rfl) hS (zt 1 rfl (zlb 0 rfl zu61 rfl (size_sup _)) hS (zt 2 rfl (zf 2 zu61 rfl zz3) hS (zt 3 rfl (zl 0 rfl zg3) hS (zt 4 rfl (zy rfl) hS ?_))));refine held_step 5 (by kernel_rfl) rfl (zwn rfl) (fun K hK => ?_);refine e_call 54 [zP p 0] rfl (zls_eval rfl) Tryd.call54 (claim_any (Mem.h1 (disk_close sok M18)) ) ?_;rintro e w19 ⟨rfl, H19⟩;have M19 := (disk_open (Mem.f1 (disk_close sok M18) H19)).2;(try simp only[Y1,Y2]at M19);refine ⟨_, rfl, ?_⟩;refine hK.out _ _ (M19.arr [4] (by decide)) (fun hS => zpa ?_);refine zt 6 rfl (y_build (ps := [(0, .tmp 21), (1, .tmp 22), (2, .tmp 24), (3, .tmp 26)]) (pv := [(0, zP p 0), (1, .agg ((supC (slotsS D))).toArray), (2, zI ((slotsS D).mark)), (3, zI ((claimD (slotsD D)).epoch))]) (cs := (fC (openV D) p)) (zwn rfl) rfl (zep rfl) (by kernel_rfl)) hS ?_;refine held_step 7 (by kernel_rfl) rfl (zwn rfl) (fun K hK => ?_);refine e_box M19 (fC (openV D) p) rfl (zev rfl) ?_;intro f w20 M20;refine hK.out _ _ (M20.arr [5] (by decide)) (fun hS => zpa ?_);refine zt 8 rfl (zy rfl) hS (zt 9 rfl (zy rfl) hS ?_);refine held_done (by kernel_rfl) (hK17 _ _ ?_) _;refine zrt ?_;(try simp only[zi,zj]);refine zR (v := .tuple #[zP f 0, zI 0]) (res2 rfl (zgd rfl) (zgd rfl)) (zdf _) ?_;have hpp : (slotsS D).pages = (D.pages.length : Int) := by rw [← sp1]; exact h16
   have e1 : openE D = 0 := by unfold openE; rw [if_neg (fun h => h h10), if_neg (fun h => h hpp)]
   have e2 : openD D = claimD (slotsD D) := if_pos e1;rw [e2];exact Or.inr ⟨e1, f, rfl, (disk_close (D := claimD (slotsD D)) (claim_ok sok) (M20.arr [1, 2, 3, 4, 0] (by decide)))⟩
  ·refine zt 4 rfl (zneq (b := true) rfl (by rw [decide_eq_false h16]; rfl)) hS ?_;refine held_done (by kernel_rfl) (hK12 _ _ ?_) _;refine zct rfl (zk fun K21 hK21 => zr ?_);refine zp 2 rfl ?_;refine zw (hK21 _ _ (zrt ?_));(try simp only[zi,zj]);refine zR (v := .tuple #[.pointer none, zI 4]) (res2 rfl (zgd rfl) (zgd rfl)) (zdf _) ?_;have hpp : (slotsS D).pages ≠ (D.pages.length : Int) := by rw [← sp1]; exact h16
   have e1 : openE D = 4 := by unfold openE; rw [if_neg (fun h => h h10), if_pos hpp]
   have e2 : openD D = slotsD D := if_neg (by rw [e1]; decide);rw [e1, e2];exact Or.inl ⟨by decide, rfl, (disk_close (D := slotsD D) sok (M15.arr [0, 1, 2, 3] (by decide)))⟩
 ·refine zo M7 (zneq (b := true) rfl (by rw [decide_eq_false h10]; rfl)) ?_;refine zw (hK9 _ _ (zct rfl (zk fun K22 hK22 => zr ?_)));refine zp 3 rfl ?_;refine zw (hK22 _ _ (zrt ?_));(try simp only[zi,zj]);refine zR (v := .tuple #[.pointer none, zI (slotsE D)]) (res2 rfl (zgd rfl) (zgd rfl)) (zdf _) ?_;have e1 : openE D = slotsE D := if_pos h10;have e2 : openD D = slotsD D := if_neg (by rw [e1]; exact h10);rw [e1, e2];exact Or.inl ⟨h10, rfl, (disk_close (D := slotsD D) sok (M7.arr [1, 2, 3, 4] (by decide)))⟩
end Go.Proofs.YtopdhanbmnfeeaaDoor

/- The file: Read. -/
namespace Go.Proofs.YtopdhanbmnfeeaaDoor
set_option linter.unusedSectionVars false
open Go Go.RowKit
set_option maxRecDepth 100000
set_option maxHeartbeats 40000000
set_option linter.unusedVariables false
set_option linter.unusedSimpArgs false
theorem live_zero {D : DV} {V : FV} (h : liveE D V = 0) : D.epoch = V.mine ∧ D.dead = false := by
  unfold liveE at h
  split at h
  · cases h
  · rename_i h1
    split at h
    · cases h
    · rename_i h2
      exact ⟨Decidable.of_not_not h1, by revert h2; cases D.dead <;> simp⟩
def fReadE (D : DV) (V : FV) (page : Int) : Int := if liveE D V ≠ 0 then liveE D V else if page < 2 ∨ V.next ≤ page then 41 else if unpgE page (D.cur page.toNat) ≠ 0 then 4 else 0
def fReadK (D : DV) (V : FV) (page : Int) : Int := if fReadE D V page = 0 then unpgK page (D.cur page.toNat) else 0
def fReadL (D : DV) (V : FV) (page : Int) : List UInt8 := if fReadE D V page = 0 then unpgL page (D.cur page.toNat) else []
def fReadD (D : DV) (V : FV) (page : Int) : DV := if liveE D V ≠ 0 ∨ page < 2 ∨ V.next ≤ page then D else readD D page
theorem fRead_no {D : DV} {V : FV} {page e : Int} (h : fReadE D V page = e) (he : e ≠ 0) : fReadK D V page = 0 ∧ fReadL D V page = [] := by
  unfold fReadK fReadL
  rw [h, if_neg he, if_neg he]
  exact ⟨rfl, rfl⟩
theorem fRead_yes {D : DV} {V : FV} {page : Int} (h : fReadE D V page = 0) : fReadK D V page = unpgK page (D.cur page.toNat) ∧ fReadL D V page = unpgL page (D.cur page.toNat) := by
  unfold fReadK fReadL
  rw [if_pos h, if_pos h]
  exact ⟨rfl, rfl⟩
theorem fread_dead {D : DV} {V : FV} {f p pg mb : Nat} {qv : Value} {w : World} (hM : zM w [disk D p pg mb qv, blk f 99 (fC V p)]) (page : Int) (hL : liveE D V ≠ 0) : zC 56 [zP f 0, zI page] w fun e w' => ∃ v, e = .returned (.tuple #[zI (fReadK D V page), v, zI (fReadE D V page)]) ∧ zD w [disk D p pg mb qv, blk f 99 (fC V p)] w' [disk (fReadD D V page) p pg mb qv, blk f 99 (fC V p), lst 5 1 v (fReadL D V page).length (bvs (fReadL D V page))] := by
 obtain ⟨hok, M⟩ := disk_open hM;clear hM;go_enter Tryd.func56, Tryd.ntmps56;refine zin ?_;refine zk fun K1 hK1 => zr ?_;refine zp 3 rfl ?_;refine zw (hK1 _ _ (zk fun K2 hK2 => zk fun K3 hK3 => zr ?_));refine zp 1 rfl ?_;have M4 := M.pk [0, 1, 2, 3, 4];simp only[Y3,Y4,Y1,Y2]at M4;clear M;have hlv : zD w [disk D p pg mb qv, blk f 99 (fC V p)] w ([disk D p pg mb (qv), blk f 99 (fC V p)] ++ []) := disk_close hok M4;refine zca 40 [zP f 0] rfl zc40 (live_any (Mem.h2 hlv)) ?_;rintro e w5 ⟨rfl, H5⟩;have M5 := (disk_open (R := [blk f 99 (fC V p)] ++ []) (Mem.f2 hlv H5)).2;(try simp only[Y1,Y2]at M5);refine ⟨_, rfl, ?_⟩;refine zp 1 rfl ?_;refine zw (hK3 _ _ (zk fun K6 hK6 => zr ?_));refine zp 1 rfl (zo M5 (zneq (b := true) rfl (by rw [decide_eq_false hL]; rfl)) ?_);refine zw (hK6 _ _ (zct rfl (zk fun K7 hK7 => zr ?_)));refine zp 4 rfl ?_;refine zw (hK7 _ _ (zrt ?_));(try simp only[zi,zj]);refine zR (v := .tuple #[zI 0, zN, zI (liveE D V)]) (res3 rfl (zgd rfl) (zgd rfl) (zgd rfl)) (zdf _) ?_;have e1 : fReadE D V page = liveE D V := if_pos hL;obtain ⟨e2, e3⟩ := fRead_no e1 hL;have e4 : fReadD D V page = D := if_pos (Or.inl hL);rw [e1, e2, e3, e4];have N := (disk_close hok (M5.arr [0, 1, 2, 3, 4] (by decide))).nilst 5 1;exact ⟨_, rfl, N.arr [1, 2, 0] (by decide)⟩
theorem fread_low {D : DV} {V : FV} {f p pg mb : Nat} {qv : Value} {w : World} (hM : zM w [disk D p pg mb qv, blk f 99 (fC V p)]) (page : Int) (hL : liveE D V = 0) (hp : page < 2) : zC 56 [zP f 0, zI page] w fun e w' => ∃ v, e = .returned (.tuple #[zI (fReadK D V page), v, zI (fReadE D V page)]) ∧ zD w [disk D p pg mb qv, blk f 99 (fC V p)] w' [disk (fReadD D V page) p pg mb qv, blk f 99 (fC V p), lst 5 1 v (fReadL D V page).length (bvs (fReadL D V page))] := by
 obtain ⟨hok, M⟩ := disk_open hM;clear hM;go_enter Tryd.func56, Tryd.ntmps56;refine zin ?_;refine zk fun K1 hK1 => zr ?_;refine zp 3 rfl ?_;refine zw (hK1 _ _ (zk fun K2 hK2 => zk fun K3 hK3 => zr ?_));refine zp 1 rfl ?_;have M4 := M.pk [0, 1, 2, 3, 4];simp only[Y3,Y4,Y1,Y2]at M4;clear M;have hlv : zD w [disk D p pg mb qv, blk f 99 (fC V p)] w ([disk D p pg mb (qv), blk f 99 (fC V p)] ++ []) := disk_close hok M4;refine zca 40 [zP f 0] rfl zc40 (live_any (Mem.h2 hlv)) ?_;rintro e w5 ⟨rfl, H5⟩;have M5 := (disk_open (R := [blk f 99 (fC V p)] ++ []) (Mem.f2 hlv H5)).2;(try simp only[Y1,Y2]at M5);refine ⟨_, rfl, ?_⟩;refine zp 1 rfl ?_;refine zw (hK3 _ _ (zk fun K6 hK6 => zr ?_));refine zp 1 rfl (zo M5 (zneq (b := false) rfl (by rw [decide_eq_true hL]; rfl)) ?_);refine zw (hK6 _ _ (zcf rfl (zsk (hK2 _ _ (zk fun K7 hK7 => ?_)))));refine zk fun K8 hK8 => zr ?_;refine zp 1 rfl (zo M5 (zlss rfl (zT (by omega))) (zp 6 rfl ?_));refine zp 2 rfl ?_;refine zw (hK8 _ _ (zct rfl (zk fun K9 hK9 => zr ?_)));refine zp 3 rfl ?_;refine zw (hK9 _ _ (zrt ?_));(try simp only[zi,zj]);refine zR (v := .tuple #[zI 0, zN, zI 41]) (res3 rfl (zgd rfl) (zgd rfl) (zgd rfl)) (zdf _) ?_;have e1 : fReadE D V page = 41 := by unfold fReadE; rw [if_neg (fun h => h hL), if_pos (by omega)]
 obtain ⟨e2, e3⟩ := fRead_no e1 (by decide);have e4 : fReadD D V page = D := if_pos (Or.inr (Or.inl hp));rw [e1, e2, e3, e4];have N := (disk_close hok (M5.arr [0, 1, 2, 3, 4] (by decide))).nilst 5 1;exact ⟨_, rfl, N.arr [1, 2, 0] (by decide)⟩
theorem fread_high {D : DV} {V : FV} {f p pg mb : Nat} {qv : Value} {w : World} (hM : zM w [disk D p pg mb qv, blk f 99 (fC V p)]) (page : Int) (hL : liveE D V = 0) (hp0 : ¬ page < 2) (hp : V.next ≤ page) : zC 56 [zP f 0, zI page] w fun e w' => ∃ v, e = .returned (.tuple #[zI (fReadK D V page), v, zI (fReadE D V page)]) ∧ zD w [disk D p pg mb qv, blk f 99 (fC V p)] w' [disk (fReadD D V page) p pg mb qv, blk f 99 (fC V p), lst 5 1 v (fReadL D V page).length (bvs (fReadL D V page))] := by
 obtain ⟨hok, M⟩ := disk_open hM;clear hM;go_enter Tryd.func56, Tryd.ntmps56;refine zin ?_;refine zk fun K1 hK1 => zr ?_;refine zp 3 rfl ?_;refine zw (hK1 _ _ (zk fun K2 hK2 => zk fun K3 hK3 => zr ?_));refine zp 1 rfl ?_;have M4 := M.pk [0, 1, 2, 3, 4];simp only[Y3,Y4,Y1,Y2]at M4;clear M;have hlv : zD w [disk D p pg mb qv, blk f 99 (fC V p)] w ([disk D p pg mb (qv), blk f 99 (fC V p)] ++ []) := disk_close hok M4;refine zca 40 [zP f 0] rfl zc40 (live_any (Mem.h2 hlv)) ?_;rintro e w5 ⟨rfl, H5⟩;have M5 := (disk_open (R := [blk f 99 (fC V p)] ++ []) (Mem.f2 hlv H5)).2;(try simp only[Y1,Y2]at M5);refine ⟨_, rfl, ?_⟩;refine zp 1 rfl ?_;refine zw (hK3 _ _ (zk fun K6 hK6 => zr ?_));refine zp 1 rfl (zo M5 (zneq (b := false) rfl (by rw [decide_eq_true hL]; rfl)) ?_);refine zw (hK6 _ _ (zcf rfl (zsk (hK2 _ _ (zk fun K7 hK7 => ?_)))));refine zk fun K8 hK8 => zr ?_;refine zp 1 rfl (zo M5 (zlss rfl (zF (by omega))) (zp 4 rfl (zo M5 (zf 6 zu99 rfl zz3) (zo M5 (zl 4 rfl zg3) ?_))));refine zo M5 (zgeq rfl (zT (by omega))) (zp 1 rfl ?_);refine zw (hK8 _ _ (zct rfl (zk fun K9 hK9 => zr ?_)));refine zp 3 rfl ?_;refine zw (hK9 _ _ (zrt ?_));(try simp only[zi,zj]);refine zR (v := .tuple #[zI 0, zN, zI 41]) (res3 rfl (zgd rfl) (zgd rfl) (zgd rfl)) (zdf _) ?_;have e1 : fReadE D V page = 41 := by unfold fReadE; rw [if_neg (fun h => h hL), if_pos (by omega)]
 obtain ⟨e2, e3⟩ := fRead_no e1 (by decide);have e4 : fReadD D V page = D := if_pos (Or.inr (Or.inr hp));rw [e1, e2, e3, e4];have N := (disk_close hok (M5.arr [0, 1, 2, 3, 4] (by decide))).nilst 5 1;exact ⟨_, rfl, N.arr [1, 2, 0] (by decide)⟩
theorem fread_ok {D : DV} {V : FV} {f p pg mb : Nat} {qv : Value} {w : World} (hM : zM w [disk D p pg mb qv, blk f 99 (fC V p)]) (n : Nat) (hL : liveE D V = 0) (hn : 2 ≤ n) (hx : (n : Int) < V.next) (hV : FOk D V) : zC 56 [zP f 0, zI (n : Int)] w fun e w' => ∃ v, e = .returned (.tuple #[zI (fReadK D V (n : Int)), v, zI (fReadE D V (n : Int))]) ∧ zD w [disk D p pg mb qv, blk f 99 (fC V p)] w' [disk (fReadD D V (n : Int)) p pg mb qv, blk f 99 (fC V p), lst 5 1 v (fReadL D V (n : Int)).length (bvs (fReadL D V (n : Int)))] := by
 obtain ⟨hok, M⟩ := disk_open hM;clear hM;have hv1 := hV.pages;have hv2 := hV.hi;have hhi := hok.hi;have hnp : n < D.pages.length := by omega
 have r0 := read_alive (live_zero hL).2 hnp;have l0 : (D.cur n).length = 256 := cur_len hok hnp;go_enter Tryd.func56, Tryd.ntmps56;refine zin ?_;refine zk fun K1 hK1 => zr ?_;refine zp 3 rfl ?_;refine zw (hK1 _ _ (zk fun K2 hK2 => zk fun K3 hK3 => zr ?_));refine zp 1 rfl ?_;have M4 := M.pk [0, 1, 2, 3, 4];simp only[Y3,Y4,Y1,Y2]at M4;clear M;have hlv : zD w [disk D p pg mb qv, blk f 99 (fC V p)] w ([disk D p pg mb (qv), blk f 99 (fC V p)] ++ []) := disk_close hok M4;refine zca 40 [zP f 0] rfl zc40 (live_any (Mem.h2 hlv)) ?_;rintro e w5 ⟨rfl, H5⟩;have M5 := (disk_open (R := [blk f 99 (fC V p)] ++ []) (Mem.f2 hlv H5)).2;(try simp only[Y1,Y2]at M5);refine ⟨_, rfl, ?_⟩;refine zp 1 rfl ?_;refine zw (hK3 _ _ (zk fun K6 hK6 => zr ?_));refine zp 1 rfl (zo M5 (zneq (b := false) rfl (by rw [decide_eq_true hL]; rfl)) ?_);refine zw (hK6 _ _ (zcf rfl (zsk (hK2 _ _ (zk fun K7 hK7 => ?_)))));refine zk fun K8 hK8 => zr ?_;refine zp 1 rfl (zo M5 (zlss rfl (zF (by omega))) (zp 4 rfl (zo M5 (zf 6 zu99 rfl zz3) (zo M5 (zl 4 rfl zg3) ?_))));refine zo M5 (zgeq rfl (zF (by omega))) (zp 1 rfl ?_);refine zw (hK8 _ _ (zcf rfl (zsk (hK7 _ _ (zk fun K9 hK9 => ?_)))));refine zr ?_;refine zp 2 rfl (zo M5 (zf 0 zu99 rfl zz23) (zo M5 (zl 4 rfl zg23) (zp 1 rfl ?_)));refine zca 49 [zP p 0, zI (n : Int)] rfl Tryd.call49 (read_any (Mem.h1 (disk_close hok M5)) (n : Int)) ?_;rintro e w10 ⟨v, rfl, H10⟩;rw [r0.2.1] at H10;rw [r0.1];obtain ⟨ga, ca, rfl, hca, hca2⟩ := lst_slice (H10.get 1 rfl) (by rw [l0]; decide);rw [l0] at H10;rw [l0] at hca;rw [l0];have M100 := Mem.f1 (disk_close hok M5) H10;have M10 := (disk_open (R := [lst 5 1 (zS ga 256 ca) 256 (bvs (D.cur n)), blk f 99 (fC V p)]) M100).2;clear H10 M100 M5;refine ⟨_, rfl, ?_⟩;refine zp 5 rfl ?_;refine zw (hK9 _ _ (zk fun K11 hK11 => zk fun K12 hK12 => zr ?_));refine zp 1 rfl (zo M10 (zneq (b := false) rfl (by rw [decide_eq_true rfl]; rfl)) ?_);refine zw (hK12 _ _ (zcf rfl (zsk (hK11 _ _ (zk fun K13 hK13 => ?_)))));refine zr ?_;refine zp 2 rfl ?_;refine zca 73 [zI (n : Int), zS ga 256 ca] rfl Tryd.call73 (unpack_ok n ga 0 ca (D.cur n) _ (lst_row (M10.get 4 rfl)) ⟨by omega, by omega⟩ hca hca2) ?_;rintro e w14 ⟨vl, rfl, H⟩;have M14 := M10.step H;simp only[Y1,Y2]at M14;refine ⟨_, rfl, ?_⟩;refine zp 7 rfl ?_;refine zw (hK13 _ _ (zk fun K15 hK15 => zk fun K16 hK16 => zr ?_));refine zp 1 rfl ?_;rcases zem (unpgE n (D.cur n) = 0) with h17 | h17
 ·refine zo M14 (zneq (b := false) rfl (by rw [decide_eq_true h17]; rfl)) ?_;refine zw (hK16 _ _ (zcf rfl (zsk (hK15 _ _ (zk fun K18 hK18 => ?_)))));refine zr ?_;refine zp 5 rfl ?_;refine zw (hK18 _ _ (zrt ?_));(try simp only[zi,zj]);refine zR (v := .tuple #[zI (unpgK n (D.cur n)), vl, zI 0]) (res3 rfl (zgd rfl) (zgd rfl) (zgd rfl)) (zdf _) ?_;have e1 : fReadE D V (n : Int) = 0 := by unfold fReadE; rw [if_neg (fun h => h hL), if_neg (by omega), Int.toNat_natCast, if_neg (fun h => h h17)]
  obtain ⟨e2, e3⟩ := fRead_yes e1;have e4 : fReadD D V (n : Int) = readD D n := if_neg (by omega);rw [e1, e2, e3, e4];exact ⟨_, rfl, disk_close (readD_ok hok _) (M14.arr [1, 2, 3, 4, 6, 0] (by decide))⟩
 ·refine zo M14 (zneq (b := true) rfl (by rw [decide_eq_false h17]; rfl)) ?_;refine zw (hK16 _ _ (zct rfl (zk fun K19 hK19 => zr ?_)));refine zp 3 rfl ?_;refine zw (hK19 _ _ (zrt ?_));(try simp only[zi,zj]);refine zR (v := .tuple #[zI 0, zN, zI 4]) (res3 rfl (zgd rfl) (zgd rfl) (zgd rfl)) (zdf _) ?_;have e1 : fReadE D V (n : Int) = 4 := by unfold fReadE; rw [if_neg (fun h => h hL), if_neg (by omega), Int.toNat_natCast, if_pos h17]
  obtain ⟨e2, e3⟩ := fRead_no e1 (by decide);have e4 : fReadD D V (n : Int) = readD D n := if_neg (by omega);rw [e1, e2, e3, e4];have N := (disk_close (readD_ok hok _) (M14.arr [1, 2, 3, 4, 6] (by decide))).nilst 5 1;exact ⟨_, rfl, N.arr [1, 2, 0] (by decide)⟩
theorem fread_any {D : DV} {V : FV} {f p pg mb : Nat} {qv : Value} {w : World} (hM : Mem w (foots [disk D p pg mb qv, blk f 99 (fC V p)]) w [disk D p pg mb qv, blk f 99 (fC V p)]) (page : Int) (hV : FOk D V) : Calls Tryd.prog 56 #[.pointer (some ⟨f, 0, none⟩), .int .i64 page] w fun e w' => ∃ v, e = .returned (.tuple #[.int .i64 (fReadK D V page), v, .int .i64 (fReadE D V page)]) ∧ Mem w (foots [disk D p pg mb qv, blk f 99 (fC V p)]) w' [disk (fReadD D V page) p pg mb qv, blk f 99 (fC V p), lst 5 1 v (fReadL D V page).length (bvs (fReadL D V page))] := by
  by_cases hL : liveE D V = 0
  · rcases Int.lt_or_le page 2 with h1 | h1
    · exact fread_low hM page hL h1
    · rcases Int.lt_or_le page V.next with h2 | h2
      · obtain ⟨n, rfl⟩ := Int.eq_ofNat_of_zero_le (show 0 ≤ page by omega)
        exact fread_ok hM n hL (by omega) h2 hV
      · exact fread_high hM page hL (by omega) h2
  · exact fread_dead hM page hL
end Go.Proofs.YtopdhanbmnfeeaaDoor
