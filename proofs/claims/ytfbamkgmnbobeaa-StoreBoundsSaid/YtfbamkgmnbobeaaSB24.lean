/- Texts joined: Bnd9. -/
import Derived.Test.YtfbamkgmnbobeaaSB23
/- One call of a store in order, whatever its kind; a new world. -/
namespace Go.Proofs.Ytfbamkgmnbobeaa
set_option linter.unusedSectionVars false
open Go Go.RowKit
set_option linter.unusedVariables false
set_option linter.unusedSimpArgs false
theorem fReadL_len (D : DV) (V : FV) (n : Int) : (fReadL D V n).length ≤ 255 := by
  unfold fReadL unpgL
  split
  · split
    · rw [List.length_take]
      have h : ∀ x : UInt8, x.toNat ≤ 255 := fun x => by have := x.toNat_lt; omega
      have := h ((D.cur n.toNat).getD 1 0)
      omega
    · exact Nat.zero_le _
  · exact Nat.zero_le _
theorem BSt.look_len {D : DV} {V : FV} {C : CS} {X : SX} (h : BSt D V C) (hS : SOk C V.s.mark X) {k : Int} {e : En} (hl : C.look k = some e) : e.l.length ≤ 246 := by
  obtain ⟨pz, hI⟩ := h.inv
  obtain ⟨h8, h9⟩ := look_some hl
  rcases List.mem_append.1 h8 with hx | hx
  · have := hI.cl e hx
    rw [this.2]
    have hk := (hS.cl e hx).2
    have hk1 := (hS.cl e hx).1
    have hnx := hI.nx
    obtain ⟨f1, f2, f3, f4, f5⟩ := hI.inv.read (n := e.k.toNat) (by omega) (by omega)
    exact f4.2
  · exact (hI.kd hx).2
theorem BOut.next {kind e : Int} {D E : DV} {V V' : FV} {C C' : CS} (h : BOut kind D V C e E V' C') (hB : BSt D V C) (hm : C'.misses ≤ 5000000000000) (hh : C'.hits ≤ 5000000000000) (hg : C'.gone ≤ 50000000000000000) : BSt E V' C' := by
  have h1 := h.mi; have h2 := h.hi; have h3 := h.go; have h4 := hB.mi; have h5 := hB.hi; have h6 := hB.go
  exact ⟨h.inv, h.arm, h.q, by rw [h.room]; exact hB.room, by rw [h.room]; exact h.cl, ⟨by omega, hm⟩, ⟨by omega, hh⟩, ⟨by omega, hg⟩⟩
def wx0 (bb : Nat) : WX := ⟨.slice none 0 0, .slice none 0 0, bb, ⟨none, 0, none, 0, none, 0, none, 0, []⟩, none, 0, [], none, 0, [], [], 0, none, 0, [], []⟩
theorem Mem.nilA {w0 w : World} {F : List Nat} {L : List Asn} (h : Mem w0 F w L) {A : Asn} (hf : A.foot = []) (hA : A.holds w) : Mem w0 F w (A :: L) :=
  h.step (R := [A]) ⟨Grew.refl _ _, fun B hB => by
    obtain rfl : B = A := by simpa using hB
    exact hA, by simp [foots, hf], by simp [foots, hf]⟩
theorem wld_new {w0 w : World} {F : List Nat} {R : List Asn} {p bb : Nat} (h : Mem w0 F w (blk p 54 [.slice none 0 0, .slice none 0 0, .pointer (some ⟨bb, 0, none⟩), .slice none 0 0, .slice none 0 0, .int .i64 0, .slice none 0 0] :: blk bb 50 [.slice none 0 0, .slice none 0 0, .slice none 0 0, .slice none 0 0] :: R)) : Mem w0 F w (wld p (wx0 bb) :: R) := by
  have hn : ∀ (T k : Nat) (W : World), (lst T k (.slice none 0 0) 0 []).holds W := fun T k W => World.ownsRow_nil _ _ _ _
  have hnf : ∀ T k : Nat, (lst T k (.slice none 0 0) 0 []).foot = [] := fun T k => rfl
  have N := ((((h.nilA (A := famsA []) rfl ⟨trivial, fun A hA => by cases hA⟩).nilst 24 1).nilst 24 1).nilst 24 1).nilst 24 1
  have N1 : Mem w0 F w (blk bb 50 [.slice none 0 0, .slice none 0 0, .slice none 0 0, .slice none 0 0] :: lst 24 1 (.slice none 0 0) 0 [] :: lst 24 1 (.slice none 0 0) 0 [] :: lst 24 1 (.slice none 0 0) 0 [] :: lst 24 1 (.slice none 0 0) 0 [] :: famsA [] :: blk p 54 [.slice none 0 0, .slice none 0 0, .pointer (some ⟨bb, 0, none⟩), .slice none 0 0, .slice none 0 0, .int .i64 0, .slice none 0 0] :: R) := by
    refine N.perm ?_
    exact (List.perm_append_comm (l₁ := [lst 24 1 (.slice none 0 0) 0 [], lst 24 1 (.slice none 0 0) 0 [], lst 24 1 (.slice none 0 0) 0 [], lst 24 1 (.slice none 0 0) 0 [], famsA [], blk p 54 [.slice none 0 0, .slice none 0 0, .pointer (some ⟨bb, 0, none⟩), .slice none 0 0, .slice none 0 0, .int .i64 0, .slice none 0 0]]) (l₂ := [blk bb 50 [.slice none 0 0, .slice none 0 0, .slice none 0 0, .slice none 0 0]])).append_right R
  have N2 := bk_close (b := bb) (K := ⟨none, 0, none, 0, none, 0, none, 0, []⟩) N1
  have hr : ∀ (W : World), (rows (.slice none 0 0) [] []).holds W := fun W => ⟨rfl, fun A hA => by
    rcases List.mem_cons.1 hA with rfl | hA
    · exact World.ownsRow_nil _ _ _ _
    · obtain rfl := List.mem_singleton.1 hA
      exact ⟨trivial, fun B hB => by cases hB⟩⟩
  have N3 := (((N2.nilA (A := vault []) rfl ⟨trivial, fun A hA => by cases hA⟩).nilA (A := bytesL (.slice none 0 0) []) rfl (World.ownsRow_nil _ _ _ _)).nilA (A := rows (.slice none 0 0) [] []) rfl (hr w)).nilA (A := rows (.slice none 0 0) [] []) rfl (hr w)
  refine wld_close (p := p) (X := wx0 bb) ⟨.inl ⟨rfl, rfl, rfl⟩, Nat.le_refl _, Nat.le_refl _⟩ (N3.perm ?_)
  exact (List.perm_append_comm (l₁ := [rows (.slice none 0 0) [] [], rows (.slice none 0 0) [] [], bytesL (.slice none 0 0) [], vault [], book8 bb ⟨none, 0, none, 0, none, 0, none, 0, []⟩]) (l₂ := [blk p 54 [.slice none 0 0, .slice none 0 0, .pointer (some ⟨bb, 0, none⟩), .slice none 0 0, .slice none 0 0, .int .i64 0, .slice none 0 0]])).trans ((List.Perm.cons _ (List.perm_append_comm (l₁ := [rows (.slice none 0 0) [] [], rows (.slice none 0 0) [] [], bytesL (.slice none 0 0) [], vault []]) (l₂ := [book8 bb ⟨none, 0, none, 0, none, 0, none, 0, []⟩])))) |>.append_right R
theorem one_all {Y : WX} {D : DV} {V : FV} {C : CS} {X : SX} {pw s f p pg mb : Nat} {qv : Value} {w : World} (hM : Mem w (foots [wld pw Y, disk D p pg mb qv, blk f 117 (fC V p), sto C V.s.mark s f X]) w [wld pw Y, disk D p pg mb qv, blk f 117 (fC V p), sto C V.s.mark s f X]) (oA oN oM oB : Int) (ao : Option Addr) (an ac : Nat) (kind : Int) (hk : 2 ≤ kind ∧ kind ≤ 11) (hB : BSt D V C) (l : List UInt8) (hr : Row w ao an l) (hro : ∀ b o, ao = some ⟨b, o, none⟩ → 0 < an → b ∉ foots [wld pw Y, disk D p pg mb qv, blk f 117 (fC V p), sto C V.s.mark s f X]) (hac : an ≤ ac) (han : an ≤ 9223372036854775807) (hXn : X.x.n < 100000000000000) (htn : Y.turn ≤ 4000000000000) :
    Calls Try.prog 23 #[.pointer (some ⟨pw, 0, none⟩), .pointer (some ⟨s, 0, none⟩), .agg (opC8 kind oA oN oM ao an ac oB).toArray] w fun e w' => ∃ A ra rc Y' E V' C' X' qv', e = .returned (.agg (ansC8 A (.slice ra A.raw.length rc)).toArray) ∧ BOut kind D V C A.e E V' C' ∧ X'.x.n ≤ X.x.n + 1 ∧ Y'.turn ≤ Y.turn + 1 ∧ Mem w (foots [wld pw Y, disk D p pg mb qv, blk f 117 (fC V p), sto C V.s.mark s f X]) w' [wld pw Y', disk E p pg mb qv', blk f 117 (fC V' p), sto C' V'.s.mark s f X'] := by
  have hok := sto_ok (hM.get 3 rfl)
  have hfl := sto_flag (hM.get 3 rfl)
  obtain ⟨pz, hI⟩ := hB.inv
  have hpl : D.pages.length ≤ 4096 := hI.inv.ok.hi
  have two : ∀ k : Int, k ≠ 2 → k ≠ 5 → ∀ e, BOut k D V C e D V C := fun k h2 h5 e => BOut.same hB k e (fun a => absurd a h2) (fun a => h5 a.1)
  rcases (by omega : kind = 2 ∨ kind = 3 ∨ kind = 4 ∨ kind = 5 ∨ kind = 6 ∨ kind = 7 ∨ kind = 8 ∨ kind = 9 ∨ kind = 10 ∨ kind = 11) with rfl | rfl | rfl | rfl | rfl | rfl | rfl | rfl | rfl | rfl
  · obtain ⟨h1, h2⟩ := hB.load hfl hok oN
    refine (one_load hM oA oN oM oB ao an ac hI.inv.fok hI.nx (fun e he => by have := hB.look_len hok he; omega) (by have := fReadL_len D V oN; omega) h1 hXn htn).mono ?_
    rintro e w' ⟨ra, rc, Y', ge, ld, X', rfl, _, hw, hx, h⟩
    exact ⟨_, ra, rc, Y', _, V, _, X', qv, rfl, h2 ge ld, hx, hw.turn, h⟩
  · refine (one_stage hM oA oN oM oB ao an ac l hr hro hac han hpl hXn htn).mono ?_
    rintro e w' ⟨ra, rc, Y', ge, ld, X', rfl, _, hw, hx, h⟩
    exact ⟨_, ra, rc, Y', D, V, _, X', qv, rfl, hB.stage oN (l.take 300) ge ld, hx, hw.turn, h⟩
  · refine (one_rewind hM oA oN oM oB ao an ac).mono ?_
    rintro e w' ⟨ra, rc, Y', X', rfl, _, hw, hx, h⟩
    exact ⟨_, ra, rc, Y', D, V, _, X', qv, rfl, hB.rewind oN, by omega, hw.turn, h⟩
  · refine (one_flush hM oA oN oM oB ao an ac hI.inv.fok hI.nx (by rw [hB.q]; decide) hpl).mono ?_
    rintro e w' ⟨ra, rc, Y', qv', X', rfl, _, hw, hx, h⟩
    exact ⟨_, ra, rc, Y', _, _, _, X', qv', rfl, hB.flush hok oN, by omega, hw.turn, h⟩
  · refine (one_live hM oA oN oM oB ao an ac).mono ?_
    rintro e w' ⟨ra, rc, Y', rfl, _, hw, h⟩
    exact ⟨_, ra, rc, Y', D, V, C, X, qv, rfl, two 6 (by decide) (by decide) _, Nat.le_succ _, hw.turn, h⟩
  · refine (one_super hM oA oN oM oB ao an ac).mono ?_
    rintro e w' ⟨ra, rc, Y', rfl, _, hw, h⟩
    exact ⟨_, ra, rc, Y', D, V, C, X, qv, rfl, two 7 (by decide) (by decide) _, Nat.le_succ _, hw.turn, h⟩
  · refine (one_next hM oA oN oM oB ao an ac).mono ?_
    rintro e w' ⟨ra, rc, Y', rfl, _, hw, h⟩
    exact ⟨_, ra, rc, Y', D, V, C, X, qv, rfl, two 8 (by decide) (by decide) _, Nat.le_succ _, hw.turn, h⟩
  · refine (one_staged hM oA oN oM oB ao an ac).mono ?_
    rintro e w' ⟨ra, rc, Y', rfl, _, hw, h⟩
    exact ⟨_, ra, rc, Y', D, V, C, X, qv, rfl, two 9 (by decide) (by decide) _, Nat.le_succ _, hw.turn, h⟩
  · refine (one_pages hM oA oN oM oB ao an ac).mono ?_
    rintro e w' ⟨ra, rc, Y', rfl, _, hw, h⟩
    exact ⟨_, ra, rc, Y', D, V, C, X, qv, rfl, two 10 (by decide) (by decide) _, Nat.le_succ _, hw.turn, h⟩
  · refine (one_tally hM oA oN oM oB ao an ac).mono ?_
    rintro e w' ⟨ra, rc, Y', rfl, _, hw, h⟩
    exact ⟨_, ra, rc, Y', D, V, C, X, qv, rfl, two 11 (by decide) (by decide) _, Nat.le_succ _, hw.turn, h⟩
end Go.Proofs.Ytfbamkgmnbobeaa
