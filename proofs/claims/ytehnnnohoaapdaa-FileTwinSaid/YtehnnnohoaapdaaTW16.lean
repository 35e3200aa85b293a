/- Texts joined: Law9, LawC, LawD, LawE. -/
import Derived.Test.YtehnnnohoaapdaaTW15
import Derived.LaidEql
/- The law FileSurvives. -/
namespace Go.Proofs.Ytehnnnohoaapdaa
open Go Go.RowKit
set_option linter.unusedVariables false
set_option linter.unusedSimpArgs false
theorem size_act (a : AV) : Box ((Try.prog.info? 50).map (·.size) = some (actC a).length) := size_of_len (n := 3) _ rfl (by kernel_rfl)
theorem book_new {w0 w : World} {F : List Nat} {R : List Asn} {b : Nat} (h : Mem w0 F w (blk b 48 (bC (⟨[], 2, 1, 0, 0, 0⟩ : BV) (⟨.slice none 0 0, .slice none 0 0, []⟩ : BX)) :: R)) : Mem w0 F w (book (⟨[], 2, 1, 0, 0, 0⟩ : BV) b (⟨.slice none 0 0, .slice none 0 0, []⟩ : BX) :: R) := by
  refine book_close ?_
  have h1 := (h.nilst 3 1)
  have h2 : Mem w0 F w (innerA [] [] :: lst 3 1 (.slice none 0 0) 0 [] :: blk b 48 (bC (⟨[], 2, 1, 0, 0, 0⟩ : BV) (⟨.slice none 0 0, .slice none 0 0, []⟩ : BX)) :: R) := Mem.close (X := inner [] []) trivial h1
  have h3 := h2.nilst 22 1
  have h4 : Mem w0 F w (rows (.slice none 0 0) [] [] :: lst 3 1 (.slice none 0 0) 0 [] :: blk b 48 (bC (⟨[], 2, 1, 0, 0, 0⟩ : BV) (⟨.slice none 0 0, .slice none 0 0, []⟩ : BX)) :: R) := Mem.close (X := rowsL (.slice none 0 0) [] []) rfl h3
  refine h4.perm ?_
  exact ((List.Perm.cons _ (List.Perm.swap _ _ _)).trans (List.Perm.swap _ _ _))
theorem Out.good {D E : DV} {V V' : FV} {B B' : BV} {kd er : Int} (h : Out D V B kd er E V' B') (hn : kd ≠ 4 ∧ D.armed = 0) : er = 0 ∧ Kept D E V V' B B' ∧ BInv E V' B' ∧ E.armed = 0 := by
  obtain ⟨h1, ⟨h2, h3, h4⟩ | ⟨_, h5, _⟩⟩ := h
  · exact ⟨h2, h1, h3, h4 hn.1 hn.2⟩
  · exact absurd hn.2 h5
end Go.Proofs.Ytehnnnohoaapdaa

/- What an image shows of the pages below a mark. No program in sight. -/
namespace Go.Proofs.Ytehnnnohoaapdaa
open Go Go.RowKit
set_option linter.unusedVariables false
theorem flat_drop : ∀ (ps : List (List UInt8)) (n : Nat), (∀ p ∈ ps, p.length = 256) → ps.flatten.drop (256 * n) = (ps.drop n).flatten
  | [], n, _ => by simp
  | p :: ps, 0, _ => by simp
  | p :: ps, n + 1, h => by
    have h1 := h p (List.mem_cons_self ..)
    rw [List.flatten_cons, List.drop_succ_cons, show 256 * (n + 1) = p.length + 256 * n by omega, List.drop_length_add_append]
    exact flat_drop ps n fun q hq => h q (List.mem_cons_of_mem _ hq)
theorem flat_take : ∀ (ps : List (List UInt8)) (n : Nat), (∀ p ∈ ps, p.length = 256) → ps.flatten.take (256 * n) = (ps.take n).flatten
  | [], n, _ => by simp
  | p :: ps, 0, _ => by simp
  | p :: ps, n + 1, h => by
    have h1 := h p (List.mem_cons_self ..)
    rw [List.flatten_cons, List.take_succ_cons, List.flatten_cons, show 256 * (n + 1) = p.length + 256 * n by omega, List.take_length_add_append]
    rw [flat_take ps n fun q hq => h q (List.mem_cons_of_mem _ hq)]
theorem flat_length : ∀ (ps : List (List UInt8)), (∀ p ∈ ps, p.length = 256) → ps.flatten.length = 256 * ps.length
  | [], _ => rfl
  | p :: ps, h => by
    have h1 := h p (List.mem_cons_self ..)
    rw [List.flatten_cons, List.length_append, h1, flat_length ps fun q hq => h q (List.mem_cons_of_mem _ hq), List.length_cons]; omega
theorem image_part {ps : List (List UInt8)} (h : ∀ p ∈ ps, p.length = 256) (a n : Nat) (f : Nat → List UInt8) (hf : ∀ j, j < n → ps.getD (a + j) [] = f j) (hn : a + n ≤ ps.length) : (ps.flatten.drop (256 * a)).take (256 * n) = (List.range n).flatMap f := by
  rw [flat_drop ps a h, flat_take (ps.drop a) n fun p hp => h p (List.mem_of_mem_drop hp)]
  have e : (ps.drop a).take n = (List.range n).map f := by
    refine List.ext_getElem? fun i => ?_
    rw [List.getElem?_map]
    rcases Nat.lt_or_ge i n with hi | hi
    · rw [List.getElem?_take_of_lt hi, List.getElem?_drop, List.getElem?_range hi]
      have := hf i hi
      rw [List.getD_eq_getElem?_getD, List.getElem?_eq_getElem (by omega)] at this
      rw [List.getElem?_eq_getElem (by omega)]
      exact congrArg some this
    · rw [List.getElem?_eq_none (by rw [List.length_take]; omega), List.getElem?_eq_none (by simpa using hi)]; rfl
  rw [e, List.flatMap_def]
theorem image_page {D : DV} (h : DOk D) (n : Nat) (hn : n < D.pages.length) : (D.pages.flatten.drop (256 * n)).take 256 = D.pg n := by
  have := image_part h.len n 1 (fun _ => D.pg n) (fun j hj => by
    obtain rfl : j = 0 := by omega
    rfl) (by omega)
  simpa using this
theorem image_fit {D : DV} {p pg mb : Nat} {qv : Value} {w : World} (hM : Mem w (foots [disk D p pg mb qv]) w [disk D p pg mb qv]) {k : Nat} (hk : D.pages.length = k) (h3 : 3 ≤ k) :
    Calls Try.prog 30 #[.pointer (some ⟨p, 0, none⟩)] w fun e w' => ∃ gi ci, e = .returned (.slice (some ⟨gi, 0, none⟩) (256 * k) ci) ∧ Mem w (foots [disk D p pg mb qv]) w' [disk D p pg mb qv, lst 5 1 (.slice (some ⟨gi, 0, none⟩) (256 * k) ci) (256 * k) (bvs D.pages.flatten)] ∧ 256 * k ≤ ci ∧ ci ≤ 9223372036854775807 := by
  refine (image_any hM).mono ?_
  rintro e w' ⟨v, rfl, h⟩
  rw [hk] at h
  obtain ⟨gi, ci, rfl, h1, h2⟩ := lst_slice (h.get 1 rfl) (by omega)
  exact ⟨gi, ci, rfl, h, h1, h2⟩
end Go.Proofs.Ytehnnnohoaapdaa

/- A file that lost its disk; pointers and counts compared. -/
namespace Go.Proofs.Ytehnnnohoaapdaa
open Go Go.RowKit
set_option linter.unusedVariables false
set_option linter.unusedSectionVars false
set_option linter.unusedSimpArgs false
section
variable {P : Program} {ops : Array Oper} {S : World → Prop} {o : Oper} {a : Act} {x y : Operand} {t t' : TypeId}
end
section
variable {D : DV} {V : FV} {f p pg mb : Nat} {qv : Value} {w : World}
end
end Go.Proofs.Ytehnnnohoaapdaa

/- A disk out of an image; superblocks out of it. -/
namespace Go.Proofs.Ytehnnnohoaapdaa
open Go Go.RowKit
set_option linter.unusedVariables false
theorem load_pages {D : DV} (h : DOk D) : loadP D.pages.flatten D.pages.length D.pages.length = D.pages := by
  unfold loadP
  refine List.ext_getElem? fun i => ?_
  rw [List.getElem?_map]
  rcases Nat.lt_or_ge i D.pages.length with hi | hi
  · rw [List.getElem?_range hi, Option.map_some, if_pos hi, List.getElem?_eq_getElem hi]
    have h1 := image_page h i hi
    have h2 : D.pg i = D.pages[i] := by
      unfold DV.pg
      rw [List.getD_eq_getElem?_getD, List.getElem?_eq_getElem hi]; rfl
    rw [h2] at h1
    exact congrArg some h1
  · rw [List.getElem?_eq_none (by simpa using hi), List.getElem?_eq_none hi]; rfl
theorem load_fit {D : DV} (h : DOk D) {k : Nat} (hk : D.pages.length = k) (ao : Option Addr) (c : Nat) (w : World) (hr : Row w ao (256 * k) D.pages.flatten) (hc : 256 * k ≤ c) :
    Calls Try.prog 40 #[.slice ao (256 * k) c] w fun e w' => ∃ p pg mb T, e = .returned (.tuple #[.pointer (some ⟨p, 0, none⟩), .int .i64 0]) ∧ Mem w [] w' [disk T p pg mb (.slice none 0 0)] ∧ T.pages = D.pages ∧ T.q = [] ∧ T.dead = false ∧ T.armed = 0 ∧ DOk T := by
  have hl := flat_length _ h.len
  have hlo := h.lo
  have hhi := h.hi
  have hd : D.pages.flatten.length / 256 = D.pages.length := by omega
  have hp : (loadD D.pages.flatten).pages = D.pages := by
    show loadP _ _ _ = _
    rw [hd]; exact load_pages h
  have hok : DOk (loadD D.pages.flatten) := ⟨by rw [hp]; exact h.lo, by rw [hp]; exact h.hi, by rw [hp]; exact h.len, fun x hx => (by cases hx), ⟨Int.le_refl 0, by show (0 : Int) ≤ _; decide⟩, (newD_ok (n := 3) (by decide) (by decide)).ep⟩
  refine (load_any ao (256 * k) c _ w hr (by omega) hc).mono ?_
  rintro e w' (⟨h1, _⟩ | ⟨_, h1, _⟩ | ⟨_, _, _, p, pg, mb, rfl, h2⟩)
  · omega
  · omega
  · exact ⟨p, pg, mb, _, rfl, h2, hp, rfl, rfl, rfl, hok⟩
theorem unpS_fit (rb ro c : Nat) (S : SupV) (w : World) (hv : ValidS S) (hr : Row w (some ⟨rb, ro, none⟩) 256 (superB S)) (hc : 256 ≤ c) (hcm : c ≤ 9223372036854775807) :
    Calls Try.prog 41 #[.slice (some ⟨rb, ro, none⟩) 256 c] w fun e w' => e = .returned (.tuple #[.agg (supC S).toArray, .int .i64 0]) ∧ Mem w [] w' [] := by
  have := unpackSuper_ok rb ro c (superB S) w hr hc hcm
  rw [unpS_superB S hv, unpE_superB S hv] at this
  exact this
theorem app_anyway {D : DV} {V : FV} {ps : Pgs} {f p pg mb : Nat} {qv : Value} {w : World} (hM : Mem w (foots [disk D p pg mb qv, blk f 96 (fC V p)]) w [disk D p pg mb qv, blk f 96 (fC V p)]) (h : Inv D V ps) (ha : D.armed = 0) (k : Nat) (ao : Option Addr) (n c : Nat) (l : List UInt8) (hx : PageOk (k, l)) (hr : Row w ao n l) (hF : ∀ b o, ao = some ⟨b, o, none⟩ → 0 < n → b ∉ foots [disk D p pg mb qv, blk f 96 (fC V p)]) (hq : D.q.length ≤ 300000000000) :
    Calls Try.prog 26 #[.pointer (some ⟨f, 0, none⟩), .int .i64 (k : Int), .slice ao n c] w fun e w' => ∃ ev E V' qv' ps', e = .returned ev ∧ Mem w (foots [disk D p pg mb qv, blk f 96 (fC V p)]) w' [disk E p pg mb qv', blk f 96 (fC V' p)] ∧ Inv E V' ps' ∧ E.armed = 0 ∧ E.q.length ≤ D.q.length + 1 := by
  rcases Int.lt_or_eq_of_le h.nextp with hn | hn
  · have hn2 := h.next2
    obtain ⟨m, hm⟩ : ∃ m : Nat, V.next = ((m + 2 : Nat) : Int) := ⟨(V.next - 2).toNat, by omega⟩
    obtain ⟨a1, a2, _, _⟩ := h.app hx hn
    refine (xapp_go hM h k ao n c l hx hr hF (by omega) hn m hm (act_arm0 ha).1).mono ?_
    rintro e w' ⟨E, qv', rfl, h1, hE, h2, h3⟩
    refine ⟨_, E, _, qv', _, rfl, h1, h2, ?_, ?_⟩
    · rw [hE, a2, actD_armed]
      show (if D.armed = 0 then 0 else D.armed - 1) = 0
      rw [if_pos ha]
    · rw [hE, a2, actD_q]; simp [openW]
  · refine (xapp_full hM h k ao n c l hx hr hF (by omega) hn).mono ?_
    rintro e w' ⟨qv', rfl, h1⟩
    exact ⟨_, D, _, qv', _, rfl, h1, h, ha, by omega⟩
theorem book_mark {B : BV} {b : Nat} {x : BX} {W : World} (h : (book B b x).holds W) : W.cell? ⟨b, 2, none⟩ = some (.int .i64 B.mark) :=
  cell_of_blk (h.2 _ (List.mem_cons_self ..)) rfl
end Go.Proofs.Ytehnnnohoaapdaa
