/- Texts joined: Law7, LawB, OpenF, Law8. -/
import Derived.Test.YtehnnnohoaapdaaBU14
import Derived.Test.YtehnnnohoaapdaaRows
import Derived.Test.YtehnnnohoaapdaaBU00
import Derived.SizedLaws
/- Behind a loss of power. -/
namespace Go.Proofs.Ytehnnnohoaapdaa
open Go Go.RowKit
set_option linter.unusedVariables false
set_option linter.unusedSimpArgs false
theorem bholds_int {D : DV} {V : FV} {B : BV} {p pg mb f b : Nat} {qv : Value} {bx : BX} {w : World} (hM : Mem w (foots [disk D p pg mb qv, blk f 96 (fC V p), book B b bx]) w [disk D p pg mb qv, blk f 96 (fC V p), book B b bx]) (hI : Inv D V B.ps) (mk : Int) (h2 : 2 ≤ mk) (hmk : mk ≤ V.next) : Calls Try.prog 29 #[.pointer (some ⟨b, 0, none⟩), .pointer (some ⟨f, 0, none⟩), .int .i64 mk] w fun e w' => ∃ r, e = .returned (.bool true) ∧ Mem w (foots [disk D p pg mb qv, blk f 96 (fC V p), book B b bx]) w' [disk (D.rd r) p pg mb qv, blk f 96 (fC V p), book B b bx] := by
  obtain ⟨k, rfl⟩ := Int.eq_ofNat_of_zero_le (show 0 ≤ mk by omega)
  exact bholds_any hM hI k (by omega) hmk
end Go.Proofs.Ytehnnnohoaapdaa

/- One act on the book, whatever it is; and what stands behind a loss of power. -/
namespace Go.Proofs.Ytehnnnohoaapdaa
open Go Go.RowKit
set_option linter.unusedVariables false
structure BInv (D : DV) (V : FV) (B : BV) : Prop where
  inv : Inv D V B.ps
  mark : V.s.mark = B.mark
  gen : V.s.gen = B.gen
  head : V.s.head = B.head
  inm : B.inMark = 0
  len : B.ps.length ≤ D.pages.length
structure Kept (D E : DV) (V V' : FV) (B B' : BV) : Prop where
  pages : E.pages.length = D.pages.length
  que : E.q.length ≤ D.q.length + 1
  width : V'.s.width = V.s.width
  gen : V'.s.gen ≤ V.s.gen + 1
  mark : B.mark ≤ B'.mark
  old : ∀ n : Nat, 2 ≤ n → (n : Int) < B.mark → pgAt B'.ps n = pgAt B.ps n
def DownB (D : DV) (S : SupV) (B : BV) : Prop :=
  ∃ late, Dead D S late B.ps ∧ S.mark = B.mark ∧ S.gen = B.gen ∧ S.head = B.head ∧ B.ps.length ≤ D.pages.length ∧
    ∀ S2, late = some S2 → 0 < B.inMark ∧ S2.mark = B.inMark ∧ S2.gen = B.gen + 1 ∧ S2.head = B.inHead ∧ S2.width = S.width ∧ S.mark ≤ S2.mark
def Out (D : DV) (V : FV) (B : BV) (kd er : Int) (E : DV) (V' : FV) (B' : BV) : Prop :=
  Kept D E V V' B B' ∧ ((er = 0 ∧ BInv E V' B' ∧ (kd ≠ 4 → D.armed = 0 → E.armed = 0)) ∨ (er = 2 ∧ D.armed ≠ 0 ∧ V' = V ∧ E.dead = true ∧ E.epoch = V.mine ∧ DownB E V.s B'))
theorem Kept.refl (D : DV) (V : FV) (B : BV) : Kept D D V V B B := ⟨rfl, Nat.le_succ _, rfl, by omega, Int.le_refl _, fun _ _ _ => rfl⟩
abbrev PT3 (D : DV) (V : FV) (B : BV) (p pg mb f b : Nat) (qv : Value) (bx : BX) : List Asn := [disk D p pg mb qv, blk f 96 (fC V p), book B b bx]
section
variable {D : DV} {V : FV} {B : BV} {p pg mb f b : Nat} {qv : Value} {bx : BX} {w : World}
theorem bact_any (hM : Mem w (foots (PT3 D V B p pg mb f b qv bx)) w (PT3 D V B p pg mb f b qv bx)) (kd n : Int) (ao : Option Addr) (nn c : Nat) (l : List UInt8) (hr : Row w ao nn l) (hF : ∀ b₁ o, ao = some ⟨b₁, o, none⟩ → 0 < nn → b₁ ∉ foots (PT3 D V B p pg mb f b qv bx))
    (hnn : nn ≤ 140737488351232) (hB : BInv D V B) (hgm : V.s.gen < 1099511627776) (hq : D.q.length ≤ 400000000000) :
    Calls Try.prog 27 #[.pointer (some ⟨b, 0, none⟩), .pointer (some ⟨p, 0, none⟩), .pointer (some ⟨f, 0, none⟩), .agg ([.int .i64 kd, .int .i64 n, .slice ao nn c] : List Value).toArray] w fun e w' =>
      ∃ er E V' B' qv' bx', e = .returned (.tuple #[.int .i64 er, .bool true]) ∧ Mem w (foots (PT3 D V B p pg mb f b qv bx)) w' (PT3 E V' B' p pg mb f b qv' bx') ∧ Out D V B kd er E V' B' := by
  have hI := hB.inv
  have hn2 := hI.next2
  have hnp := hI.nextp
  by_cases k1 : kd = 1
  · subst k1
    rcases Int.lt_or_eq_of_le hnp with hf | hf
    · rcases actE_two D with h0 | h0
      · obtain ⟨m, hm⟩ : ∃ m : Nat, V.next = ((m + 2 : Nat) : Int) := ⟨(V.next - 2).toNat, by omega⟩
        refine (act_go hM n ao nn c l hr hF hnn hq hI hB.len hf m hm h0).mono ?_
        rintro e w' ⟨E, r, x, qv', bx', rfl, h1, hx, hE, hI2⟩
        obtain ⟨a1, a2, a3, a4⟩ := hI.app (k := x.1) (l := x.2) hx hf
        have hpl : (E.rd r).pages.length = D.pages.length := by
          show E.pages.length = _
          rw [hE, a2, actD_pages]; rfl
        have hlo := hI.lo
        have hlen := hI.lenN
        have hmk := hB.mark
        refine ⟨0, _, _, _, qv', bx', rfl, h1, ⟨hpl, ?_, rfl, by show V.s.gen ≤ V.s.gen + 1; omega, Int.le_refl _, fun n h2 h3 => ?_⟩, .inl ⟨rfl, ⟨hI2.rd r, hB.mark, hB.gen, hB.head, hB.inm, ?_⟩, fun _ ha => ?_⟩⟩
        · show E.q.length ≤ _
          rw [hE, a2, actD_q]; simp [openW]
        · show pgAt (putP B.ps (m + 2) x) n = _
          exact putP_low _ _ _ _ (by omega) (by omega) h2
        · show (putP B.ps (m + 2) x).length ≤ (E.rd r).pages.length
          rw [putP_len _ _ _ (by omega), hpl]; omega
        · show E.armed = 0
          rw [hE, a2, actD_armed]
          show (if D.armed = 0 then 0 else D.armed - 1) = 0
          rw [if_pos ha]
      · refine (act_down hM n ao nn c l hr hF hnn hq hI hf h0).mono ?_
        rintro e w' ⟨E, x, qv', bx', rfl, h1, hx, hE⟩
        obtain ⟨a1, a2, a3, a4⟩ := hI.app (k := x.1) (l := x.2) hx hf
        obtain ⟨b1, b2, b3⟩ := a4 h0
        have hpl : E.pages.length = D.pages.length := by rw [hE, a2, actD_pages]; rfl
        rw [← hE] at b1 b2 b3
        refine ⟨2, _, _, _, qv', bx', rfl, h1, ⟨hpl, ?_, rfl, by omega, Int.le_refl _, fun _ _ _ => rfl⟩, .inr ⟨rfl, fun ha => ?_, rfl, b1, b2, none, b3.dead none, hB.mark, hB.gen, hB.head, by rw [hpl]; exact hB.len, fun _ e => by cases e⟩⟩
        · rw [hE, a2, actD_q]; simp [openW]
        · rw [(act_arm0 ha).1] at h0; cases h0
    · refine (act_full hM n ao nn c l hr hF hnn hq hI hf).mono ?_
      rintro e w' ⟨qv', bx', rfl, h1⟩
      exact ⟨0, _, _, _, qv', bx', rfl, h1, Kept.refl D V B, .inl ⟨rfl, hB, fun _ h => h⟩⟩
  · by_cases k2 : kd = 2
    · subst k2
      have main : ∀ head : Int, (head = 0 ∨ (2 ≤ head ∧ head < V.next)) →
          (∀ (h0 : (pubR D V head).2 = 0) (hpp : (pubR D V head).1.pages.length = D.pages.length), Calls Try.prog 27 #[.pointer (some ⟨b, 0, none⟩), .pointer (some ⟨p, 0, none⟩), .pointer (some ⟨f, 0, none⟩), .agg ([.int .i64 2, .int .i64 n, .slice ao nn c] : List Value).toArray] w fun e w' => ∃ E qv' bx', e = .returned (.tuple #[.int .i64 0, .bool true]) ∧ Mem w (foots (PT3 D V B p pg mb f b qv bx)) w' (PT3 E { V with s := pubS V head } { B with mark := V.next, head := head, gen := B.gen + 1 } p pg mb f b qv' bx') ∧ E = (pubR D V head).1) →
          (∀ (h0 : (pubR D V head).2 = 2) (hpp : (pubR D V head).1.pages.length = D.pages.length), Calls Try.prog 27 #[.pointer (some ⟨b, 0, none⟩), .pointer (some ⟨p, 0, none⟩), .pointer (some ⟨f, 0, none⟩), .agg ([.int .i64 2, .int .i64 n, .slice ao nn c] : List Value).toArray] w fun e w' => ∃ E qv' bx', e = .returned (.tuple #[.int .i64 2, .bool true]) ∧ Mem w (foots (PT3 D V B p pg mb f b qv bx)) w' (PT3 E V { B with inMark := V.next, inHead := head } p pg mb f b qv' bx') ∧ E = (pubR D V head).1) →
          Calls Try.prog 27 #[.pointer (some ⟨b, 0, none⟩), .pointer (some ⟨p, 0, none⟩), .pointer (some ⟨f, 0, none⟩), .agg ([.int .i64 2, .int .i64 n, .slice ao nn c] : List Value).toArray] w fun e w' =>
            ∃ er E V' B' qv' bx', e = .returned (.tuple #[.int .i64 er, .bool true]) ∧ Mem w (foots (PT3 D V B p pg mb f b qv bx)) w' (PT3 E V' B' p pg mb f b qv' bx') ∧ Out D V B 2 er E V' B' := by
        intro head hh hgo hdown
        have hlo := hI.lo
        have hmk := hB.mark
        rcases hI.pub hh hgm with ⟨c1, c2, c3, c4⟩ | ⟨c1, c2, c3, c4, c5, c6, c7, c8⟩
        · have hpl : (pubR D V head).1.pages.length = D.pages.length := by
            have h1 := c3.plat.pages
            have h2 := hI.plat.pages
            have h3 : (pubS V head).pages = V.s.pages := rfl
            have h1 : (pubS V head).pages = _ := h1
            omega
          refine (hgo c1 hpl).mono ?_
          rintro e w' ⟨E, qv', bx', rfl, h1, rfl⟩
          refine ⟨0, _, _, _, qv', bx', rfl, h1, ⟨hpl, by rw [c4]; exact Nat.zero_le _, rfl, Int.le_refl _, by show B.mark ≤ V.next; omega, fun _ _ _ => rfl⟩, .inl ⟨rfl, ⟨c3, rfl, by show V.s.gen + 1 = B.gen + 1; rw [hB.gen], rfl, hB.inm, by rw [hpl]; exact hB.len⟩, fun _ ha => ?_⟩⟩
          rw [c2]
          have q1 : (pubD1 D).armed = 0 := by show (actD D).armed = 0; rw [(act_arm0 ha).2]; exact ha
          have q2 : (pubD2 D (pubS V head)).armed = 0 := by
            show (actD _).armed = 0
            rw [(act_arm0 (D := openW (pubD1 D) ((pubS V head).gen % 2) (superB (pubS V head))) q1).2]; exact q1
          show (actD _).armed = 0
          rw [(act_arm0 q2).2]; exact q2
        · refine (hdown c1 c6).mono ?_
          rintro e w' ⟨E, qv', bx', rfl, h1, rfl⟩
          refine ⟨2, _, _, _, qv', bx', rfl, h1, ⟨c6, c5, rfl, by omega, Int.le_refl _, fun _ _ _ => rfl⟩, .inr ⟨rfl, c2, rfl, c3, c4, some (pubS V head), c8, hB.mark, hB.gen, hB.head, by rw [c6]; exact hB.len, fun S2 e => ?_⟩⟩
          cases e
          exact ⟨by show 0 < V.next; omega, rfl, by show V.s.gen + 1 = B.gen + 1; rw [hB.gen], rfl, rfl, by show V.s.mark ≤ V.next; omega⟩
      by_cases h1 : n % 2 = 1
      · by_cases h2 : 2 < V.next
        · exact main (V.next - 1) (.inr ⟨by omega, by omega⟩) (fun h0 hpp => act_pub_go_h hM n ao nn c hI hB.gen hgm hq h1 h2 h0 hpp) (fun h0 hpp => act_pub_down_h hM n ao nn c hI hB.gen hgm hq h1 h2 h0 hpp)
        · exact main 0 (.inl rfl) (fun h0 hpp => act_pub_go_z1 hM n ao nn c hI hB.gen hgm hq h1 h2 h0 hpp) (fun h0 hpp => act_pub_down_z1 hM n ao nn c hI hB.gen hgm hq h1 h2 h0 hpp)
      · exact main 0 (.inl rfl) (fun h0 hpp => act_pub_go_z2 hM n ao nn c hI hB.gen hgm hq h1 h0 hpp) (fun h0 hpp => act_pub_down_z2 hM n ao nn c hI hB.gen hgm hq h1 h0 hpp)
    · by_cases k3 : kd = 3
      · subst k3
        refine (act_forget hM n ao nn c hB.mark).mono ?_
        rintro e w' ⟨bx', rfl, h1⟩
        exact ⟨0, _, _, _, qv, bx', rfl, h1, ⟨rfl, Nat.le_succ _, rfl, by show V.s.gen ≤ V.s.gen + 1; omega, Int.le_refl _, fun _ _ _ => rfl⟩, .inl ⟨rfl, ⟨hI.forget, hB.mark, hB.gen, hB.head, hB.inm, hB.len⟩, fun _ h => h⟩⟩
      · by_cases k4 : kd = 4
        · subst k4
          have e4 : armD D (1 + n % 12) = { D with armed := max (1 + n % 12) 0 } := if_neg (by rw [hI.pow]; decide)
          refine (act_arm hM n ao nn c).mono ?_
          rintro e w' ⟨bx', rfl, h1⟩
          have hI3 := hI.arm (n := 1 + n % 12) (by omega)
          rw [e4] at h1 hI3
          exact ⟨0, _, _, _, qv, bx', rfl, h1, ⟨rfl, Nat.le_succ _, rfl, by omega, Int.le_refl _, fun _ _ _ => rfl⟩, .inl ⟨rfl, ⟨hI3, hB.mark, hB.gen, hB.head, hB.inm, hB.len⟩, fun h => absurd rfl h⟩⟩
        · refine (act_other hM kd n ao nn c k1 k2 k3 k4).mono ?_
          rintro e w' ⟨bx', rfl, h1⟩
          exact ⟨0, _, _, _, qv, bx', rfl, h1, Kept.refl D V B, .inl ⟨rfl, hB, fun _ h => h⟩⟩
end
end Go.Proofs.Ytehnnnohoaapdaa

/- Reading acts and lists of lists that came in. -/
namespace Go.Proofs.Ytehnnnohoaapdaa
open Go Go.RowKit Go.ChangeShapes Go.WideShapes Go.ChangeAt Go.Deep
set_option linter.unusedVariables false
def Sized {H : Type} (P : Program) (t : TypeId) (d : DataW H) : Prop := ∀ n ∈ d.weights P t, n ≤ reachBytes
section
variable {H : Type} {enc : TypeId × Value → H} {P : Program} {w : World} {base : Nat} {sp : Nat → Bool} {held : Bool} {t e : TypeId}
theorem sized_arg {ts : List TypeId} {ds : List (DataW H)} (h : (DataW.weightsEach P ts ds).all (· ≤ reachBytes) = true) {j : Nat} {d : DataW H} (ht : ts[j]? = some t) (hd : ds[j]? = some d) : Sized P t d := fun n hn => by
  have := List.all_eq_true.1 h _ (DataW.weights_mem_each ht hd n hn)
  simpa using this
theorem sized_part {fs : Array Field} {parts : List (DataW H)} (hu : P.underlying t = some (.struct fs)) (h : Sized P t (.agg parts)) {i : Nat} {f : Field} {d : DataW H} (hf : fs[i]? = some f) (hd : parts[i]? = some d) : Sized P f.type d := fun n hn => by
  refine h n ?_
  have : (DataW.agg parts).weights P t = DataW.weightsEach P (fs.toList.map (·.type)) parts := by simp [DataW.weights, hu]
  rw [this]
  exact DataW.weights_mem_each (j := i) (by simp [hf]) hd n hn
theorem weights_mem_all : ∀ {ds : List (DataW H)} {j : Nat} {d : DataW H}, ds[j]? = some d → ∀ n ∈ d.weights P e, n ∈ DataW.weightsAll P e ds
  | d0 :: ds, 0, d, hd, n, hn => by
    simp only [List.getElem?_cons_zero, Option.some.injEq] at hd
    subst hd
    simp only [DataW.weightsAll, List.mem_append]
    exact Or.inl hn
  | d0 :: ds, j + 1, d, hd, n, hn => by
    simp only [List.getElem?_cons_succ] at hd
    simp only [DataW.weightsAll, List.mem_append]
    exact Or.inr (weights_mem_all hd n hn)
  | [], _, _, hd, _, _ => by simp at hd
theorem sized_elem {es ss : List (DataW H)} (hu : P.underlying t = some (.slice e)) (h : Sized P t (.slice es ss)) {i : Nat} {d : DataW H} (hd : es[i]? = some d) : Sized P e d := fun n hn => by
  refine h n ?_
  simp only [DataW.weights, hu, List.mem_cons, List.mem_append]
  exact .inr (.inl (weights_mem_all hd n hn))
theorem sized_len {es ss : List (DataW H)} (hu : P.underlying t = some (.slice e)) (h : Sized P t (.slice es ss)) : (es.length + ss.length) * P.bytesOf e ≤ reachBytes :=
  h _ (by simp [DataW.weights, hu])
theorem chain_step {cs x : List Value} (o k : Nat) (h : (cs.drop o).take k = x) : cs.drop o = x ++ cs.drop (o + k) := by
  rw [← h, ← List.drop_drop, List.take_append_drop]
theorem trod_row {fuel : Nat} {cs : List Value} {x : DataW H × List MemPlace} (hsp : ∀ b, sp b = true) (ht : P.underlying t = some (.slice e)) (he : P.underlying e = some (.int .u8)) (hc : P.cellsOf e = 1) (hby : P.bytesOf e = 1)
    (h : DataW.trod enc P w base sp held fuel t cs = some x) :
    ∃ (ao : Option Addr) (n c : Nat) (l : List UInt8), cs = [.slice ao n c] ∧ InRow w ao n c l ∧ c ≤ maxLen ∧ (Sized P t x.1 → c ≤ 140737488351232) := by
  rcases open_ints ht he hc h with ⟨hcs, hx⟩ | ⟨a, len, cap, zs, hcs, _, hl, hm, hz, hx, hcell, hw⟩
  · exact ⟨none, 0, 0, [], hcs, ⟨Row.nil, fun _ => ⟨rfl, rfl⟩, Nat.le_refl _⟩, Nat.zero_le _, fun _ => by omega⟩
  · rw [hsp, if_pos rfl] at hz
    obtain ⟨l, hr⟩ := row_of_ints (len := len) (by omega) hcell hw
    refine ⟨some a, len, cap, l, hcs, ⟨hr, (fun h => by cases h), hl⟩, hm, fun hs => ?_⟩
    rw [hx] at hs
    have := sized_len ht hs
    rw [hby] at this
    simp only [lits, List.length_map, List.length_take, List.length_drop, reachBytes] at this
    omega
end
section
variable {H : Type} {enc : TypeId × Value → H} {P : Program} {w : World} {base : Nat} {sp : Nat → Bool} {held : Bool} {t e : TypeId}
def ListIn {α : Type} (cC : α → List Value) (k : Nat) (w : World) (ao : Option Addr) (n : Nat) (os : List α) : Prop :=
  os.length = n ∧ ∀ (i : Nat) (o : α), os[i]? = some o → ∃ b off, ao = some ⟨b, off, none⟩ ∧ w.rangeAt b (off + i * k) (cC o)
theorem open_list {α : Type} [Inhabited α] (cC : α → List Value) (k : Nat) (hk : ∀ o, (cC o).length = k) (hk0 : 0 < k) (ok : α → Prop) (ht : P.underlying t = some (.slice e)) (hct : P.cellsOf e = k) (hbt : 1 ≤ P.bytesOf e)
    (one : ∀ fuel cs x, DataW.trod enc P w base sp held fuel e cs = some x → Sized P e x.1 → ∃ o, cs = cC o ∧ ok o)
    {r : Reach} {b0 : Nat} {v : Value} {d : DataW H} {p : List MemPlace} (hv : Value.okWide P w r b0 t v) (h : DataW.Trod enc P w base sp held t v d p) (hs : Sized P t d) :
    ∃ (ao : Option Addr) (n c : Nat) (os : List α), v = .slice ao n c ∧ ListIn cC k w ao n os ∧ n ≤ 4611686018427387904 ∧ ∀ o ∈ os, ok o := by
  obtain ⟨a0, n, c, rfl⟩ := okWide_slice ht hv
  obtain ⟨fuel, hf⟩ := h
  rcases open_slice ht hf with ⟨hcs, hx⟩ | ⟨a, len, cap, m, f, D, Pl, hcs, _, hl, hm, hmm, hx, hel⟩
  · simp [Value.cells] at hcs
    obtain ⟨rfl, rfl, rfl⟩ := hcs
    exact ⟨none, 0, 0, [], rfl, ⟨rfl, fun i o h => by simp at h⟩, by omega, fun o ho => by cases ho⟩
  · simp [Value.cells] at hcs
    obtain ⟨rfl, rfl, rfl⟩ := hcs
    have hd : d = .slice ((List.range n).map D) ((List.range (m - n)).map fun j => D (n + j)) := (Prod.mk.inj hx).1
    rw [hd] at hs
    have hlen := sized_len ht hs
    have hn : n ≤ 4611686018427387904 := by
      simp only [List.length_map, List.length_range, reachBytes] at hlen
      have h1 : n * 1 ≤ (n + (m - n)) * P.bytesOf e := Nat.mul_le_mul (by omega) hbt
      omega
    have hnm : n ≤ m := by rw [hmm]; split <;> omega
    rw [hct] at hel
    have each : ∀ i, i < n → ∃ o : α, (∃ b off, a = ⟨b, off, none⟩ ∧ w.rangeAt b (off + i * k) (cC o)) ∧ ok o := by
      have one' : ∀ i, i < n → ∃ cs' : List Value, ∃ o : α, w.cells? base (a.add (i * k)) k = some cs' ∧ cs' = cC o ∧ ok o := fun i hi => by
        obtain ⟨cs', h1, h2⟩ := hel i (by omega)
        obtain ⟨o, h3, h4⟩ := one _ _ _ h2 (sized_elem (i := i) ht hs (by simp [hi]))
        exact ⟨cs', o, h1, h3, h4⟩
      intro i hi
      obtain ⟨cs', o, h1, rfl, h4⟩ := one' i hi
      obtain ⟨h3, hl', h5⟩ := World.cells?_some h1
      have hlo := hk o
      obtain ⟨b, off, s⟩ := a
      have hcell : ∀ j v, (cC o)[j]? = some v → w.cell? (((⟨b, off, s⟩ : Addr).add (i * k)).add j) = some v := by
        intro j v hv
        have := h5 j (by have := (List.getElem?_eq_some_iff.1 hv).1; omega)
        rw [this]; exact hv
      have hs0 : s = none := by
        obtain ⟨c0, o0, g1, rfl, _⟩ := one' 0 (by omega)
        have hl0 := hk o0
        obtain ⟨_, _, g5⟩ := World.cells?_some g1
        have := g5 0 (by omega)
        rw [List.getElem?_eq_getElem (by omega)] at this
        simpa [Addr.add] using World.cell?_spot this
      subst hs0
      refine ⟨o, ⟨b, off, rfl, fun j v hv => ?_⟩, h4⟩
      have := hcell j v hv
      rw [Addr.add_mid, Addr.add_mid] at this
      exact this
    obtain ⟨V, hV⟩ := choose_lt (α := α) (p := fun i o => (∃ b off, a = ⟨b, off, none⟩ ∧ w.rangeAt b (off + i * k) (cC o)) ∧ ok o) each
    refine ⟨some a, n, c, (List.range n).map V, rfl, ⟨by simp, fun i o hi => ?_⟩, hn, fun o ho => ?_⟩
    · obtain ⟨hi', rfl⟩ : i < n ∧ V i = o := by
        rw [List.getElem?_map] at hi
        rcases Nat.lt_or_ge i n with h | h
        · rw [List.getElem?_range h] at hi
          exact ⟨h, by simpa using hi⟩
        · rw [List.getElem?_eq_none (by simpa using h)] at hi; simp at hi
      obtain ⟨⟨b, o, rfl, hr⟩, _⟩ := hV i hi'
      exact ⟨b, o, rfl, hr⟩
    · obtain ⟨i, hi, rfl⟩ := List.mem_map.1 ho
      exact (hV i (by simpa using hi)).2
end
structure AV where
  k : Int
  n : Int
  ao : Option Addr
  m : Nat
  c : Nat
  l : List UInt8
deriving Inhabited
def actC (a : AV) : List Value := [.int .i64 a.k, .int .i64 a.n, .slice a.ao a.m a.c]
def ActIn (w : World) (a : AV) : Prop := Row w a.ao a.m a.l ∧ (a.ao = none → a.m = 0 ∧ a.c = 0) ∧ a.m ≤ a.c ∧ a.c ≤ 140737488351232
structure RV where
  ao : Option Addr
  m : Nat
  c : Nat
  l : List UInt8
deriving Inhabited
section
variable {H : Type} {enc : TypeId × Value → H} {w : World} {base : Nat} {sp : Nat → Bool} {held : Bool}
theorem field_of {fs : Array Field} {i t o : Nat} (h : (fs[i]?).map (fun f => (f.type, f.offset)) = some (t, o)) : ∃ f, fs[i]? = some f ∧ f.type = t ∧ f.offset = o := by
  cases hf : fs[i]? with
  | none => rw [hf] at h; cases h
  | some f => rw [hf] at h; simp only [Option.map_some, Option.some.injEq, Prod.mk.injEq] at h; exact ⟨f, rfl, h.1, h.2⟩
theorem trod_act {fuel : Nat} {cs : List Value} {x : DataW H × List MemPlace} (hsp : ∀ b, sp b = true) (h : DataW.trod enc Try.prog w base sp held fuel 50 cs = some x) (hs : Sized Try.prog 50 x.1) :
    ∃ (o : AV), cs = actC o ∧ ActIn w o := by
  have hu : Try.prog.underlying 50 = some (.struct (Try.prog.fieldsOf 50)) := by kernel_rfl
  obtain ⟨xs, n, _, hx, hlen, hxl, hf⟩ := DataW.trod_struct hu h
  have hfs : (Try.prog.fieldsOf 50).size = 3 := by kernel_rfl
  have hct : Try.prog.cellsOf 50 = 3 := by kernel_rfl
  rw [hfs] at hxl
  rw [hct] at hlen
  have ci : Try.prog.cellsOf 3 = 1 := by kernel_rfl
  have cb : Try.prog.cellsOf 22 = 1 := by kernel_rfl
  have c8 : Try.prog.cellsOf 5 = 1 := by kernel_rfl
  have by8 : Try.prog.bytesOf 5 = 1 := by kernel_rfl
  have get : ∀ (i t o : Nat), i < 3 → ((Try.prog.fieldsOf 50)[i]?).map (fun f => (f.type, f.offset)) = some (t, o) → ∃ y, DataW.trod enc Try.prog w base sp held n t ((cs.drop o).take (Try.prog.cellsOf t)) = some y ∧ Sized Try.prog t y.1 := fun i t o hi h => by
    obtain ⟨f, h1, rfl, rfl⟩ := field_of h
    have hy : xs[i]? = some (xs[i]'(by omega)) := List.getElem?_eq_getElem (by omega)
    refine ⟨_, (hf i f h1).trans hy, ?_⟩
    rw [hx] at hs
    exact sized_part hu hs h1 (by simp [hy])
  obtain ⟨y0, t0, _⟩ := get 0 3 0 (by omega) (by kernel_rfl)
  obtain ⟨y1, t1, _⟩ := get 1 3 1 (by omega) (by kernel_rfl)
  obtain ⟨y2, t2, s2⟩ := get 2 22 2 (by omega) (by kernel_rfl)
  rw [ci] at t0 t1
  rw [cb] at t2
  obtain ⟨a0, e0, _, w0⟩ := DataW.trod_int Try.underlying3 t0
  obtain ⟨a1, e1, _, w1⟩ := DataW.trod_int Try.underlying3 t1
  obtain ⟨ao, m, c, l, e7, hr, hm, hsv⟩ := trod_row hsp Try.underlying22 Try.underlying5 c8 by8 t2
  refine ⟨⟨a0, a1, ao, m, c, l⟩, ?_, ⟨hr.1, hr.2.1, hr.2.2, hsv s2⟩⟩
  have q0 := chain_step 0 1 e0
  rw [List.drop_zero] at q0
  rw [q0, chain_step (0 + 1) 1 e1, chain_step (0 + 1 + 1) 1 e7, List.drop_of_length_le (by omega)]
  simp [actC]
set_option maxRecDepth 100000 in
theorem open_acts {r : Reach} {b0 : Nat} {v : Value} {d : DataW H} {p : List MemPlace} (hsp : ∀ b, sp b = true) (hv : Value.okWide Try.prog w r b0 41 v) (h : DataW.Trod enc Try.prog w base sp held 41 v d p)
    (hs : Sized Try.prog 41 d) :
    ∃ (ao : Option Addr) (n c : Nat) (os : List AV), v = .slice ao n c ∧ ListIn actC 3 w ao n os ∧ n ≤ 4611686018427387904 ∧ ∀ o ∈ os, ActIn w o := by
  have hct : Try.prog.cellsOf 50 = 3 := by kernel_rfl
  have hbt : 1 ≤ Try.prog.bytesOf 50 := of_decide_eq_true (by kernel_rfl)
  exact open_list (H := H) (enc := enc) (P := Try.prog) (w := w) (base := base) (sp := sp) (held := held) (r := r) (b0 := b0) (v := v) (d := d) (p := p) (t := 41) (e := 50) actC 3 (fun _ => rfl) (by decide) (ActIn w) Try.underlying41 hct hbt (fun _ _ _ h1 h2 => trod_act hsp h1 h2) hv h hs
end
theorem Mem.range {w0 w : World} {F : List Nat} {L : List Asn} (h : Mem w0 F w L) {b o : Nat} {ys : List Value} (hr : w0.rangeAt b o ys) (hF : b ∉ F) : w.rangeAt b o ys := fun j v hj => by
  have h1 := hr j v hj
  exact (World.cell?_of_block (w := w0) (w' := w) (a := ⟨b, o + j, none⟩) (h.old (block_lt_of_cell h1) hF)).trans h1
theorem Mem.off_row {w0 w : World} {L : List Asn} (h : Mem w0 [] w L) {ao : Option Addr} {n : Nat} {l : List UInt8} (hr : Row w0 ao n l) : ∀ b o, ao = some ⟨b, o, none⟩ → 0 < n → b ∉ foots L := by
  intro b o e hn
  obtain ⟨b', o', e', hc⟩ := hr.2 0 (by rw [hr.1]; exact hn)
  rw [e'] at e
  cases e
  exact h.old_off (block_lt_of_cell hc) (by simp)
theorem Mem.below {w w' : World} {L : List Asn} (h : Mem w [] w' L) : Below w.heap.size w w' := ⟨h.grew.os, h.grew.tape, h.grew.output, h.grew.size, fun k hk => h.grew.block k hk (by simp)⟩
end Go.Proofs.Ytehnnnohoaapdaa

/- The law FileBegins. -/
namespace Go.Proofs.Ytehnnnohoaapdaa
open Go Go.RowKit
set_option linter.unusedVariables false
set_option linter.unusedSimpArgs false
theorem fits_yes {k : Nat} {width : Int} (hn : 3 ≤ k ∧ k ≤ 64) (hw : 1 ≤ width ∧ width ≤ 32) : decide (Fits (k : Int) width) = true := decide_eq_true ⟨by omega, by omega, hw.1, hw.2⟩
end Go.Proofs.Ytehnnnohoaapdaa
