/- Texts joined: Made. -/
import Derived.Test.YtfbamkgmnbobeaaSC20
/- The statements' pages to be staged, as values, and what the store's calls are for them. -/
namespace Go.Proofs.Ytfbamkgmnbobeaa
open Go Go.RowKit
set_option linter.unusedVariables false
set_option linter.unusedSimpArgs false
set_option linter.unusedSectionVars false
structure MV where
  k : Int
  ao : Option Addr
  n : Nat
  c : Nat
  l : List UInt8
instance : Inhabited MV := ⟨⟨0, none, 0, 0, []⟩⟩
def madeC (m : MV) : List Value := [.int .i64 m.k, .slice m.ao m.n m.c]
def mkP (m : MV) : Nat × List UInt8 := ((wholeN m.k 1 3).toNat, m.l.take 246)
theorem mkP_kind (m : MV) : (((mkP m).1 : Nat) : Int) = wholeN m.k 1 3 := by
  have := whole_in m.k 1 3 (by decide)
  exact Int.toNat_of_nonneg (by omega)
theorem mkP_ok (m : MV) : PageOk (mkP m) := by
  have := whole_in m.k 1 3 (by decide)
  refine ⟨⟨?_, ?_⟩, ?_⟩
  · show 1 ≤ (wholeN m.k 1 3).toNat; omega
  · show (wholeN m.k 1 3).toNat ≤ 3; omega
  · show (m.l.take 246).length ≤ 246; rw [List.length_take]; omega
structure MadesIn (w : World) (F : List Nat) (aa : Option Addr) (ms : List MV) : Prop where
  el : ∀ (i : Nat) (m : MV), ms[i]? = some m → ∃ b off, aa = some ⟨b, off, none⟩ ∧ w.rangeAt b (off + i * 2) (madeC m) ∧ b ∉ F
  row : ∀ m ∈ ms, Row w m.ao m.n m.l ∧ m.n ≤ 9223372036854775807 ∧ ∀ b o, m.ao = some ⟨b, o, none⟩ → 0 < m.n → b ∉ F
theorem MadesIn.take {w : World} {F : List Nat} {aa : Option Addr} {ms : List MV} (h : MadesIn w F aa ms) (k : Nat) : MadesIn w F aa (ms.take k) :=
  ⟨fun i m hm => h.el i m (by rw [List.getElem?_take] at hm; split at hm; exact hm; cases hm), fun m hm => h.row m (List.mem_of_mem_take hm)⟩
def PgIs (V : FV) (C : CS) (pz : Pgs) (n : Nat) (x : Nat × List UInt8) : Prop := (2 ≤ n ∧ (n : Int) < V.s.mark ∧ pgAt pz n = x) ∨ (∃ (j : Nat) (e : En), (n : Int) = V.s.mark + (j : Int) ∧ C.kp[j]? = some e ∧ enP e = x)
theorem Mem.off3 {w w0 : World} {F : List Nat} {G A B E : Asn} {R : List Asn} (M : Mem w0 F w (G :: A :: B :: E :: R)) {b : Nat} (hb : b ∈ G.foot) : b ∉ foots [A, B, E] := fun hx => by
  rw [foots_cons] at hx
  rcases List.mem_append.1 hx with h | h
  · exact M.apart 0 1 (by decide) rfl rfl hb h
  · exact Mem.off2 (M.arr [0, 2, 3] (by decide)) hb h
section
variable {D : DV} {V : FV} {C : CS} {X : SX} {pz : Pgs} {s f p pg mb : Nat} {qv : Value} {w : World}
theorem sstage_ok (hM : Mem w (foots [disk D p pg mb qv, blk f 117 (fC V p), sto C V.s.mark s f X]) w [disk D p pg mb qv, blk f 117 (fC V p), sto C V.s.mark s f X]) (hS : SInv D V C pz) (k : Nat) (ao : Option Addr) (n c : Nat) (l : List UInt8) (hx : PageOk (k, l)) (hr : Row w ao n l) (hnil : ao = none → n = 0 ∧ c = 0)
    (hF : ∀ b o, ao = some ⟨b, o, none⟩ → 0 < n → b ∉ foots [disk D p pg mb qv, blk f 117 (fC V p), sto C V.s.mark s f X]) (hroom : V.s.mark + (C.kp.length : Int) < (D.pages.length : Int)) (hXn : X.x.n < 100000000000000) :
    Calls Try.prog 33 #[.pointer (some ⟨s, 0, none⟩), .int .i64 (k : Int), .slice ao n c] w fun e' w' => ∃ C' X', e' = .returned (.tuple #[.int .i64 (V.s.mark + (C.kp.length : Int)), .int .i64 0]) ∧ SInv D V C' pz ∧ C'.kp.map enP = C.kp.map enP ++ [(k, l)] ∧ X'.x.n ≤ X.x.n + 1 ∧ Mem w (foots [disk D p pg mb qv, blk f 117 (fC V p), sto C V.s.mark s f X]) w' [disk D p pg mb qv, blk f 117 (fC V p), sto C' V.s.mark s f X'] := by
  have hpl : D.pages.length ≤ 4096 := hS.inv.ok.hi
  refine (sstage_any hM (k : Int) ao n c l hr hnil hF hpl hXn).mono ?_
  rintro e' w' ⟨ge, ld, X', rfl, hn, h⟩
  obtain ⟨e0, hI⟩ := hS.stage hx hroom
  obtain ⟨e1, e2⟩ := stage_yes e0
  refine ⟨_, X', by rw [e0, e1], hI ge ld, ?_, hn, h⟩
  rw [e2]
  show (C.kp ++ [_]).map enP = _
  rw [List.map_append]
  rfl
theorem sload_ok (hM : Mem w (foots [disk D p pg mb qv, blk f 117 (fC V p), sto C V.s.mark s f X]) w [disk D p pg mb qv, blk f 117 (fC V p), sto C V.s.mark s f X]) (hS : SInv D V C pz) {n : Nat} {x : Nat × List UInt8} (hx : PgIs V C pz n x) (hXn : X.x.n < 100000000000000) :
    Calls Try.prog 39 #[.pointer (some ⟨s, 0, none⟩), .int .i64 (n : Int)] w fun e' w' => ∃ a c' r C' X', e' = .returned (.tuple #[.int .i64 (x.1 : Int), .slice a x.2.length c', .int .i64 0]) ∧ x.2.length ≤ 246 ∧ SInv { D with reads := r } V C' pz ∧ C'.kp = C.kp ∧ X'.x.n ≤ X.x.n + 1 ∧ Mem w (foots [disk D p pg mb qv, blk f 117 (fC V p), sto C V.s.mark s f X]) w' [bytesL (.slice a x.2.length c') x.2, disk { D with reads := r } p pg mb qv, blk f 117 (fC V p), sto C' V.s.mark s f X'] := by
  have hok := sto_ok (hM.get 2 rfl)
  have hfl := sto_flag (hM.get 2 rfl)
  have hm := hok.mk2
  have hlen : ∀ e, C.look (n : Int) = some e → e.l.length ≤ 1099511627776 := fun e he => by
    rcases List.mem_append.1 (look_some he).1 with h | h
    · have hk := hok.cl e h
      have hc := (hS.cl e h).2
      have hp : PageOk (pgAt pz e.k.toNat) := pgAt_ok hS.inv.plat.good (by have := hS.inv.plat.len; omega)
      have h3 : (pgAt pz e.k.toNat).2.length ≤ 246 := hp.2
      rw [hc]; omega
    · have := (hS.kd h).2; omega
  have hfl2 : (fReadL D V (n : Int)).length ≤ 1099511627776 := by
    by_cases hE : fReadE D V (n : Int) = 0
    · have h0 : ¬ liveE D V ≠ 0 := fun x => x hS.inv.isLive
      have hE' := hE
      unfold fReadE at hE'
      rw [if_neg h0] at hE'
      split at hE'
      · cases hE'
      · obtain ⟨_, _, f3, f4, _⟩ := hS.inv.read (n := n) (by omega) (by omega)
        have : (pgAt pz n).2.length ≤ 246 := f4.2
        rw [f3]; omega
    · rw [(fRead_no rfl hE).2]; exact Nat.zero_le _
  refine (sload_any hM (n : Int) hS.inv.fok hS.nx hlen hfl2 hXn).mono ?_
  rintro e' w' ⟨a, c', ge, ld, X', rfl, hn, h⟩
  rcases hx with ⟨h1, h2, h3⟩ | ⟨j, e, h1, h2, h3⟩
  · obtain ⟨r, g1, g2, g3⟩ := hS.load_old hfl hok h1 h2
    rw [g1] at h
    rw [h3] at h g2
    refine ⟨a, c', r, _, X', by rw [g1, h3], g2.2, (g3 ge ld).1, (g3 ge ld).2, hn, h⟩
  · rw [h1] at h
    obtain ⟨g1, g2⟩ := hS.load_new hfl hok h2
    rw [g1] at h
    have hk := hS.kp e (List.mem_of_getElem? h2)
    have hkd : ((x.1 : Nat) : Int) = e.kd := by rw [← h3]; exact Int.toNat_of_nonneg hk.2
    have hl : x.2 = e.l := by rw [← h3]; rfl
    rw [h1, g1, hkd, hl]
    refine ⟨a, c', D.reads, _, X', rfl, hk.1.2, (g2 ge ld).1, (g2 ge ld).2, hn, h⟩
theorem PgIs.same {C' : CS} {n : Nat} {x : Nat × List UInt8} (h : PgIs V C pz n x) (hk : C'.kp = C.kp) : PgIs V C' pz n x := by
  unfold PgIs
  rw [hk]
  exact h
end
end Go.Proofs.Ytfbamkgmnbobeaa
