/- Texts joined: StoP, StoQ, Made. -/
import Derived.Test.YtfbamkgmnbobeaaSB18
import Derived.Test.YtfbamkgmnbobeaaSB19
/- A store over a page file, as values: what it holds at any time, and what each call does with it. -/
namespace Go.Proofs.Ytfbamkgmnbobeaa
set_option linter.unusedSectionVars false
open Go Go.RowKit
set_option linter.unusedVariables false
set_option linter.unusedSimpArgs false
theorem sto_flag {C : CS} {mk : Int} {s f : Nat} {X : SX} {w : World} (h : (sto C mk s f X).holds w) : CFlag C := by
  have h1 : (cache C X.c X.mb X.x).holds w := h.2 _ (List.mem_cons_of_mem _ (List.mem_cons_self ..))
  exact h1.1.2
structure SInv (D : DV) (V : FV) (C : CS) (pz : Pgs) : Prop where
  inv : Inv D V pz
  nx : V.next = V.s.mark
  cl : ∀ e ∈ C.cl, e.kd = ((pgAt pz e.k.toNat).1 : Int) ∧ e.l = (pgAt pz e.k.toNat).2
  kp : ∀ e ∈ C.kp, PageOk (e.kd.toNat, e.l) ∧ 0 ≤ e.kd
  fit : V.s.mark + (C.kp.length : Int) ≤ (D.pages.length : Int)
theorem SInv.kd {D : DV} {V : FV} {C : CS} {pz : Pgs} (h : SInv D V C pz) {e : En} (he : e ∈ C.kp) : (1 ≤ e.kd ∧ e.kd ≤ 3) ∧ e.l.length ≤ 246 := by
  obtain ⟨⟨⟨h1, h2⟩, h3⟩, h4⟩ := h.kp e he
  have h1' : 1 ≤ e.kd.toNat := h1
  have h2' : e.kd.toNat ≤ 3 := h2
  exact ⟨⟨by omega, by omega⟩, h3⟩
section
variable {D : DV} {V : FV} {C : CS} {pz : Pgs} {X : SX}
theorem SInv.stage (h : SInv D V C pz) {k : Nat} {l : List UInt8} (hx : PageOk (k, l)) (hr : V.s.mark + (C.kp.length : Int) < (D.pages.length : Int)) :
    stageE D V C (k : Int) l = 0 ∧ ∀ ge ld, SInv D V (stageC D V C (k : Int) l ge ld) pz := by
  obtain ⟨⟨k1, k2⟩, k3⟩ := hx
  have k1 : 1 ≤ k := k1
  have k2 : k ≤ 3 := k2
  have k3 : l.length ≤ 246 := k3
  have e0 : stageE D V C (k : Int) l = 0 := by
    unfold stageE
    rw [if_neg (fun x => x h.inv.isLive), if_neg (by omega), if_neg (by omega), if_neg (by omega)]
  refine ⟨e0, fun ge ld => ?_⟩
  rw [(stage_yes e0).2]
  refine ⟨h.inv, h.nx, h.cl, fun e he => ?_, ?_⟩
  · have he' : e ∈ C.kp ++ [⟨ge, V.s.mark + (C.kp.length : Int), (k : Int), ld, true, l⟩] := he
    rcases List.mem_append.1 he' with h1 | h1
    · exact h.kp e h1
    · obtain rfl : e = ⟨ge, V.s.mark + (C.kp.length : Int), (k : Int), ld, true, l⟩ := by simpa using h1
      exact ⟨⟨⟨by show 1 ≤ ((k : Int)).toNat; omega, by show ((k : Int)).toNat ≤ 3; omega⟩, k3⟩, by show 0 ≤ (k : Int); omega⟩
  · show V.s.mark + (((C.kp ++ [_]).length : Nat) : Int) ≤ _
    rw [List.length_append]; simp; omega
theorem got_mem (hF : CFlag C) (k : Int) : (∀ e ∈ (C.got k).cl, e ∈ C.cl) ∧ (C.got k).kp = C.kp := by
  obtain ⟨h1, h2, _, _⟩ := got_parts (C := C) (k := k) fun e he hh => flag_look hF he hh
  exact ⟨h1, h2⟩
theorem SInv.rd (h : SInv D V C pz) (r : Int) : SInv { D with reads := r } V C pz := ⟨h.inv.cnt r D.writes D.syncs, h.nx, h.cl, h.kp, h.fit⟩
theorem SInv.load_new (h : SInv D V C pz) (hF : CFlag C) (hS : SOk C V.s.mark X) {i : Nat} {e : En} (he : C.kp[i]? = some e) :
    loadR D V C (V.s.mark + (i : Int)) = (0, e.kd, e.l, D) ∧ ∀ ge ld, SInv D V (loadC D V C (V.s.mark + (i : Int)) ge ld) pz ∧ (loadC D V C (V.s.mark + (i : Int)) ge ld).kp = C.kp := by
  have hm := hS.mk2
  have hi : i < C.kp.length := (List.getElem?_eq_some_iff.1 he).1
  have hk := hS.kp i e he
  have hl : C.look (V.s.mark + (i : Int)) = some e := by
    unfold CS.look
    rw [List.find?_append, List.find?_eq_none.2 (fun u hu hx => by
      have h1 := (hS.cl u hu).2
      have h2 : u.k = V.s.mark + (i : Int) := by simpa using hx
      omega), Option.none_or]
    rw [List.find?_eq_some_iff_getElem]
    refine ⟨by simpa using hk, i, hi, (List.getElem?_eq_some_iff.1 he).2, fun j hj => ?_⟩
    have h3 := hS.kp j _ (List.getElem?_eq_getElem (by omega))
    simp; omega
  have e1 : loadR D V C (V.s.mark + (i : Int)) = (0, e.kd, e.l, D) := by
    unfold loadR
    rw [if_neg (fun x => x h.inv.isLive), if_neg (by omega), hl]
  refine ⟨e1, fun ge ld => ?_⟩
  have e2 : loadC D V C (V.s.mark + (i : Int)) ge ld = C.got (V.s.mark + (i : Int)) := by
    unfold loadC
    rw [if_neg (fun x => x h.inv.isLive), if_neg (by omega), hl]
  rw [e2]
  obtain ⟨g1, g2⟩ := got_mem hF (V.s.mark + (i : Int))
  exact ⟨⟨h.inv, h.nx, fun e he => h.cl e (g1 e he), by rw [g2]; exact h.kp, by rw [g2]; exact h.fit⟩, g2⟩
theorem SInv.load_old (h : SInv D V C pz) (hF : CFlag C) (hS : SOk C V.s.mark X) {n : Nat} (h2 : 2 ≤ n) (hn : (n : Int) < V.s.mark) :
    ∃ r, loadR D V C (n : Int) = (0, ((pgAt pz n).1 : Int), (pgAt pz n).2, { D with reads := r }) ∧ PageOk (pgAt pz n) ∧ ∀ ge ld, SInv { D with reads := r } V (loadC D V C (n : Int) ge ld) pz ∧ (loadC D V C (n : Int) ge ld).kp = C.kp := by
  have hnx := h.nx
  obtain ⟨f1, f2, f3, f4, f5⟩ := h.inv.read h2 (by omega)
  obtain ⟨g1, g2⟩ := got_mem hF (n : Int)
  have hnL : ¬ liveE D V ≠ 0 := fun x => x h.inv.isLive
  rcases hl : C.look (n : Int) with _ | e
  · refine ⟨wrap64 (D.reads + 1), ?_, f4, fun ge ld => ?_⟩
    · unfold loadR
      rw [if_neg hnL, if_neg (by omega), hl]
      show (fReadE D V n, fReadK D V n, fReadL D V n, fReadD D V n) = _
      rw [f1, f2, f3, f5]
    · have e2 : loadC D V C (n : Int) ge ld = trimS { C.got (n : Int) with cl := (C.got (n : Int)).cl ++ [⟨ge, (n : Int), fReadK D V n, ld, false, fReadL D V n⟩] } := by
        unfold loadC
        rw [if_neg hnL, if_neg (by omega), hl]
        exact if_neg (fun x => x f1)
      rw [e2]
      refine ⟨⟨(h.rd _).inv, h.nx, fun u hu => ?_, by show ∀ e ∈ (C.got (n : Int)).kp, _; rw [g2]; exact h.kp, by show _ + (((C.got (n : Int)).kp.length : Nat) : Int) ≤ _; rw [g2]; exact h.fit⟩, g2⟩
      have hu' := (List.drop_sublist _ _).subset hu
      rcases List.mem_append.1 hu' with hx | hx
      · exact h.cl u (g1 u hx)
      · obtain rfl : u = ⟨ge, (n : Int), fReadK D V n, ld, false, fReadL D V n⟩ := by simpa using hx
        exact ⟨by show fReadK D V n = _; rw [f2, Int.toNat_natCast], by show fReadL D V n = _; rw [f3, Int.toNat_natCast]⟩
  · have he : e ∈ C.cl := by
      obtain ⟨h8, h9⟩ := look_some hl
      rcases List.mem_append.1 h8 with hx | hx
      · exact hx
      · obtain ⟨i, hi, hg⟩ := List.mem_iff_getElem.1 hx
        have := hS.kp i e (by rw [List.getElem?_eq_getElem hi, hg])
        omega
    have hk := (look_some hl).2
    obtain ⟨c1, c2⟩ := h.cl e he
    rw [hk, Int.toNat_natCast] at c1 c2
    refine ⟨D.reads, ?_, f4, fun ge ld => ?_⟩
    · unfold loadR
      rw [if_neg hnL, if_neg (by omega), hl]
      show (0, e.kd, e.l, D) = _
      rw [c1, c2]
    · have e2 : loadC D V C (n : Int) ge ld = C.got (n : Int) := by
        unfold loadC
        rw [if_neg hnL, if_neg (by omega), hl]
      rw [e2]
      exact ⟨⟨(h.rd _).inv, h.nx, fun e he => h.cl e (g1 e he), by rw [g2]; exact h.kp, by rw [g2]; exact h.fit⟩, g2⟩
def enP (e : En) : Nat × List UInt8 := (e.kd.toNat, e.l)
def putAll (pz : Pgs) (n : Nat) : List En → Pgs
  | [] => pz
  | e :: es => putAll (putP pz n (enP e)) (n + 1) es
theorem putAll_low : ∀ (es : List En) (pz : Pgs) (n m : Nat), n - 2 ≤ pz.length → m < n → 2 ≤ m → pgAt (putAll pz n es) m = pgAt pz m
  | [], _, _, _, _, _, _ => rfl
  | e :: es, pz, n, m, h1, h2, h3 => by
    show pgAt (putAll (putP pz n (enP e)) (n + 1) es) m = _
    rw [putAll_low es _ (n + 1) m (by rw [putP_len _ _ _ h1]; omega) (by omega) h3, putP_low _ _ _ _ h1 h2 h3]
theorem putAll_at : ∀ (es : List En) (pz : Pgs) (n i : Nat) (e : En), 2 ≤ n → n - 2 ≤ pz.length → es[i]? = some e → pgAt (putAll pz n es) (n + i) = enP e
  | [], _, _, _, _, _, _, h => by simp at h
  | u :: es, pz, n, 0, e, h2, h1, h => by
    obtain rfl : u = e := by simpa using h
    show pgAt (putAll (putP pz n (enP u)) (n + 1) es) n = _
    rw [putAll_low es _ (n + 1) n (by rw [putP_len _ _ _ h1]; omega) (by omega) h2, putP_at _ _ _ h1]
  | u :: es, pz, n, i + 1, e, h2, h1, h => by
    show pgAt (putAll (putP pz n (enP u)) (n + 1) es) (n + (i + 1)) = _
    rw [show n + (i + 1) = n + 1 + i by omega]
    exact putAll_at es _ (n + 1) i e (by omega) (by rw [putP_len _ _ _ h1]; omega) (by simpa using h)
theorem actD_arm (D : DV) : (actD D).armed = if D.armed = 0 then 0 else D.armed - 1 := actD_armed D
theorem appAll_go : ∀ (es : List En) {D : DV} {V : FV} {pz : Pgs}, Inv D V pz → (∀ e ∈ es, PageOk (enP e) ∧ 0 ≤ e.kd) → V.next + (es.length : Int) ≤ (D.pages.length : Int) →
    (D.armed = 0 ∨ (es.length : Int) < D.armed → ∃ E, appAll D V es = (E, { V with next := V.next + (es.length : Int) }, 0) ∧ Inv E { V with next := V.next + (es.length : Int) } (putAll pz V.next.toNat es) ∧ E.armed = (if D.armed = 0 then 0 else D.armed - (es.length : Int)) ∧ E.pages.length = D.pages.length ∧ E.q.length ≤ D.q.length + es.length ∧ E.epoch = D.epoch) ∧
    (1 ≤ D.armed ∧ D.armed ≤ (es.length : Int) → ∃ E V', appAll D V es = (E, V', 2) ∧ V'.s = V.s ∧ E.dead = true ∧ E.epoch = V.mine ∧ Plat E V.s pz ∧ E.pages.length = D.pages.length)
  | [], D, V, pz, h, _, _ => by
    refine ⟨fun ha => ⟨D, ?_, ?_, ?_, rfl, Nat.le_refl _, rfl⟩, fun ⟨a1, a2⟩ => by simp at a2; omega⟩
    · show (D, V, (0 : Int)) = _
      simp
    · simpa [putAll] using h
    · simp
  | e :: es, D, V, pz, h, hk, hr => by
    obtain ⟨hx, hx0⟩ := hk e (List.mem_cons_self ..)
    have hlen : ((e :: es).length : Int) = (es.length : Int) + 1 := by simp
    rw [hlen] at hr ⊢
    have hkd : ((e.kd.toNat : Nat) : Int) = e.kd := Int.toNat_of_nonneg hx0
    obtain ⟨a1, a2, a3, a4⟩ := h.app (k := e.kd.toNat) (l := e.l) hx (by omega)
    rw [hkd] at a1 a2 a3 a4
    have hpl : (appD D V e.kd e.l).pages.length = D.pages.length := by rw [a2, actD_pages]; rfl
    have har : (appD D V e.kd e.l).armed = if D.armed = 0 then 0 else D.armed - 1 := by rw [a2, actD_arm]; rfl
    have hql : (appD D V e.kd e.l).q.length ≤ D.q.length + 1 := by rw [a2, (actD_qp _).1]; simp [openW]
    have hep : (appD D V e.kd e.l).epoch = D.epoch := by rw [a2, actD_epoch]; rfl
    have h0 := h.ok.arm.1
    have hn2 := h.next2
    by_cases h1 : D.armed = 1
    · have hE : appE D V e.kd e.l = 2 := by rw [a1]; exact if_pos h1
      obtain ⟨d1, d2, d3⟩ := a4 (if_pos h1)
      refine ⟨fun ha => by omega, fun _ => ⟨_, V, ?_, rfl, d1, d2, d3, hpl⟩⟩
      show (if appE D V e.kd e.l = 0 then _ else _) = _
      rw [if_neg (by rw [hE]; decide), hE]
    · have hA : actE D = 0 := if_neg h1
      have hE : appE D V e.kd e.l = 0 := by rw [a1]; exact hA
      have hV := (app_yes hE).2
      have hI := a3 hA
      have hstep : appAll D V (e :: es) = appAll (appD D V e.kd e.l) (appV D V e.kd e.l) es := if_pos hE
      have hnn : ({ V with next := V.next + 1 } : FV).next.toNat = V.next.toNat + 1 := by show (V.next + 1).toNat = _; omega
      rw [hstep, hV]
      have hroom : ({ V with next := V.next + 1 } : FV).next + (es.length : Int) ≤ ((appD D V e.kd e.l).pages.length : Int) := by show V.next + 1 + (es.length : Int) ≤ _; rw [hpl]; omega
      refine ⟨fun ha => ?_, fun ha => ?_⟩
      · have hc : (appD D V e.kd e.l).armed = 0 ∨ (es.length : Int) < (appD D V e.kd e.l).armed := by rw [har]; split <;> omega
        obtain ⟨E, b1, b2, b3, b4, b5, b6⟩ := (appAll_go es hI (fun u hu => hk u (List.mem_cons_of_mem _ hu)) hroom).1 hc
        have hvv : ({ ({ V with next := V.next + 1 } : FV) with next := ({ V with next := V.next + 1 } : FV).next + (es.length : Int) } : FV) = { V with next := V.next + ((es.length : Int) + 1) } := by
          show FV.mk V.s (V.next + 1 + (es.length : Int)) V.mine = FV.mk V.s (V.next + ((es.length : Int) + 1)) V.mine
          congr 1; omega
        rw [hvv] at b1 b2
        rw [hnn] at b2
        refine ⟨E, b1, b2, ?_, by rw [b4, hpl], by simp only [List.length_cons]; omega, by rw [b6, hep]⟩
        rw [b3, har]
        split <;> split <;> omega
      · have hc : 1 ≤ (appD D V e.kd e.l).armed ∧ (appD D V e.kd e.l).armed ≤ (es.length : Int) := by rw [har, if_neg (by omega)]; omega
        obtain ⟨E, V', b1, b2, b3, b4, b5, b6⟩ := (appAll_go es hI (fun u hu => hk u (List.mem_cons_of_mem _ hu)) hroom).2 hc
        refine ⟨E, V', b1, b2, b3, b4, ?_, by rw [b6, hpl]⟩
        have hmk : V.s.mark ≤ V.next := h.lo
        have b5 : Plat E V.s _ := b5
        refine b5.book (fun n n1 n2 => ?_) h.plat.len h.plat.good
        rw [putP_low _ _ _ _ (by have := h.lenN; omega) (by omega) n1]
end
end Go.Proofs.Ytfbamkgmnbobeaa

/- A store over a page file, as values: Flush, with a loss of power at any act. -/
namespace Go.Proofs.Ytfbamkgmnbobeaa
set_option linter.unusedSectionVars false
open Go Go.RowKit
set_option linter.unusedVariables false
set_option linter.unusedSimpArgs false
theorem Inv.pub_armed {D : DV} {V : FV} {ps : Pgs} (h : Inv D V ps) {head : Int} (hh : head = 0 ∨ (2 ≤ head ∧ head < V.next)) (hg : V.s.gen < 1099511627776) :
    ((1 ≤ D.armed ∧ D.armed ≤ 3) → (pubR D V head).2 = 2) ∧ (¬ (1 ≤ D.armed ∧ D.armed ≤ 3) → (pubR D V head).2 = 0 ∧ (pubR D V head).1.armed = if D.armed = 0 then 0 else D.armed - 3) := by
  have hL : ¬ liveE D V ≠ 0 := fun x => x h.isLive
  obtain ⟨a1, a2, a3, a4, a5⟩ := h.pub1
  have ha0 := h.ok.arm.1
  have hR : pubR D V head = runS [yS, wS (pubS V head), yS] D := by
    unfold pubR
    rw [if_neg hL, if_neg (by omega), if_neg (by omega)]
  have ysE : ∀ E : DV, E.dead = false → yS E = if actE E = 0 then (flushD (actD E), 0) else (actD E, 2) := fun E hE => by
    unfold yS
    obtain ⟨s1, s2⟩ := sync_alive hE
    rw [s1, s2]
    rcases actE_two E with e | e
    · rw [e, if_pos rfl, if_pos rfl]
    · rw [e, if_neg (by decide), if_neg (by decide)]
  have r0 : runS [yS, wS (pubS V head), yS] D = if (yS D).2 = 0 then (if (wS (pubS V head) (yS D).1).2 = 0 then (if (yS (wS (pubS V head) (yS D).1).1).2 = 0 then ((yS (wS (pubS V head) (yS D).1).1).1, 0) else yS (wS (pubS V head) (yS D).1).1) else wS (pubS V head) (yS D).1) else yS D := rfl
  have e1 : actE D = if D.armed = 1 then 2 else 0 := rfl
  have y1 := ysE D h.pow
  by_cases c1 : D.armed = 1
  · have : actE D = 2 := if_pos c1
    rw [if_neg (by omega)] at y1
    refine ⟨fun _ => ?_, fun hn => absurd ⟨by omega, by omega⟩ hn⟩
    rw [hR, r0, y1, if_neg (show ¬ (2 : Int) = 0 by decide)]
  · have hA : actE D = 0 := if_neg c1
    rw [if_pos hA] at y1
    have hd1 : (flushD (actD D)).dead = false := act_zero hA h.pow
    have hp1 : (pubD1 D) = flushD (actD D) := rfl
    have hh1 : (flushD (actD D)).has ((pubS V head).gen % 2) := by have := a1.ok.lo; rw [hp1] at this; exact ⟨by omega, by omega⟩
    obtain ⟨w1, w2⟩ := write_alive hd1 hh1 (length_superB (pubS V head))
    have har1 : (flushD (actD D)).armed = if D.armed = 0 then 0 else D.armed - 1 := actD_arm D
    have hw : wS (pubS V head) (flushD (actD D)) = (actD (openW (flushD (actD D)) ((pubS V head).gen % 2) (superB (pubS V head))), actE (flushD (actD D))) := by
      unfold wS
      rw [w1, w2]
    by_cases c2 : (flushD (actD D)).armed = 1
    · have hB : actE (flushD (actD D)) = 2 := if_pos c2
      refine ⟨fun _ => ?_, fun hn => absurd ⟨?_, ?_⟩ hn⟩
      · rw [hR, r0, y1, if_pos rfl, hw, if_neg (show ¬ actE (flushD (actD D)) = 0 by rw [hB]; decide)]
        exact hB
      · rw [har1] at c2; split at c2 <;> omega
      · rw [har1] at c2; split at c2 <;> omega
    · have hB : actE (flushD (actD D)) = 0 := if_neg c2
      have hd2 : (actD (openW (flushD (actD D)) ((pubS V head).gen % 2) (superB (pubS V head)))).dead = false := act_zero (D := openW (flushD (actD D)) ((pubS V head).gen % 2) (superB (pubS V head))) hB hd1
      have y2 := ysE _ hd2
      have har2 : (actD (openW (flushD (actD D)) ((pubS V head).gen % 2) (superB (pubS V head)))).armed = if (flushD (actD D)).armed = 0 then 0 else (flushD (actD D)).armed - 1 := actD_arm _
      by_cases c3 : (actD (openW (flushD (actD D)) ((pubS V head).gen % 2) (superB (pubS V head)))).armed = 1
      · have hC : actE (actD (openW (flushD (actD D)) ((pubS V head).gen % 2) (superB (pubS V head)))) = 2 := if_pos c3
        rw [if_neg (by rw [hC]; decide)] at y2
        refine ⟨fun _ => ?_, fun hn => absurd ⟨?_, ?_⟩ hn⟩
        · rw [hR, r0, y1, if_pos rfl, hw, if_pos hB, y2, if_neg (show ¬ (2 : Int) = 0 by decide)]
        · rw [har2, har1] at c3; split at c3 <;> split at c3 <;> omega
        · rw [har2, har1] at c3; split at c3 <;> split at c3 <;> omega
      · have hC : actE (actD (openW (flushD (actD D)) ((pubS V head).gen % 2) (superB (pubS V head)))) = 0 := if_neg c3
        rw [if_pos hC] at y2
        refine ⟨fun hn => ?_, fun _ => ?_⟩
        · exfalso
          rw [har1] at c2
          rw [har2, har1] at c3
          split at c2 <;> split at c3 <;> (try split at c3) <;> omega
        · rw [hR, r0, y1, if_pos rfl, hw, if_pos hB, y2, if_pos rfl]
          refine ⟨rfl, ?_⟩
          show (actD (actD (openW (flushD (actD D)) ((pubS V head).gen % 2) (superB (pubS V head))))).armed = _
          rw [actD_arm, har2, har1]
          split <;> split <;> (try split) <;> (try split) <;> (try split) <;> omega
section
variable {D : DV} {V : FV} {C : CS} {pz : Pgs} {X : SX}
def flushS (V : FV) (C : CS) (head : Int) : SupV := ⟨V.s.width, V.s.gen + 1, V.s.mark + (C.kp.length : Int), head, V.s.pages⟩
theorem SInv.flush (h : SInv D V C pz) (hS : SOk C V.s.mark X) {head : Int} (hh : head = 0 ∨ (2 ≤ head ∧ head < V.s.mark + (C.kp.length : Int))) (hg : V.s.gen < 1099511627776) :
    (D.armed = 0 ∨ (C.kp.length : Int) + 3 < D.armed → ∃ E, flushR D V C head = (E, ⟨flushS V C head, V.s.mark + (C.kp.length : Int), V.mine⟩, 0) ∧ SInv E ⟨flushS V C head, V.s.mark + (C.kp.length : Int), V.mine⟩ (flushC D V C head) (putAll pz V.s.mark.toNat C.kp) ∧ flushC D V C head = trimS (setS C) ∧ E.q = [] ∧ E.pages.length = D.pages.length ∧ E.armed = if D.armed = 0 then 0 else D.armed - ((C.kp.length : Int) + 3)) ∧
    (1 ≤ D.armed ∧ D.armed ≤ (C.kp.length : Int) + 3 → ∃ E V', flushR D V C head = (E, V', 2) ∧ flushC D V C head = C ∧ V'.s = V.s ∧ V'.next = V.s.mark ∧ E.dead = true ∧ E.epoch = V.mine ∧ E.pages.length = D.pages.length) := by
  have hm := hS.mk2
  have hnx := h.nx
  have ha0 := h.inv.ok.arm.1
  have hf := h.fit
  have hL : ¬ liveE D V ≠ 0 := fun x => x h.inv.isLive
  have hen : ∀ e ∈ C.kp, PageOk (enP e) ∧ 0 ≤ e.kd := h.kp
  have hroom : V.next + (C.kp.length : Int) ≤ (D.pages.length : Int) := by omega
  have hR : flushR D V C head = if (appAll D V C.kp).2.2 ≠ 0 then ((appAll D V C.kp).1, forgetV (appAll D V C.kp).2.1, (appAll D V C.kp).2.2)
      else if (pubR (appAll D V C.kp).1 (appAll D V C.kp).2.1 head).2 ≠ 0 then ((pubR (appAll D V C.kp).1 (appAll D V C.kp).2.1 head).1, forgetV (appAll D V C.kp).2.1, (pubR (appAll D V C.kp).1 (appAll D V C.kp).2.1 head).2)
      else ((pubR (appAll D V C.kp).1 (appAll D V C.kp).2.1 head).1, pubV (appAll D V C.kp).1 (appAll D V C.kp).2.1 head, 0) := by
    unfold flushR
    rw [if_neg hL, if_neg (by omega), if_neg (by omega)]
  obtain ⟨G1, G2⟩ := appAll_go C.kp h.inv hen hroom
  by_cases c : 1 ≤ D.armed ∧ D.armed ≤ (C.kp.length : Int)
  · obtain ⟨E, V', b1, b2, b3, b4, b5, b6⟩ := G2 c
    clear G1 G2
    refine ⟨fun ha => by omega, fun _ => ⟨E, forgetV V', ?_, ?_, ?_, ?_, b3, b4, b6⟩⟩
    · rw [hR, b1, if_pos (show ¬ (2 : Int) = 0 by decide)]
    · unfold flushC
      rw [hR, b1, if_pos (show ¬ (2 : Int) = 0 by decide)]
      exact if_neg (show ¬ (2 : Int) = 0 by decide)
    · exact b2
    · show V'.s.mark = _; rw [b2]
  · have hc : D.armed = 0 ∨ (C.kp.length : Int) < D.armed := by clear G1 G2; omega
    obtain ⟨E, b1, b2, b3, b4, b5, b6⟩ := G1 hc
    clear G1 G2
    have hh2 : head = 0 ∨ (2 ≤ head ∧ head < ({ V with next := V.next + (C.kp.length : Int) } : FV).next) := by
      show head = 0 ∨ (2 ≤ head ∧ head < V.next + (C.kp.length : Int))
      omega
    obtain ⟨P1, P2⟩ := b2.pub_armed hh2 hg
    have P0 := b2.pub hh2 hg
    have hps : pubS ({ V with next := V.next + (C.kp.length : Int) } : FV) head = flushS V C head := by
      unfold pubS flushS
      rw [hnx]
    rw [b1] at hR
    have hR' : flushR D V C head = if (pubR E { V with next := V.next + (C.kp.length : Int) } head).2 ≠ 0 then ((pubR E { V with next := V.next + (C.kp.length : Int) } head).1, forgetV { V with next := V.next + (C.kp.length : Int) }, (pubR E { V with next := V.next + (C.kp.length : Int) } head).2)
      else ((pubR E { V with next := V.next + (C.kp.length : Int) } head).1, pubV E { V with next := V.next + (C.kp.length : Int) } head, 0) := by
      rw [hR, if_neg (fun h => h rfl)]
    by_cases c2 : 1 ≤ E.armed ∧ E.armed ≤ 3
    · have e2 := P1 c2
      clear P1 P2
      rcases P0 with ⟨z, _⟩ | ⟨z, z2, z3, z4, z5, z6, z7, z8⟩
      · rw [z] at e2; cases e2
      · refine ⟨fun ha => ?_, fun _ => ⟨_, forgetV { V with next := V.next + (C.kp.length : Int) }, ?_, ?_, rfl, rfl, z3, z4, by rw [z6, b4]⟩⟩
        · exfalso
          rw [b3] at c2
          split at c2 <;> omega
        · rw [hR', e2, if_pos (show ¬ (2 : Int) = 0 by decide)]
        · unfold flushC
          rw [hR', e2, if_pos (show ¬ (2 : Int) = 0 by decide)]
          exact if_neg (show ¬ (2 : Int) = 0 by decide)
    · obtain ⟨e2, e3⟩ := P2 c2
      clear P1 P2
      rcases P0 with ⟨z, z2, z3, z4⟩ | ⟨z, _⟩
      · have hpv : pubV E { V with next := V.next + (C.kp.length : Int) } head = ⟨flushS V C head, V.s.mark + (C.kp.length : Int), V.mine⟩ := by
          have : pubV E { V with next := V.next + (C.kp.length : Int) } head = { ({ V with next := V.next + (C.kp.length : Int) } : FV) with s := pubS { V with next := V.next + (C.kp.length : Int) } head } := if_pos e2
          rw [this, hps, hnx]
        have hFR : flushR D V C head = ((pubR E { V with next := V.next + (C.kp.length : Int) } head).1, ⟨flushS V C head, V.s.mark + (C.kp.length : Int), V.mine⟩, 0) := by
          rw [hR', e2, if_neg (fun h => h rfl), hpv]
        have hpl : (pubR E { V with next := V.next + (C.kp.length : Int) } head).1.pages.length = D.pages.length := by
          have h1 := z3.plat.pages
          have h2 := h.inv.plat.pages
          have h3 : (pubS ({ V with next := V.next + (C.kp.length : Int) } : FV) head).pages = V.s.pages := rfl
          have h1' : (pubS ({ V with next := V.next + (C.kp.length : Int) } : FV) head).pages = ((pubR E { V with next := V.next + (C.kp.length : Int) } head).1.pages.length : Int) := h1
          omega
        have hFC : flushC D V C head = trimS (setS C) := by
          unfold flushC
          rw [hFR]
          exact if_pos rfl
        refine ⟨fun ha => ⟨_, hFR, ?_, hFC, z4, hpl, ?_⟩, fun ha => ?_⟩
        · rw [hFC]
          have hI : Inv (pubR E { V with next := V.next + (C.kp.length : Int) } head).1 ⟨flushS V C head, V.s.mark + (C.kp.length : Int), V.mine⟩ (putAll pz V.s.mark.toNat C.kp) := by
            have h9 := z3
            rw [hps, show V.next.toNat = V.s.mark.toNat by rw [hnx]] at h9
            have e9 : (⟨flushS V C head, V.next + (C.kp.length : Int), V.mine⟩ : FV) = ⟨flushS V C head, V.s.mark + (C.kp.length : Int), V.mine⟩ := by rw [hnx]
            rw [← e9]
            exact h9
          have hlz := h.inv.plat.len
          refine ⟨hI, rfl, fun u hu => ?_, fun u hu => (by cases hu), by show V.s.mark + (C.kp.length : Int) + ((0 : Nat) : Int) ≤ _; rw [hpl]; omega⟩
          have hu' : u ∈ C.cl ++ C.kp.map (fun e => { e with h := false }) := (List.drop_sublist _ _).subset hu
          rcases List.mem_append.1 hu' with hx | hx
          · have hk := hS.cl u hx
            rw [putAll_low _ _ _ _ (by omega) (by omega) (by omega)]
            exact h.cl u hx
          · obtain ⟨e, he, rfl⟩ := List.mem_map.1 hx
            obtain ⟨i, hi, hg⟩ := List.mem_iff_getElem.1 he
            have hk := hS.kp i e (by rw [List.getElem?_eq_getElem hi, hg])
            have hp : pgAt (putAll pz V.s.mark.toNat C.kp) e.k.toNat = enP e := by
              rw [show e.k.toNat = V.s.mark.toNat + i by omega]
              exact putAll_at _ _ _ _ _ (by omega) (by omega) (by rw [List.getElem?_eq_getElem hi, hg])
            show e.kd = ((pgAt _ e.k.toNat).1 : Int) ∧ e.l = (pgAt _ e.k.toNat).2
            rw [hp]
            exact ⟨(Int.toNat_of_nonneg (h.kp e he).2).symm, rfl⟩
        · rw [e3, b3]
          split <;> split <;> omega
        · exfalso
          rw [b3] at c2
          split at c2 <;> omega
      · rw [z] at e2; cases e2
end
end Go.Proofs.Ytfbamkgmnbobeaa

/- The statements' pages to be staged, as values, and what the store's calls are for them. -/
namespace Go.Proofs.Ytfbamkgmnbobeaa
open Go Go.RowKit
set_option linter.unusedVariables false
set_option linter.unusedSimpArgs false
set_option linter.unusedSectionVars false
structure MV where
  k : Int
  ao : Option Addr
  n : Nat
  c : Nat
  l : List UInt8
instance : Inhabited MV := ⟨⟨0, none, 0, 0, []⟩⟩
def madeC (m : MV) : List Value := [.int .i64 m.k, .slice m.ao m.n m.c]
def mkP (m : MV) : Nat × List UInt8 := ((wholeN m.k 1 3).toNat, m.l.take 246)
structure MadesIn (w : World) (F : List Nat) (aa : Option Addr) (ms : List MV) : Prop where
  el : ∀ (i : Nat) (m : MV), ms[i]? = some m → ∃ b off, aa = some ⟨b, off, none⟩ ∧ w.rangeAt b (off + i * 2) (madeC m) ∧ b ∉ F
  row : ∀ m ∈ ms, Row w m.ao m.n m.l ∧ m.n ≤ 9223372036854775807 ∧ ∀ b o, m.ao = some ⟨b, o, none⟩ → 0 < m.n → b ∉ F
theorem MadesIn.take {w : World} {F : List Nat} {aa : Option Addr} {ms : List MV} (h : MadesIn w F aa ms) (k : Nat) : MadesIn w F aa (ms.take k) :=
  ⟨fun i m hm => h.el i m (by rw [List.getElem?_take] at hm; split at hm; exact hm; cases hm), fun m hm => h.row m (List.mem_of_mem_take hm)⟩
def PgIs (V : FV) (C : CS) (pz : Pgs) (n : Nat) (x : Nat × List UInt8) : Prop := (2 ≤ n ∧ (n : Int) < V.s.mark ∧ pgAt pz n = x) ∨ (∃ (j : Nat) (e : En), (n : Int) = V.s.mark + (j : Int) ∧ C.kp[j]? = some e ∧ enP e = x)
theorem Mem.off3 {w w0 : World} {F : List Nat} {G A B E : Asn} {R : List Asn} (M : Mem w0 F w (G :: A :: B :: E :: R)) {b : Nat} (hb : b ∈ G.foot) : b ∉ foots [A, B, E] := fun hx => by
  rw [foots_cons] at hx
  rcases List.mem_append.1 hx with h | h
  · exact M.apart 0 1 (by decide) rfl rfl hb h
  · exact Mem.off2 (M.arr [0, 2, 3] (by decide)) hb h
section
variable {D : DV} {V : FV} {C : CS} {X : SX} {pz : Pgs} {s f p pg mb : Nat} {qv : Value} {w : World}
theorem sstage_ok (hM : Mem w (foots [disk D p pg mb qv, blk f 117 (fC V p), sto C V.s.mark s f X]) w [disk D p pg mb qv, blk f 117 (fC V p), sto C V.s.mark s f X]) (hS : SInv D V C pz) (k : Nat) (ao : Option Addr) (n c : Nat) (l : List UInt8) (hx : PageOk (k, l)) (hr : Row w ao n l) (hnil : ao = none → n = 0 ∧ c = 0)
    (hF : ∀ b o, ao = some ⟨b, o, none⟩ → 0 < n → b ∉ foots [disk D p pg mb qv, blk f 117 (fC V p), sto C V.s.mark s f X]) (hroom : V.s.mark + (C.kp.length : Int) < (D.pages.length : Int)) (hXn : X.x.n < 100000000000000) :
    Calls Try.prog 33 #[.pointer (some ⟨s, 0, none⟩), .int .i64 (k : Int), .slice ao n c] w fun e' w' => ∃ C' X', e' = .returned (.tuple #[.int .i64 (V.s.mark + (C.kp.length : Int)), .int .i64 0]) ∧ SInv D V C' pz ∧ C'.kp.map enP = C.kp.map enP ++ [(k, l)] ∧ X'.x.n ≤ X.x.n + 1 ∧ Mem w (foots [disk D p pg mb qv, blk f 117 (fC V p), sto C V.s.mark s f X]) w' [disk D p pg mb qv, blk f 117 (fC V p), sto C' V.s.mark s f X'] := by
  have hpl : D.pages.length ≤ 4096 := hS.inv.ok.hi
  refine (sstage_any hM (k : Int) ao n c l hr hnil hF hpl hXn).mono ?_
  rintro e' w' ⟨ge, ld, X', rfl, hn, h⟩
  obtain ⟨e0, hI⟩ := hS.stage hx hroom
  obtain ⟨e1, e2⟩ := stage_yes e0
  refine ⟨_, X', by rw [e0, e1], hI ge ld, ?_, hn, h⟩
  rw [e2]
  show (C.kp ++ [_]).map enP = _
  rw [List.map_append]
  rfl
theorem sload_ok (hM : Mem w (foots [disk D p pg mb qv, blk f 117 (fC V p), sto C V.s.mark s f X]) w [disk D p pg mb qv, blk f 117 (fC V p), sto C V.s.mark s f X]) (hS : SInv D V C pz) {n : Nat} {x : Nat × List UInt8} (hx : PgIs V C pz n x) (hXn : X.x.n < 100000000000000) :
    Calls Try.prog 39 #[.pointer (some ⟨s, 0, none⟩), .int .i64 (n : Int)] w fun e' w' => ∃ a c' r C' X', e' = .returned (.tuple #[.int .i64 (x.1 : Int), .slice a x.2.length c', .int .i64 0]) ∧ x.2.length ≤ 246 ∧ SInv { D with reads := r } V C' pz ∧ C'.kp = C.kp ∧ X'.x.n ≤ X.x.n + 1 ∧ Mem w (foots [disk D p pg mb qv, blk f 117 (fC V p), sto C V.s.mark s f X]) w' [bytesL (.slice a x.2.length c') x.2, disk { D with reads := r } p pg mb qv, blk f 117 (fC V p), sto C' V.s.mark s f X'] := by
  have hok := sto_ok (hM.get 2 rfl)
  have hfl := sto_flag (hM.get 2 rfl)
  have hm := hok.mk2
  have hlen : ∀ e, C.look (n : Int) = some e → e.l.length ≤ 1099511627776 := fun e he => by
    rcases List.mem_append.1 (look_some he).1 with h | h
    · have hk := hok.cl e h
      have hc := (hS.cl e h).2
      have hp : PageOk (pgAt pz e.k.toNat) := pgAt_ok hS.inv.plat.good (by have := hS.inv.plat.len; omega)
      have h3 : (pgAt pz e.k.toNat).2.length ≤ 246 := hp.2
      rw [hc]; omega
    · have := (hS.kd h).2; omega
  have hfl2 : (fReadL D V (n : Int)).length ≤ 1099511627776 := by
    by_cases hE : fReadE D V (n : Int) = 0
    · have h0 : ¬ liveE D V ≠ 0 := fun x => x hS.inv.isLive
      have hE' := hE
      unfold fReadE at hE'
      rw [if_neg h0] at hE'
      split at hE'
      · cases hE'
      · obtain ⟨_, _, f3, f4, _⟩ := hS.inv.read (n := n) (by omega) (by omega)
        have : (pgAt pz n).2.length ≤ 246 := f4.2
        rw [f3]; omega
    · rw [(fRead_no rfl hE).2]; exact Nat.zero_le _
  refine (sload_any hM (n : Int) hS.inv.fok hS.nx hlen hfl2 hXn).mono ?_
  rintro e' w' ⟨a, c', ge, ld, X', rfl, hn, h⟩
  rcases hx with ⟨h1, h2, h3⟩ | ⟨j, e, h1, h2, h3⟩
  · obtain ⟨r, g1, g2, g3⟩ := hS.load_old hfl hok h1 h2
    rw [g1] at h
    rw [h3] at h g2
    refine ⟨a, c', r, _, X', by rw [g1, h3], g2.2, (g3 ge ld).1, (g3 ge ld).2, hn, h⟩
  · rw [h1] at h
    obtain ⟨g1, g2⟩ := hS.load_new hfl hok h2
    rw [g1] at h
    have hk := hS.kp e (List.mem_of_getElem? h2)
    have hkd : ((x.1 : Nat) : Int) = e.kd := by rw [← h3]; exact Int.toNat_of_nonneg hk.2
    have hl : x.2 = e.l := by rw [← h3]; rfl
    rw [h1, g1, hkd, hl]
    refine ⟨a, c', D.reads, _, X', rfl, hk.1.2, (g2 ge ld).1, (g2 ge ld).2, hn, h⟩
theorem PgIs.same {C' : CS} {n : Nat} {x : Nat × List UInt8} (h : PgIs V C pz n x) (hk : C'.kp = C.kp) : PgIs V C' pz n x := by
  unfold PgIs
  rw [hk]
  exact h
end
end Go.Proofs.Ytfbamkgmnbobeaa
