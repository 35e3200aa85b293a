/- Texts joined: Def, Store7, Store8, Store9. -/
import Derived.Test.YtfbamkgmnbobeaaDoorSY03
import Derived.Test.YtfbamkgmnbobeaaDoorSY07
import Derived.Defers
import Derived.Test.YtfbamkgmnbobeaaDoorSY16
/- A deferred call at a function's end. No program in sight. -/
namespace Go.Proofs.YtfbamkgmnbobeaaDoor
set_option linter.unusedSimpArgs false
open Go Go.RowKit
set_option linter.unusedVariables false
set_option linter.unusedSectionVars false
section
variable {P : Program} {ops : Array Oper} {Q : Exit → Act → World → Prop} {o : Oper} {a : Act} {w : World} {K : Act → World → Prop} {x : Operand} {fn : Func} {R : Ending → World → Prop}
theorem postD_nil {v : Value} (hr : (results fn a.tmps).run P w = .ok v w) (hd : a.defers = []) (hR : R (.returned v) w) : bodyPostD P fn R .ret a w := by
  show Leaves P fn a.tmps R a.defers .returning w
  rw [hd]
  exact ⟨v, hr, hR⟩
theorem postD_one {f : FuncId} {cap : List Value} {T : World → Prop} (hd : a.defers = [⟨.fn (.func f) cap.toArray, #[]⟩]) (hf : ∀ ar w, (callFunc f ar).run P w = .ok (.enter f ar) w)
    (hc : CallsD P f cap.toArray .returning w fun e u' w' => u' = .returning ∧ (∃ v, e = .returned v) ∧ T w') (hk : ∀ w', T w' → ∃ v, (results fn a.tmps).run P w' = .ok v w' ∧ R (.returned v) w') : bodyPostD P fn R .ret a w := by
  show Leaves P fn a.tmps R a.defers .returning w
  rw [hd]
  refine leaves_cons (f := f) (args := cap.toArray) (by intro h; cases h) ?_ (hc.mono ?_)
  · simp only [invoke, Array.empty_append]
    exact hf _ w
  · rintro e u' w' ⟨rfl, ⟨v, rfl⟩, ht⟩
    exact hk w' ht
theorem e_defer {f : Fn} {ca : List Value} {ts : Array TypeId} (ho : o.op = .defer { callee := .value x, args := #[], argTypes := ts }) (hx : a.eval x = .func f #[] ca.toArray)
    (h : K ({ a with defers := ⟨.fn f ca.toArray, #[]⟩ :: a.defers }.put o.dst undef) w) : Oper.wp P o a w K Q := by
  unfold Oper.wp
  have hx : (execOp a.eval o).run P w = .ok (.defer ⟨.fn f ca.toArray, #[]⟩) w := by
    unfold execOp
    simp only [ho, resolve, hx, Deferred.ofValue, Sem.run_bind, Sem.run_pure, Result.andThen_ok, Array.empty_append, List.map_toArray, List.map_nil]
  rw [hx]
  exact h
theorem resv1 {tmps : Array Value} {p : Tmp} {ty : TypeId} {g : Nat} {T : TypeId} {v : Value} (h : fn.results = #[.cell p ty]) (hp : tmps.getD p undef = .pointer (some ⟨g, 0, none⟩)) (hg : (blk g T [v]).holds w) (hi : ∀ w, (isAgg ty).run P w = .ok false w) : (results fn tmps).run P w = .ok v w := by
  have hl := run_loadVar1 (P := P) (t := ty) w (hi w) (cell_of_blk hg (off := 0) rfl)
  rw [Array.getD_eq_getD_getElem?] at hp
  simp [results, h, hp, asAddr, hl]
theorem lst_range' {e : TypeId} {k g n c : Nat} {v : Value} {xs ys : List Value} (h : (lst e k v n xs).holds w) (hv : v = .slice (some ⟨g, 0, none⟩) n c) (off : Nat) (hy : (xs.drop off).take ys.length = ys) : w.rangeAt g off ys := by
  subst hv
  exact lst_range h off hy
theorem Mem.off2 {w0 : World} {F : List Nat} {G A B : Asn} {R : List Asn} (M : Mem w0 F w (G :: A :: B :: R)) {b : Nat} (hb : b ∈ G.foot) : b ∉ foots [A, B] := fun hx => by
  rw [foots_cons, foots_cons] at hx
  rcases List.mem_append.1 hx with h | h
  · exact M.apart 0 1 (by decide) rfl rfl hb h
  · rcases List.mem_append.1 h with h | h
    · exact M.apart 0 2 (by decide) rfl rfl hb h
    · cases h
end
end Go.Proofs.YtfbamkgmnbobeaaDoor

/- The store: what Flush is, its deferred call. -/
namespace Go.Proofs.YtfbamkgmnbobeaaDoor
set_option linter.unusedSectionVars false
open Go Go.RowKit
set_option linter.unusedVariables false
set_option linter.unusedSimpArgs false
theorem actD_qp (D : DV) : (actD D).q = D.q ∧ (actD D).pages = D.pages := by unfold actD; split <;> exact ⟨rfl, rfl⟩
theorem wrD_facts (D : DV) (p : Int) (d : List UInt8) : (writeD D p d).q.length ≤ D.q.length + 1 ∧ (writeD D p d).pages = D.pages := by
  unfold writeD
  split
  · exact ⟨Nat.le_succ _, rfl⟩
  · split
    · split
      · rw [(actD_qp _).1, (actD_qp _).2]; simp [openW]
      · exact ⟨Nat.le_succ _, rfl⟩
    · exact ⟨Nat.le_succ _, rfl⟩
theorem app_more2 {D : DV} {V : FV} {kind : Int} {l : List UInt8} (hV : FOk D V) (e0 : appE D V kind l = 0) : V.next < (D.pages.length : Int) ∧ FOk (appD D V kind l) (appV D V kind l) ∧ (appV D V kind l).s = V.s ∧ (appD D V kind l).q.length ≤ D.q.length + 1 ∧ (appD D V kind l).pages.length = D.pages.length := by
  have h1 : V.next < (D.pages.length : Int) := by
    unfold appE at e0
    split at e0
    · contradiction
    · split at e0
      · cases e0
      · split at e0
        · cases e0
        · split at e0
          · cases e0
          · omega
  have h2 : (appD D V kind l).q.length ≤ D.q.length + 1 ∧ (appD D V kind l).pages = D.pages := by
    unfold appD
    split
    · exact ⟨Nat.le_succ _, rfl⟩
    · exact wrD_facts D _ _
  have e2 := (app_yes e0).2
  refine ⟨h1, ⟨by rw [e2]; exact hV.valid, by rw [e2, h2.2]; exact hV.pages, by rw [e2]; show 2 ≤ V.next + 1; have := hV.lo; omega, by rw [e2]; show V.next + 1 ≤ V.s.pages; have := hV.pages; omega, by rw [e2]; show V.s.mark ≤ V.next + 1; have := hV.mark; omega⟩, by rw [e2], h2.1, by rw [h2.2]⟩
def appAll (D : DV) (V : FV) : List En → DV × FV × Int
  | [] => (D, V, 0)
  | e :: es => if appE D V e.kd e.l = 0 then appAll (appD D V e.kd e.l) (appV D V e.kd e.l) es else (appD D V e.kd e.l, V, appE D V e.kd e.l)
def forgetV (V : FV) : FV := { V with next := V.s.mark }
def flushR (D : DV) (V : FV) (C : CS) (head : Int) : DV × FV × Int :=
  if liveE D V ≠ 0 then (D, V, liveE D V)
  else if head ≠ 0 ∧ (head < 2 ∨ V.s.mark + (C.kp.length : Int) ≤ head) then (D, V, 41)
  else if 1099511627776 ≤ V.s.gen then (D, V, 5)
  else if (appAll D V C.kp).2.2 ≠ 0 then ((appAll D V C.kp).1, forgetV (appAll D V C.kp).2.1, (appAll D V C.kp).2.2)
  else if (pubR (appAll D V C.kp).1 (appAll D V C.kp).2.1 head).2 ≠ 0 then ((pubR (appAll D V C.kp).1 (appAll D V C.kp).2.1 head).1, forgetV (appAll D V C.kp).2.1, (pubR (appAll D V C.kp).1 (appAll D V C.kp).2.1 head).2)
  else ((pubR (appAll D V C.kp).1 (appAll D V C.kp).2.1 head).1, pubV (appAll D V C.kp).1 (appAll D V C.kp).2.1 head, 0)
def flushC (D : DV) (V : FV) (C : CS) (head : Int) : CS := if (flushR D V C head).2.2 = 0 then trimS (setS C) else C
theorem drop_cons {α : Type} {l : List α} {i : Nat} {e : α} (h : l[i]? = some e) : l.drop i = e :: l.drop (i + 1) := by
  obtain ⟨hi, rfl⟩ := List.getElem?_eq_some_iff.1 h
  exact List.drop_eq_getElem_cons hi
theorem SOk.flush {C : CS} {mk mk' : Int} {X : SX} (h : SOk C mk X) (x' : CX) (hm : mk' = mk + (C.kp.length : Int)) (hm2 : mk' ≤ 4096) : SOk (trimS (setS C)) mk' { X with x := x', sa := none, sc := 0 } := by
  have hm0 := h.mk2
  have mem : ∀ u ∈ (trimS (setS C)).cl, u ∈ C.cl ∨ ∃ e ∈ C.kp, u = { e with h := false } := fun u hu => by
    have hx : u ∈ C.cl ++ C.kp.map (fun e => { e with h := false }) := (List.drop_sublist _ _).subset hu
    rcases List.mem_append.1 hx with h1 | h1
    · exact .inl h1
    · obtain ⟨e, he, rfl⟩ := List.mem_map.1 h1
      exact .inr ⟨e, he, rfl⟩
  refine ⟨fun u hu => ?_, fun u hu => ?_, fun i e he => (by cases he), ?_, h.rm, Nat.zero_le _, ⟨by omega, hm2⟩⟩
  · rcases List.mem_append.1 hu with hu | hu
    · rcases mem u hu with h1 | ⟨e, he, rfl⟩
      · exact h.val u (List.mem_append_left _ h1)
      · exact h.val e (List.mem_append_right _ he)
    · cases hu
  · rcases mem u hu with h1 | ⟨e, he, rfl⟩
    · have := h.cl u h1; omega
    · obtain ⟨i, hi, hg⟩ := List.mem_iff_getElem.1 he
      have := h.kp i e (by rw [List.getElem?_eq_getElem hi, hg])
      show 2 ≤ e.k ∧ e.k < mk'
      omega
  · show ((setS C).cl.drop ((setS C).cl.length - C.room.toNat)).length ≤ C.room.toNat
    rw [List.length_drop]; omega
set_option maxRecDepth 100000 in
set_option maxHeartbeats 4000000 in
theorem flush1_err {D : DV} {V : FV} {s f p pg mb g2 g4 cc : Nat} {sv : Value} {qv : Value} {e0 : Int} {w : World} (hM : Mem w (foots [blk g4 28 ([.int .i64 e0]), blk g2 31 ([.pointer (some ⟨s, 0, none⟩)]), blk s 77 ([.pointer (some ⟨f, 0, none⟩), .func (.func 42) #[.pointer (some ⟨f, 0, none⟩)] #[], .pointer (some ⟨cc, 0, none⟩), sv]), disk D p pg mb qv, blk f 88 (fC V p)]) w [blk g4 28 ([.int .i64 e0]), blk g2 31 ([.pointer (some ⟨s, 0, none⟩)]), blk s 77 ([.pointer (some ⟨f, 0, none⟩), .func (.func 42) #[.pointer (some ⟨f, 0, none⟩)] #[], .pointer (some ⟨cc, 0, none⟩), sv]), disk D p pg mb qv, blk f 88 (fC V p)]) (he : e0 ≠ 0) : CallsD Tryd.prog 31 #[.pointer (some ⟨g4, 0, none⟩), .pointer (some ⟨g2, 0, none⟩)] .returning w fun e u' w' => u' = .returning ∧ ((∃ v, e = .returned v) ∧ Mem w (foots [blk g4 28 ([.int .i64 e0]), blk g2 31 ([.pointer (some ⟨s, 0, none⟩)]), blk s 77 ([.pointer (some ⟨f, 0, none⟩), .func (.func 42) #[.pointer (some ⟨f, 0, none⟩)] #[], .pointer (some ⟨cc, 0, none⟩), sv]), disk D p pg mb qv, blk f 88 (fC V p)]) w' [blk g4 28 ([.int .i64 e0]), blk g2 31 ([.pointer (some ⟨s, 0, none⟩)]), blk s 77 ([.pointer (some ⟨f, 0, none⟩), .func (.func 42) #[.pointer (some ⟨f, 0, none⟩)] #[], .pointer (some ⟨cc, 0, none⟩), sv]), disk D p pg mb qv, blk f 88 (fC ({ V with next := V.s.mark } : FV) p)]) := by
  have M := hM
  clear hM
  go_enter_d Tryd.func31, Tryd.ntmps31
  refine wp_seq_k (fun K1 hK1 => ?_)
  refine wp_region_lit ?_
  refine pl M (y_load (v := .int .i64 e0) rfl rfl rfl Tryd.isAgg28 (fun W hW => hW.get 0 rfl) (rfl)) ?_
  simp only [Act.put, zq1, zq2, zq3]
  refine pl M (y_neq (b := true) rfl rfl rfl rfl (by rw [decide_eq_false he]; rfl)) ?_
  simp only [Act.put, zq1, zq2, zq3]
  refine wpList_nil ?_
  refine hK1 _ _ ?_
  clear hK1
  refine wp_cond_true rfl ?_
  refine wp_region_lit ?_
  refine pl M (y_load (v := .pointer (some ⟨s, 0, none⟩)) rfl rfl rfl Tryd.isAgg31 (fun W hW => hW.get 1 rfl) (rfl)) ?_
  simp only [Act.put, zq1, zq2, zq3]
  refine pl M (y_nil rfl rfl rfl) ?_
  simp only [Act.put, zq1, zq2, zq3]
  refine pl M (y_fa (r := 0) rfl rfl rfl Tryd.underlying77 rfl Tryd.sizeOf65 rfl) ?_
  simp only [Act.put, zq1, zq2, zq3]
  refine pl M (y_load (v := .pointer (some ⟨f, 0, none⟩)) rfl rfl rfl Tryd.isAgg65 (fun W hW => hW.get 2 rfl) (rfl)) ?_
  simp only [Act.put, zq1, zq2, zq3]
  have hX2 : Mem w _ w ([disk D p pg mb qv, blk f 88 (fC V p)] ++ [blk g4 28 ([.int .i64 e0]), blk g2 31 ([.pointer (some ⟨s, 0, none⟩)]), blk s 77 ([.pointer (some ⟨f, 0, none⟩), .func (.func 42) #[.pointer (some ⟨f, 0, none⟩)] #[], .pointer (some ⟨cc, 0, none⟩), sv])]) := M.arr [3, 4, 0, 1, 2] (by decide)
  refine pe rfl (fun K hK => ?_)
  refine e_call 32 [.pointer (some ⟨f, 0, none⟩)] rfl rfl Tryd.call32 (forget_any (Mem.here hX2)) ?_
  rintro e w2 ⟨rfl, H2⟩
  have M2 : Mem w _ w2 [disk D p pg mb qv, blk f 88 (fC ({ V with next := V.s.mark } : FV) p), blk g4 28 ([.int .i64 e0]), blk g2 31 ([.pointer (some ⟨s, 0, none⟩)]), blk s 77 ([.pointer (some ⟨f, 0, none⟩), .func (.func 42) #[.pointer (some ⟨f, 0, none⟩)] #[], .pointer (some ⟨cc, 0, none⟩), sv])] := Mem.frame hX2 H2
  refine ⟨_, rfl, ?_⟩
  refine hK.out _ _ ?_
  clear hK K
  simp only [Act.put, zq1, zq2, zq3]
  refine wpList_nil ?_
  try simp only [Exit.inBlock, Exit.then]
  refine bodyPost_end (v := .tuple #[]) (res0 rfl) rfl ?_
  exact ⟨⟨_, rfl⟩, (M2.arr [2, 3, 4, 0, 1] (by decide))⟩
set_option maxRecDepth 100000 in
set_option maxHeartbeats 4000000 in
theorem flush1_ok {D : DV} {V : FV} {s f p pg mb g2 g4 cc : Nat} {sv : Value} {qv : Value} {e0 : Int} {w : World} (hM : Mem w (foots [blk g4 28 ([.int .i64 e0]), blk g2 31 ([.pointer (some ⟨s, 0, none⟩)]), blk s 77 ([.pointer (some ⟨f, 0, none⟩), .func (.func 42) #[.pointer (some ⟨f, 0, none⟩)] #[], .pointer (some ⟨cc, 0, none⟩), sv]), disk D p pg mb qv, blk f 88 (fC V p)]) w [blk g4 28 ([.int .i64 e0]), blk g2 31 ([.pointer (some ⟨s, 0, none⟩)]), blk s 77 ([.pointer (some ⟨f, 0, none⟩), .func (.func 42) #[.pointer (some ⟨f, 0, none⟩)] #[], .pointer (some ⟨cc, 0, none⟩), sv]), disk D p pg mb qv, blk f 88 (fC V p)]) (he : e0 = 0) : CallsD Tryd.prog 31 #[.pointer (some ⟨g4, 0, none⟩), .pointer (some ⟨g2, 0, none⟩)] .returning w fun e u' w' => u' = .returning ∧ ((∃ v, e = .returned v) ∧ Mem w (foots [blk g4 28 ([.int .i64 e0]), blk g2 31 ([.pointer (some ⟨s, 0, none⟩)]), blk s 77 ([.pointer (some ⟨f, 0, none⟩), .func (.func 42) #[.pointer (some ⟨f, 0, none⟩)] #[], .pointer (some ⟨cc, 0, none⟩), sv]), disk D p pg mb qv, blk f 88 (fC V p)]) w' [blk g4 28 ([.int .i64 e0]), blk g2 31 ([.pointer (some ⟨s, 0, none⟩)]), blk s 77 ([.pointer (some ⟨f, 0, none⟩), .func (.func 42) #[.pointer (some ⟨f, 0, none⟩)] #[], .pointer (some ⟨cc, 0, none⟩), sv]), disk D p pg mb qv, blk f 88 (fC V p)]) := by
  have M := hM
  clear hM
  go_enter_d Tryd.func31, Tryd.ntmps31
  refine wp_seq_k (fun K1 hK1 => ?_)
  refine wp_region_lit ?_
  refine pl M (y_load (v := .int .i64 e0) rfl rfl rfl Tryd.isAgg28 (fun W hW => hW.get 0 rfl) (rfl)) ?_
  simp only [Act.put, zq1, zq2, zq3]
  refine pl M (y_neq (b := false) rfl rfl rfl rfl (by rw [decide_eq_true he]; rfl)) ?_
  simp only [Act.put, zq1, zq2, zq3]
  refine wpList_nil ?_
  refine hK1 _ _ ?_
  clear hK1
  refine wp_cond_false rfl ?_
  refine wp_skip ?_
  try simp only [Exit.inBlock, Exit.then]
  refine bodyPost_end (v := .tuple #[]) (res0 rfl) rfl ?_
  exact ⟨⟨_, rfl⟩, (M.arr [0, 1, 2, 3, 4] (by decide))⟩
end Go.Proofs.YtfbamkgmnbobeaaDoor

/- The store: Flush refused. -/
namespace Go.Proofs.YtfbamkgmnbobeaaDoor
set_option linter.unusedSectionVars false
open Go Go.RowKit
set_option linter.unusedVariables false
set_option linter.unusedSimpArgs false
set_option maxRecDepth 100000 in
set_option maxHeartbeats 4000000 in
theorem sflush_dead {D : DV} {V : FV} {C : CS} {X : SX} {s f p pg mb : Nat} {qv : Value} {w : World} (hM : Mem w (foots [disk D p pg mb qv, blk f 88 (fC V p), sto C V.s.mark s f X]) w [disk D p pg mb qv, blk f 88 (fC V p), sto C V.s.mark s f X]) (head : Int) (hL : liveE D V ≠ 0) : Calls Tryd.prog 11 #[.pointer (some ⟨s, 0, none⟩), .int .i64 head] w fun e' w' => ∃ qv' X', e' = .returned (.int .i64 (flushR D V C head).2.2) ∧ X'.x.n = X.x.n ∧ Mem w (foots [disk D p pg mb qv, blk f 88 (fC V p), sto C V.s.mark s f X]) w' [disk (flushR D V C head).1 p pg mb qv', blk f 88 (fC (flushR D V C head).2.1 p), sto (flushC D V C head) (flushR D V C head).2.1.s.mark s f X'] := by
  have M := hM
  clear hM
  have hsk := sto_ok (M.get 2 rfl)
  have hm2 := hsk.mk2
  have hkl := hsk.kpl
  have hcl := hsk.room
  have hrm := hsk.rm
  go_enter_defers Tryd.func11, Tryd.ntmps11
  refine wp_seq_k (fun K1 hK1 => ?_)
  refine wp_region_lit ?_
  refine pe rfl (fun K hK => ?_)
  refine e_box1 M (.pointer (some ⟨s, 0, none⟩)) rfl rfl rfl ?_
  intro g2 w2 (M2 : Mem w _ w2 [blk g2 31 ([.pointer (some ⟨s, 0, none⟩)]), disk D p pg mb qv, blk f 88 (fC V p), sto C V.s.mark s f X])
  clear M
  refine hK.out _ _ ?_
  clear hK K
  simp only [Act.put, zq1, zq2, zq3]
  refine pe rfl (fun K hK => ?_)
  refine e_alloc1 M2 (.int .i64 0) rfl rfl Tryd.zeroValue28 ?_
  intro g4 w3 (M3 : Mem w _ w3 [blk g4 28 ([.int .i64 0]), blk g2 31 ([.pointer (some ⟨s, 0, none⟩)]), disk D p pg mb qv, blk f 88 (fC V p), sto C V.s.mark s f X])
  clear M2
  refine hK.out _ _ ?_
  clear hK K
  simp only [Act.put, zq1, zq2, zq3]
  refine wpList_nil ?_
  refine hK1 _ _ ?_
  clear hK1
  refine wp_seq_k (fun K4 hK4 => ?_)
  refine wp_seq_k (fun K5 hK5 => ?_)
  refine wp_region_lit ?_
  refine pl M3 (y_load (v := .pointer (some ⟨s, 0, none⟩)) rfl rfl rfl Tryd.isAgg31 (fun W hW => hW.get 1 rfl) (rfl)) ?_
  simp only [Act.put, zq1, zq2, zq3]
  have hX6 : Mem w _ w3 ([disk D p pg mb qv, blk f 88 (fC V p), sto C V.s.mark s f X] ++ [blk g4 28 ([.int .i64 0]), blk g2 31 ([.pointer (some ⟨s, 0, none⟩)])]) := M3.arr [2, 3, 4, 0, 1] (by decide)
  refine pe rfl (fun K hK => ?_)
  refine e_call 30 [.pointer (some ⟨s, 0, none⟩)] rfl rfl Tryd.call30 (slive_any (Mem.here hX6)) ?_
  rintro e w6 ⟨rfl, H6⟩
  have M6 : Mem w _ w6 [disk D p pg mb qv, blk f 88 (fC V p), sto C V.s.mark s f X, blk g4 28 ([.int .i64 0]), blk g2 31 ([.pointer (some ⟨s, 0, none⟩)])] := Mem.frame hX6 H6
  refine ⟨_, rfl, ?_⟩
  refine hK.out _ _ ?_
  clear hK K
  simp only [Act.put, zq1, zq2, zq3]
  refine pl M6 (y_assign (v := .int .i64 (liveE D V)) rfl rfl rfl) ?_
  simp only [Act.put, zq1, zq2, zq3]
  refine wpList_nil ?_
  refine hK5 _ _ ?_
  clear hK5
  refine wp_seq_k (fun K7 hK7 => ?_)
  refine wp_region_lit ?_
  refine pl M6 (y_move (v := .int .i64 (liveE D V)) rfl rfl rfl) ?_
  simp only [Act.put, zq1, zq2, zq3]
  refine pl M6 (y_neq (b := true) rfl rfl rfl rfl (by rw [decide_eq_false hL]; rfl)) ?_
  simp only [Act.put, zq1, zq2, zq3]
  refine wpList_nil ?_
  refine hK7 _ _ ?_
  clear hK7
  refine wp_cond_true rfl ?_
  refine wp_seq_k (fun K8 hK8 => ?_)
  refine wp_region_lit ?_
  refine pl M6 (y_move (v := .int .i64 (liveE D V)) rfl rfl rfl) ?_
  simp only [Act.put, zq1, zq2, zq3]
  refine pe rfl (fun K hK => ?_)
  refine e_store M6 3 (v := .int .i64 (liveE D V)) rfl rfl rfl rfl rfl rfl Tryd.sizeOf28 rfl (show (0 : Nat) < 1 by decide) ?_
  intro w9 (M9 : Mem w _ w9 [disk D p pg mb qv, blk f 88 (fC V p), sto C V.s.mark s f X, blk g4 28 ([.int .i64 (liveE D V)]), blk g2 31 ([.pointer (some ⟨s, 0, none⟩)])])
  clear M6
  refine hK.out _ _ ?_
  clear hK K
  simp only [Act.put, zq1, zq2, zq3]
  refine wpList_nil ?_
  refine hK8 _ _ ?_
  clear hK8
  refine wp_ret ?_
  try simp only [Exit.inBlock, Exit.then]
  refine postD_nil (v := .int .i64 (liveE D V)) (resv1 rfl rfl (M9.get 3 rfl) Tryd.isAgg28) rfl ?_
  have e0 : flushR D V C head = (D, V, liveE D V) := if_pos hL
  have e1 : flushC D V C head = C := if_neg (by rw [e0]; exact hL)
  rw [e1, e0]
  exact ⟨_, X, rfl, rfl, (M9.arr [0, 1, 2] (by decide))⟩
set_option maxRecDepth 100000 in
set_option maxHeartbeats 4000000 in
theorem sflush_low {D : DV} {V : FV} {C : CS} {X : SX} {s f p pg mb : Nat} {qv : Value} {w : World} (hM : Mem w (foots [disk D p pg mb qv, blk f 88 (fC V p), sto C V.s.mark s f X]) w [disk D p pg mb qv, blk f 88 (fC V p), sto C V.s.mark s f X]) (head : Int) (hL : liveE D V = 0) (h0 : ¬ head = 0) (h1 : head < 2) : Calls Tryd.prog 11 #[.pointer (some ⟨s, 0, none⟩), .int .i64 head] w fun e' w' => ∃ qv' X', e' = .returned (.int .i64 (flushR D V C head).2.2) ∧ X'.x.n = X.x.n ∧ Mem w (foots [disk D p pg mb qv, blk f 88 (fC V p), sto C V.s.mark s f X]) w' [disk (flushR D V C head).1 p pg mb qv', blk f 88 (fC (flushR D V C head).2.1 p), sto (flushC D V C head) (flushR D V C head).2.1.s.mark s f X'] := by
  have M := hM
  clear hM
  have hsk := sto_ok (M.get 2 rfl)
  have hm2 := hsk.mk2
  have hkl := hsk.kpl
  have hcl := hsk.room
  have hrm := hsk.rm
  go_enter_defers Tryd.func11, Tryd.ntmps11
  refine wp_seq_k (fun K1 hK1 => ?_)
  refine wp_region_lit ?_
  refine pe rfl (fun K hK => ?_)
  refine e_box1 M (.pointer (some ⟨s, 0, none⟩)) rfl rfl rfl ?_
  intro g2 w2 (M2 : Mem w _ w2 [blk g2 31 ([.pointer (some ⟨s, 0, none⟩)]), disk D p pg mb qv, blk f 88 (fC V p), sto C V.s.mark s f X])
  clear M
  refine hK.out _ _ ?_
  clear hK K
  simp only [Act.put, zq1, zq2, zq3]
  refine pe rfl (fun K hK => ?_)
  refine e_alloc1 M2 (.int .i64 0) rfl rfl Tryd.zeroValue28 ?_
  intro g4 w3 (M3 : Mem w _ w3 [blk g4 28 ([.int .i64 0]), blk g2 31 ([.pointer (some ⟨s, 0, none⟩)]), disk D p pg mb qv, blk f 88 (fC V p), sto C V.s.mark s f X])
  clear M2
  refine hK.out _ _ ?_
  clear hK K
  simp only [Act.put, zq1, zq2, zq3]
  refine wpList_nil ?_
  refine hK1 _ _ ?_
  clear hK1
  refine wp_seq_k (fun K4 hK4 => ?_)
  refine wp_seq_k (fun K5 hK5 => ?_)
  refine wp_region_lit ?_
  refine pl M3 (y_load (v := .pointer (some ⟨s, 0, none⟩)) rfl rfl rfl Tryd.isAgg31 (fun W hW => hW.get 1 rfl) (rfl)) ?_
  simp only [Act.put, zq1, zq2, zq3]
  have hX6 : Mem w _ w3 ([disk D p pg mb qv, blk f 88 (fC V p), sto C V.s.mark s f X] ++ [blk g4 28 ([.int .i64 0]), blk g2 31 ([.pointer (some ⟨s, 0, none⟩)])]) := M3.arr [2, 3, 4, 0, 1] (by decide)
  refine pe rfl (fun K hK => ?_)
  refine e_call 30 [.pointer (some ⟨s, 0, none⟩)] rfl rfl Tryd.call30 (slive_any (Mem.here hX6)) ?_
  rintro e w6 ⟨rfl, H6⟩
  have M6 : Mem w _ w6 [disk D p pg mb qv, blk f 88 (fC V p), sto C V.s.mark s f X, blk g4 28 ([.int .i64 0]), blk g2 31 ([.pointer (some ⟨s, 0, none⟩)])] := Mem.frame hX6 H6
  refine ⟨_, rfl, ?_⟩
  refine hK.out _ _ ?_
  clear hK K
  simp only [Act.put, zq1, zq2, zq3]
  refine pl M6 (y_assign (v := .int .i64 (liveE D V)) rfl rfl rfl) ?_
  simp only [Act.put, zq1, zq2, zq3]
  refine wpList_nil ?_
  refine hK5 _ _ ?_
  clear hK5
  refine wp_seq_k (fun K7 hK7 => ?_)
  refine wp_region_lit ?_
  refine pl M6 (y_move (v := .int .i64 (liveE D V)) rfl rfl rfl) ?_
  simp only [Act.put, zq1, zq2, zq3]
  refine pl M6 (y_neq (b := false) rfl rfl rfl rfl (by rw [decide_eq_true hL]; rfl)) ?_
  simp only [Act.put, zq1, zq2, zq3]
  refine wpList_nil ?_
  refine hK7 _ _ ?_
  clear hK7
  refine wp_cond_false rfl ?_
  refine wp_skip ?_
  refine hK4 _ _ ?_
  clear hK4
  refine wp_seq_k (fun K8 hK8 => ?_)
  refine wp_seq_k (fun K9 hK9 => ?_)
  refine wp_region_lit ?_
  refine pl M6 (y_move (v := .int .i64 head) rfl rfl rfl) ?_
  simp only [Act.put, zq1, zq2, zq3]
  refine pl M6 (y_neq (b := true) rfl rfl rfl rfl (by rw [decide_eq_false h0]; rfl)) ?_
  simp only [Act.put, zq1, zq2, zq3]
  refine pl M6 (y_move (v := .bool true) rfl rfl rfl) ?_
  simp only [Act.put, zq1, zq2, zq3]
  refine pl M6 (y_move (v := .int .i64 head) rfl rfl rfl) ?_
  simp only [Act.put, zq1, zq2, zq3]
  refine pl M6 (y_lss (b := true) rfl rfl rfl rfl (decide_eq_true h1)) ?_
  simp only [Act.put, zq1, zq2, zq3]
  refine pl M6 (y_move (v := .bool true) rfl rfl rfl) ?_
  simp only [Act.put, zq1, zq2, zq3]
  with_reducible refine pskip ?_ ?_
  · rfl
  simp only [Act.put, zq1, zq2, zq3]
  with_reducible refine pskip ?_ ?_
  · rfl
  simp only [Act.put, zq1, zq2, zq3]
  with_reducible refine pskip ?_ ?_
  · rfl
  simp only [Act.put, zq1, zq2, zq3]
  with_reducible refine pskip ?_ ?_
  · rfl
  simp only [Act.put, zq1, zq2, zq3]
  refine pl M6 (y_pickT (v := .bool true) rfl rfl rfl rfl) ?_
  simp only [Act.put, zq1, zq2, zq3]
  refine pl M6 (y_pickT (v := .bool true) rfl rfl rfl rfl) ?_
  simp only [Act.put, zq1, zq2, zq3]
  refine wpList_nil ?_
  refine hK9 _ _ ?_
  clear hK9
  refine wp_cond_true rfl ?_
  refine wp_seq_k (fun K10 hK10 => ?_)
  refine wp_region_lit ?_
  refine pe rfl (fun K hK => ?_)
  refine e_store M6 3 (v := .int .i64 41) rfl rfl rfl rfl rfl rfl Tryd.sizeOf28 rfl (show (0 : Nat) < 1 by decide) ?_
  intro w11 (M11 : Mem w _ w11 [disk D p pg mb qv, blk f 88 (fC V p), sto C V.s.mark s f X, blk g4 28 ([.int .i64 41]), blk g2 31 ([.pointer (some ⟨s, 0, none⟩)])])
  clear M6
  refine hK.out _ _ ?_
  clear hK K
  simp only [Act.put, zq1, zq2, zq3]
  refine wpList_nil ?_
  refine hK10 _ _ ?_
  clear hK10
  refine wp_ret ?_
  try simp only [Exit.inBlock, Exit.then]
  refine postD_nil (v := .int .i64 41) (resv1 rfl rfl (M11.get 3 rfl) Tryd.isAgg28) rfl ?_
  have e0 : flushR D V C head = (D, V, 41) := by unfold flushR; rw [if_neg (fun h => h hL), if_pos (by omega)]
  have e1 : flushC D V C head = C := if_neg (by rw [e0]; show ¬ (41 : Int) = 0; decide)
  rw [e1, e0]
  exact ⟨_, X, rfl, rfl, (M11.arr [0, 1, 2] (by decide))⟩
set_option maxRecDepth 100000 in
set_option maxHeartbeats 4000000 in
theorem sflush_high {D : DV} {V : FV} {C : CS} {X : SX} {s f p pg mb : Nat} {qv : Value} {w : World} (hM : Mem w (foots [disk D p pg mb qv, blk f 88 (fC V p), sto C V.s.mark s f X]) w [disk D p pg mb qv, blk f 88 (fC V p), sto C V.s.mark s f X]) (head : Int) (hL : liveE D V = 0) (h0 : ¬ head = 0) (h1 : ¬ head < 2) (h2 : V.s.mark + (C.kp.length : Int) ≤ head) : Calls Tryd.prog 11 #[.pointer (some ⟨s, 0, none⟩), .int .i64 head] w fun e' w' => ∃ qv' X', e' = .returned (.int .i64 (flushR D V C head).2.2) ∧ X'.x.n = X.x.n ∧ Mem w (foots [disk D p pg mb qv, blk f 88 (fC V p), sto C V.s.mark s f X]) w' [disk (flushR D V C head).1 p pg mb qv', blk f 88 (fC (flushR D V C head).2.1 p), sto (flushC D V C head) (flushR D V C head).2.1.s.mark s f X'] := by
  have M := hM
  clear hM
  have hsk := sto_ok (M.get 2 rfl)
  have hm2 := hsk.mk2
  have hkl := hsk.kpl
  have hcl := hsk.room
  have hrm := hsk.rm
  go_enter_defers Tryd.func11, Tryd.ntmps11
  refine wp_seq_k (fun K1 hK1 => ?_)
  refine wp_region_lit ?_
  refine pe rfl (fun K hK => ?_)
  refine e_box1 M (.pointer (some ⟨s, 0, none⟩)) rfl rfl rfl ?_
  intro g2 w2 (M2 : Mem w _ w2 [blk g2 31 ([.pointer (some ⟨s, 0, none⟩)]), disk D p pg mb qv, blk f 88 (fC V p), sto C V.s.mark s f X])
  clear M
  refine hK.out _ _ ?_
  clear hK K
  simp only [Act.put, zq1, zq2, zq3]
  refine pe rfl (fun K hK => ?_)
  refine e_alloc1 M2 (.int .i64 0) rfl rfl Tryd.zeroValue28 ?_
  intro g4 w3 (M3 : Mem w _ w3 [blk g4 28 ([.int .i64 0]), blk g2 31 ([.pointer (some ⟨s, 0, none⟩)]), disk D p pg mb qv, blk f 88 (fC V p), sto C V.s.mark s f X])
  clear M2
  refine hK.out _ _ ?_
  clear hK K
  simp only [Act.put, zq1, zq2, zq3]
  refine wpList_nil ?_
  refine hK1 _ _ ?_
  clear hK1
  refine wp_seq_k (fun K4 hK4 => ?_)
  refine wp_seq_k (fun K5 hK5 => ?_)
  refine wp_region_lit ?_
  refine pl M3 (y_load (v := .pointer (some ⟨s, 0, none⟩)) rfl rfl rfl Tryd.isAgg31 (fun W hW => hW.get 1 rfl) (rfl)) ?_
  simp only [Act.put, zq1, zq2, zq3]
  have hX6 : Mem w _ w3 ([disk D p pg mb qv, blk f 88 (fC V p), sto C V.s.mark s f X] ++ [blk g4 28 ([.int .i64 0]), blk g2 31 ([.pointer (some ⟨s, 0, none⟩)])]) := M3.arr [2, 3, 4, 0, 1] (by decide)
  refine pe rfl (fun K hK => ?_)
  refine e_call 30 [.pointer (some ⟨s, 0, none⟩)] rfl rfl Tryd.call30 (slive_any (Mem.here hX6)) ?_
  rintro e w6 ⟨rfl, H6⟩
  have M6 : Mem w _ w6 [disk D p pg mb qv, blk f 88 (fC V p), sto C V.s.mark s f X, blk g4 28 ([.int .i64 0]), blk g2 31 ([.pointer (some ⟨s, 0, none⟩)])] := Mem.frame hX6 H6
  refine ⟨_, rfl, ?_⟩
  refine hK.out _ _ ?_
  clear hK K
  simp only [Act.put, zq1, zq2, zq3]
  refine pl M6 (y_assign (v := .int .i64 (liveE D V)) rfl rfl rfl) ?_
  simp only [Act.put, zq1, zq2, zq3]
  refine wpList_nil ?_
  refine hK5 _ _ ?_
  clear hK5
  refine wp_seq_k (fun K7 hK7 => ?_)
  refine wp_region_lit ?_
  refine pl M6 (y_move (v := .int .i64 (liveE D V)) rfl rfl rfl) ?_
  simp only [Act.put, zq1, zq2, zq3]
  refine pl M6 (y_neq (b := false) rfl rfl rfl rfl (by rw [decide_eq_true hL]; rfl)) ?_
  simp only [Act.put, zq1, zq2, zq3]
  refine wpList_nil ?_
  refine hK7 _ _ ?_
  clear hK7
  refine wp_cond_false rfl ?_
  refine wp_skip ?_
  refine hK4 _ _ ?_
  clear hK4
  refine wp_seq_k (fun K8 hK8 => ?_)
  refine wp_seq_k (fun K9 hK9 => ?_)
  refine wp_region_lit ?_
  refine pl M6 (y_move (v := .int .i64 head) rfl rfl rfl) ?_
  simp only [Act.put, zq1, zq2, zq3]
  refine pl M6 (y_neq (b := true) rfl rfl rfl rfl (by rw [decide_eq_false h0]; rfl)) ?_
  simp only [Act.put, zq1, zq2, zq3]
  refine pl M6 (y_move (v := .bool true) rfl rfl rfl) ?_
  simp only [Act.put, zq1, zq2, zq3]
  refine pl M6 (y_move (v := .int .i64 head) rfl rfl rfl) ?_
  simp only [Act.put, zq1, zq2, zq3]
  refine pl M6 (y_lss (b := false) rfl rfl rfl rfl (decide_eq_false h1)) ?_
  simp only [Act.put, zq1, zq2, zq3]
  refine pl M6 (y_move (v := .bool false) rfl rfl rfl) ?_
  simp only [Act.put, zq1, zq2, zq3]
  refine pl M6 (y_move (v := .int .i64 head) rfl rfl rfl) ?_
  simp only [Act.put, zq1, zq2, zq3]
  refine pl M6 (y_load (v := .pointer (some ⟨s, 0, none⟩)) rfl rfl rfl Tryd.isAgg31 (fun W hW => hW.get 4 rfl) (rfl)) ?_
  simp only [Act.put, zq1, zq2, zq3]
  have hX10 : Mem w _ w6 ([disk D p pg mb qv, blk f 88 (fC V p), sto C V.s.mark s f X] ++ [blk g4 28 ([.int .i64 0]), blk g2 31 ([.pointer (some ⟨s, 0, none⟩)])]) := M6.arr [0, 1, 2, 3, 4] (by decide)
  refine pe rfl (fun K hK => ?_)
  refine e_call 15 [.pointer (some ⟨s, 0, none⟩)] rfl rfl Tryd.call15 (snext_any (Mem.here hX10)) ?_
  rintro e w10 ⟨rfl, H10⟩
  have M10 : Mem w _ w10 [disk D p pg mb qv, blk f 88 (fC V p), sto C V.s.mark s f X, blk g4 28 ([.int .i64 0]), blk g2 31 ([.pointer (some ⟨s, 0, none⟩)])] := Mem.frame hX10 H10
  refine ⟨_, rfl, ?_⟩
  refine hK.out _ _ ?_
  clear hK K
  simp only [Act.put, zq1, zq2, zq3]
  refine pl M10 (y_geq (b := true) rfl rfl rfl rfl (decide_eq_true h2)) ?_
  simp only [Act.put, zq1, zq2, zq3]
  refine pl M10 (y_pickF (v := .bool true) rfl rfl rfl rfl) ?_
  simp only [Act.put, zq1, zq2, zq3]
  refine pl M10 (y_pickT (v := .bool true) rfl rfl rfl rfl) ?_
  simp only [Act.put, zq1, zq2, zq3]
  refine wpList_nil ?_
  refine hK9 _ _ ?_
  clear hK9
  refine wp_cond_true rfl ?_
  refine wp_seq_k (fun K11 hK11 => ?_)
  refine wp_region_lit ?_
  refine pe rfl (fun K hK => ?_)
  refine e_store M10 3 (v := .int .i64 41) rfl rfl rfl rfl rfl rfl Tryd.sizeOf28 rfl (show (0 : Nat) < 1 by decide) ?_
  intro w12 (M12 : Mem w _ w12 [disk D p pg mb qv, blk f 88 (fC V p), sto C V.s.mark s f X, blk g4 28 ([.int .i64 41]), blk g2 31 ([.pointer (some ⟨s, 0, none⟩)])])
  clear M10
  refine hK.out _ _ ?_
  clear hK K
  simp only [Act.put, zq1, zq2, zq3]
  refine wpList_nil ?_
  refine hK11 _ _ ?_
  clear hK11
  refine wp_ret ?_
  try simp only [Exit.inBlock, Exit.then]
  refine postD_nil (v := .int .i64 41) (resv1 rfl rfl (M12.get 3 rfl) Tryd.isAgg28) rfl ?_
  have e0 : flushR D V C head = (D, V, 41) := by unfold flushR; rw [if_neg (fun h => h hL), if_pos (by omega)]
  have e1 : flushC D V C head = C := if_neg (by rw [e0]; show ¬ (41 : Int) = 0; decide)
  rw [e1, e0]
  exact ⟨_, X, rfl, rfl, (M12.arr [0, 1, 2] (by decide))⟩
set_option maxRecDepth 100000 in
set_option maxHeartbeats 4000000 in
theorem sflush_full_z {D : DV} {V : FV} {C : CS} {X : SX} {s f p pg mb : Nat} {qv : Value} {w : World} (hM : Mem w (foots [disk D p pg mb qv, blk f 88 (fC V p), sto C V.s.mark s f X]) w [disk D p pg mb qv, blk f 88 (fC V p), sto C V.s.mark s f X]) (head : Int) (hL : liveE D V = 0) (h0 : head = 0) (hg : 1099511627776 ≤ V.s.gen) : Calls Tryd.prog 11 #[.pointer (some ⟨s, 0, none⟩), .int .i64 head] w fun e' w' => ∃ qv' X', e' = .returned (.int .i64 (flushR D V C head).2.2) ∧ X'.x.n = X.x.n ∧ Mem w (foots [disk D p pg mb qv, blk f 88 (fC V p), sto C V.s.mark s f X]) w' [disk (flushR D V C head).1 p pg mb qv', blk f 88 (fC (flushR D V C head).2.1 p), sto (flushC D V C head) (flushR D V C head).2.1.s.mark s f X'] := by
  have M := hM
  clear hM
  have hsk := sto_ok (M.get 2 rfl)
  have hm2 := hsk.mk2
  have hkl := hsk.kpl
  have hcl := hsk.room
  have hrm := hsk.rm
  go_enter_defers Tryd.func11, Tryd.ntmps11
  refine wp_seq_k (fun K1 hK1 => ?_)
  refine wp_region_lit ?_
  refine pe rfl (fun K hK => ?_)
  refine e_box1 M (.pointer (some ⟨s, 0, none⟩)) rfl rfl rfl ?_
  intro g2 w2 (M2 : Mem w _ w2 [blk g2 31 ([.pointer (some ⟨s, 0, none⟩)]), disk D p pg mb qv, blk f 88 (fC V p), sto C V.s.mark s f X])
  clear M
  refine hK.out _ _ ?_
  clear hK K
  simp only [Act.put, zq1, zq2, zq3]
  refine pe rfl (fun K hK => ?_)
  refine e_alloc1 M2 (.int .i64 0) rfl rfl Tryd.zeroValue28 ?_
  intro g4 w3 (M3 : Mem w _ w3 [blk g4 28 ([.int .i64 0]), blk g2 31 ([.pointer (some ⟨s, 0, none⟩)]), disk D p pg mb qv, blk f 88 (fC V p), sto C V.s.mark s f X])
  clear M2
  refine hK.out _ _ ?_
  clear hK K
  simp only [Act.put, zq1, zq2, zq3]
  refine wpList_nil ?_
  refine hK1 _ _ ?_
  clear hK1
  refine wp_seq_k (fun K4 hK4 => ?_)
  refine wp_seq_k (fun K5 hK5 => ?_)
  refine wp_region_lit ?_
  refine pl M3 (y_load (v := .pointer (some ⟨s, 0, none⟩)) rfl rfl rfl Tryd.isAgg31 (fun W hW => hW.get 1 rfl) (rfl)) ?_
  simp only [Act.put, zq1, zq2, zq3]
  have hX6 : Mem w _ w3 ([disk D p pg mb qv, blk f 88 (fC V p), sto C V.s.mark s f X] ++ [blk g4 28 ([.int .i64 0]), blk g2 31 ([.pointer (some ⟨s, 0, none⟩)])]) := M3.arr [2, 3, 4, 0, 1] (by decide)
  refine pe rfl (fun K hK => ?_)
  refine e_call 30 [.pointer (some ⟨s, 0, none⟩)] rfl rfl Tryd.call30 (slive_any (Mem.here hX6)) ?_
  rintro e w6 ⟨rfl, H6⟩
  have M6 : Mem w _ w6 [disk D p pg mb qv, blk f 88 (fC V p), sto C V.s.mark s f X, blk g4 28 ([.int .i64 0]), blk g2 31 ([.pointer (some ⟨s, 0, none⟩)])] := Mem.frame hX6 H6
  refine ⟨_, rfl, ?_⟩
  refine hK.out _ _ ?_
  clear hK K
  simp only [Act.put, zq1, zq2, zq3]
  refine pl M6 (y_assign (v := .int .i64 (liveE D V)) rfl rfl rfl) ?_
  simp only [Act.put, zq1, zq2, zq3]
  refine wpList_nil ?_
  refine hK5 _ _ ?_
  clear hK5
  refine wp_seq_k (fun K7 hK7 => ?_)
  refine wp_region_lit ?_
  refine pl M6 (y_move (v := .int .i64 (liveE D V)) rfl rfl rfl) ?_
  simp only [Act.put, zq1, zq2, zq3]
  refine pl M6 (y_neq (b := false) rfl rfl rfl rfl (by rw [decide_eq_true hL]; rfl)) ?_
  simp only [Act.put, zq1, zq2, zq3]
  refine wpList_nil ?_
  refine hK7 _ _ ?_
  clear hK7
  refine wp_cond_false rfl ?_
  refine wp_skip ?_
  refine hK4 _ _ ?_
  clear hK4
  refine wp_seq_k (fun K8 hK8 => ?_)
  refine wp_seq_k (fun K9 hK9 => ?_)
  refine wp_region_lit ?_
  refine pl M6 (y_move (v := .int .i64 head) rfl rfl rfl) ?_
  simp only [Act.put, zq1, zq2, zq3]
  refine pl M6 (y_neq (b := false) rfl rfl rfl rfl (by rw [decide_eq_true h0]; rfl)) ?_
  simp only [Act.put, zq1, zq2, zq3]
  refine pl M6 (y_move (v := .bool false) rfl rfl rfl) ?_
  simp only [Act.put, zq1, zq2, zq3]
  with_reducible refine pskip ?_ ?_
  · rfl
  simp only [Act.put, zq1, zq2, zq3]
  with_reducible refine pskip ?_ ?_
  · rfl
  simp only [Act.put, zq1, zq2, zq3]
  with_reducible refine pskip ?_ ?_
  · rfl
  simp only [Act.put, zq1, zq2, zq3]
  with_reducible refine pskip ?_ ?_
  · rfl
  simp only [Act.put, zq1, zq2, zq3]
  with_reducible refine pskip ?_ ?_
  · rfl
  simp only [Act.put, zq1, zq2, zq3]
  with_reducible refine pskip ?_ ?_
  · rfl
  simp only [Act.put, zq1, zq2, zq3]
  with_reducible refine pskip ?_ ?_
  · rfl
  simp only [Act.put, zq1, zq2, zq3]
  with_reducible refine pskip ?_ ?_
  · rfl
  simp only [Act.put, zq1, zq2, zq3]
  refine pl M6 (y_pickF (v := .bool false) rfl rfl rfl rfl) ?_
  simp only [Act.put, zq1, zq2, zq3]
  refine wpList_nil ?_
  refine hK9 _ _ ?_
  clear hK9
  refine wp_cond_false rfl ?_
  refine wp_skip ?_
  refine hK8 _ _ ?_
  clear hK8
  refine wp_seq_k (fun K10 hK10 => ?_)
  refine wp_seq_k (fun K11 hK11 => ?_)
  refine wp_region_lit ?_
  refine pl M6 (y_load (v := .pointer (some ⟨s, 0, none⟩)) rfl rfl rfl Tryd.isAgg31 (fun W hW => hW.get 4 rfl) (rfl)) ?_
  simp only [Act.put, zq1, zq2, zq3]
  have hX12 : Mem w _ w6 ([disk D p pg mb qv, blk f 88 (fC V p), sto C V.s.mark s f X] ++ [blk g4 28 ([.int .i64 0]), blk g2 31 ([.pointer (some ⟨s, 0, none⟩)])]) := M6.arr [0, 1, 2, 3, 4] (by decide)
  refine pe rfl (fun K hK => ?_)
  refine e_call 12 [.pointer (some ⟨s, 0, none⟩)] rfl rfl Tryd.call12 (ssuper_any (Mem.here hX12)) ?_
  rintro e w12 ⟨rfl, H12⟩
  have M12 : Mem w _ w12 [disk D p pg mb qv, blk f 88 (fC V p), sto C V.s.mark s f X, blk g4 28 ([.int .i64 0]), blk g2 31 ([.pointer (some ⟨s, 0, none⟩)])] := Mem.frame hX12 H12
  refine ⟨_, rfl, ?_⟩
  refine hK.out _ _ ?_
  clear hK K
  simp only [Act.put, zq1, zq2, zq3]
  refine pl M12 (y_field1 (v := .int .i64 V.s.gen) rfl rfl rfl Tryd.underlying26 rfl Tryd.isAgg3 rfl) ?_
  simp only [Act.put, zq1, zq2, zq3]
  refine pl M12 (y_geq (b := true) rfl rfl rfl rfl (decide_eq_true hg)) ?_
  simp only [Act.put, zq1, zq2, zq3]
  refine wpList_nil ?_
  refine hK11 _ _ ?_
  clear hK11
  refine wp_cond_true rfl ?_
  refine wp_seq_k (fun K13 hK13 => ?_)
  refine wp_region_lit ?_
  refine pe rfl (fun K hK => ?_)
  refine e_store M12 3 (v := .int .i64 5) rfl rfl rfl rfl rfl rfl Tryd.sizeOf28 rfl (show (0 : Nat) < 1 by decide) ?_
  intro w14 (M14 : Mem w _ w14 [disk D p pg mb qv, blk f 88 (fC V p), sto C V.s.mark s f X, blk g4 28 ([.int .i64 5]), blk g2 31 ([.pointer (some ⟨s, 0, none⟩)])])
  clear M12
  refine hK.out _ _ ?_
  clear hK K
  simp only [Act.put, zq1, zq2, zq3]
  refine wpList_nil ?_
  refine hK13 _ _ ?_
  clear hK13
  refine wp_ret ?_
  try simp only [Exit.inBlock, Exit.then]
  refine postD_nil (v := .int .i64 5) (resv1 rfl rfl (M14.get 3 rfl) Tryd.isAgg28) rfl ?_
  have e0 : flushR D V C head = (D, V, 5) := by unfold flushR; rw [if_neg (fun h => h hL), if_neg (by omega), if_pos hg]
  have e1 : flushC D V C head = C := if_neg (by rw [e0]; show ¬ (5 : Int) = 0; decide)
  rw [e1, e0]
  exact ⟨_, X, rfl, rfl, (M14.arr [0, 1, 2] (by decide))⟩
set_option maxRecDepth 100000 in
set_option maxHeartbeats 4000000 in
theorem sflush_full_h {D : DV} {V : FV} {C : CS} {X : SX} {s f p pg mb : Nat} {qv : Value} {w : World} (hM : Mem w (foots [disk D p pg mb qv, blk f 88 (fC V p), sto C V.s.mark s f X]) w [disk D p pg mb qv, blk f 88 (fC V p), sto C V.s.mark s f X]) (head : Int) (hL : liveE D V = 0) (h0 : ¬ head = 0) (h1 : ¬ head < 2) (h2 : ¬ V.s.mark + (C.kp.length : Int) ≤ head) (hg : 1099511627776 ≤ V.s.gen) : Calls Tryd.prog 11 #[.pointer (some ⟨s, 0, none⟩), .int .i64 head] w fun e' w' => ∃ qv' X', e' = .returned (.int .i64 (flushR D V C head).2.2) ∧ X'.x.n = X.x.n ∧ Mem w (foots [disk D p pg mb qv, blk f 88 (fC V p), sto C V.s.mark s f X]) w' [disk (flushR D V C head).1 p pg mb qv', blk f 88 (fC (flushR D V C head).2.1 p), sto (flushC D V C head) (flushR D V C head).2.1.s.mark s f X'] := by
  have M := hM
  clear hM
  have hsk := sto_ok (M.get 2 rfl)
  have hm2 := hsk.mk2
  have hkl := hsk.kpl
  have hcl := hsk.room
  have hrm := hsk.rm
  go_enter_defers Tryd.func11, Tryd.ntmps11
  refine wp_seq_k (fun K1 hK1 => ?_)
  refine wp_region_lit ?_
  refine pe rfl (fun K hK => ?_)
  refine e_box1 M (.pointer (some ⟨s, 0, none⟩)) rfl rfl rfl ?_
  intro g2 w2 (M2 : Mem w _ w2 [blk g2 31 ([.pointer (some ⟨s, 0, none⟩)]), disk D p pg mb qv, blk f 88 (fC V p), sto C V.s.mark s f X])
  clear M
  refine hK.out _ _ ?_
  clear hK K
  simp only [Act.put, zq1, zq2, zq3]
  refine pe rfl (fun K hK => ?_)
  refine e_alloc1 M2 (.int .i64 0) rfl rfl Tryd.zeroValue28 ?_
  intro g4 w3 (M3 : Mem w _ w3 [blk g4 28 ([.int .i64 0]), blk g2 31 ([.pointer (some ⟨s, 0, none⟩)]), disk D p pg mb qv, blk f 88 (fC V p), sto C V.s.mark s f X])
  clear M2
  refine hK.out _ _ ?_
  clear hK K
  simp only [Act.put, zq1, zq2, zq3]
  refine wpList_nil ?_
  refine hK1 _ _ ?_
  clear hK1
  refine wp_seq_k (fun K4 hK4 => ?_)
  refine wp_seq_k (fun K5 hK5 => ?_)
  refine wp_region_lit ?_
  refine pl M3 (y_load (v := .pointer (some ⟨s, 0, none⟩)) rfl rfl rfl Tryd.isAgg31 (fun W hW => hW.get 1 rfl) (rfl)) ?_
  simp only [Act.put, zq1, zq2, zq3]
  have hX6 : Mem w _ w3 ([disk D p pg mb qv, blk f 88 (fC V p), sto C V.s.mark s f X] ++ [blk g4 28 ([.int .i64 0]), blk g2 31 ([.pointer (some ⟨s, 0, none⟩)])]) := M3.arr [2, 3, 4, 0, 1] (by decide)
  refine pe rfl (fun K hK => ?_)
  refine e_call 30 [.pointer (some ⟨s, 0, none⟩)] rfl rfl Tryd.call30 (slive_any (Mem.here hX6)) ?_
  rintro e w6 ⟨rfl, H6⟩
  have M6 : Mem w _ w6 [disk D p pg mb qv, blk f 88 (fC V p), sto C V.s.mark s f X, blk g4 28 ([.int .i64 0]), blk g2 31 ([.pointer (some ⟨s, 0, none⟩)])] := Mem.frame hX6 H6
  refine ⟨_, rfl, ?_⟩
  refine hK.out _ _ ?_
  clear hK K
  simp only [Act.put, zq1, zq2, zq3]
  refine pl M6 (y_assign (v := .int .i64 (liveE D V)) rfl rfl rfl) ?_
  simp only [Act.put, zq1, zq2, zq3]
  refine wpList_nil ?_
  refine hK5 _ _ ?_
  clear hK5
  refine wp_seq_k (fun K7 hK7 => ?_)
  refine wp_region_lit ?_
  refine pl M6 (y_move (v := .int .i64 (liveE D V)) rfl rfl rfl) ?_
  simp only [Act.put, zq1, zq2, zq3]
  refine pl M6 (y_neq (b := false) rfl rfl rfl rfl (by rw [decide_eq_true hL]; rfl)) ?_
  simp only [Act.put, zq1, zq2, zq3]
  refine wpList_nil ?_
  refine hK7 _ _ ?_
  clear hK7
  refine wp_cond_false rfl ?_
  refine wp_skip ?_
  refine hK4 _ _ ?_
  clear hK4
  refine wp_seq_k (fun K8 hK8 => ?_)
  refine wp_seq_k (fun K9 hK9 => ?_)
  refine wp_region_lit ?_
  refine pl M6 (y_move (v := .int .i64 head) rfl rfl rfl) ?_
  simp only [Act.put, zq1, zq2, zq3]
  refine pl M6 (y_neq (b := true) rfl rfl rfl rfl (by rw [decide_eq_false h0]; rfl)) ?_
  simp only [Act.put, zq1, zq2, zq3]
  refine pl M6 (y_move (v := .bool true) rfl rfl rfl) ?_
  simp only [Act.put, zq1, zq2, zq3]
  refine pl M6 (y_move (v := .int .i64 head) rfl rfl rfl) ?_
  simp only [Act.put, zq1, zq2, zq3]
  refine pl M6 (y_lss (b := false) rfl rfl rfl rfl (decide_eq_false h1)) ?_
  simp only [Act.put, zq1, zq2, zq3]
  refine pl M6 (y_move (v := .bool false) rfl rfl rfl) ?_
  simp only [Act.put, zq1, zq2, zq3]
  refine pl M6 (y_move (v := .int .i64 head) rfl rfl rfl) ?_
  simp only [Act.put, zq1, zq2, zq3]
  refine pl M6 (y_load (v := .pointer (some ⟨s, 0, none⟩)) rfl rfl rfl Tryd.isAgg31 (fun W hW => hW.get 4 rfl) (rfl)) ?_
  simp only [Act.put, zq1, zq2, zq3]
  have hX10 : Mem w _ w6 ([disk D p pg mb qv, blk f 88 (fC V p), sto C V.s.mark s f X] ++ [blk g4 28 ([.int .i64 0]), blk g2 31 ([.pointer (some ⟨s, 0, none⟩)])]) := M6.arr [0, 1, 2, 3, 4] (by decide)
  refine pe rfl (fun K hK => ?_)
  refine e_call 15 [.pointer (some ⟨s, 0, none⟩)] rfl rfl Tryd.call15 (snext_any (Mem.here hX10)) ?_
  rintro e w10 ⟨rfl, H10⟩
  have M10 : Mem w _ w10 [disk D p pg mb qv, blk f 88 (fC V p), sto C V.s.mark s f X, blk g4 28 ([.int .i64 0]), blk g2 31 ([.pointer (some ⟨s, 0, none⟩)])] := Mem.frame hX10 H10
  refine ⟨_, rfl, ?_⟩
  refine hK.out _ _ ?_
  clear hK K
  simp only [Act.put, zq1, zq2, zq3]
  refine pl M10 (y_geq (b := false) rfl rfl rfl rfl (decide_eq_false h2)) ?_
  simp only [Act.put, zq1, zq2, zq3]
  refine pl M10 (y_pickF (v := .bool false) rfl rfl rfl rfl) ?_
  simp only [Act.put, zq1, zq2, zq3]
  refine pl M10 (y_pickT (v := .bool false) rfl rfl rfl rfl) ?_
  simp only [Act.put, zq1, zq2, zq3]
  refine wpList_nil ?_
  refine hK9 _ _ ?_
  clear hK9
  refine wp_cond_false rfl ?_
  refine wp_skip ?_
  refine hK8 _ _ ?_
  clear hK8
  refine wp_seq_k (fun K11 hK11 => ?_)
  refine wp_seq_k (fun K12 hK12 => ?_)
  refine wp_region_lit ?_
  refine pl M10 (y_load (v := .pointer (some ⟨s, 0, none⟩)) rfl rfl rfl Tryd.isAgg31 (fun W hW => hW.get 4 rfl) (rfl)) ?_
  simp only [Act.put, zq1, zq2, zq3]
  have hX13 : Mem w _ w10 ([disk D p pg mb qv, blk f 88 (fC V p), sto C V.s.mark s f X] ++ [blk g4 28 ([.int .i64 0]), blk g2 31 ([.pointer (some ⟨s, 0, none⟩)])]) := M10.arr [0, 1, 2, 3, 4] (by decide)
  refine pe rfl (fun K hK => ?_)
  refine e_call 12 [.pointer (some ⟨s, 0, none⟩)] rfl rfl Tryd.call12 (ssuper_any (Mem.here hX13)) ?_
  rintro e w13 ⟨rfl, H13⟩
  have M13 : Mem w _ w13 [disk D p pg mb qv, blk f 88 (fC V p), sto C V.s.mark s f X, blk g4 28 ([.int .i64 0]), blk g2 31 ([.pointer (some ⟨s, 0, none⟩)])] := Mem.frame hX13 H13
  refine ⟨_, rfl, ?_⟩
  refine hK.out _ _ ?_
  clear hK K
  simp only [Act.put, zq1, zq2, zq3]
  refine pl M13 (y_field1 (v := .int .i64 V.s.gen) rfl rfl rfl Tryd.underlying26 rfl Tryd.isAgg3 rfl) ?_
  simp only [Act.put, zq1, zq2, zq3]
  refine pl M13 (y_geq (b := true) rfl rfl rfl rfl (decide_eq_true hg)) ?_
  simp only [Act.put, zq1, zq2, zq3]
  refine wpList_nil ?_
  refine hK12 _ _ ?_
  clear hK12
  refine wp_cond_true rfl ?_
  refine wp_seq_k (fun K14 hK14 => ?_)
  refine wp_region_lit ?_
  refine pe rfl (fun K hK => ?_)
  refine e_store M13 3 (v := .int .i64 5) rfl rfl rfl rfl rfl rfl Tryd.sizeOf28 rfl (show (0 : Nat) < 1 by decide) ?_
  intro w15 (M15 : Mem w _ w15 [disk D p pg mb qv, blk f 88 (fC V p), sto C V.s.mark s f X, blk g4 28 ([.int .i64 5]), blk g2 31 ([.pointer (some ⟨s, 0, none⟩)])])
  clear M13
  refine hK.out _ _ ?_
  clear hK K
  simp only [Act.put, zq1, zq2, zq3]
  refine wpList_nil ?_
  refine hK14 _ _ ?_
  clear hK14
  refine wp_ret ?_
  try simp only [Exit.inBlock, Exit.then]
  refine postD_nil (v := .int .i64 5) (resv1 rfl rfl (M15.get 3 rfl) Tryd.isAgg28) rfl ?_
  have e0 : flushR D V C head = (D, V, 5) := by unfold flushR; rw [if_neg (fun h => h hL), if_neg (by omega), if_pos hg]
  have e1 : flushC D V C head = C := if_neg (by rw [e0]; show ¬ (5 : Int) = 0; decide)
  rw [e1, e0]
  exact ⟨_, X, rfl, rfl, (M15.arr [0, 1, 2] (by decide))⟩
end Go.Proofs.YtfbamkgmnbobeaaDoor

/- The store: Flush. -/
namespace Go.Proofs.YtfbamkgmnbobeaaDoor
set_option linter.unusedSectionVars false
open Go Go.RowKit
set_option linter.unusedVariables false
set_option linter.unusedSimpArgs false
set_option maxRecDepth 100000 in
set_option maxHeartbeats 4000000 in
theorem sflush_go_z {D : DV} {V : FV} {C : CS} {X : SX} {s f p pg mb : Nat} {qv : Value} {w : World} (hM : Mem w (foots [disk D p pg mb qv, blk f 88 (fC V p), sto C V.s.mark s f X]) w [disk D p pg mb qv, blk f 88 (fC V p), sto C V.s.mark s f X]) (head : Int) (hL : liveE D V = 0) (h0 : head = 0) (hg : ¬ 1099511627776 ≤ V.s.gen) (hV : FOk D V) (hnx : V.next = V.s.mark) (hq : D.q.length ≤ 300000000000) (hpl : D.pages.length ≤ 4096) : Calls Tryd.prog 11 #[.pointer (some ⟨s, 0, none⟩), .int .i64 head] w fun e' w' => ∃ qv' X', e' = .returned (.int .i64 (flushR D V C head).2.2) ∧ X'.x.n = X.x.n ∧ Mem w (foots [disk D p pg mb qv, blk f 88 (fC V p), sto C V.s.mark s f X]) w' [disk (flushR D V C head).1 p pg mb qv', blk f 88 (fC (flushR D V C head).2.1 p), sto (flushC D V C head) (flushR D V C head).2.1.s.mark s f X'] := by
  have M := hM
  clear hM
  have hsk := sto_ok (M.get 2 rfl)
  have hm2 := hsk.mk2
  have hkl := hsk.kpl
  have hcl := hsk.room
  have hrm := hsk.rm
  go_enter_defers Tryd.func11, Tryd.ntmps11
  refine wp_seq_k (fun K1 hK1 => ?_)
  refine wp_region_lit ?_
  refine pe rfl (fun K hK => ?_)
  refine e_box1 M (.pointer (some ⟨s, 0, none⟩)) rfl rfl rfl ?_
  intro g2 w2 (M2 : Mem w _ w2 [blk g2 31 ([.pointer (some ⟨s, 0, none⟩)]), disk D p pg mb qv, blk f 88 (fC V p), sto C V.s.mark s f X])
  clear M
  refine hK.out _ _ ?_
  clear hK K
  simp only [Act.put, zq1, zq2, zq3]
  refine pe rfl (fun K hK => ?_)
  refine e_alloc1 M2 (.int .i64 0) rfl rfl Tryd.zeroValue28 ?_
  intro g4 w3 (M3 : Mem w _ w3 [blk g4 28 ([.int .i64 0]), blk g2 31 ([.pointer (some ⟨s, 0, none⟩)]), disk D p pg mb qv, blk f 88 (fC V p), sto C V.s.mark s f X])
  clear M2
  refine hK.out _ _ ?_
  clear hK K
  simp only [Act.put, zq1, zq2, zq3]
  refine wpList_nil ?_
  refine hK1 _ _ ?_
  clear hK1
  refine wp_seq_k (fun K4 hK4 => ?_)
  refine wp_seq_k (fun K5 hK5 => ?_)
  refine wp_region_lit ?_
  refine pl M3 (y_load (v := .pointer (some ⟨s, 0, none⟩)) rfl rfl rfl Tryd.isAgg31 (fun W hW => hW.get 1 rfl) (rfl)) ?_
  simp only [Act.put, zq1, zq2, zq3]
  have hX6 : Mem w _ w3 ([disk D p pg mb qv, blk f 88 (fC V p), sto C V.s.mark s f X] ++ [blk g4 28 ([.int .i64 0]), blk g2 31 ([.pointer (some ⟨s, 0, none⟩)])]) := M3.arr [2, 3, 4, 0, 1] (by decide)
  refine pe rfl (fun K hK => ?_)
  refine e_call 30 [.pointer (some ⟨s, 0, none⟩)] rfl rfl Tryd.call30 (slive_any (Mem.here hX6)) ?_
  rintro e w6 ⟨rfl, H6⟩
  have M6 : Mem w _ w6 [disk D p pg mb qv, blk f 88 (fC V p), sto C V.s.mark s f X, blk g4 28 ([.int .i64 0]), blk g2 31 ([.pointer (some ⟨s, 0, none⟩)])] := Mem.frame hX6 H6
  refine ⟨_, rfl, ?_⟩
  refine hK.out _ _ ?_
  clear hK K
  simp only [Act.put, zq1, zq2, zq3]
  refine pl M6 (y_assign (v := .int .i64 (liveE D V)) rfl rfl rfl) ?_
  simp only [Act.put, zq1, zq2, zq3]
  refine wpList_nil ?_
  refine hK5 _ _ ?_
  clear hK5
  refine wp_seq_k (fun K7 hK7 => ?_)
  refine wp_region_lit ?_
  refine pl M6 (y_move (v := .int .i64 (liveE D V)) rfl rfl rfl) ?_
  simp only [Act.put, zq1, zq2, zq3]
  refine pl M6 (y_neq (b := false) rfl rfl rfl rfl (by rw [decide_eq_true hL]; rfl)) ?_
  simp only [Act.put, zq1, zq2, zq3]
  refine wpList_nil ?_
  refine hK7 _ _ ?_
  clear hK7
  refine wp_cond_false rfl ?_
  refine wp_skip ?_
  refine hK4 _ _ ?_
  clear hK4
  refine wp_seq_k (fun K8 hK8 => ?_)
  refine wp_seq_k (fun K9 hK9 => ?_)
  refine wp_region_lit ?_
  refine pl M6 (y_move (v := .int .i64 head) rfl rfl rfl) ?_
  simp only [Act.put, zq1, zq2, zq3]
  refine pl M6 (y_neq (b := false) rfl rfl rfl rfl (by rw [decide_eq_true h0]; rfl)) ?_
  simp only [Act.put, zq1, zq2, zq3]
  refine pl M6 (y_move (v := .bool false) rfl rfl rfl) ?_
  simp only [Act.put, zq1, zq2, zq3]
  with_reducible refine pskip ?_ ?_
  · rfl
  simp only [Act.put, zq1, zq2, zq3]
  with_reducible refine pskip ?_ ?_
  · rfl
  simp only [Act.put, zq1, zq2, zq3]
  with_reducible refine pskip ?_ ?_
  · rfl
  simp only [Act.put, zq1, zq2, zq3]
  with_reducible refine pskip ?_ ?_
  · rfl
  simp only [Act.put, zq1, zq2, zq3]
  with_reducible refine pskip ?_ ?_
  · rfl
  simp only [Act.put, zq1, zq2, zq3]
  with_reducible refine pskip ?_ ?_
  · rfl
  simp only [Act.put, zq1, zq2, zq3]
  with_reducible refine pskip ?_ ?_
  · rfl
  simp only [Act.put, zq1, zq2, zq3]
  with_reducible refine pskip ?_ ?_
  · rfl
  simp only [Act.put, zq1, zq2, zq3]
  refine pl M6 (y_pickF (v := .bool false) rfl rfl rfl rfl) ?_
  simp only [Act.put, zq1, zq2, zq3]
  refine wpList_nil ?_
  refine hK9 _ _ ?_
  clear hK9
  refine wp_cond_false rfl ?_
  refine wp_skip ?_
  refine hK8 _ _ ?_
  clear hK8
  refine wp_seq_k (fun K10 hK10 => ?_)
  refine wp_seq_k (fun K11 hK11 => ?_)
  refine wp_region_lit ?_
  refine pl M6 (y_load (v := .pointer (some ⟨s, 0, none⟩)) rfl rfl rfl Tryd.isAgg31 (fun W hW => hW.get 4 rfl) (rfl)) ?_
  simp only [Act.put, zq1, zq2, zq3]
  have hX12 : Mem w _ w6 ([disk D p pg mb qv, blk f 88 (fC V p), sto C V.s.mark s f X] ++ [blk g4 28 ([.int .i64 0]), blk g2 31 ([.pointer (some ⟨s, 0, none⟩)])]) := M6.arr [0, 1, 2, 3, 4] (by decide)
  refine pe rfl (fun K hK => ?_)
  refine e_call 12 [.pointer (some ⟨s, 0, none⟩)] rfl rfl Tryd.call12 (ssuper_any (Mem.here hX12)) ?_
  rintro e w12 ⟨rfl, H12⟩
  have M12 : Mem w _ w12 [disk D p pg mb qv, blk f 88 (fC V p), sto C V.s.mark s f X, blk g4 28 ([.int .i64 0]), blk g2 31 ([.pointer (some ⟨s, 0, none⟩)])] := Mem.frame hX12 H12
  refine ⟨_, rfl, ?_⟩
  refine hK.out _ _ ?_
  clear hK K
  simp only [Act.put, zq1, zq2, zq3]
  refine pl M12 (y_field1 (v := .int .i64 V.s.gen) rfl rfl rfl Tryd.underlying26 rfl Tryd.isAgg3 rfl) ?_
  simp only [Act.put, zq1, zq2, zq3]
  refine pl M12 (y_geq (b := false) rfl rfl rfl rfl (decide_eq_false hg)) ?_
  simp only [Act.put, zq1, zq2, zq3]
  refine wpList_nil ?_
  refine hK11 _ _ ?_
  clear hK11
  refine wp_cond_false rfl ?_
  refine wp_skip ?_
  refine hK10 _ _ ?_
  clear hK10
  refine wp_seq_k (fun K13 hK13 => ?_)
  obtain ⟨hso, M14⟩ : _ ∧ Mem w (foots [disk D p pg mb qv, blk f 88 (fC V p), sto C V.s.mark s f X]) w12 [blk s 77 ([.pointer (some ⟨f, 0, none⟩), .func (.func 42) #[.pointer (some ⟨f, 0, none⟩)] #[], .pointer (some ⟨X.c, 0, none⟩), .slice X.sa C.kp.length X.sc]), cache C X.c X.mb X.x, lst 79 2 (.slice X.sa C.kp.length X.sc) C.kp.length (stC C.kp), vault X.V, disk D p pg mb qv, blk f 88 (fC V p), blk g4 28 ([.int .i64 0]), blk g2 31 ([.pointer (some ⟨s, 0, none⟩)])] := sto_open (M12.arr [2, 0, 1, 3, 4] (by decide))
  clear M12
  refine wp_region_lit ?_
  refine pl M14 (y_func (fv := []) (cv := [.pointer (some ⟨g4, 0, none⟩), .pointer (some ⟨g2, 0, none⟩)]) rfl rfl rfl rfl) ?_
  simp only [Act.put, zq1, zq2, zq3]
  refine pe rfl (fun K hK => ?_)
  refine e_defer (ca := [.pointer (some ⟨g4, 0, none⟩), .pointer (some ⟨g2, 0, none⟩)]) rfl rfl ?_
  refine hK.out _ _ ?_
  clear hK K
  simp only [Act.put, zq1, zq2, zq3]
  refine wpList_nil ?_
  refine hK13 _ _ ?_
  clear hK13
  refine wp_seq_k (fun K15 hK15 => ?_)
  refine wp_seq_k (fun K16 hK16 => ?_)
  refine wp_region_lit ?_
  refine pl M14 (y_load (v := .pointer (some ⟨s, 0, none⟩)) rfl rfl rfl Tryd.isAgg31 (fun W hW => hW.get 7 rfl) (rfl)) ?_
  simp only [Act.put, zq1, zq2, zq3]
  refine pl M14 (y_nil rfl rfl rfl) ?_
  simp only [Act.put, zq1, zq2, zq3]
  refine pl M14 (y_fa (r := 3) rfl rfl rfl Tryd.underlying77 rfl Tryd.sizeOf75 rfl) ?_
  simp only [Act.put, zq1, zq2, zq3]
  refine pl M14 (y_load (v := .slice X.sa C.kp.length X.sc) rfl rfl rfl Tryd.isAgg75 (fun W hW => hW.get 0 rfl) (rfl)) ?_
  simp only [Act.put, zq1, zq2, zq3]
  refine pl M14 (y_len rfl rfl rfl Tryd.underlying75) ?_
  simp only [Act.put, zq1, zq2, zq3]
  refine pl M14 (y_move (v := .int .i64 0) rfl rfl rfl) ?_
  simp only [Act.put, zq1, zq2, zq3]
  refine wpList_nil ?_
  refine hK16 _ _ ?_
  clear hK16
  refine wp_block ?_
  refine zlp (fun n' a' w' => ∃ (i : Nat) (Dk : DV) (Vk : FV) (qk : Value) (us17 : List Value), n' = (C.kp.length - i) ∧ a' = (⟨#[.pointer (some ⟨s, 0, none⟩), .int .i64 head, .pointer (some ⟨g2, 0, none⟩), undef, .pointer (some ⟨g4, 0, none⟩), .int .i64 (liveE D V), undef, (us17.getD 0 undef), (us17.getD 1 undef), (us17.getD 2 undef), undef, .pointer (some ⟨s, 0, none⟩), .int .i64 (liveE D V), .int .i64 (liveE D V), .bool false, undef, .int .i64 head, .bool false, .bool false, undef, undef, undef, undef, undef, undef, undef, undef, .bool false, .pointer (some ⟨s, 0, none⟩), .agg ((supC V.s)).toArray, .int .i64 V.s.gen, .bool false, .func (.func 31) #[] #[.pointer (some ⟨g4, 0, none⟩), .pointer (some ⟨g2, 0, none⟩)], .pointer (some ⟨s, 0, none⟩), .pointer (some ⟨s, 0, none⟩), .pointer (some ⟨s, 3, none⟩), .slice X.sa C.kp.length X.sc, .int .i64 (C.kp.length : Int), .int .i64 (i : Int), (us17.getD 3 undef), (us17.getD 4 undef), (us17.getD 5 undef), (us17.getD 6 undef), (us17.getD 7 undef), (us17.getD 8 undef), (us17.getD 9 undef), (us17.getD 10 undef), (us17.getD 11 undef), (us17.getD 12 undef), (us17.getD 13 undef), (us17.getD 14 undef), (us17.getD 15 undef), (us17.getD 16 undef), (us17.getD 17 undef), (us17.getD 18 undef), (us17.getD 19 undef), (us17.getD 20 undef), (us17.getD 21 undef), undef, undef, undef, undef, undef, undef, undef, undef, undef, undef, undef, undef, undef, undef, undef, undef, undef], [⟨.fn (.func 31) #[.pointer (some ⟨g4, 0, none⟩), .pointer (some ⟨g2, 0, none⟩)], #[]⟩]⟩ : Act) ∧ (appAll D V C.kp = appAll Dk Vk (C.kp.drop i)) ∧ (FOk Dk Vk) ∧ (Dk.q.length ≤ D.q.length + i) ∧ (Vk.s = V.s) ∧ (i ≤ C.kp.length ∧ Vk.next = V.s.mark + (i : Int) ∧ Dk.pages.length = D.pages.length) ∧ Mem w (foots [disk D p pg mb qv, blk f 88 (fC V p), sto C V.s.mark s f X]) w' [blk g2 31 ([.pointer (some ⟨s, 0, none⟩)]), blk g4 28 ([.int .i64 0]), blk s 77 ([.pointer (some ⟨f, 0, none⟩), .func (.func 42) #[.pointer (some ⟨f, 0, none⟩)] #[], .pointer (some ⟨X.c, 0, none⟩), .slice X.sa C.kp.length X.sc]), cache C X.c X.mb X.x, lst 79 2 (.slice X.sa C.kp.length X.sc) C.kp.length (stC C.kp), vault X.V, disk Dk p pg mb qk, blk f 88 (fC Vk p)]) (C.kp.length - 0) ⟨0, D, V, qv, [undef, undef, undef, undef, undef, undef, undef, undef, undef, undef, undef, undef, undef, undef, undef, undef, undef, undef, undef, undef, undef, undef], rfl, rfl, rfl, hV, Nat.le_refl _, rfl, ⟨Nat.zero_le _, by rw [hnx]; simp, rfl⟩, (M14.arr [7, 6, 0, 1, 2, 3, 4, 5] (by decide))⟩ ?_
  clear M14
  rintro n' a' w18 ⟨i, Dk, Vk, qk, us17, rfl, rfl, hA, hK, hqi, hsv, hi, M18⟩
  refine wp_seq_k (fun K19 hK19 => ?_)
  refine wp_region_lit ?_
  rcases Decidable.em ((i : Int) < (C.kp.length : Int)) with h20 | h20
  · refine pl M18 (y_lss (b := true) rfl rfl rfl rfl (decide_eq_true h20)) ?_
    simp only [Act.put, zq1, zq2, zq3]
    refine wpList_nil ?_
    refine hK19 _ _ ?_
    clear hK19
    refine wp_seq_k (fun K21 hK21 => ?_)
    refine wp_cond_true rfl ?_
    refine wp_skip ?_
    refine hK21 _ _ ?_
    clear hK21
    refine wp_seq_k (fun K22 hK22 => ?_)
    refine wp_block ?_
    refine wp_seq_k (fun K23 hK23 => ?_)
    refine wp_region_lit ?_
    obtain ⟨ei, hei⟩ : ∃ e, C.kp[i]? = some e := ⟨_, List.getElem?_eq_getElem (by omega)⟩
    obtain ⟨gl, gc, hgl⟩ := Mem.lstpt (M18.arr [4] (by decide)) (by omega)
    have hv : (ei.ld, ei.l) ∈ X.V := hso.val ei (List.mem_append_right _ (List.mem_of_getElem? hei))
    obtain ⟨la, lc, hle⟩ : ∃ la lc, ei.ld = .slice la ei.l.length lc := qv_at (vault_at (M18.get 5 rfl) hv)
    rw [hle] at hv
    refine pl M18 (y_ias (r := 2 * i) rfl rfl hgl rfl Tryd.underlying75 Tryd.sizeOf79 (by omega) (by omega)) ?_
    simp only [Act.put, zq1, zq2, zq3]
    refine pl M18 (y_loadr (cs := [.int .i64 ei.kd, .slice la ei.l.length lc]) rfl rfl rfl Tryd.underlying79 rfl (size_of_len (n := 2) _ rfl (by kernel_rfl)) (fun W hW => lst_range' (hW.get 4 rfl) hgl (2 * i) (by rw [← hle]; exact stC_at _ _ _ hei))) ?_
    simp only [Act.put, zq1, zq2, zq3]
    refine pe rfl (fun K hK => ?_)
    refine e_alloc M18 ([.int .i64 0, .slice none 0 0]) rfl Tryd.zeroValue79 ?_
    intro g7 w24 (M24 : Mem w _ w24 [blk g7 79 ([.int .i64 0, .slice none 0 0]), blk g2 31 ([.pointer (some ⟨s, 0, none⟩)]), blk g4 28 ([.int .i64 0]), blk s 77 ([.pointer (some ⟨f, 0, none⟩), .func (.func 42) #[.pointer (some ⟨f, 0, none⟩)] #[], .pointer (some ⟨X.c, 0, none⟩), .slice X.sa C.kp.length X.sc]), cache C X.c X.mb X.x, lst 79 2 (.slice X.sa C.kp.length X.sc) C.kp.length (stC C.kp), vault X.V, disk Dk p pg mb qk, blk f 88 (fC Vk p)])
    clear M18
    refine hK.out _ _ ?_
    clear hK K
    simp only [Act.put, zq1, zq2, zq3]
    refine pe rfl (fun K hK => ?_)
    refine e_storew M24 0 (cs := [.int .i64 ei.kd, .slice la ei.l.length lc]) rfl rfl rfl rfl (size_of_len (n := 2) _ rfl (by kernel_rfl)) (list_all _ rfl) rfl (rfl) ?_
    intro w25 (M25 : Mem w _ w25 [blk g7 79 ([.int .i64 ei.kd, .slice la ei.l.length lc]), blk g2 31 ([.pointer (some ⟨s, 0, none⟩)]), blk g4 28 ([.int .i64 0]), blk s 77 ([.pointer (some ⟨f, 0, none⟩), .func (.func 42) #[.pointer (some ⟨f, 0, none⟩)] #[], .pointer (some ⟨X.c, 0, none⟩), .slice X.sa C.kp.length X.sc]), cache C X.c X.mb X.x, lst 79 2 (.slice X.sa C.kp.length X.sc) C.kp.length (stC C.kp), vault X.V, disk Dk p pg mb qk, blk f 88 (fC Vk p)])
    clear M24
    refine hK.out _ _ ?_
    clear hK K
    simp only [Act.put, zq1, zq2, zq3]
    refine wpList_nil ?_
    refine hK23 _ _ ?_
    clear hK23
    refine wp_seq_k (fun K26 hK26 => ?_)
    have M27 := M25.drew
    refine held_begin (fun W => Mem w (foots [disk D p pg mb qv, blk f 88 (fC V p), sto C V.s.mark s f X]) W [blk g7 79 ([.int .i64 ei.kd, .slice la ei.l.length lc]), blk g2 31 ([.pointer (some ⟨s, 0, none⟩)]), blk s 77 ([.pointer (some ⟨f, 0, none⟩), .func (.func 42) #[.pointer (some ⟨f, 0, none⟩)] #[], .pointer (some ⟨X.c, 0, none⟩), .slice X.sa C.kp.length X.sc])]) (by kernel_rfl) (M27.arr [0, 1, 3] (by decide)) (fun hS => ?_)
    refine held_take 0 _ rfl (by kernel_rfl) (by kernel_rfl) (by kernel_rfl) (y_load (v := .pointer (some ⟨s, 0, none⟩)) rfl rfl rfl Tryd.isAgg31 (fun W hW => hW.get 1 rfl) (rfl)) hS ?_
    simp only [Act.put, zq1, zq2, zq3]
    refine held_take 1 _ rfl (by kernel_rfl) (by kernel_rfl) (by kernel_rfl) (y_nil rfl rfl rfl) hS ?_
    simp only [Act.put, zq1, zq2, zq3]
    refine held_take 2 _ rfl (by kernel_rfl) (by kernel_rfl) (by kernel_rfl) (y_fa (r := 0) rfl rfl rfl Tryd.underlying77 rfl Tryd.sizeOf65 rfl) hS ?_
    simp only [Act.put, zq1, zq2, zq3]
    refine held_take 3 _ rfl (by kernel_rfl) (by kernel_rfl) (by kernel_rfl) (y_load (v := .pointer (some ⟨f, 0, none⟩)) rfl rfl rfl Tryd.isAgg65 (fun W hW => hW.get 2 rfl) (rfl)) hS ?_
    simp only [Act.put, zq1, zq2, zq3]
    refine held_take 4 _ rfl (by kernel_rfl) (by kernel_rfl) (by kernel_rfl) (y_fa (r := 0) rfl rfl rfl Tryd.underlying79 rfl Tryd.sizeOf3 rfl) hS ?_
    simp only [Act.put, zq1, zq2, zq3]
    refine held_take 5 _ rfl (by kernel_rfl) (by kernel_rfl) (by kernel_rfl) (y_load (v := .int .i64 ei.kd) rfl rfl rfl Tryd.isAgg3 (fun W hW => hW.get 0 rfl) (rfl)) hS ?_
    simp only [Act.put, zq1, zq2, zq3]
    refine held_take 6 _ rfl (by kernel_rfl) (by kernel_rfl) (by kernel_rfl) (y_fa (r := 1) rfl rfl rfl Tryd.underlying79 rfl Tryd.sizeOf23 rfl) hS ?_
    simp only [Act.put, zq1, zq2, zq3]
    refine held_take 7 _ rfl (by kernel_rfl) (by kernel_rfl) (by kernel_rfl) (y_load (v := .slice la ei.l.length lc) rfl rfl rfl Tryd.isAgg23 (fun W hW => hW.get 0 rfl) (rfl)) hS ?_
    simp only [Act.put, zq1, zq2, zq3]
    have hbl := vault_at (M27.get 6 rfl) hv
    have hof : ∀ b₁ o, la = some ⟨b₁, o, none⟩ → 0 < ei.l.length → b₁ ∉ foots [disk Dk p pg mb qk, blk f 88 (fC Vk p)] := fun b₁ o e _ => Mem.off2 (M27.arr [6, 7, 8] (by decide)) (vault_foot hv b₁ (by subst e; simp [bytesL, lst, obs, Value.ownBlock]))
    have hX28 : Mem w _ w25.drew ([disk Dk p pg mb qk, blk f 88 (fC Vk p)] ++ [blk g7 79 ([.int .i64 ei.kd, .slice la ei.l.length lc]), blk g2 31 ([.pointer (some ⟨s, 0, none⟩)]), blk g4 28 ([.int .i64 0]), blk s 77 ([.pointer (some ⟨f, 0, none⟩), .func (.func 42) #[.pointer (some ⟨f, 0, none⟩)] #[], .pointer (some ⟨X.c, 0, none⟩), .slice X.sa C.kp.length X.sc]), cache C X.c X.mb X.x, lst 79 2 (.slice X.sa C.kp.length X.sc) C.kp.length (stC C.kp), vault X.V]) := M27.arr [7, 8, 0, 1, 2, 3, 4, 5, 6] (by decide)
    have hCH28 := app_any (Mem.here hX28) ei.kd la ei.l.length lc ei.l (bytesL_row hbl) hof (by omega) hK
    refine held_step 8 (by kernel_rfl) rfl (by rfl) (fun K hK => ?_)
    refine e_call 33 [.pointer (some ⟨f, 0, none⟩), .int .i64 ei.kd, .slice la ei.l.length lc] rfl rfl Tryd.call33 (hCH28) ?_
    rintro e w28 ⟨qa5, rfl, H28⟩
    have M28 : Mem w _ w28 [disk (appD Dk Vk ei.kd ei.l) p pg mb qa5, blk f 88 (fC (appV Dk Vk ei.kd ei.l) p), blk g7 79 ([.int .i64 ei.kd, .slice la ei.l.length lc]), blk g2 31 ([.pointer (some ⟨s, 0, none⟩)]), blk g4 28 ([.int .i64 0]), blk s 77 ([.pointer (some ⟨f, 0, none⟩), .func (.func 42) #[.pointer (some ⟨f, 0, none⟩)] #[], .pointer (some ⟨X.c, 0, none⟩), .slice X.sa C.kp.length X.sc]), cache C X.c X.mb X.x, lst 79 2 (.slice X.sa C.kp.length X.sc) C.kp.length (stC C.kp), vault X.V] := Mem.frame hX28 H28
    refine ⟨_, rfl, ?_⟩
    refine hK.out _ _ (M28.arr [2, 3, 5] (by decide)) (fun hS => ?_)
    clear hK K
    simp only [Act.put, zq1, zq2, zq3]
    refine held_take 9 _ rfl (by kernel_rfl) (by kernel_rfl) (by kernel_rfl) (y_move (v := .tuple #[.int .i64 (appN Dk Vk ei.kd ei.l), .int .i64 (appE Dk Vk ei.kd ei.l)]) rfl rfl rfl) hS ?_
    simp only [Act.put, zq1, zq2, zq3]
    refine held_take 10 _ rfl (by kernel_rfl) (by kernel_rfl) (by kernel_rfl) (y_ext (v := .int .i64 (appN Dk Vk ei.kd ei.l)) rfl rfl rfl rfl) hS ?_
    simp only [Act.put, zq1, zq2, zq3]
    refine held_take 11 _ rfl (by kernel_rfl) (by kernel_rfl) (by kernel_rfl) (y_ext (v := .int .i64 (appE Dk Vk ei.kd ei.l)) rfl rfl rfl rfl) hS ?_
    simp only [Act.put, zq1, zq2, zq3]
    refine held_take 12 _ rfl (by kernel_rfl) (by kernel_rfl) (by kernel_rfl) (y_assign (v := .int .i64 (appN Dk Vk ei.kd ei.l)) rfl rfl rfl) hS ?_
    simp only [Act.put, zq1, zq2, zq3]
    refine held_take 13 _ rfl (by kernel_rfl) (by kernel_rfl) (by kernel_rfl) (y_assign (v := .int .i64 (appE Dk Vk ei.kd ei.l)) rfl rfl rfl) hS ?_
    simp only [Act.put, zq1, zq2, zq3]
    refine held_done (by kernel_rfl) ?_ _
    refine hK26 _ _ ?_
    clear hK26
    refine wp_seq_k (fun K29 hK29 => ?_)
    refine wp_region_lit ?_
    refine pl M28 (y_move (v := .int .i64 (appE Dk Vk ei.kd ei.l)) rfl rfl rfl) ?_
    simp only [Act.put, zq1, zq2, zq3]
    rcases Decidable.em (appE Dk Vk ei.kd ei.l = 0) with hap | hap
    · have hm5 := app_more2 hK hap
      refine pl M28 (y_neq (b := false) rfl rfl rfl rfl (by rw [decide_eq_true hap]; rfl)) ?_
      simp only [Act.put, zq1, zq2, zq3]
      refine wpList_nil ?_
      refine hK29 _ _ ?_
      clear hK29
      refine wp_cond_false rfl ?_
      refine wp_skip ?_
      refine hK22 _ _ ?_
      clear hK22
      refine wp_region_lit ?_
      refine pl M28 (y_add (r := (i : Int) + 1) rfl rfl rfl rfl (rfl) (by omega)) ?_
      simp only [Act.put, zq1, zq2, zq3]
      refine pl M28 (y_move (v := .int .i64 ((i : Int) + 1)) rfl rfl rfl) ?_
      simp only [Act.put, zq1, zq2, zq3]
      refine wpList_nil ?_
      refine ⟨_, ?_, i + 1, (appD Dk Vk ei.kd ei.l), (appV Dk Vk ei.kd ei.l), qa5, [.pointer (some ⟨g7, 0, none⟩), .int .i64 (appN Dk Vk ei.kd ei.l), .int .i64 (appE Dk Vk ei.kd ei.l), .bool true, .pointer (some ⟨gl, 2 * i, none⟩), .agg ([.int .i64 ei.kd, .slice la ei.l.length lc]).toArray, .tuple #[.int .i64 (appN Dk Vk ei.kd ei.l), .int .i64 (appE Dk Vk ei.kd ei.l)], .pointer (some ⟨s, 0, none⟩), .pointer (some ⟨s, 0, none⟩), .pointer (some ⟨s, 0, none⟩), .pointer (some ⟨f, 0, none⟩), .pointer (some ⟨g7, 0, none⟩), .int .i64 ei.kd, .pointer (some ⟨g7, 1, none⟩), .slice la ei.l.length lc, .tuple #[.int .i64 (appN Dk Vk ei.kd ei.l), .int .i64 (appE Dk Vk ei.kd ei.l)], .int .i64 (appN Dk Vk ei.kd ei.l), .int .i64 (appE Dk Vk ei.kd ei.l), .int .i64 (appE Dk Vk ei.kd ei.l), .bool false, (us17.getD 20 undef), .int .i64 ((i : Int) + 1)], rfl, rfl, (by rw [hA, drop_cons hei]; exact if_pos hap), hm5.2.1, (by have := hm5.2.2.2.1; omega), (hm5.2.2.1.trans hsv), ⟨by omega, by rw [(app_yes hap).2]; show Vk.next + 1 = _; omega, hm5.2.2.2.2.trans hi.2.2⟩, (M28.arr [3, 4, 5, 6, 7, 8, 0, 1] (by decide))⟩
      omega
    · have hm5 := hap
      refine pl M28 (y_neq (b := true) rfl rfl rfl rfl (by rw [decide_eq_false hap]; rfl)) ?_
      simp only [Act.put, zq1, zq2, zq3]
      refine wpList_nil ?_
      refine hK29 _ _ ?_
      clear hK29
      refine wp_cond_true rfl ?_
      refine wp_seq_k (fun K30 hK30 => ?_)
      refine wp_region_lit ?_
      refine pl M28 (y_move (v := .int .i64 (appE Dk Vk ei.kd ei.l)) rfl rfl rfl) ?_
      simp only [Act.put, zq1, zq2, zq3]
      refine pe rfl (fun K hK => ?_)
      refine e_store M28 4 (v := .int .i64 (appE Dk Vk ei.kd ei.l)) rfl rfl rfl rfl rfl rfl Tryd.sizeOf28 rfl (show (0 : Nat) < 1 by decide) ?_
      intro w31 (M31 : Mem w _ w31 [disk (appD Dk Vk ei.kd ei.l) p pg mb qa5, blk f 88 (fC (appV Dk Vk ei.kd ei.l) p), blk g7 79 ([.int .i64 ei.kd, .slice la ei.l.length lc]), blk g2 31 ([.pointer (some ⟨s, 0, none⟩)]), blk g4 28 ([.int .i64 (appE Dk Vk ei.kd ei.l)]), blk s 77 ([.pointer (some ⟨f, 0, none⟩), .func (.func 42) #[.pointer (some ⟨f, 0, none⟩)] #[], .pointer (some ⟨X.c, 0, none⟩), .slice X.sa C.kp.length X.sc]), cache C X.c X.mb X.x, lst 79 2 (.slice X.sa C.kp.length X.sc) C.kp.length (stC C.kp), vault X.V])
      clear M28
      refine hK.out _ _ ?_
      clear hK K
      simp only [Act.put, zq1, zq2, zq3]
      refine wpList_nil ?_
      refine hK30 _ _ ?_
      clear hK30
      refine wp_ret ?_
      try simp only [Exit.inBlock, Exit.then]
      have hXd : Mem w _ w31 ([blk g4 28 ([.int .i64 (appE Dk Vk ei.kd ei.l)]), blk g2 31 ([.pointer (some ⟨s, 0, none⟩)]), blk s 77 ([.pointer (some ⟨f, 0, none⟩), .func (.func 42) #[.pointer (some ⟨f, 0, none⟩)] #[], .pointer (some ⟨X.c, 0, none⟩), .slice X.sa C.kp.length X.sc]), disk (appD Dk Vk ei.kd ei.l) p pg mb qa5, blk f 88 (fC (appV Dk Vk ei.kd ei.l) p)] ++ [blk g7 79 ([.int .i64 ei.kd, .slice la ei.l.length lc]), cache C X.c X.mb X.x, lst 79 2 (.slice X.sa C.kp.length X.sc) C.kp.length (stC C.kp), vault X.V]) := M31.arr [4, 3, 5, 0, 1, 2, 6, 7, 8] (by decide)
      refine postD_one (T := fun w9 => Mem w31 (foots [blk g4 28 ([.int .i64 (appE Dk Vk ei.kd ei.l)]), blk g2 31 ([.pointer (some ⟨s, 0, none⟩)]), blk s 77 ([.pointer (some ⟨f, 0, none⟩), .func (.func 42) #[.pointer (some ⟨f, 0, none⟩)] #[], .pointer (some ⟨X.c, 0, none⟩), .slice X.sa C.kp.length X.sc]), disk (appD Dk Vk ei.kd ei.l) p pg mb qa5, blk f 88 (fC (appV Dk Vk ei.kd ei.l) p)]) w9 [blk g4 28 ([.int .i64 (appE Dk Vk ei.kd ei.l)]), blk g2 31 ([.pointer (some ⟨s, 0, none⟩)]), blk s 77 ([.pointer (some ⟨f, 0, none⟩), .func (.func 42) #[.pointer (some ⟨f, 0, none⟩)] #[], .pointer (some ⟨X.c, 0, none⟩), .slice X.sa C.kp.length X.sc]), disk (appD Dk Vk ei.kd ei.l) p pg mb qa5, blk f 88 (fC ({ (appV Dk Vk ei.kd ei.l) with next := ((appV Dk Vk ei.kd ei.l)).s.mark } : FV) p)]) rfl Tryd.call31 (flush1_err  (V := (appV Dk Vk ei.kd ei.l)) (Mem.here (L := [blk g4 28 ([.int .i64 (appE Dk Vk ei.kd ei.l)]), blk g2 31 ([.pointer (some ⟨s, 0, none⟩)]), blk s 77 ([.pointer (some ⟨f, 0, none⟩), .func (.func 42) #[.pointer (some ⟨f, 0, none⟩)] #[], .pointer (some ⟨X.c, 0, none⟩), .slice X.sa C.kp.length X.sc]), disk (appD Dk Vk ei.kd ei.l) p pg mb qa5, blk f 88 (fC (appV Dk Vk ei.kd ei.l) p)]) (R := [blk g7 79 ([.int .i64 ei.kd, .slice la ei.l.length lc]), cache C X.c X.mb X.x, lst 79 2 (.slice X.sa C.kp.length X.sc) C.kp.length (stC C.kp), vault X.V]) hXd) hap) ?_
      intro w9 T9
      have M9 : Mem w _ w9 [blk g4 28 ([.int .i64 (appE Dk Vk ei.kd ei.l)]), blk g2 31 ([.pointer (some ⟨s, 0, none⟩)]), blk s 77 ([.pointer (some ⟨f, 0, none⟩), .func (.func 42) #[.pointer (some ⟨f, 0, none⟩)] #[], .pointer (some ⟨X.c, 0, none⟩), .slice X.sa C.kp.length X.sc]), disk (appD Dk Vk ei.kd ei.l) p pg mb qa5, blk f 88 (fC ({ (appV Dk Vk ei.kd ei.l) with next := ((appV Dk Vk ei.kd ei.l)).s.mark } : FV) p), blk g7 79 ([.int .i64 ei.kd, .slice la ei.l.length lc]), cache C X.c X.mb X.x, lst 79 2 (.slice X.sa C.kp.length X.sc) C.kp.length (stC C.kp), vault X.V] := Mem.frame (Pre := [blk g4 28 ([.int .i64 (appE Dk Vk ei.kd ei.l)]), blk g2 31 ([.pointer (some ⟨s, 0, none⟩)]), blk s 77 ([.pointer (some ⟨f, 0, none⟩), .func (.func 42) #[.pointer (some ⟨f, 0, none⟩)] #[], .pointer (some ⟨X.c, 0, none⟩), .slice X.sa C.kp.length X.sc]), disk (appD Dk Vk ei.kd ei.l) p pg mb qa5, blk f 88 (fC (appV Dk Vk ei.kd ei.l) p)]) (Post := [blk g4 28 ([.int .i64 (appE Dk Vk ei.kd ei.l)]), blk g2 31 ([.pointer (some ⟨s, 0, none⟩)]), blk s 77 ([.pointer (some ⟨f, 0, none⟩), .func (.func 42) #[.pointer (some ⟨f, 0, none⟩)] #[], .pointer (some ⟨X.c, 0, none⟩), .slice X.sa C.kp.length X.sc]), disk (appD Dk Vk ei.kd ei.l) p pg mb qa5, blk f 88 (fC ({ (appV Dk Vk ei.kd ei.l) with next := ((appV Dk Vk ei.kd ei.l)).s.mark } : FV) p)]) (R := [blk g7 79 ([.int .i64 ei.kd, .slice la ei.l.length lc]), cache C X.c X.mb X.x, lst 79 2 (.slice X.sa C.kp.length X.sc) C.kp.length (stC C.kp), vault X.V]) hXd T9
      refine ⟨_, resv1 rfl rfl (M9.get 0 rfl) Tryd.isAgg28, ?_⟩
      have e2 : appAll D V C.kp = (appD Dk Vk ei.kd ei.l, Vk, appE Dk Vk ei.kd ei.l) := by rw [hA, drop_cons hei]; exact if_neg hap
      have e0 : flushR D V C head = (appD Dk Vk ei.kd ei.l, forgetV Vk, appE Dk Vk ei.kd ei.l) := by unfold flushR; rw [if_neg (fun h => h hL), if_neg (by omega), if_neg (by omega), e2, if_pos hap]
      have e1 : flushC D V C head = C := if_neg (by rw [e0]; exact hap)
      have hva : appV Dk Vk ei.kd ei.l = Vk := (app_no rfl hap).2
      rw [hva] at M9
      have N2 : Mem w _ w9 [sto C V.s.mark s f X, disk (appD Dk Vk ei.kd ei.l) p pg mb qa5, blk f 88 (fC (forgetV Vk) p)] := sto_close hso (M9.arr [2, 6, 7, 8, 3, 4] (by decide))
      rw [e1, e0]
      exact ⟨_, X, rfl, rfl, by show Mem _ _ _ [_, _, sto C (forgetV Vk).s.mark s f X]; rw [show (forgetV Vk).s.mark = V.s.mark by show Vk.s.mark = _; rw [hsv]]; exact N2.arr [1, 2, 0] (by decide)⟩
  · refine pl M18 (y_lss (b := false) rfl rfl rfl rfl (decide_eq_false h20)) ?_
    simp only [Act.put, zq1, zq2, zq3]
    refine wpList_nil ?_
    refine hK19 _ _ ?_
    clear hK19
    refine wp_seq_k (fun K32 hK32 => ?_)
    refine wp_cond_false rfl ?_
    refine wp_exit ?_
    refine hK15 _ _ ?_
    clear hK15
    refine wp_seq_k (fun K33 hK33 => ?_)
    refine wp_seq_k (fun K34 hK34 => ?_)
    refine wp_region_lit ?_
    refine pl M18 (y_load (v := .pointer (some ⟨s, 0, none⟩)) rfl rfl rfl Tryd.isAgg31 (fun W hW => hW.get 0 rfl) (rfl)) ?_
    simp only [Act.put, zq1, zq2, zq3]
    refine pl M18 (y_nil rfl rfl rfl) ?_
    simp only [Act.put, zq1, zq2, zq3]
    refine pl M18 (y_fa (r := 0) rfl rfl rfl Tryd.underlying77 rfl Tryd.sizeOf65 rfl) ?_
    simp only [Act.put, zq1, zq2, zq3]
    refine pl M18 (y_load (v := .pointer (some ⟨f, 0, none⟩)) rfl rfl rfl Tryd.isAgg65 (fun W hW => hW.get 2 rfl) (rfl)) ?_
    simp only [Act.put, zq1, zq2, zq3]
    refine pl M18 (y_move (v := .int .i64 head) rfl rfl rfl) ?_
    simp only [Act.put, zq1, zq2, zq3]
    have hX35 : Mem w _ w18 ([disk Dk p pg mb qk, blk f 88 (fC Vk p)] ++ [blk g2 31 ([.pointer (some ⟨s, 0, none⟩)]), blk g4 28 ([.int .i64 0]), blk s 77 ([.pointer (some ⟨f, 0, none⟩), .func (.func 42) #[.pointer (some ⟨f, 0, none⟩)] #[], .pointer (some ⟨X.c, 0, none⟩), .slice X.sa C.kp.length X.sc]), cache C X.c X.mb X.x, lst 79 2 (.slice X.sa C.kp.length X.sc) C.kp.length (stC C.kp), vault X.V]) := M18.arr [6, 7, 0, 1, 2, 3, 4, 5] (by decide)
    have hCH35 := pub_any (Mem.here hX35) head (by omega) hK
    refine pe rfl (fun K hK => ?_)
    refine e_call 34 [.pointer (some ⟨f, 0, none⟩), .int .i64 head] rfl rfl Tryd.call34 (hCH35) ?_
    rintro e w35 ⟨qb5, rfl, H35⟩
    have M35 : Mem w _ w35 [disk ((pubR Dk Vk head).1) p pg mb qb5, blk f 88 (fC (pubV Dk Vk head) p), blk g2 31 ([.pointer (some ⟨s, 0, none⟩)]), blk g4 28 ([.int .i64 0]), blk s 77 ([.pointer (some ⟨f, 0, none⟩), .func (.func 42) #[.pointer (some ⟨f, 0, none⟩)] #[], .pointer (some ⟨X.c, 0, none⟩), .slice X.sa C.kp.length X.sc]), cache C X.c X.mb X.x, lst 79 2 (.slice X.sa C.kp.length X.sc) C.kp.length (stC C.kp), vault X.V] := Mem.frame hX35 H35
    refine ⟨_, rfl, ?_⟩
    refine hK.out _ _ ?_
    clear hK K
    simp only [Act.put, zq1, zq2, zq3]
    refine pl M35 (y_assign (v := .int .i64 ((pubR Dk Vk head).2)) rfl rfl rfl) ?_
    simp only [Act.put, zq1, zq2, zq3]
    refine wpList_nil ?_
    refine hK34 _ _ ?_
    clear hK34
    refine wp_seq_k (fun K36 hK36 => ?_)
    refine wp_region_lit ?_
    refine pl M35 (y_move (v := .int .i64 ((pubR Dk Vk head).2)) rfl rfl rfl) ?_
    simp only [Act.put, zq1, zq2, zq3]
    rcases Decidable.em ((pubR Dk Vk head).2 = 0) with hpb | hpb
    · refine pl M35 (y_neq (b := false) rfl rfl rfl rfl (by rw [decide_eq_true hpb]; rfl)) ?_
      simp only [Act.put, zq1, zq2, zq3]
      refine wpList_nil ?_
      refine hK36 _ _ ?_
      clear hK36
      refine wp_cond_false rfl ?_
      refine wp_skip ?_
      refine hK33 _ _ ?_
      clear hK33
      refine wp_seq_k (fun K37 hK37 => ?_)
      refine wp_region_lit ?_
      refine pl M35 (y_load (v := .pointer (some ⟨s, 0, none⟩)) rfl rfl rfl Tryd.isAgg31 (fun W hW => hW.get 2 rfl) (rfl)) ?_
      simp only [Act.put, zq1, zq2, zq3]
      refine pl M35 (y_nil rfl rfl rfl) ?_
      simp only [Act.put, zq1, zq2, zq3]
      refine pl M35 (y_fa (r := 3) rfl rfl rfl Tryd.underlying77 rfl Tryd.sizeOf75 rfl) ?_
      simp only [Act.put, zq1, zq2, zq3]
      refine pe rfl (fun K hK => ?_)
      refine e_store M35 4 (v := .slice none 0 0) rfl rfl rfl rfl rfl rfl Tryd.sizeOf75 rfl (show (3 : Nat) < 4 by decide) ?_
      intro w38 (M38 : Mem w _ w38 [disk ((pubR Dk Vk head).1) p pg mb qb5, blk f 88 (fC (pubV Dk Vk head) p), blk g2 31 ([.pointer (some ⟨s, 0, none⟩)]), blk g4 28 ([.int .i64 0]), blk s 77 ([.pointer (some ⟨f, 0, none⟩), .func (.func 42) #[.pointer (some ⟨f, 0, none⟩)] #[], .pointer (some ⟨X.c, 0, none⟩), .slice none 0 0]), cache C X.c X.mb X.x, lst 79 2 (.slice X.sa C.kp.length X.sc) C.kp.length (stC C.kp), vault X.V])
      clear M35
      refine hK.out _ _ ?_
      clear hK K
      simp only [Act.put, zq1, zq2, zq3]
      refine wpList_nil ?_
      refine hK37 _ _ ?_
      clear hK37
      refine wp_seq_k (fun K39 hK39 => ?_)
      refine wp_region_lit ?_
      refine pl M38 (y_load (v := .pointer (some ⟨s, 0, none⟩)) rfl rfl rfl Tryd.isAgg31 (fun W hW => hW.get 2 rfl) (rfl)) ?_
      simp only [Act.put, zq1, zq2, zq3]
      refine pl M38 (y_nil rfl rfl rfl) ?_
      simp only [Act.put, zq1, zq2, zq3]
      refine pl M38 (y_fa (r := 2) rfl rfl rfl Tryd.underlying77 rfl Tryd.sizeOf74 rfl) ?_
      simp only [Act.put, zq1, zq2, zq3]
      refine pl M38 (y_load (v := .pointer (some ⟨X.c, 0, none⟩)) rfl rfl rfl Tryd.isAgg74 (fun W hW => hW.get 4 rfl) (rfl)) ?_
      simp only [Act.put, zq1, zq2, zq3]
      have hX40 : Mem w _ w38 ([cache C X.c X.mb X.x] ++ [disk ((pubR Dk Vk head).1) p pg mb qb5, blk f 88 (fC (pubV Dk Vk head) p), blk g2 31 ([.pointer (some ⟨s, 0, none⟩)]), blk g4 28 ([.int .i64 0]), blk s 77 ([.pointer (some ⟨f, 0, none⟩), .func (.func 42) #[.pointer (some ⟨f, 0, none⟩)] #[], .pointer (some ⟨X.c, 0, none⟩), .slice none 0 0]), lst 79 2 (.slice X.sa C.kp.length X.sc) C.kp.length (stC C.kp), vault X.V]) := M38.arr [5, 0, 1, 2, 3, 4, 6, 7] (by decide)
      have hCH40 := csettle (Mem.here hX40) (by omega)
      refine pe rfl (fun K hK => ?_)
      refine e_call 35 [.pointer (some ⟨X.c, 0, none⟩)] rfl rfl Tryd.call35 (hCH40) ?_
      rintro e w40 ⟨x2, rfl, hx2, H40⟩
      have M40 : Mem w _ w40 [cache (trimS (setS C)) X.c X.mb x2, disk ((pubR Dk Vk head).1) p pg mb qb5, blk f 88 (fC (pubV Dk Vk head) p), blk g2 31 ([.pointer (some ⟨s, 0, none⟩)]), blk g4 28 ([.int .i64 0]), blk s 77 ([.pointer (some ⟨f, 0, none⟩), .func (.func 42) #[.pointer (some ⟨f, 0, none⟩)] #[], .pointer (some ⟨X.c, 0, none⟩), .slice none 0 0]), lst 79 2 (.slice X.sa C.kp.length X.sc) C.kp.length (stC C.kp), vault X.V] := Mem.frame hX40 H40
      refine ⟨_, rfl, ?_⟩
      refine hK.out _ _ ?_
      clear hK K
      simp only [Act.put, zq1, zq2, zq3]
      refine wpList_nil ?_
      refine hK39 _ _ ?_
      clear hK39
      refine wp_seq_k (fun K41 hK41 => ?_)
      refine wp_region_lit ?_
      refine pe rfl (fun K hK => ?_)
      refine e_store M40 4 (v := .int .i64 0) rfl rfl rfl rfl rfl rfl Tryd.sizeOf28 rfl (show (0 : Nat) < 1 by decide) ?_
      intro w42 (M42 : Mem w _ w42 [cache (trimS (setS C)) X.c X.mb x2, disk ((pubR Dk Vk head).1) p pg mb qb5, blk f 88 (fC (pubV Dk Vk head) p), blk g2 31 ([.pointer (some ⟨s, 0, none⟩)]), blk g4 28 ([.int .i64 0]), blk s 77 ([.pointer (some ⟨f, 0, none⟩), .func (.func 42) #[.pointer (some ⟨f, 0, none⟩)] #[], .pointer (some ⟨X.c, 0, none⟩), .slice none 0 0]), lst 79 2 (.slice X.sa C.kp.length X.sc) C.kp.length (stC C.kp), vault X.V])
      clear M40
      refine hK.out _ _ ?_
      clear hK K
      simp only [Act.put, zq1, zq2, zq3]
      refine wpList_nil ?_
      refine hK41 _ _ ?_
      clear hK41
      refine wp_ret ?_
      try simp only [Exit.inBlock, Exit.then]
      have hXd : Mem w _ w42 ([blk g4 28 ([.int .i64 0]), blk g2 31 ([.pointer (some ⟨s, 0, none⟩)]), blk s 77 ([.pointer (some ⟨f, 0, none⟩), .func (.func 42) #[.pointer (some ⟨f, 0, none⟩)] #[], .pointer (some ⟨X.c, 0, none⟩), .slice none 0 0]), disk ((pubR Dk Vk head).1) p pg mb qb5, blk f 88 (fC (pubV Dk Vk head) p)] ++ [cache (trimS (setS C)) X.c X.mb x2, lst 79 2 (.slice X.sa C.kp.length X.sc) C.kp.length (stC C.kp), vault X.V]) := M42.arr [4, 3, 5, 1, 2, 0, 6, 7] (by decide)
      refine postD_one (T := fun w9 => Mem w42 (foots [blk g4 28 ([.int .i64 0]), blk g2 31 ([.pointer (some ⟨s, 0, none⟩)]), blk s 77 ([.pointer (some ⟨f, 0, none⟩), .func (.func 42) #[.pointer (some ⟨f, 0, none⟩)] #[], .pointer (some ⟨X.c, 0, none⟩), .slice none 0 0]), disk ((pubR Dk Vk head).1) p pg mb qb5, blk f 88 (fC (pubV Dk Vk head) p)]) w9 [blk g4 28 ([.int .i64 0]), blk g2 31 ([.pointer (some ⟨s, 0, none⟩)]), blk s 77 ([.pointer (some ⟨f, 0, none⟩), .func (.func 42) #[.pointer (some ⟨f, 0, none⟩)] #[], .pointer (some ⟨X.c, 0, none⟩), .slice none 0 0]), disk ((pubR Dk Vk head).1) p pg mb qb5, blk f 88 (fC (pubV Dk Vk head) p)]) rfl Tryd.call31 (flush1_ok  (V := (pubV Dk Vk head)) (Mem.here (L := [blk g4 28 ([.int .i64 0]), blk g2 31 ([.pointer (some ⟨s, 0, none⟩)]), blk s 77 ([.pointer (some ⟨f, 0, none⟩), .func (.func 42) #[.pointer (some ⟨f, 0, none⟩)] #[], .pointer (some ⟨X.c, 0, none⟩), .slice none 0 0]), disk ((pubR Dk Vk head).1) p pg mb qb5, blk f 88 (fC (pubV Dk Vk head) p)]) (R := [cache (trimS (setS C)) X.c X.mb x2, lst 79 2 (.slice X.sa C.kp.length X.sc) C.kp.length (stC C.kp), vault X.V]) hXd) rfl) ?_
      intro w9 T9
      have M9 : Mem w _ w9 [blk g4 28 ([.int .i64 0]), blk g2 31 ([.pointer (some ⟨s, 0, none⟩)]), blk s 77 ([.pointer (some ⟨f, 0, none⟩), .func (.func 42) #[.pointer (some ⟨f, 0, none⟩)] #[], .pointer (some ⟨X.c, 0, none⟩), .slice none 0 0]), disk ((pubR Dk Vk head).1) p pg mb qb5, blk f 88 (fC (pubV Dk Vk head) p), cache (trimS (setS C)) X.c X.mb x2, lst 79 2 (.slice X.sa C.kp.length X.sc) C.kp.length (stC C.kp), vault X.V] := Mem.frame (Pre := [blk g4 28 ([.int .i64 0]), blk g2 31 ([.pointer (some ⟨s, 0, none⟩)]), blk s 77 ([.pointer (some ⟨f, 0, none⟩), .func (.func 42) #[.pointer (some ⟨f, 0, none⟩)] #[], .pointer (some ⟨X.c, 0, none⟩), .slice none 0 0]), disk ((pubR Dk Vk head).1) p pg mb qb5, blk f 88 (fC (pubV Dk Vk head) p)]) (Post := [blk g4 28 ([.int .i64 0]), blk g2 31 ([.pointer (some ⟨s, 0, none⟩)]), blk s 77 ([.pointer (some ⟨f, 0, none⟩), .func (.func 42) #[.pointer (some ⟨f, 0, none⟩)] #[], .pointer (some ⟨X.c, 0, none⟩), .slice none 0 0]), disk ((pubR Dk Vk head).1) p pg mb qb5, blk f 88 (fC (pubV Dk Vk head) p)]) (R := [cache (trimS (setS C)) X.c X.mb x2, lst 79 2 (.slice X.sa C.kp.length X.sc) C.kp.length (stC C.kp), vault X.V]) hXd T9
      refine ⟨_, resv1 rfl rfl (M9.get 0 rfl) Tryd.isAgg28, ?_⟩
      have e2 : appAll D V C.kp = (Dk, Vk, 0) := by rw [hA, List.drop_eq_nil_of_le (by omega)]; rfl
      have e0 : flushR D V C head = ((pubR Dk Vk head).1, pubV Dk Vk head, 0) := by unfold flushR; rw [if_neg (fun h => h hL), if_neg (by omega), if_neg (by omega), e2, if_neg (fun h => h rfl)]; exact if_neg (fun h => h hpb)
      have e1 : flushC D V C head = trimS (setS C) := if_pos (by rw [e0])
      have hva : pubV Dk Vk head = { Vk with s := pubS Vk head } := if_pos hpb
      have hso2 : SOk (trimS (setS C)) (pubV Dk Vk head).s.mark ({ X with x := x2, sa := none, sc := 0 } : SX) := hso.flush x2 (by rw [hva]; show Vk.next = _; omega) (by rw [hva]; show Vk.next ≤ _; have := hK.hi; have := hK.pages; omega)
      have N1 := Mem.nilst (M9.arr [2, 5, 7, 3, 4] (by decide)) 79 2
      have N2 : Mem w _ w9 [sto (trimS (setS C)) (pubV Dk Vk head).s.mark s f ({ X with x := x2, sa := none, sc := 0 } : SX), disk (pubR Dk Vk head).1 p pg mb qb5, blk f 88 (fC (pubV Dk Vk head) p)] := sto_close (C := trimS (setS C)) (X := ({ X with x := x2, sa := none, sc := 0 } : SX)) hso2 (N1.arr [1, 2, 0, 3, 4, 5] (by decide))
      rw [e1, e0]
      exact ⟨_, ({ X with x := x2, sa := none, sc := 0 } : SX), rfl, hx2, N2.arr [1, 2, 0] (by decide)⟩
    · refine pl M35 (y_neq (b := true) rfl rfl rfl rfl (by rw [decide_eq_false hpb]; rfl)) ?_
      simp only [Act.put, zq1, zq2, zq3]
      refine wpList_nil ?_
      refine hK36 _ _ ?_
      clear hK36
      refine wp_cond_true rfl ?_
      refine wp_seq_k (fun K43 hK43 => ?_)
      refine wp_region_lit ?_
      refine pl M35 (y_move (v := .int .i64 ((pubR Dk Vk head).2)) rfl rfl rfl) ?_
      simp only [Act.put, zq1, zq2, zq3]
      refine pe rfl (fun K hK => ?_)
      refine e_store M35 3 (v := .int .i64 ((pubR Dk Vk head).2)) rfl rfl rfl rfl rfl rfl Tryd.sizeOf28 rfl (show (0 : Nat) < 1 by decide) ?_
      intro w44 (M44 : Mem w _ w44 [disk ((pubR Dk Vk head).1) p pg mb qb5, blk f 88 (fC (pubV Dk Vk head) p), blk g2 31 ([.pointer (some ⟨s, 0, none⟩)]), blk g4 28 ([.int .i64 ((pubR Dk Vk head).2)]), blk s 77 ([.pointer (some ⟨f, 0, none⟩), .func (.func 42) #[.pointer (some ⟨f, 0, none⟩)] #[], .pointer (some ⟨X.c, 0, none⟩), .slice X.sa C.kp.length X.sc]), cache C X.c X.mb X.x, lst 79 2 (.slice X.sa C.kp.length X.sc) C.kp.length (stC C.kp), vault X.V])
      clear M35
      refine hK.out _ _ ?_
      clear hK K
      simp only [Act.put, zq1, zq2, zq3]
      refine wpList_nil ?_
      refine hK43 _ _ ?_
      clear hK43
      refine wp_ret ?_
      try simp only [Exit.inBlock, Exit.then]
      have hXd : Mem w _ w44 ([blk g4 28 ([.int .i64 ((pubR Dk Vk head).2)]), blk g2 31 ([.pointer (some ⟨s, 0, none⟩)]), blk s 77 ([.pointer (some ⟨f, 0, none⟩), .func (.func 42) #[.pointer (some ⟨f, 0, none⟩)] #[], .pointer (some ⟨X.c, 0, none⟩), .slice X.sa C.kp.length X.sc]), disk ((pubR Dk Vk head).1) p pg mb qb5, blk f 88 (fC (pubV Dk Vk head) p)] ++ [cache C X.c X.mb X.x, lst 79 2 (.slice X.sa C.kp.length X.sc) C.kp.length (stC C.kp), vault X.V]) := M44.arr [3, 2, 4, 0, 1, 5, 6, 7] (by decide)
      refine postD_one (T := fun w9 => Mem w44 (foots [blk g4 28 ([.int .i64 ((pubR Dk Vk head).2)]), blk g2 31 ([.pointer (some ⟨s, 0, none⟩)]), blk s 77 ([.pointer (some ⟨f, 0, none⟩), .func (.func 42) #[.pointer (some ⟨f, 0, none⟩)] #[], .pointer (some ⟨X.c, 0, none⟩), .slice X.sa C.kp.length X.sc]), disk ((pubR Dk Vk head).1) p pg mb qb5, blk f 88 (fC (pubV Dk Vk head) p)]) w9 [blk g4 28 ([.int .i64 ((pubR Dk Vk head).2)]), blk g2 31 ([.pointer (some ⟨s, 0, none⟩)]), blk s 77 ([.pointer (some ⟨f, 0, none⟩), .func (.func 42) #[.pointer (some ⟨f, 0, none⟩)] #[], .pointer (some ⟨X.c, 0, none⟩), .slice X.sa C.kp.length X.sc]), disk ((pubR Dk Vk head).1) p pg mb qb5, blk f 88 (fC ({ (pubV Dk Vk head) with next := ((pubV Dk Vk head)).s.mark } : FV) p)]) rfl Tryd.call31 (flush1_err  (V := (pubV Dk Vk head)) (Mem.here (L := [blk g4 28 ([.int .i64 ((pubR Dk Vk head).2)]), blk g2 31 ([.pointer (some ⟨s, 0, none⟩)]), blk s 77 ([.pointer (some ⟨f, 0, none⟩), .func (.func 42) #[.pointer (some ⟨f, 0, none⟩)] #[], .pointer (some ⟨X.c, 0, none⟩), .slice X.sa C.kp.length X.sc]), disk ((pubR Dk Vk head).1) p pg mb qb5, blk f 88 (fC (pubV Dk Vk head) p)]) (R := [cache C X.c X.mb X.x, lst 79 2 (.slice X.sa C.kp.length X.sc) C.kp.length (stC C.kp), vault X.V]) hXd) hpb) ?_
      intro w9 T9
      have M9 : Mem w _ w9 [blk g4 28 ([.int .i64 ((pubR Dk Vk head).2)]), blk g2 31 ([.pointer (some ⟨s, 0, none⟩)]), blk s 77 ([.pointer (some ⟨f, 0, none⟩), .func (.func 42) #[.pointer (some ⟨f, 0, none⟩)] #[], .pointer (some ⟨X.c, 0, none⟩), .slice X.sa C.kp.length X.sc]), disk ((pubR Dk Vk head).1) p pg mb qb5, blk f 88 (fC ({ (pubV Dk Vk head) with next := ((pubV Dk Vk head)).s.mark } : FV) p), cache C X.c X.mb X.x, lst 79 2 (.slice X.sa C.kp.length X.sc) C.kp.length (stC C.kp), vault X.V] := Mem.frame (Pre := [blk g4 28 ([.int .i64 ((pubR Dk Vk head).2)]), blk g2 31 ([.pointer (some ⟨s, 0, none⟩)]), blk s 77 ([.pointer (some ⟨f, 0, none⟩), .func (.func 42) #[.pointer (some ⟨f, 0, none⟩)] #[], .pointer (some ⟨X.c, 0, none⟩), .slice X.sa C.kp.length X.sc]), disk ((pubR Dk Vk head).1) p pg mb qb5, blk f 88 (fC (pubV Dk Vk head) p)]) (Post := [blk g4 28 ([.int .i64 ((pubR Dk Vk head).2)]), blk g2 31 ([.pointer (some ⟨s, 0, none⟩)]), blk s 77 ([.pointer (some ⟨f, 0, none⟩), .func (.func 42) #[.pointer (some ⟨f, 0, none⟩)] #[], .pointer (some ⟨X.c, 0, none⟩), .slice X.sa C.kp.length X.sc]), disk ((pubR Dk Vk head).1) p pg mb qb5, blk f 88 (fC ({ (pubV Dk Vk head) with next := ((pubV Dk Vk head)).s.mark } : FV) p)]) (R := [cache C X.c X.mb X.x, lst 79 2 (.slice X.sa C.kp.length X.sc) C.kp.length (stC C.kp), vault X.V]) hXd T9
      refine ⟨_, resv1 rfl rfl (M9.get 0 rfl) Tryd.isAgg28, ?_⟩
      have e2 : appAll D V C.kp = (Dk, Vk, 0) := by rw [hA, List.drop_eq_nil_of_le (by omega)]; rfl
      have e0 : flushR D V C head = ((pubR Dk Vk head).1, forgetV Vk, (pubR Dk Vk head).2) := by unfold flushR; rw [if_neg (fun h => h hL), if_neg (by omega), if_neg (by omega), e2, if_neg (fun h => h rfl)]; exact if_pos hpb
      have e1 : flushC D V C head = C := if_neg (by rw [e0]; exact hpb)
      have hva : pubV Dk Vk head = Vk := if_neg hpb
      rw [hva] at M9
      have N2 : Mem w _ w9 [sto C V.s.mark s f X, disk (pubR Dk Vk head).1 p pg mb qb5, blk f 88 (fC (forgetV Vk) p)] := sto_close hso (M9.arr [2, 5, 6, 7, 3, 4] (by decide))
      rw [e1, e0]
      exact ⟨_, X, rfl, rfl, by show Mem _ _ _ [_, _, sto C (forgetV Vk).s.mark s f X]; rw [show (forgetV Vk).s.mark = V.s.mark by show Vk.s.mark = _; rw [hsv]]; exact N2.arr [1, 2, 0] (by decide)⟩
set_option maxRecDepth 100000 in
set_option maxHeartbeats 4000000 in
theorem sflush_go_h {D : DV} {V : FV} {C : CS} {X : SX} {s f p pg mb : Nat} {qv : Value} {w : World} (hM : Mem w (foots [disk D p pg mb qv, blk f 88 (fC V p), sto C V.s.mark s f X]) w [disk D p pg mb qv, blk f 88 (fC V p), sto C V.s.mark s f X]) (head : Int) (hL : liveE D V = 0) (h0 : ¬ head = 0) (h1 : ¬ head < 2) (h2 : ¬ V.s.mark + (C.kp.length : Int) ≤ head) (hg : ¬ 1099511627776 ≤ V.s.gen) (hV : FOk D V) (hnx : V.next = V.s.mark) (hq : D.q.length ≤ 300000000000) (hpl : D.pages.length ≤ 4096) : Calls Tryd.prog 11 #[.pointer (some ⟨s, 0, none⟩), .int .i64 head] w fun e' w' => ∃ qv' X', e' = .returned (.int .i64 (flushR D V C head).2.2) ∧ X'.x.n = X.x.n ∧ Mem w (foots [disk D p pg mb qv, blk f 88 (fC V p), sto C V.s.mark s f X]) w' [disk (flushR D V C head).1 p pg mb qv', blk f 88 (fC (flushR D V C head).2.1 p), sto (flushC D V C head) (flushR D V C head).2.1.s.mark s f X'] := by
  have M := hM
  clear hM
  have hsk := sto_ok (M.get 2 rfl)
  have hm2 := hsk.mk2
  have hkl := hsk.kpl
  have hcl := hsk.room
  have hrm := hsk.rm
  go_enter_defers Tryd.func11, Tryd.ntmps11
  refine wp_seq_k (fun K1 hK1 => ?_)
  refine wp_region_lit ?_
  refine pe rfl (fun K hK => ?_)
  refine e_box1 M (.pointer (some ⟨s, 0, none⟩)) rfl rfl rfl ?_
  intro g2 w2 (M2 : Mem w _ w2 [blk g2 31 ([.pointer (some ⟨s, 0, none⟩)]), disk D p pg mb qv, blk f 88 (fC V p), sto C V.s.mark s f X])
  clear M
  refine hK.out _ _ ?_
  clear hK K
  simp only [Act.put, zq1, zq2, zq3]
  refine pe rfl (fun K hK => ?_)
  refine e_alloc1 M2 (.int .i64 0) rfl rfl Tryd.zeroValue28 ?_
  intro g4 w3 (M3 : Mem w _ w3 [blk g4 28 ([.int .i64 0]), blk g2 31 ([.pointer (some ⟨s, 0, none⟩)]), disk D p pg mb qv, blk f 88 (fC V p), sto C V.s.mark s f X])
  clear M2
  refine hK.out _ _ ?_
  clear hK K
  simp only [Act.put, zq1, zq2, zq3]
  refine wpList_nil ?_
  refine hK1 _ _ ?_
  clear hK1
  refine wp_seq_k (fun K4 hK4 => ?_)
  refine wp_seq_k (fun K5 hK5 => ?_)
  refine wp_region_lit ?_
  refine pl M3 (y_load (v := .pointer (some ⟨s, 0, none⟩)) rfl rfl rfl Tryd.isAgg31 (fun W hW => hW.get 1 rfl) (rfl)) ?_
  simp only [Act.put, zq1, zq2, zq3]
  have hX6 : Mem w _ w3 ([disk D p pg mb qv, blk f 88 (fC V p), sto C V.s.mark s f X] ++ [blk g4 28 ([.int .i64 0]), blk g2 31 ([.pointer (some ⟨s, 0, none⟩)])]) := M3.arr [2, 3, 4, 0, 1] (by decide)
  refine pe rfl (fun K hK => ?_)
  refine e_call 30 [.pointer (some ⟨s, 0, none⟩)] rfl rfl Tryd.call30 (slive_any (Mem.here hX6)) ?_
  rintro e w6 ⟨rfl, H6⟩
  have M6 : Mem w _ w6 [disk D p pg mb qv, blk f 88 (fC V p), sto C V.s.mark s f X, blk g4 28 ([.int .i64 0]), blk g2 31 ([.pointer (some ⟨s, 0, none⟩)])] := Mem.frame hX6 H6
  refine ⟨_, rfl, ?_⟩
  refine hK.out _ _ ?_
  clear hK K
  simp only [Act.put, zq1, zq2, zq3]
  refine pl M6 (y_assign (v := .int .i64 (liveE D V)) rfl rfl rfl) ?_
  simp only [Act.put, zq1, zq2, zq3]
  refine wpList_nil ?_
  refine hK5 _ _ ?_
  clear hK5
  refine wp_seq_k (fun K7 hK7 => ?_)
  refine wp_region_lit ?_
  refine pl M6 (y_move (v := .int .i64 (liveE D V)) rfl rfl rfl) ?_
  simp only [Act.put, zq1, zq2, zq3]
  refine pl M6 (y_neq (b := false) rfl rfl rfl rfl (by rw [decide_eq_true hL]; rfl)) ?_
  simp only [Act.put, zq1, zq2, zq3]
  refine wpList_nil ?_
  refine hK7 _ _ ?_
  clear hK7
  refine wp_cond_false rfl ?_
  refine wp_skip ?_
  refine hK4 _ _ ?_
  clear hK4
  refine wp_seq_k (fun K8 hK8 => ?_)
  refine wp_seq_k (fun K9 hK9 => ?_)
  refine wp_region_lit ?_
  refine pl M6 (y_move (v := .int .i64 head) rfl rfl rfl) ?_
  simp only [Act.put, zq1, zq2, zq3]
  refine pl M6 (y_neq (b := true) rfl rfl rfl rfl (by rw [decide_eq_false h0]; rfl)) ?_
  simp only [Act.put, zq1, zq2, zq3]
  refine pl M6 (y_move (v := .bool true) rfl rfl rfl) ?_
  simp only [Act.put, zq1, zq2, zq3]
  refine pl M6 (y_move (v := .int .i64 head) rfl rfl rfl) ?_
  simp only [Act.put, zq1, zq2, zq3]
  refine pl M6 (y_lss (b := false) rfl rfl rfl rfl (decide_eq_false h1)) ?_
  simp only [Act.put, zq1, zq2, zq3]
  refine pl M6 (y_move (v := .bool false) rfl rfl rfl) ?_
  simp only [Act.put, zq1, zq2, zq3]
  refine pl M6 (y_move (v := .int .i64 head) rfl rfl rfl) ?_
  simp only [Act.put, zq1, zq2, zq3]
  refine pl M6 (y_load (v := .pointer (some ⟨s, 0, none⟩)) rfl rfl rfl Tryd.isAgg31 (fun W hW => hW.get 4 rfl) (rfl)) ?_
  simp only [Act.put, zq1, zq2, zq3]
  have hX10 : Mem w _ w6 ([disk D p pg mb qv, blk f 88 (fC V p), sto C V.s.mark s f X] ++ [blk g4 28 ([.int .i64 0]), blk g2 31 ([.pointer (some ⟨s, 0, none⟩)])]) := M6.arr [0, 1, 2, 3, 4] (by decide)
  refine pe rfl (fun K hK => ?_)
  refine e_call 15 [.pointer (some ⟨s, 0, none⟩)] rfl rfl Tryd.call15 (snext_any (Mem.here hX10)) ?_
  rintro e w10 ⟨rfl, H10⟩
  have M10 : Mem w _ w10 [disk D p pg mb qv, blk f 88 (fC V p), sto C V.s.mark s f X, blk g4 28 ([.int .i64 0]), blk g2 31 ([.pointer (some ⟨s, 0, none⟩)])] := Mem.frame hX10 H10
  refine ⟨_, rfl, ?_⟩
  refine hK.out _ _ ?_
  clear hK K
  simp only [Act.put, zq1, zq2, zq3]
  refine pl M10 (y_geq (b := false) rfl rfl rfl rfl (decide_eq_false h2)) ?_
  simp only [Act.put, zq1, zq2, zq3]
  refine pl M10 (y_pickF (v := .bool false) rfl rfl rfl rfl) ?_
  simp only [Act.put, zq1, zq2, zq3]
  refine pl M10 (y_pickT (v := .bool false) rfl rfl rfl rfl) ?_
  simp only [Act.put, zq1, zq2, zq3]
  refine wpList_nil ?_
  refine hK9 _ _ ?_
  clear hK9
  refine wp_cond_false rfl ?_
  refine wp_skip ?_
  refine hK8 _ _ ?_
  clear hK8
  refine wp_seq_k (fun K11 hK11 => ?_)
  refine wp_seq_k (fun K12 hK12 => ?_)
  refine wp_region_lit ?_
  refine pl M10 (y_load (v := .pointer (some ⟨s, 0, none⟩)) rfl rfl rfl Tryd.isAgg31 (fun W hW => hW.get 4 rfl) (rfl)) ?_
  simp only [Act.put, zq1, zq2, zq3]
  have hX13 : Mem w _ w10 ([disk D p pg mb qv, blk f 88 (fC V p), sto C V.s.mark s f X] ++ [blk g4 28 ([.int .i64 0]), blk g2 31 ([.pointer (some ⟨s, 0, none⟩)])]) := M10.arr [0, 1, 2, 3, 4] (by decide)
  refine pe rfl (fun K hK => ?_)
  refine e_call 12 [.pointer (some ⟨s, 0, none⟩)] rfl rfl Tryd.call12 (ssuper_any (Mem.here hX13)) ?_
  rintro e w13 ⟨rfl, H13⟩
  have M13 : Mem w _ w13 [disk D p pg mb qv, blk f 88 (fC V p), sto C V.s.mark s f X, blk g4 28 ([.int .i64 0]), blk g2 31 ([.pointer (some ⟨s, 0, none⟩)])] := Mem.frame hX13 H13
  refine ⟨_, rfl, ?_⟩
  refine hK.out _ _ ?_
  clear hK K
  simp only [Act.put, zq1, zq2, zq3]
  refine pl M13 (y_field1 (v := .int .i64 V.s.gen) rfl rfl rfl Tryd.underlying26 rfl Tryd.isAgg3 rfl) ?_
  simp only [Act.put, zq1, zq2, zq3]
  refine pl M13 (y_geq (b := false) rfl rfl rfl rfl (decide_eq_false hg)) ?_
  simp only [Act.put, zq1, zq2, zq3]
  refine wpList_nil ?_
  refine hK12 _ _ ?_
  clear hK12
  refine wp_cond_false rfl ?_
  refine wp_skip ?_
  refine hK11 _ _ ?_
  clear hK11
  refine wp_seq_k (fun K14 hK14 => ?_)
  obtain ⟨hso, M15⟩ : _ ∧ Mem w (foots [disk D p pg mb qv, blk f 88 (fC V p), sto C V.s.mark s f X]) w13 [blk s 77 ([.pointer (some ⟨f, 0, none⟩), .func (.func 42) #[.pointer (some ⟨f, 0, none⟩)] #[], .pointer (some ⟨X.c, 0, none⟩), .slice X.sa C.kp.length X.sc]), cache C X.c X.mb X.x, lst 79 2 (.slice X.sa C.kp.length X.sc) C.kp.length (stC C.kp), vault X.V, disk D p pg mb qv, blk f 88 (fC V p), blk g4 28 ([.int .i64 0]), blk g2 31 ([.pointer (some ⟨s, 0, none⟩)])] := sto_open (M13.arr [2, 0, 1, 3, 4] (by decide))
  clear M13
  refine wp_region_lit ?_
  refine pl M15 (y_func (fv := []) (cv := [.pointer (some ⟨g4, 0, none⟩), .pointer (some ⟨g2, 0, none⟩)]) rfl rfl rfl rfl) ?_
  simp only [Act.put, zq1, zq2, zq3]
  refine pe rfl (fun K hK => ?_)
  refine e_defer (ca := [.pointer (some ⟨g4, 0, none⟩), .pointer (some ⟨g2, 0, none⟩)]) rfl rfl ?_
  refine hK.out _ _ ?_
  clear hK K
  simp only [Act.put, zq1, zq2, zq3]
  refine wpList_nil ?_
  refine hK14 _ _ ?_
  clear hK14
  refine wp_seq_k (fun K16 hK16 => ?_)
  refine wp_seq_k (fun K17 hK17 => ?_)
  refine wp_region_lit ?_
  refine pl M15 (y_load (v := .pointer (some ⟨s, 0, none⟩)) rfl rfl rfl Tryd.isAgg31 (fun W hW => hW.get 7 rfl) (rfl)) ?_
  simp only [Act.put, zq1, zq2, zq3]
  refine pl M15 (y_nil rfl rfl rfl) ?_
  simp only [Act.put, zq1, zq2, zq3]
  refine pl M15 (y_fa (r := 3) rfl rfl rfl Tryd.underlying77 rfl Tryd.sizeOf75 rfl) ?_
  simp only [Act.put, zq1, zq2, zq3]
  refine pl M15 (y_load (v := .slice X.sa C.kp.length X.sc) rfl rfl rfl Tryd.isAgg75 (fun W hW => hW.get 0 rfl) (rfl)) ?_
  simp only [Act.put, zq1, zq2, zq3]
  refine pl M15 (y_len rfl rfl rfl Tryd.underlying75) ?_
  simp only [Act.put, zq1, zq2, zq3]
  refine pl M15 (y_move (v := .int .i64 0) rfl rfl rfl) ?_
  simp only [Act.put, zq1, zq2, zq3]
  refine wpList_nil ?_
  refine hK17 _ _ ?_
  clear hK17
  refine wp_block ?_
  refine zlp (fun n' a' w' => ∃ (i : Nat) (Dk : DV) (Vk : FV) (qk : Value) (us18 : List Value), n' = (C.kp.length - i) ∧ a' = (⟨#[.pointer (some ⟨s, 0, none⟩), .int .i64 head, .pointer (some ⟨g2, 0, none⟩), undef, .pointer (some ⟨g4, 0, none⟩), .int .i64 (liveE D V), undef, (us18.getD 0 undef), (us18.getD 1 undef), (us18.getD 2 undef), undef, .pointer (some ⟨s, 0, none⟩), .int .i64 (liveE D V), .int .i64 (liveE D V), .bool false, undef, .int .i64 head, .bool true, .bool true, .int .i64 head, .bool false, .bool false, .int .i64 head, .pointer (some ⟨s, 0, none⟩), .int .i64 (V.s.mark + (C.kp.length : Int)), .bool false, .bool false, .bool false, .pointer (some ⟨s, 0, none⟩), .agg ((supC V.s)).toArray, .int .i64 V.s.gen, .bool false, .func (.func 31) #[] #[.pointer (some ⟨g4, 0, none⟩), .pointer (some ⟨g2, 0, none⟩)], .pointer (some ⟨s, 0, none⟩), .pointer (some ⟨s, 0, none⟩), .pointer (some ⟨s, 3, none⟩), .slice X.sa C.kp.length X.sc, .int .i64 (C.kp.length : Int), .int .i64 (i : Int), (us18.getD 3 undef), (us18.getD 4 undef), (us18.getD 5 undef), (us18.getD 6 undef), (us18.getD 7 undef), (us18.getD 8 undef), (us18.getD 9 undef), (us18.getD 10 undef), (us18.getD 11 undef), (us18.getD 12 undef), (us18.getD 13 undef), (us18.getD 14 undef), (us18.getD 15 undef), (us18.getD 16 undef), (us18.getD 17 undef), (us18.getD 18 undef), (us18.getD 19 undef), (us18.getD 20 undef), (us18.getD 21 undef), undef, undef, undef, undef, undef, undef, undef, undef, undef, undef, undef, undef, undef, undef, undef, undef, undef], [⟨.fn (.func 31) #[.pointer (some ⟨g4, 0, none⟩), .pointer (some ⟨g2, 0, none⟩)], #[]⟩]⟩ : Act) ∧ (appAll D V C.kp = appAll Dk Vk (C.kp.drop i)) ∧ (FOk Dk Vk) ∧ (Dk.q.length ≤ D.q.length + i) ∧ (Vk.s = V.s) ∧ (i ≤ C.kp.length ∧ Vk.next = V.s.mark + (i : Int) ∧ Dk.pages.length = D.pages.length) ∧ Mem w (foots [disk D p pg mb qv, blk f 88 (fC V p), sto C V.s.mark s f X]) w' [blk g2 31 ([.pointer (some ⟨s, 0, none⟩)]), blk g4 28 ([.int .i64 0]), blk s 77 ([.pointer (some ⟨f, 0, none⟩), .func (.func 42) #[.pointer (some ⟨f, 0, none⟩)] #[], .pointer (some ⟨X.c, 0, none⟩), .slice X.sa C.kp.length X.sc]), cache C X.c X.mb X.x, lst 79 2 (.slice X.sa C.kp.length X.sc) C.kp.length (stC C.kp), vault X.V, disk Dk p pg mb qk, blk f 88 (fC Vk p)]) (C.kp.length - 0) ⟨0, D, V, qv, [undef, undef, undef, undef, undef, undef, undef, undef, undef, undef, undef, undef, undef, undef, undef, undef, undef, undef, undef, undef, undef, undef], rfl, rfl, rfl, hV, Nat.le_refl _, rfl, ⟨Nat.zero_le _, by rw [hnx]; simp, rfl⟩, (M15.arr [7, 6, 0, 1, 2, 3, 4, 5] (by decide))⟩ ?_
  clear M15
  rintro n' a' w19 ⟨i, Dk, Vk, qk, us18, rfl, rfl, hA, hK, hqi, hsv, hi, M19⟩
  refine wp_seq_k (fun K20 hK20 => ?_)
  refine wp_region_lit ?_
  rcases Decidable.em ((i : Int) < (C.kp.length : Int)) with h21 | h21
  · refine pl M19 (y_lss (b := true) rfl rfl rfl rfl (decide_eq_true h21)) ?_
    simp only [Act.put, zq1, zq2, zq3]
    refine wpList_nil ?_
    refine hK20 _ _ ?_
    clear hK20
    refine wp_seq_k (fun K22 hK22 => ?_)
    refine wp_cond_true rfl ?_
    refine wp_skip ?_
    refine hK22 _ _ ?_
    clear hK22
    refine wp_seq_k (fun K23 hK23 => ?_)
    refine wp_block ?_
    refine wp_seq_k (fun K24 hK24 => ?_)
    refine wp_region_lit ?_
    obtain ⟨ei, hei⟩ : ∃ e, C.kp[i]? = some e := ⟨_, List.getElem?_eq_getElem (by omega)⟩
    obtain ⟨gl, gc, hgl⟩ := Mem.lstpt (M19.arr [4] (by decide)) (by omega)
    have hv : (ei.ld, ei.l) ∈ X.V := hso.val ei (List.mem_append_right _ (List.mem_of_getElem? hei))
    obtain ⟨la, lc, hle⟩ : ∃ la lc, ei.ld = .slice la ei.l.length lc := qv_at (vault_at (M19.get 5 rfl) hv)
    rw [hle] at hv
    refine pl M19 (y_ias (r := 2 * i) rfl rfl hgl rfl Tryd.underlying75 Tryd.sizeOf79 (by omega) (by omega)) ?_
    simp only [Act.put, zq1, zq2, zq3]
    refine pl M19 (y_loadr (cs := [.int .i64 ei.kd, .slice la ei.l.length lc]) rfl rfl rfl Tryd.underlying79 rfl (size_of_len (n := 2) _ rfl (by kernel_rfl)) (fun W hW => lst_range' (hW.get 4 rfl) hgl (2 * i) (by rw [← hle]; exact stC_at _ _ _ hei))) ?_
    simp only [Act.put, zq1, zq2, zq3]
    refine pe rfl (fun K hK => ?_)
    refine e_alloc M19 ([.int .i64 0, .slice none 0 0]) rfl Tryd.zeroValue79 ?_
    intro g7 w25 (M25 : Mem w _ w25 [blk g7 79 ([.int .i64 0, .slice none 0 0]), blk g2 31 ([.pointer (some ⟨s, 0, none⟩)]), blk g4 28 ([.int .i64 0]), blk s 77 ([.pointer (some ⟨f, 0, none⟩), .func (.func 42) #[.pointer (some ⟨f, 0, none⟩)] #[], .pointer (some ⟨X.c, 0, none⟩), .slice X.sa C.kp.length X.sc]), cache C X.c X.mb X.x, lst 79 2 (.slice X.sa C.kp.length X.sc) C.kp.length (stC C.kp), vault X.V, disk Dk p pg mb qk, blk f 88 (fC Vk p)])
    clear M19
    refine hK.out _ _ ?_
    clear hK K
    simp only [Act.put, zq1, zq2, zq3]
    refine pe rfl (fun K hK => ?_)
    refine e_storew M25 0 (cs := [.int .i64 ei.kd, .slice la ei.l.length lc]) rfl rfl rfl rfl (size_of_len (n := 2) _ rfl (by kernel_rfl)) (list_all _ rfl) rfl (rfl) ?_
    intro w26 (M26 : Mem w _ w26 [blk g7 79 ([.int .i64 ei.kd, .slice la ei.l.length lc]), blk g2 31 ([.pointer (some ⟨s, 0, none⟩)]), blk g4 28 ([.int .i64 0]), blk s 77 ([.pointer (some ⟨f, 0, none⟩), .func (.func 42) #[.pointer (some ⟨f, 0, none⟩)] #[], .pointer (some ⟨X.c, 0, none⟩), .slice X.sa C.kp.length X.sc]), cache C X.c X.mb X.x, lst 79 2 (.slice X.sa C.kp.length X.sc) C.kp.length (stC C.kp), vault X.V, disk Dk p pg mb qk, blk f 88 (fC Vk p)])
    clear M25
    refine hK.out _ _ ?_
    clear hK K
    simp only [Act.put, zq1, zq2, zq3]
    refine wpList_nil ?_
    refine hK24 _ _ ?_
    clear hK24
    refine wp_seq_k (fun K27 hK27 => ?_)
    have M28 := M26.drew
    refine held_begin (fun W => Mem w (foots [disk D p pg mb qv, blk f 88 (fC V p), sto C V.s.mark s f X]) W [blk g7 79 ([.int .i64 ei.kd, .slice la ei.l.length lc]), blk g2 31 ([.pointer (some ⟨s, 0, none⟩)]), blk s 77 ([.pointer (some ⟨f, 0, none⟩), .func (.func 42) #[.pointer (some ⟨f, 0, none⟩)] #[], .pointer (some ⟨X.c, 0, none⟩), .slice X.sa C.kp.length X.sc])]) (by kernel_rfl) (M28.arr [0, 1, 3] (by decide)) (fun hS => ?_)
    refine held_take 0 _ rfl (by kernel_rfl) (by kernel_rfl) (by kernel_rfl) (y_load (v := .pointer (some ⟨s, 0, none⟩)) rfl rfl rfl Tryd.isAgg31 (fun W hW => hW.get 1 rfl) (rfl)) hS ?_
    simp only [Act.put, zq1, zq2, zq3]
    refine held_take 1 _ rfl (by kernel_rfl) (by kernel_rfl) (by kernel_rfl) (y_nil rfl rfl rfl) hS ?_
    simp only [Act.put, zq1, zq2, zq3]
    refine held_take 2 _ rfl (by kernel_rfl) (by kernel_rfl) (by kernel_rfl) (y_fa (r := 0) rfl rfl rfl Tryd.underlying77 rfl Tryd.sizeOf65 rfl) hS ?_
    simp only [Act.put, zq1, zq2, zq3]
    refine held_take 3 _ rfl (by kernel_rfl) (by kernel_rfl) (by kernel_rfl) (y_load (v := .pointer (some ⟨f, 0, none⟩)) rfl rfl rfl Tryd.isAgg65 (fun W hW => hW.get 2 rfl) (rfl)) hS ?_
    simp only [Act.put, zq1, zq2, zq3]
    refine held_take 4 _ rfl (by kernel_rfl) (by kernel_rfl) (by kernel_rfl) (y_fa (r := 0) rfl rfl rfl Tryd.underlying79 rfl Tryd.sizeOf3 rfl) hS ?_
    simp only [Act.put, zq1, zq2, zq3]
    refine held_take 5 _ rfl (by kernel_rfl) (by kernel_rfl) (by kernel_rfl) (y_load (v := .int .i64 ei.kd) rfl rfl rfl Tryd.isAgg3 (fun W hW => hW.get 0 rfl) (rfl)) hS ?_
    simp only [Act.put, zq1, zq2, zq3]
    refine held_take 6 _ rfl (by kernel_rfl) (by kernel_rfl) (by kernel_rfl) (y_fa (r := 1) rfl rfl rfl Tryd.underlying79 rfl Tryd.sizeOf23 rfl) hS ?_
    simp only [Act.put, zq1, zq2, zq3]
    refine held_take 7 _ rfl (by kernel_rfl) (by kernel_rfl) (by kernel_rfl) (y_load (v := .slice la ei.l.length lc) rfl rfl rfl Tryd.isAgg23 (fun W hW => hW.get 0 rfl) (rfl)) hS ?_
    simp only [Act.put, zq1, zq2, zq3]
    have hbl := vault_at (M28.get 6 rfl) hv
    have hof : ∀ b₁ o, la = some ⟨b₁, o, none⟩ → 0 < ei.l.length → b₁ ∉ foots [disk Dk p pg mb qk, blk f 88 (fC Vk p)] := fun b₁ o e _ => Mem.off2 (M28.arr [6, 7, 8] (by decide)) (vault_foot hv b₁ (by subst e; simp [bytesL, lst, obs, Value.ownBlock]))
    have hX29 : Mem w _ w26.drew ([disk Dk p pg mb qk, blk f 88 (fC Vk p)] ++ [blk g7 79 ([.int .i64 ei.kd, .slice la ei.l.length lc]), blk g2 31 ([.pointer (some ⟨s, 0, none⟩)]), blk g4 28 ([.int .i64 0]), blk s 77 ([.pointer (some ⟨f, 0, none⟩), .func (.func 42) #[.pointer (some ⟨f, 0, none⟩)] #[], .pointer (some ⟨X.c, 0, none⟩), .slice X.sa C.kp.length X.sc]), cache C X.c X.mb X.x, lst 79 2 (.slice X.sa C.kp.length X.sc) C.kp.length (stC C.kp), vault X.V]) := M28.arr [7, 8, 0, 1, 2, 3, 4, 5, 6] (by decide)
    have hCH29 := app_any (Mem.here hX29) ei.kd la ei.l.length lc ei.l (bytesL_row hbl) hof (by omega) hK
    refine held_step 8 (by kernel_rfl) rfl (by rfl) (fun K hK => ?_)
    refine e_call 33 [.pointer (some ⟨f, 0, none⟩), .int .i64 ei.kd, .slice la ei.l.length lc] rfl rfl Tryd.call33 (hCH29) ?_
    rintro e w29 ⟨qa5, rfl, H29⟩
    have M29 : Mem w _ w29 [disk (appD Dk Vk ei.kd ei.l) p pg mb qa5, blk f 88 (fC (appV Dk Vk ei.kd ei.l) p), blk g7 79 ([.int .i64 ei.kd, .slice la ei.l.length lc]), blk g2 31 ([.pointer (some ⟨s, 0, none⟩)]), blk g4 28 ([.int .i64 0]), blk s 77 ([.pointer (some ⟨f, 0, none⟩), .func (.func 42) #[.pointer (some ⟨f, 0, none⟩)] #[], .pointer (some ⟨X.c, 0, none⟩), .slice X.sa C.kp.length X.sc]), cache C X.c X.mb X.x, lst 79 2 (.slice X.sa C.kp.length X.sc) C.kp.length (stC C.kp), vault X.V] := Mem.frame hX29 H29
    refine ⟨_, rfl, ?_⟩
    refine hK.out _ _ (M29.arr [2, 3, 5] (by decide)) (fun hS => ?_)
    clear hK K
    simp only [Act.put, zq1, zq2, zq3]
    refine held_take 9 _ rfl (by kernel_rfl) (by kernel_rfl) (by kernel_rfl) (y_move (v := .tuple #[.int .i64 (appN Dk Vk ei.kd ei.l), .int .i64 (appE Dk Vk ei.kd ei.l)]) rfl rfl rfl) hS ?_
    simp only [Act.put, zq1, zq2, zq3]
    refine held_take 10 _ rfl (by kernel_rfl) (by kernel_rfl) (by kernel_rfl) (y_ext (v := .int .i64 (appN Dk Vk ei.kd ei.l)) rfl rfl rfl rfl) hS ?_
    simp only [Act.put, zq1, zq2, zq3]
    refine held_take 11 _ rfl (by kernel_rfl) (by kernel_rfl) (by kernel_rfl) (y_ext (v := .int .i64 (appE Dk Vk ei.kd ei.l)) rfl rfl rfl rfl) hS ?_
    simp only [Act.put, zq1, zq2, zq3]
    refine held_take 12 _ rfl (by kernel_rfl) (by kernel_rfl) (by kernel_rfl) (y_assign (v := .int .i64 (appN Dk Vk ei.kd ei.l)) rfl rfl rfl) hS ?_
    simp only [Act.put, zq1, zq2, zq3]
    refine held_take 13 _ rfl (by kernel_rfl) (by kernel_rfl) (by kernel_rfl) (y_assign (v := .int .i64 (appE Dk Vk ei.kd ei.l)) rfl rfl rfl) hS ?_
    simp only [Act.put, zq1, zq2, zq3]
    refine held_done (by kernel_rfl) ?_ _
    refine hK27 _ _ ?_
    clear hK27
    refine wp_seq_k (fun K30 hK30 => ?_)
    refine wp_region_lit ?_
    refine pl M29 (y_move (v := .int .i64 (appE Dk Vk ei.kd ei.l)) rfl rfl rfl) ?_
    simp only [Act.put, zq1, zq2, zq3]
    rcases Decidable.em (appE Dk Vk ei.kd ei.l = 0) with hap | hap
    · have hm5 := app_more2 hK hap
      refine pl M29 (y_neq (b := false) rfl rfl rfl rfl (by rw [decide_eq_true hap]; rfl)) ?_
      simp only [Act.put, zq1, zq2, zq3]
      refine wpList_nil ?_
      refine hK30 _ _ ?_
      clear hK30
      refine wp_cond_false rfl ?_
      refine wp_skip ?_
      refine hK23 _ _ ?_
      clear hK23
      refine wp_region_lit ?_
      refine pl M29 (y_add (r := (i : Int) + 1) rfl rfl rfl rfl (rfl) (by omega)) ?_
      simp only [Act.put, zq1, zq2, zq3]
      refine pl M29 (y_move (v := .int .i64 ((i : Int) + 1)) rfl rfl rfl) ?_
      simp only [Act.put, zq1, zq2, zq3]
      refine wpList_nil ?_
      refine ⟨_, ?_, i + 1, (appD Dk Vk ei.kd ei.l), (appV Dk Vk ei.kd ei.l), qa5, [.pointer (some ⟨g7, 0, none⟩), .int .i64 (appN Dk Vk ei.kd ei.l), .int .i64 (appE Dk Vk ei.kd ei.l), .bool true, .pointer (some ⟨gl, 2 * i, none⟩), .agg ([.int .i64 ei.kd, .slice la ei.l.length lc]).toArray, .tuple #[.int .i64 (appN Dk Vk ei.kd ei.l), .int .i64 (appE Dk Vk ei.kd ei.l)], .pointer (some ⟨s, 0, none⟩), .pointer (some ⟨s, 0, none⟩), .pointer (some ⟨s, 0, none⟩), .pointer (some ⟨f, 0, none⟩), .pointer (some ⟨g7, 0, none⟩), .int .i64 ei.kd, .pointer (some ⟨g7, 1, none⟩), .slice la ei.l.length lc, .tuple #[.int .i64 (appN Dk Vk ei.kd ei.l), .int .i64 (appE Dk Vk ei.kd ei.l)], .int .i64 (appN Dk Vk ei.kd ei.l), .int .i64 (appE Dk Vk ei.kd ei.l), .int .i64 (appE Dk Vk ei.kd ei.l), .bool false, (us18.getD 20 undef), .int .i64 ((i : Int) + 1)], rfl, rfl, (by rw [hA, drop_cons hei]; exact if_pos hap), hm5.2.1, (by have := hm5.2.2.2.1; omega), (hm5.2.2.1.trans hsv), ⟨by omega, by rw [(app_yes hap).2]; show Vk.next + 1 = _; omega, hm5.2.2.2.2.trans hi.2.2⟩, (M29.arr [3, 4, 5, 6, 7, 8, 0, 1] (by decide))⟩
      omega
    · have hm5 := hap
      refine pl M29 (y_neq (b := true) rfl rfl rfl rfl (by rw [decide_eq_false hap]; rfl)) ?_
      simp only [Act.put, zq1, zq2, zq3]
      refine wpList_nil ?_
      refine hK30 _ _ ?_
      clear hK30
      refine wp_cond_true rfl ?_
      refine wp_seq_k (fun K31 hK31 => ?_)
      refine wp_region_lit ?_
      refine pl M29 (y_move (v := .int .i64 (appE Dk Vk ei.kd ei.l)) rfl rfl rfl) ?_
      simp only [Act.put, zq1, zq2, zq3]
      refine pe rfl (fun K hK => ?_)
      refine e_store M29 4 (v := .int .i64 (appE Dk Vk ei.kd ei.l)) rfl rfl rfl rfl rfl rfl Tryd.sizeOf28 rfl (show (0 : Nat) < 1 by decide) ?_
      intro w32 (M32 : Mem w _ w32 [disk (appD Dk Vk ei.kd ei.l) p pg mb qa5, blk f 88 (fC (appV Dk Vk ei.kd ei.l) p), blk g7 79 ([.int .i64 ei.kd, .slice la ei.l.length lc]), blk g2 31 ([.pointer (some ⟨s, 0, none⟩)]), blk g4 28 ([.int .i64 (appE Dk Vk ei.kd ei.l)]), blk s 77 ([.pointer (some ⟨f, 0, none⟩), .func (.func 42) #[.pointer (some ⟨f, 0, none⟩)] #[], .pointer (some ⟨X.c, 0, none⟩), .slice X.sa C.kp.length X.sc]), cache C X.c X.mb X.x, lst 79 2 (.slice X.sa C.kp.length X.sc) C.kp.length (stC C.kp), vault X.V])
      clear M29
      refine hK.out _ _ ?_
      clear hK K
      simp only [Act.put, zq1, zq2, zq3]
      refine wpList_nil ?_
      refine hK31 _ _ ?_
      clear hK31
      refine wp_ret ?_
      try simp only [Exit.inBlock, Exit.then]
      have hXd : Mem w _ w32 ([blk g4 28 ([.int .i64 (appE Dk Vk ei.kd ei.l)]), blk g2 31 ([.pointer (some ⟨s, 0, none⟩)]), blk s 77 ([.pointer (some ⟨f, 0, none⟩), .func (.func 42) #[.pointer (some ⟨f, 0, none⟩)] #[], .pointer (some ⟨X.c, 0, none⟩), .slice X.sa C.kp.length X.sc]), disk (appD Dk Vk ei.kd ei.l) p pg mb qa5, blk f 88 (fC (appV Dk Vk ei.kd ei.l) p)] ++ [blk g7 79 ([.int .i64 ei.kd, .slice la ei.l.length lc]), cache C X.c X.mb X.x, lst 79 2 (.slice X.sa C.kp.length X.sc) C.kp.length (stC C.kp), vault X.V]) := M32.arr [4, 3, 5, 0, 1, 2, 6, 7, 8] (by decide)
      refine postD_one (T := fun w9 => Mem w32 (foots [blk g4 28 ([.int .i64 (appE Dk Vk ei.kd ei.l)]), blk g2 31 ([.pointer (some ⟨s, 0, none⟩)]), blk s 77 ([.pointer (some ⟨f, 0, none⟩), .func (.func 42) #[.pointer (some ⟨f, 0, none⟩)] #[], .pointer (some ⟨X.c, 0, none⟩), .slice X.sa C.kp.length X.sc]), disk (appD Dk Vk ei.kd ei.l) p pg mb qa5, blk f 88 (fC (appV Dk Vk ei.kd ei.l) p)]) w9 [blk g4 28 ([.int .i64 (appE Dk Vk ei.kd ei.l)]), blk g2 31 ([.pointer (some ⟨s, 0, none⟩)]), blk s 77 ([.pointer (some ⟨f, 0, none⟩), .func (.func 42) #[.pointer (some ⟨f, 0, none⟩)] #[], .pointer (some ⟨X.c, 0, none⟩), .slice X.sa C.kp.length X.sc]), disk (appD Dk Vk ei.kd ei.l) p pg mb qa5, blk f 88 (fC ({ (appV Dk Vk ei.kd ei.l) with next := ((appV Dk Vk ei.kd ei.l)).s.mark } : FV) p)]) rfl Tryd.call31 (flush1_err  (V := (appV Dk Vk ei.kd ei.l)) (Mem.here (L := [blk g4 28 ([.int .i64 (appE Dk Vk ei.kd ei.l)]), blk g2 31 ([.pointer (some ⟨s, 0, none⟩)]), blk s 77 ([.pointer (some ⟨f, 0, none⟩), .func (.func 42) #[.pointer (some ⟨f, 0, none⟩)] #[], .pointer (some ⟨X.c, 0, none⟩), .slice X.sa C.kp.length X.sc]), disk (appD Dk Vk ei.kd ei.l) p pg mb qa5, blk f 88 (fC (appV Dk Vk ei.kd ei.l) p)]) (R := [blk g7 79 ([.int .i64 ei.kd, .slice la ei.l.length lc]), cache C X.c X.mb X.x, lst 79 2 (.slice X.sa C.kp.length X.sc) C.kp.length (stC C.kp), vault X.V]) hXd) hap) ?_
      intro w9 T9
      have M9 : Mem w _ w9 [blk g4 28 ([.int .i64 (appE Dk Vk ei.kd ei.l)]), blk g2 31 ([.pointer (some ⟨s, 0, none⟩)]), blk s 77 ([.pointer (some ⟨f, 0, none⟩), .func (.func 42) #[.pointer (some ⟨f, 0, none⟩)] #[], .pointer (some ⟨X.c, 0, none⟩), .slice X.sa C.kp.length X.sc]), disk (appD Dk Vk ei.kd ei.l) p pg mb qa5, blk f 88 (fC ({ (appV Dk Vk ei.kd ei.l) with next := ((appV Dk Vk ei.kd ei.l)).s.mark } : FV) p), blk g7 79 ([.int .i64 ei.kd, .slice la ei.l.length lc]), cache C X.c X.mb X.x, lst 79 2 (.slice X.sa C.kp.length X.sc) C.kp.length (stC C.kp), vault X.V] := Mem.frame (Pre := [blk g4 28 ([.int .i64 (appE Dk Vk ei.kd ei.l)]), blk g2 31 ([.pointer (some ⟨s, 0, none⟩)]), blk s 77 ([.pointer (some ⟨f, 0, none⟩), .func (.func 42) #[.pointer (some ⟨f, 0, none⟩)] #[], .pointer (some ⟨X.c, 0, none⟩), .slice X.sa C.kp.length X.sc]), disk (appD Dk Vk ei.kd ei.l) p pg mb qa5, blk f 88 (fC (appV Dk Vk ei.kd ei.l) p)]) (Post := [blk g4 28 ([.int .i64 (appE Dk Vk ei.kd ei.l)]), blk g2 31 ([.pointer (some ⟨s, 0, none⟩)]), blk s 77 ([.pointer (some ⟨f, 0, none⟩), .func (.func 42) #[.pointer (some ⟨f, 0, none⟩)] #[], .pointer (some ⟨X.c, 0, none⟩), .slice X.sa C.kp.length X.sc]), disk (appD Dk Vk ei.kd ei.l) p pg mb qa5, blk f 88 (fC ({ (appV Dk Vk ei.kd ei.l) with next := ((appV Dk Vk ei.kd ei.l)).s.mark } : FV) p)]) (R := [blk g7 79 ([.int .i64 ei.kd, .slice la ei.l.length lc]), cache C X.c X.mb X.x, lst 79 2 (.slice X.sa C.kp.length X.sc) C.kp.length (stC C.kp), vault X.V]) hXd T9
      refine ⟨_, resv1 rfl rfl (M9.get 0 rfl) Tryd.isAgg28, ?_⟩
      have e2 : appAll D V C.kp = (appD Dk Vk ei.kd ei.l, Vk, appE Dk Vk ei.kd ei.l) := by rw [hA, drop_cons hei]; exact if_neg hap
      have e0 : flushR D V C head = (appD Dk Vk ei.kd ei.l, forgetV Vk, appE Dk Vk ei.kd ei.l) := by unfold flushR; rw [if_neg (fun h => h hL), if_neg (by omega), if_neg (by omega), e2, if_pos hap]
      have e1 : flushC D V C head = C := if_neg (by rw [e0]; exact hap)
      have hva : appV Dk Vk ei.kd ei.l = Vk := (app_no rfl hap).2
      rw [hva] at M9
      have N2 : Mem w _ w9 [sto C V.s.mark s f X, disk (appD Dk Vk ei.kd ei.l) p pg mb qa5, blk f 88 (fC (forgetV Vk) p)] := sto_close hso (M9.arr [2, 6, 7, 8, 3, 4] (by decide))
      rw [e1, e0]
      exact ⟨_, X, rfl, rfl, by show Mem _ _ _ [_, _, sto C (forgetV Vk).s.mark s f X]; rw [show (forgetV Vk).s.mark = V.s.mark by show Vk.s.mark = _; rw [hsv]]; exact N2.arr [1, 2, 0] (by decide)⟩
  · refine pl M19 (y_lss (b := false) rfl rfl rfl rfl (decide_eq_false h21)) ?_
    simp only [Act.put, zq1, zq2, zq3]
    refine wpList_nil ?_
    refine hK20 _ _ ?_
    clear hK20
    refine wp_seq_k (fun K33 hK33 => ?_)
    refine wp_cond_false rfl ?_
    refine wp_exit ?_
    refine hK16 _ _ ?_
    clear hK16
    refine wp_seq_k (fun K34 hK34 => ?_)
    refine wp_seq_k (fun K35 hK35 => ?_)
    refine wp_region_lit ?_
    refine pl M19 (y_load (v := .pointer (some ⟨s, 0, none⟩)) rfl rfl rfl Tryd.isAgg31 (fun W hW => hW.get 0 rfl) (rfl)) ?_
    simp only [Act.put, zq1, zq2, zq3]
    refine pl M19 (y_nil rfl rfl rfl) ?_
    simp only [Act.put, zq1, zq2, zq3]
    refine pl M19 (y_fa (r := 0) rfl rfl rfl Tryd.underlying77 rfl Tryd.sizeOf65 rfl) ?_
    simp only [Act.put, zq1, zq2, zq3]
    refine pl M19 (y_load (v := .pointer (some ⟨f, 0, none⟩)) rfl rfl rfl Tryd.isAgg65 (fun W hW => hW.get 2 rfl) (rfl)) ?_
    simp only [Act.put, zq1, zq2, zq3]
    refine pl M19 (y_move (v := .int .i64 head) rfl rfl rfl) ?_
    simp only [Act.put, zq1, zq2, zq3]
    have hX36 : Mem w _ w19 ([disk Dk p pg mb qk, blk f 88 (fC Vk p)] ++ [blk g2 31 ([.pointer (some ⟨s, 0, none⟩)]), blk g4 28 ([.int .i64 0]), blk s 77 ([.pointer (some ⟨f, 0, none⟩), .func (.func 42) #[.pointer (some ⟨f, 0, none⟩)] #[], .pointer (some ⟨X.c, 0, none⟩), .slice X.sa C.kp.length X.sc]), cache C X.c X.mb X.x, lst 79 2 (.slice X.sa C.kp.length X.sc) C.kp.length (stC C.kp), vault X.V]) := M19.arr [6, 7, 0, 1, 2, 3, 4, 5] (by decide)
    have hCH36 := pub_any (Mem.here hX36) head (by omega) hK
    refine pe rfl (fun K hK => ?_)
    refine e_call 34 [.pointer (some ⟨f, 0, none⟩), .int .i64 head] rfl rfl Tryd.call34 (hCH36) ?_
    rintro e w36 ⟨qb5, rfl, H36⟩
    have M36 : Mem w _ w36 [disk ((pubR Dk Vk head).1) p pg mb qb5, blk f 88 (fC (pubV Dk Vk head) p), blk g2 31 ([.pointer (some ⟨s, 0, none⟩)]), blk g4 28 ([.int .i64 0]), blk s 77 ([.pointer (some ⟨f, 0, none⟩), .func (.func 42) #[.pointer (some ⟨f, 0, none⟩)] #[], .pointer (some ⟨X.c, 0, none⟩), .slice X.sa C.kp.length X.sc]), cache C X.c X.mb X.x, lst 79 2 (.slice X.sa C.kp.length X.sc) C.kp.length (stC C.kp), vault X.V] := Mem.frame hX36 H36
    refine ⟨_, rfl, ?_⟩
    refine hK.out _ _ ?_
    clear hK K
    simp only [Act.put, zq1, zq2, zq3]
    refine pl M36 (y_assign (v := .int .i64 ((pubR Dk Vk head).2)) rfl rfl rfl) ?_
    simp only [Act.put, zq1, zq2, zq3]
    refine wpList_nil ?_
    refine hK35 _ _ ?_
    clear hK35
    refine wp_seq_k (fun K37 hK37 => ?_)
    refine wp_region_lit ?_
    refine pl M36 (y_move (v := .int .i64 ((pubR Dk Vk head).2)) rfl rfl rfl) ?_
    simp only [Act.put, zq1, zq2, zq3]
    rcases Decidable.em ((pubR Dk Vk head).2 = 0) with hpb | hpb
    · refine pl M36 (y_neq (b := false) rfl rfl rfl rfl (by rw [decide_eq_true hpb]; rfl)) ?_
      simp only [Act.put, zq1, zq2, zq3]
      refine wpList_nil ?_
      refine hK37 _ _ ?_
      clear hK37
      refine wp_cond_false rfl ?_
      refine wp_skip ?_
      refine hK34 _ _ ?_
      clear hK34
      refine wp_seq_k (fun K38 hK38 => ?_)
      refine wp_region_lit ?_
      refine pl M36 (y_load (v := .pointer (some ⟨s, 0, none⟩)) rfl rfl rfl Tryd.isAgg31 (fun W hW => hW.get 2 rfl) (rfl)) ?_
      simp only [Act.put, zq1, zq2, zq3]
      refine pl M36 (y_nil rfl rfl rfl) ?_
      simp only [Act.put, zq1, zq2, zq3]
      refine pl M36 (y_fa (r := 3) rfl rfl rfl Tryd.underlying77 rfl Tryd.sizeOf75 rfl) ?_
      simp only [Act.put, zq1, zq2, zq3]
      refine pe rfl (fun K hK => ?_)
      refine e_store M36 4 (v := .slice none 0 0) rfl rfl rfl rfl rfl rfl Tryd.sizeOf75 rfl (show (3 : Nat) < 4 by decide) ?_
      intro w39 (M39 : Mem w _ w39 [disk ((pubR Dk Vk head).1) p pg mb qb5, blk f 88 (fC (pubV Dk Vk head) p), blk g2 31 ([.pointer (some ⟨s, 0, none⟩)]), blk g4 28 ([.int .i64 0]), blk s 77 ([.pointer (some ⟨f, 0, none⟩), .func (.func 42) #[.pointer (some ⟨f, 0, none⟩)] #[], .pointer (some ⟨X.c, 0, none⟩), .slice none 0 0]), cache C X.c X.mb X.x, lst 79 2 (.slice X.sa C.kp.length X.sc) C.kp.length (stC C.kp), vault X.V])
      clear M36
      refine hK.out _ _ ?_
      clear hK K
      simp only [Act.put, zq1, zq2, zq3]
      refine wpList_nil ?_
      refine hK38 _ _ ?_
      clear hK38
      refine wp_seq_k (fun K40 hK40 => ?_)
      refine wp_region_lit ?_
      refine pl M39 (y_load (v := .pointer (some ⟨s, 0, none⟩)) rfl rfl rfl Tryd.isAgg31 (fun W hW => hW.get 2 rfl) (rfl)) ?_
      simp only [Act.put, zq1, zq2, zq3]
      refine pl M39 (y_nil rfl rfl rfl) ?_
      simp only [Act.put, zq1, zq2, zq3]
      refine pl M39 (y_fa (r := 2) rfl rfl rfl Tryd.underlying77 rfl Tryd.sizeOf74 rfl) ?_
      simp only [Act.put, zq1, zq2, zq3]
      refine pl M39 (y_load (v := .pointer (some ⟨X.c, 0, none⟩)) rfl rfl rfl Tryd.isAgg74 (fun W hW => hW.get 4 rfl) (rfl)) ?_
      simp only [Act.put, zq1, zq2, zq3]
      have hX41 : Mem w _ w39 ([cache C X.c X.mb X.x] ++ [disk ((pubR Dk Vk head).1) p pg mb qb5, blk f 88 (fC (pubV Dk Vk head) p), blk g2 31 ([.pointer (some ⟨s, 0, none⟩)]), blk g4 28 ([.int .i64 0]), blk s 77 ([.pointer (some ⟨f, 0, none⟩), .func (.func 42) #[.pointer (some ⟨f, 0, none⟩)] #[], .pointer (some ⟨X.c, 0, none⟩), .slice none 0 0]), lst 79 2 (.slice X.sa C.kp.length X.sc) C.kp.length (stC C.kp), vault X.V]) := M39.arr [5, 0, 1, 2, 3, 4, 6, 7] (by decide)
      have hCH41 := csettle (Mem.here hX41) (by omega)
      refine pe rfl (fun K hK => ?_)
      refine e_call 35 [.pointer (some ⟨X.c, 0, none⟩)] rfl rfl Tryd.call35 (hCH41) ?_
      rintro e w41 ⟨x2, rfl, hx2, H41⟩
      have M41 : Mem w _ w41 [cache (trimS (setS C)) X.c X.mb x2, disk ((pubR Dk Vk head).1) p pg mb qb5, blk f 88 (fC (pubV Dk Vk head) p), blk g2 31 ([.pointer (some ⟨s, 0, none⟩)]), blk g4 28 ([.int .i64 0]), blk s 77 ([.pointer (some ⟨f, 0, none⟩), .func (.func 42) #[.pointer (some ⟨f, 0, none⟩)] #[], .pointer (some ⟨X.c, 0, none⟩), .slice none 0 0]), lst 79 2 (.slice X.sa C.kp.length X.sc) C.kp.length (stC C.kp), vault X.V] := Mem.frame hX41 H41
      refine ⟨_, rfl, ?_⟩
      refine hK.out _ _ ?_
      clear hK K
      simp only [Act.put, zq1, zq2, zq3]
      refine wpList_nil ?_
      refine hK40 _ _ ?_
      clear hK40
      refine wp_seq_k (fun K42 hK42 => ?_)
      refine wp_region_lit ?_
      refine pe rfl (fun K hK => ?_)
      refine e_store M41 4 (v := .int .i64 0) rfl rfl rfl rfl rfl rfl Tryd.sizeOf28 rfl (show (0 : Nat) < 1 by decide) ?_
      intro w43 (M43 : Mem w _ w43 [cache (trimS (setS C)) X.c X.mb x2, disk ((pubR Dk Vk head).1) p pg mb qb5, blk f 88 (fC (pubV Dk Vk head) p), blk g2 31 ([.pointer (some ⟨s, 0, none⟩)]), blk g4 28 ([.int .i64 0]), blk s 77 ([.pointer (some ⟨f, 0, none⟩), .func (.func 42) #[.pointer (some ⟨f, 0, none⟩)] #[], .pointer (some ⟨X.c, 0, none⟩), .slice none 0 0]), lst 79 2 (.slice X.sa C.kp.length X.sc) C.kp.length (stC C.kp), vault X.V])
      clear M41
      refine hK.out _ _ ?_
      clear hK K
      simp only [Act.put, zq1, zq2, zq3]
      refine wpList_nil ?_
      refine hK42 _ _ ?_
      clear hK42
      refine wp_ret ?_
      try simp only [Exit.inBlock, Exit.then]
      have hXd : Mem w _ w43 ([blk g4 28 ([.int .i64 0]), blk g2 31 ([.pointer (some ⟨s, 0, none⟩)]), blk s 77 ([.pointer (some ⟨f, 0, none⟩), .func (.func 42) #[.pointer (some ⟨f, 0, none⟩)] #[], .pointer (some ⟨X.c, 0, none⟩), .slice none 0 0]), disk ((pubR Dk Vk head).1) p pg mb qb5, blk f 88 (fC (pubV Dk Vk head) p)] ++ [cache (trimS (setS C)) X.c X.mb x2, lst 79 2 (.slice X.sa C.kp.length X.sc) C.kp.length (stC C.kp), vault X.V]) := M43.arr [4, 3, 5, 1, 2, 0, 6, 7] (by decide)
      refine postD_one (T := fun w9 => Mem w43 (foots [blk g4 28 ([.int .i64 0]), blk g2 31 ([.pointer (some ⟨s, 0, none⟩)]), blk s 77 ([.pointer (some ⟨f, 0, none⟩), .func (.func 42) #[.pointer (some ⟨f, 0, none⟩)] #[], .pointer (some ⟨X.c, 0, none⟩), .slice none 0 0]), disk ((pubR Dk Vk head).1) p pg mb qb5, blk f 88 (fC (pubV Dk Vk head) p)]) w9 [blk g4 28 ([.int .i64 0]), blk g2 31 ([.pointer (some ⟨s, 0, none⟩)]), blk s 77 ([.pointer (some ⟨f, 0, none⟩), .func (.func 42) #[.pointer (some ⟨f, 0, none⟩)] #[], .pointer (some ⟨X.c, 0, none⟩), .slice none 0 0]), disk ((pubR Dk Vk head).1) p pg mb qb5, blk f 88 (fC (pubV Dk Vk head) p)]) rfl Tryd.call31 (flush1_ok  (V := (pubV Dk Vk head)) (Mem.here (L := [blk g4 28 ([.int .i64 0]), blk g2 31 ([.pointer (some ⟨s, 0, none⟩)]), blk s 77 ([.pointer (some ⟨f, 0, none⟩), .func (.func 42) #[.pointer (some ⟨f, 0, none⟩)] #[], .pointer (some ⟨X.c, 0, none⟩), .slice none 0 0]), disk ((pubR Dk Vk head).1) p pg mb qb5, blk f 88 (fC (pubV Dk Vk head) p)]) (R := [cache (trimS (setS C)) X.c X.mb x2, lst 79 2 (.slice X.sa C.kp.length X.sc) C.kp.length (stC C.kp), vault X.V]) hXd) rfl) ?_
      intro w9 T9
      have M9 : Mem w _ w9 [blk g4 28 ([.int .i64 0]), blk g2 31 ([.pointer (some ⟨s, 0, none⟩)]), blk s 77 ([.pointer (some ⟨f, 0, none⟩), .func (.func 42) #[.pointer (some ⟨f, 0, none⟩)] #[], .pointer (some ⟨X.c, 0, none⟩), .slice none 0 0]), disk ((pubR Dk Vk head).1) p pg mb qb5, blk f 88 (fC (pubV Dk Vk head) p), cache (trimS (setS C)) X.c X.mb x2, lst 79 2 (.slice X.sa C.kp.length X.sc) C.kp.length (stC C.kp), vault X.V] := Mem.frame (Pre := [blk g4 28 ([.int .i64 0]), blk g2 31 ([.pointer (some ⟨s, 0, none⟩)]), blk s 77 ([.pointer (some ⟨f, 0, none⟩), .func (.func 42) #[.pointer (some ⟨f, 0, none⟩)] #[], .pointer (some ⟨X.c, 0, none⟩), .slice none 0 0]), disk ((pubR Dk Vk head).1) p pg mb qb5, blk f 88 (fC (pubV Dk Vk head) p)]) (Post := [blk g4 28 ([.int .i64 0]), blk g2 31 ([.pointer (some ⟨s, 0, none⟩)]), blk s 77 ([.pointer (some ⟨f, 0, none⟩), .func (.func 42) #[.pointer (some ⟨f, 0, none⟩)] #[], .pointer (some ⟨X.c, 0, none⟩), .slice none 0 0]), disk ((pubR Dk Vk head).1) p pg mb qb5, blk f 88 (fC (pubV Dk Vk head) p)]) (R := [cache (trimS (setS C)) X.c X.mb x2, lst 79 2 (.slice X.sa C.kp.length X.sc) C.kp.length (stC C.kp), vault X.V]) hXd T9
      refine ⟨_, resv1 rfl rfl (M9.get 0 rfl) Tryd.isAgg28, ?_⟩
      have e2 : appAll D V C.kp = (Dk, Vk, 0) := by rw [hA, List.drop_eq_nil_of_le (by omega)]; rfl
      have e0 : flushR D V C head = ((pubR Dk Vk head).1, pubV Dk Vk head, 0) := by unfold flushR; rw [if_neg (fun h => h hL), if_neg (by omega), if_neg (by omega), e2, if_neg (fun h => h rfl)]; exact if_neg (fun h => h hpb)
      have e1 : flushC D V C head = trimS (setS C) := if_pos (by rw [e0])
      have hva : pubV Dk Vk head = { Vk with s := pubS Vk head } := if_pos hpb
      have hso2 : SOk (trimS (setS C)) (pubV Dk Vk head).s.mark ({ X with x := x2, sa := none, sc := 0 } : SX) := hso.flush x2 (by rw [hva]; show Vk.next = _; omega) (by rw [hva]; show Vk.next ≤ _; have := hK.hi; have := hK.pages; omega)
      have N1 := Mem.nilst (M9.arr [2, 5, 7, 3, 4] (by decide)) 79 2
      have N2 : Mem w _ w9 [sto (trimS (setS C)) (pubV Dk Vk head).s.mark s f ({ X with x := x2, sa := none, sc := 0 } : SX), disk (pubR Dk Vk head).1 p pg mb qb5, blk f 88 (fC (pubV Dk Vk head) p)] := sto_close (C := trimS (setS C)) (X := ({ X with x := x2, sa := none, sc := 0 } : SX)) hso2 (N1.arr [1, 2, 0, 3, 4, 5] (by decide))
      rw [e1, e0]
      exact ⟨_, ({ X with x := x2, sa := none, sc := 0 } : SX), rfl, hx2, N2.arr [1, 2, 0] (by decide)⟩
    · refine pl M36 (y_neq (b := true) rfl rfl rfl rfl (by rw [decide_eq_false hpb]; rfl)) ?_
      simp only [Act.put, zq1, zq2, zq3]
      refine wpList_nil ?_
      refine hK37 _ _ ?_
      clear hK37
      refine wp_cond_true rfl ?_
      refine wp_seq_k (fun K44 hK44 => ?_)
      refine wp_region_lit ?_
      refine pl M36 (y_move (v := .int .i64 ((pubR Dk Vk head).2)) rfl rfl rfl) ?_
      simp only [Act.put, zq1, zq2, zq3]
      refine pe rfl (fun K hK => ?_)
      refine e_store M36 3 (v := .int .i64 ((pubR Dk Vk head).2)) rfl rfl rfl rfl rfl rfl Tryd.sizeOf28 rfl (show (0 : Nat) < 1 by decide) ?_
      intro w45 (M45 : Mem w _ w45 [disk ((pubR Dk Vk head).1) p pg mb qb5, blk f 88 (fC (pubV Dk Vk head) p), blk g2 31 ([.pointer (some ⟨s, 0, none⟩)]), blk g4 28 ([.int .i64 ((pubR Dk Vk head).2)]), blk s 77 ([.pointer (some ⟨f, 0, none⟩), .func (.func 42) #[.pointer (some ⟨f, 0, none⟩)] #[], .pointer (some ⟨X.c, 0, none⟩), .slice X.sa C.kp.length X.sc]), cache C X.c X.mb X.x, lst 79 2 (.slice X.sa C.kp.length X.sc) C.kp.length (stC C.kp), vault X.V])
      clear M36
      refine hK.out _ _ ?_
      clear hK K
      simp only [Act.put, zq1, zq2, zq3]
      refine wpList_nil ?_
      refine hK44 _ _ ?_
      clear hK44
      refine wp_ret ?_
      try simp only [Exit.inBlock, Exit.then]
      have hXd : Mem w _ w45 ([blk g4 28 ([.int .i64 ((pubR Dk Vk head).2)]), blk g2 31 ([.pointer (some ⟨s, 0, none⟩)]), blk s 77 ([.pointer (some ⟨f, 0, none⟩), .func (.func 42) #[.pointer (some ⟨f, 0, none⟩)] #[], .pointer (some ⟨X.c, 0, none⟩), .slice X.sa C.kp.length X.sc]), disk ((pubR Dk Vk head).1) p pg mb qb5, blk f 88 (fC (pubV Dk Vk head) p)] ++ [cache C X.c X.mb X.x, lst 79 2 (.slice X.sa C.kp.length X.sc) C.kp.length (stC C.kp), vault X.V]) := M45.arr [3, 2, 4, 0, 1, 5, 6, 7] (by decide)
      refine postD_one (T := fun w9 => Mem w45 (foots [blk g4 28 ([.int .i64 ((pubR Dk Vk head).2)]), blk g2 31 ([.pointer (some ⟨s, 0, none⟩)]), blk s 77 ([.pointer (some ⟨f, 0, none⟩), .func (.func 42) #[.pointer (some ⟨f, 0, none⟩)] #[], .pointer (some ⟨X.c, 0, none⟩), .slice X.sa C.kp.length X.sc]), disk ((pubR Dk Vk head).1) p pg mb qb5, blk f 88 (fC (pubV Dk Vk head) p)]) w9 [blk g4 28 ([.int .i64 ((pubR Dk Vk head).2)]), blk g2 31 ([.pointer (some ⟨s, 0, none⟩)]), blk s 77 ([.pointer (some ⟨f, 0, none⟩), .func (.func 42) #[.pointer (some ⟨f, 0, none⟩)] #[], .pointer (some ⟨X.c, 0, none⟩), .slice X.sa C.kp.length X.sc]), disk ((pubR Dk Vk head).1) p pg mb qb5, blk f 88 (fC ({ (pubV Dk Vk head) with next := ((pubV Dk Vk head)).s.mark } : FV) p)]) rfl Tryd.call31 (flush1_err  (V := (pubV Dk Vk head)) (Mem.here (L := [blk g4 28 ([.int .i64 ((pubR Dk Vk head).2)]), blk g2 31 ([.pointer (some ⟨s, 0, none⟩)]), blk s 77 ([.pointer (some ⟨f, 0, none⟩), .func (.func 42) #[.pointer (some ⟨f, 0, none⟩)] #[], .pointer (some ⟨X.c, 0, none⟩), .slice X.sa C.kp.length X.sc]), disk ((pubR Dk Vk head).1) p pg mb qb5, blk f 88 (fC (pubV Dk Vk head) p)]) (R := [cache C X.c X.mb X.x, lst 79 2 (.slice X.sa C.kp.length X.sc) C.kp.length (stC C.kp), vault X.V]) hXd) hpb) ?_
      intro w9 T9
      have M9 : Mem w _ w9 [blk g4 28 ([.int .i64 ((pubR Dk Vk head).2)]), blk g2 31 ([.pointer (some ⟨s, 0, none⟩)]), blk s 77 ([.pointer (some ⟨f, 0, none⟩), .func (.func 42) #[.pointer (some ⟨f, 0, none⟩)] #[], .pointer (some ⟨X.c, 0, none⟩), .slice X.sa C.kp.length X.sc]), disk ((pubR Dk Vk head).1) p pg mb qb5, blk f 88 (fC ({ (pubV Dk Vk head) with next := ((pubV Dk Vk head)).s.mark } : FV) p), cache C X.c X.mb X.x, lst 79 2 (.slice X.sa C.kp.length X.sc) C.kp.length (stC C.kp), vault X.V] := Mem.frame (Pre := [blk g4 28 ([.int .i64 ((pubR Dk Vk head).2)]), blk g2 31 ([.pointer (some ⟨s, 0, none⟩)]), blk s 77 ([.pointer (some ⟨f, 0, none⟩), .func (.func 42) #[.pointer (some ⟨f, 0, none⟩)] #[], .pointer (some ⟨X.c, 0, none⟩), .slice X.sa C.kp.length X.sc]), disk ((pubR Dk Vk head).1) p pg mb qb5, blk f 88 (fC (pubV Dk Vk head) p)]) (Post := [blk g4 28 ([.int .i64 ((pubR Dk Vk head).2)]), blk g2 31 ([.pointer (some ⟨s, 0, none⟩)]), blk s 77 ([.pointer (some ⟨f, 0, none⟩), .func (.func 42) #[.pointer (some ⟨f, 0, none⟩)] #[], .pointer (some ⟨X.c, 0, none⟩), .slice X.sa C.kp.length X.sc]), disk ((pubR Dk Vk head).1) p pg mb qb5, blk f 88 (fC ({ (pubV Dk Vk head) with next := ((pubV Dk Vk head)).s.mark } : FV) p)]) (R := [cache C X.c X.mb X.x, lst 79 2 (.slice X.sa C.kp.length X.sc) C.kp.length (stC C.kp), vault X.V]) hXd T9
      refine ⟨_, resv1 rfl rfl (M9.get 0 rfl) Tryd.isAgg28, ?_⟩
      have e2 : appAll D V C.kp = (Dk, Vk, 0) := by rw [hA, List.drop_eq_nil_of_le (by omega)]; rfl
      have e0 : flushR D V C head = ((pubR Dk Vk head).1, forgetV Vk, (pubR Dk Vk head).2) := by unfold flushR; rw [if_neg (fun h => h hL), if_neg (by omega), if_neg (by omega), e2, if_neg (fun h => h rfl)]; exact if_pos hpb
      have e1 : flushC D V C head = C := if_neg (by rw [e0]; exact hpb)
      have hva : pubV Dk Vk head = Vk := if_neg hpb
      rw [hva] at M9
      have N2 : Mem w _ w9 [sto C V.s.mark s f X, disk (pubR Dk Vk head).1 p pg mb qb5, blk f 88 (fC (forgetV Vk) p)] := sto_close hso (M9.arr [2, 5, 6, 7, 3, 4] (by decide))
      rw [e1, e0]
      exact ⟨_, X, rfl, rfl, by show Mem _ _ _ [_, _, sto C (forgetV Vk).s.mark s f X]; rw [show (forgetV Vk).s.mark = V.s.mark by show Vk.s.mark = _; rw [hsv]]; exact N2.arr [1, 2, 0] (by decide)⟩
theorem sflush_any {D : DV} {V : FV} {C : CS} {X : SX} {s f p pg mb : Nat} {qv : Value} {w : World} (hM : Mem w (foots [disk D p pg mb qv, blk f 88 (fC V p), sto C V.s.mark s f X]) w [disk D p pg mb qv, blk f 88 (fC V p), sto C V.s.mark s f X]) (head : Int) (hV : FOk D V) (hnx : V.next = V.s.mark) (hq : D.q.length ≤ 300000000000) (hpl : D.pages.length ≤ 4096) : Calls Tryd.prog 11 #[.pointer (some ⟨s, 0, none⟩), .int .i64 head] w fun e' w' => ∃ qv' X', e' = .returned (.int .i64 (flushR D V C head).2.2) ∧ X'.x.n = X.x.n ∧ Mem w (foots [disk D p pg mb qv, blk f 88 (fC V p), sto C V.s.mark s f X]) w' [disk (flushR D V C head).1 p pg mb qv', blk f 88 (fC (flushR D V C head).2.1 p), sto (flushC D V C head) (flushR D V C head).2.1.s.mark s f X'] := by
  by_cases hL : liveE D V = 0
  · by_cases h0 : head = 0
    · by_cases hg : 1099511627776 ≤ V.s.gen
      · exact sflush_full_z hM head hL h0 hg
      · exact sflush_go_z hM head hL h0 hg hV hnx hq hpl
    · by_cases h1 : head < 2
      · exact sflush_low hM head hL h0 h1
      · by_cases h2 : V.s.mark + (C.kp.length : Int) ≤ head
        · exact sflush_high hM head hL h0 h1 h2
        · by_cases hg : 1099511627776 ≤ V.s.gen
          · exact sflush_full_h hM head hL h0 h1 h2 hg
          · exact sflush_go_h hM head hL h0 h1 h2 hg hV hnx hq hpl
  · exact sflush_dead hM head hL
end Go.Proofs.YtfbamkgmnbobeaaDoor
