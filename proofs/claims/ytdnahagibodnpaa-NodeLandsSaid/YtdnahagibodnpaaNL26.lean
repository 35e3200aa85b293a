/- Texts joined: LandA, Land1, Land2. -/
import Derived.Test.YtdnahagibodnpaaNL16
import Derived.Test.YtdnahagibodnpaaNL24
import Derived.Test.YtdnahagibodnpaaNL25
import Derived.SizedLaws
/- What NodeLands asks of files and nodes: contracts in one form. -/
namespace Go.Proofs.Ytdnahagibodnpaa
open Go Go.RowKit
set_option linter.unusedVariables false
set_option linter.unusedSectionVars false
set_option linter.unusedSimpArgs false
theorem take1 {α : Type} {xs : List α} {i : Nat} (h : i < xs.length) : (xs.drop i).take 1 = [xs[i]] := by
  rw [List.drop_eq_getElem_cons h]; rfl
def bytesL (v : Value) (l : List UInt8) : Asn := lst 5 1 v l.length (bvs l)
theorem intsT : ElemTy Try.prog 32 3 1 8 := elemTy_of (by kernel_rfl)
theorem lst_cell_at {e : TypeId} {v u : Value} {n g c i : Nat} {xs : List Value} {w : World} (h : (lst e 1 v n xs).holds w) (hv : v = .slice (some ⟨g, 0, none⟩) n c) (hi : xs[i]? = some u) : w.cell? ⟨g, i, none⟩ = some u := by
  subst hv
  have hlt : i < xs.length := (List.getElem?_eq_some_iff.1 hi).1
  exact lst_range h i (ys := [u]) (by rw [List.length_singleton, take1 hlt, ← (List.getElem?_eq_some_iff.1 hi).2]) 0 u rfl
theorem lst_pt {e : TypeId} {v u : Value} {n i : Nat} {xs : List Value} {w : World} (h : (lst e 1 v n xs).holds w) (hi : xs[i]? = some u) : ∃ g c, v = .slice (some ⟨g, 0, none⟩) n c := by
  have hl := lst_len h
  have hlt : i < xs.length := (List.getElem?_eq_some_iff.1 hi).1
  rcases lst_at h with ⟨_, hz, _⟩ | ⟨g, c, rfl, h1, h2⟩
  · omega
  · exact ⟨g, c, rfl⟩
theorem bytesL_row {ao : Option Addr} {n c : Nat} {l : List UInt8} {w : World} (h : (bytesL (.slice ao n c) l).holds w) : Row w ao l.length l := by
  rcases lst_at h with ⟨e1, e2, e3⟩ | ⟨g2, c2, e1, e2, e3⟩
  · cases e1
    rw [List.eq_nil_of_length_eq_zero e2]; exact Row.nil
  · cases e1
    exact lst_row h
theorem bytesL_cap {ao : Option Addr} {n c : Nat} {l : List UInt8} {w : World} (h : (bytesL (.slice ao n c) l).holds w) : l.length ≤ c ∧ c ≤ maxLen ∧ (ao = none → l.length = 0 ∧ c = 0) ∧ n = l.length := by
  rcases lst_at h with ⟨e1, e2, e3⟩ | ⟨g2, c2, e1, e2, e3⟩
  · cases e1
    exact ⟨by rw [e2]; exact Nat.zero_le _, Nat.zero_le _, fun _ => ⟨e2, rfl⟩, by omega⟩
  · cases e1
    exact ⟨e2, e3, (fun e => by cases e), rfl⟩
theorem Mem.off {w0 w : World} {F : List Nat} {L : List Asn} {ao : Option Addr} {n c : Nat} {l : List UInt8} (h : Mem w0 F w (bytesL (.slice ao n c) l :: L)) : ∀ {k : Nat} (b o : Nat), ao = some ⟨b, o, none⟩ → 0 < k → b ∉ foots L := by
  intro k b o e _ hb
  subst e
  have hn := h.nodup
  rw [foots_cons, List.nodup_append] at hn
  exact hn.2.2 b (by show b ∈ obs (Value.slice (some ⟨b, o, none⟩) n c); rw [mem_obs]; rfl) b hb rfl
theorem Mem.old_off {w0 w : World} {F : List Nat} {L : List Asn} (h : Mem w0 F w L) {b : Nat} (hb : b < w0.heap.size) (hF : b ∉ F) : b ∉ foots L := fun hx => by
  rcases h.new b hx with h1 | h1
  · exact hF h1
  · omega
theorem Mem.range {w0 w : World} {F : List Nat} {L : List Asn} (h : Mem w0 F w L) {b o : Nat} {ys : List Value} (hr : w0.rangeAt b o ys) (hF : b ∉ F) : w.rangeAt b o ys := fun j v hj => by
  have h1 := hr j v hj
  exact (World.cell?_of_block (w := w0) (w' := w) (a := ⟨b, o + j, none⟩) (h.old (block_lt_of_cell h1) hF)).trans h1
theorem Mem.off_row {w0 w : World} {L : List Asn} (h : Mem w0 [] w L) {ao : Option Addr} {n : Nat} {l : List UInt8} (hr : Row w0 ao n l) : ∀ b o, ao = some ⟨b, o, none⟩ → 0 < n → b ∉ foots L := by
  intro b o e hn
  obtain ⟨b', o', e', hc⟩ := hr.2 0 (by rw [hr.1]; exact hn)
  rw [e'] at e
  cases e
  exact h.old_off (block_lt_of_cell hc) (by simp)
theorem Mem.below {w w' : World} {L : List Asn} (h : Mem w [] w' L) : Below w.heap.size w w' := ⟨h.grew.os, h.grew.tape, h.grew.output, h.grew.size, fun k hk => h.grew.block k hk (by simp)⟩
theorem below_mem {w w' : World} (h : Below w.heap.size w w') : Mem w [] w' [] := (Mem.nil w).low h
theorem own_mem {w w' : World} {v : Value} {l : List UInt8} (h : Below w.heap.size w w') (ho : Own w' w.heap.size 5 v l) : Mem w [] w' [bytesL v l] := (Mem.nil w).ownl h ho
def DV.rd (D : DV) (r : Int) : DV := { D with reads := r }
theorem Inv.rd {D : DV} {V : FV} {ps : Pgs} (h : Inv D V ps) (r : Int) : Inv (D.rd r) V ps := h.cnt r D.writes D.syncs
theorem enc_m (x : NodeV) (q1 : inI64 x.left) (q2 : inI64 x.right) (q3 : inI64 x.lc) (q4 : inI64 x.rc) (l : List UInt8) (w : World) (h : Row w x.ao x.n l) (hn : x.ao = none → x.n = 0 ∧ x.c = 0) (hb : x.n ≤ 140737488351232) :
    Calls Try.prog 7 #[.agg (nodeC x).toArray] w fun e w' => ∃ ao n c t er, e = .returned (.tuple #[.slice ao n c, .int .i64 er]) ∧ Mem w [] w' [bytesL (.slice ao n c) t] ∧ n = t.length ∧ ((rightB x = true ∧ er = 0 ∧ t = encT x l) ∨ (rightB x = false ∧ er = 90 ∧ t = [])) := by
  refine (encode_any x q1 q2 q3 q4 l w h hn hb).mono ?_
  rintro e w' ⟨⟨hr, g, cap, rfl, ho⟩ | ⟨hr, rfl⟩, hB⟩
  · exact ⟨_, _, _, _, 0, rfl, own_mem hB ho, rfl, .inl ⟨hr, rfl, rfl⟩⟩
  · exact ⟨none, 0, 0, [], 90, rfl, (below_mem hB).nilst 5 1, rfl, .inr ⟨hr, rfl, rfl⟩⟩
theorem right_m (x : NodeV) (w : World) : Calls Try.prog 8 #[.agg (nodeC x).toArray] w fun e w' => e = .returned (.bool (rightB x)) ∧ Mem w [] w' [] := by
  refine (right_any x w).mono ?_
  rintro e w' ⟨rfl, hB⟩
  exact ⟨rfl, below_mem hB⟩
theorem dec_m (x : NodeV) (lx : List UInt8) (hl : lx.length = x.n) (hx : rightB x = true) (ao : Option Addr) (n c : Nat) (w : World) (h : Row w ao n (encT x lx)) (hn : ao = none → n = 0 ∧ c = 0) (hle : n ≤ c) (hmx : n ≤ 140737488351232) (hmax : c ≤ 9223372036854775807) :
    Calls Try.prog 13 #[.int .i64 x.kind, .slice ao n c] w fun e w' => ∃ y ly, e = .returned (.tuple #[.agg (nodeC y).toArray, .int .i64 0]) ∧ Mem w [] w' [bytesL y.val ly] ∧ y.n = ly.length ∧ eqNode y x ly lx = true := by
  obtain ⟨hok, h246, hsame⟩ := back_right x lx hl hx
  have hd := decode_any x.kind ao n c (encT x lx) w h hn hle hmx hmax
  rw [hok, if_pos rfl] at hd
  refine hd.mono ?_
  rintro e w' ⟨⟨ao', c', rfl, ho⟩, hB⟩
  refine ⟨_, decL x.kind (encT x lx), rfl, ?_, ?_, hsame ao' c'⟩
  · exact own_mem hB ho
  · exact (own_read ho).2.1
theorem sameNode_m (x y : NodeV) (lx ly : List UInt8) (w : World) (hx : Row w x.ao x.n lx) (hy : Row w y.ao y.n ly) (mx : x.n ≤ maxLen) (my : y.n ≤ maxLen) :
    Calls Try.prog 14 #[.agg (nodeC x).toArray, .agg (nodeC y).toArray] w fun e w' => e = .returned (.bool (eqNode x y lx ly)) ∧ Mem w [] w' [] := by
  refine (sameNode_any x y lx ly w hx hy mx my).mono ?_
  rintro e w' ⟨rfl, hB⟩
  exact ⟨rfl, below_mem hB⟩
theorem rightB_kind {x : NodeV} {l : List UInt8} (hl : l.length = x.n) (h : rightB x = true) : (x.kind = 1 ∨ x.kind = 2) ∧ (encT x l).length ≤ 246 := by
  obtain ⟨hok, h246, _⟩ := back_right x l hl h
  rcases decY_kind hok with h1 | ⟨_, h1⟩
  · exact ⟨.inl h1, h246⟩
  · exact ⟨.inr h1, h246⟩
theorem size_node (x : NodeV) : Box ((Try.prog.info? 39).map (·.size) = some (nodeC x).length) := ⟨by have := (nodeSize x).out; rwa [List.size_toArray] at this⟩
theorem zero_node : ∀ W : World, (zeroValue 39).run Try.prog W = .ok (.agg (nodeC noNode).toArray) W := fun W => by kernel_rfl
theorem node_all (x : NodeV) : (nodeC x).toArray.all (·.oneCell') = true := nodeC_all x
theorem node_len (x y : NodeV) : (nodeC x).length = (nodeC y).length := by rw [length_nodeC, length_nodeC]
theorem nodes_at {w : World} {ao : Option Addr} {n : Nat} {os : List NodeV} (h : Nodes w ao n os) {i : Nat} {x : NodeV} (hx : os[i]? = some x) : ∃ b o, ao = some ⟨b, o, none⟩ ∧ w.rangeAt b (o + i * 102) (nodeC x) := by
  obtain ⟨hi, rfl⟩ := List.getElem?_eq_some_iff.1 hx
  exact h.2 i hi
def ints (pl : List Int) : List Value := pl.map fun z => .int .i64 z
theorem ints_snoc (pl : List Int) (z : Int) : ints pl ++ [.int .i64 z] = ints (pl ++ [z]) := by simp [ints]
theorem ints_at {pl : List Int} {i : Nat} {z : Int} (h : pl[i]? = some z) : (ints pl)[i]? = some (.int .i64 z) := by unfold ints; rw [List.getElem?_map, h]; rfl
def Told (os : List NodeV) (lf : NodeV → List UInt8) (pz : Pgs) (nx : Int) (pl : List Int) : Prop :=
  ∀ (j : Nat) (x : NodeV) (z : Int), os[j]? = some x → pl[j]? = some z → (rightB x = false ∧ z = 0) ∨ (rightB x = true ∧ ∃ n : Nat, z = (n : Int) ∧ 2 ≤ n ∧ (n : Int) < nx ∧ pgAt pz n = (x.kind.toNat, encT x (lf x)))
theorem Told.nil (os : List NodeV) (lf : NodeV → List UInt8) (pz : Pgs) (nx : Int) : Told os lf pz nx [] := fun j x z _ h => by simp at h
theorem Told.none {os : List NodeV} {lf : NodeV → List UInt8} {pz : Pgs} {nx : Int} {pl : List Int} (h : Told os lf pz nx pl) {x : NodeV} (hx : os[pl.length]? = some x) (hr : rightB x = false) : Told os lf pz nx (pl ++ [0]) := by
  intro j y z hy hz
  rcases Nat.lt_or_ge j pl.length with hj | hj
  · rw [List.getElem?_append_left hj] at hz
    exact h j y z hy hz
  · rw [List.getElem?_append_right hj] at hz
    have h0 : j - pl.length = 0 := by
      rcases Nat.eq_zero_or_pos (j - pl.length) with e | e
      · exact e
      · rw [List.getElem?_eq_none (by simp; omega)] at hz; cases hz
    rw [h0] at hz
    have hj2 : j = pl.length := by omega
    rw [hj2, hx] at hy
    cases hy
    cases hz
    exact .inl ⟨hr, rfl⟩
theorem Told.more {os : List NodeV} {lf : NodeV → List UInt8} {pz pz' : Pgs} {nx nx' : Int} {pl : List Int} (h : Told os lf pz nx pl) (he : ∀ n : Nat, 2 ≤ n → (n : Int) < nx → pgAt pz' n = pgAt pz n) (hn : nx ≤ nx') : Told os lf pz' nx' pl := by
  intro j y z hy hz
  rcases h j y z hy hz with h1 | ⟨h1, n, h2, h3, h4, h5⟩
  · exact .inl h1
  · exact .inr ⟨h1, n, h2, h3, by omega, by rw [he n h3 h4]; exact h5⟩
theorem Told.some {os : List NodeV} {lf : NodeV → List UInt8} {pz : Pgs} {nx : Int} {pl : List Int} (h : Told os lf pz nx pl) {x : NodeV} (hx : os[pl.length]? = some x) (hr : rightB x = true) {n : Nat} (h2 : 2 ≤ n) (hn : (n : Int) < nx) (hp : pgAt pz n = (x.kind.toNat, encT x (lf x))) : Told os lf pz nx (pl ++ [(n : Int)]) := by
  intro j y z hy hz
  rcases Nat.lt_or_ge j pl.length with hj | hj
  · rw [List.getElem?_append_left hj] at hz
    exact h j y z hy hz
  · rw [List.getElem?_append_right hj] at hz
    have h0 : j - pl.length = 0 := by
      rcases Nat.eq_zero_or_pos (j - pl.length) with e | e
      · exact e
      · rw [List.getElem?_eq_none (by simp; omega)] at hz; cases hz
    rw [h0] at hz
    have hj2 : j = pl.length := by omega
    rw [hj2, hx] at hy
    cases hy
    cases hz
    exact .inr ⟨hr, n, rfl, h2, hn, hp⟩
open Classical in
theorem rows_of {w : World} {os : List NodeV} (h : ∀ o ∈ os, NodeIn w o) : ∃ lf : NodeV → List UInt8, ∀ x ∈ os, Row w x.ao x.n (lf x) := by
  refine ⟨fun x => if hx : ∃ l, Row w x.ao x.n l then hx.choose else [], fun x hx => ?_⟩
  have h1 := (h x hx).val
  simp only [dif_pos h1]
  exact h1.choose_spec
end Go.Proofs.Ytdnahagibodnpaa

/- Files and nodes: calls in one form. -/
namespace Go.Proofs.Ytdnahagibodnpaa
set_option linter.unusedSectionVars false
open Go Go.RowKit
set_option linter.unusedVariables false
set_option linter.unusedSimpArgs false
theorem new_fit (k : Nat) (h : 3 ≤ k ∧ k ≤ 4096) (w : World) : Calls Try.prog 4 #[.int .i64 (k : Int)] w fun e w' => ∃ p pg mb, e = .returned (.tuple #[.pointer (some ⟨p, 0, none⟩), .int .i64 0]) ∧ Mem w [] w' [disk (newD k) p pg mb (.slice none 0 0)] := by
  refine (new_any (k : Int) w).mono ?_
  rintro e w' (⟨h1, _⟩ | ⟨_, _, p, pg, mb, rfl, h2⟩)
  · omega
  · exact ⟨p, pg, mb, rfl, h2⟩
theorem format_fit {D : DV} {p pg mb : Nat} {qv : Value} {w : World} (hM : Mem w (foots [disk D p pg mb qv]) w [disk D p pg mb qv]) (hB : Blank D) (ha : D.armed = 0) {width : Int} (hw : 1 ≤ width ∧ width ≤ 32) :
    Calls Try.prog 5 #[.pointer (some ⟨p, 0, none⟩), .int .i64 width] w fun e w' => ∃ E qv', e = .returned (.int .i64 0) ∧ Mem w (foots [disk D p pg mb qv]) w' [disk E p pg mb qv'] ∧ Plat E (secondS width D.pages.length) [] ∧ E.q = [] ∧ E.dead = false ∧ E.epoch = D.epoch ∧ E.armed = 0 ∧ E.pages.length = D.pages.length := by
  refine (format_any hM width (by rw [hB.que]; decide)).mono ?_
  rintro e w' ⟨qv', rfl, h2⟩
  rcases hB.format hw with ⟨_, h3, h4, h5, h6, h7, h8, h9⟩ | ⟨h3, _⟩
  · rw [h3]
    exact ⟨_, qv', rfl, h2, h4, h5, h6, h7, h8 ha, h9⟩
  · omega
theorem open_fit {D : DV} {p pg mb : Nat} {qv : Value} {S : SupV} {ps : Pgs} {w : World} (hM : Mem w (foots [disk D p pg mb qv]) w [disk D p pg mb qv]) (hP : Plat D S ps) (hd : D.dead = false) :
    Calls Try.prog 6 #[.pointer (some ⟨p, 0, none⟩)] w fun e w' => ∃ f E m, e = .returned (.tuple #[.pointer (some ⟨f, 0, none⟩), .int .i64 0]) ∧ Mem w (foots [disk D p pg mb qv]) w' [disk E p pg mb qv, blk f 69 (fC ⟨S, S.mark, m⟩ p)] ∧ Inv E ⟨S, S.mark, m⟩ ps ∧ E.q = D.q ∧ E.pages = D.pages ∧ E.armed = D.armed ∧ E.epoch = wrap64 (D.epoch + 1) := by
  obtain ⟨e1, e2, e3, e4, e5, e6, e7, e8⟩ := hP.open hd
  refine (open_any hM).mono ?_
  rintro e w' (⟨h1, _⟩ | ⟨_, f, rfl, h2⟩)
  · exact absurd e1 h1
  · have hV : openV D = ⟨S, S.mark, (openV D).mine⟩ := by
      have h0 : openV D = ⟨(openV D).s, (openV D).next, (openV D).mine⟩ := rfl
      rw [e2, e3] at h0
      exact h0
    rw [hV] at h2 e4
    exact ⟨f, openD D, (openV D).mine, rfl, h2, e4, e5, e6, e7, e8⟩
theorem fread_fit {D : DV} {V : FV} {ps : Pgs} {f p pg mb : Nat} {qv : Value} {w : World} (hM : Mem w (foots [disk D p pg mb qv, blk f 69 (fC V p)]) w [disk D p pg mb qv, blk f 69 (fC V p)]) (h : Inv D V ps) (n : Nat) (h1 : 2 ≤ n) (h2 : (n : Int) < V.next) :
    Calls Try.prog 12 #[.pointer (some ⟨f, 0, none⟩), .int .i64 (n : Int)] w fun e w' => ∃ a c r, e = .returned (.tuple #[.int .i64 ((pgAt ps n).1 : Int), .slice a (pgAt ps n).2.length c, .int .i64 0]) ∧ Mem w (foots [disk D p pg mb qv, blk f 69 (fC V p)]) w' [disk (D.rd r) p pg mb qv, blk f 69 (fC V p), bytesL (.slice a (pgAt ps n).2.length c) (pgAt ps n).2] ∧ r = wrap64 (D.reads + 1) := by
  obtain ⟨r1, r2, r3, r4, r5⟩ := h.read h1 h2
  refine (fread_any hM n h.fok).mono ?_
  rintro e w' ⟨v, rfl, h3⟩
  rw [r3, r5] at h3
  rw [r1, r2]
  obtain ⟨a, c, rfl⟩ := qv_at (h3.get 2 rfl)
  exact ⟨a, c, _, rfl, h3, rfl⟩
theorem xapp_go {D : DV} {V : FV} {ps : Pgs} {f p pg mb : Nat} {qv : Value} {w : World} (hM : Mem w (foots [disk D p pg mb qv, blk f 69 (fC V p)]) w [disk D p pg mb qv, blk f 69 (fC V p)]) (h : Inv D V ps) (k : Nat) (ao : Option Addr) (n c : Nat) (l : List UInt8) (hx : PageOk (k, l)) (hr : Row w ao n l) (hF : ∀ b o, ao = some ⟨b, o, none⟩ → 0 < n → b ∉ foots [disk D p pg mb qv, blk f 69 (fC V p)]) (hq : D.q.length ≤ 400000000000) (hn : V.next < (D.pages.length : Int)) (m : Nat) (hm : V.next = ((m + 2 : Nat) : Int)) (h0 : actE D = 0) :
    Calls Try.prog 9 #[.pointer (some ⟨f, 0, none⟩), .int .i64 (k : Int), .slice ao n c] w fun e w' => ∃ E qv', e = .returned (.tuple #[.int .i64 ((m + 2 : Nat) : Int), .int .i64 0]) ∧ Mem w (foots [disk D p pg mb qv, blk f 69 (fC V p)]) w' [disk E p pg mb qv', blk f 69 (fC { V with next := V.next + 1 } p)] ∧ E = appD D V k l ∧ Inv E { V with next := V.next + 1 } (putP ps (m + 2) (k, l)) ∧ E.pages.length = D.pages.length := by
  obtain ⟨a1, a2, a3, a4⟩ := h.app hx hn
  have hA := a3 h0
  rw [h0] at a1
  obtain ⟨b1, b2⟩ := app_yes a1
  have := app_any hM (k : Int) ao n c l hr hF (by omega) h.fok
  rw [a1, b1, b2, hm] at this
  have e1 : V.next.toNat = m + 2 := by omega
  rw [e1] at hA
  refine this.mono ?_
  rintro e w' ⟨qv', rfl, h3⟩
  rw [← hm] at h3
  refine ⟨_, qv', rfl, h3, rfl, hA, ?_⟩
  rw [a2, actD_pages]; rfl
theorem xpub_go {D : DV} {V : FV} {ps : Pgs} {f p pg mb : Nat} {qv : Value} {w : World} (hM : Mem w (foots [disk D p pg mb qv, blk f 69 (fC V p)]) w [disk D p pg mb qv, blk f 69 (fC V p)]) (h : Inv D V ps) (head : Int) (hq : D.q.length ≤ 400000000000) (h0 : (pubR D V head).2 = 0) (hp : (pubR D V head).1.pages.length = D.pages.length) :
    Calls Try.prog 10 #[.pointer (some ⟨f, 0, none⟩), .int .i64 head] w fun e w' => ∃ E qv', e = .returned (.int .i64 0) ∧ Mem w (foots [disk D p pg mb qv, blk f 69 (fC V p)]) w' [disk E p pg mb qv', blk f 69 (fC { V with s := pubS V head } p)] ∧ E = (pubR D V head).1 ∧ E.pages.length = D.pages.length := by
  have := pub_any hM head hq h.fok
  have e1 : pubV D V head = { V with s := pubS V head } := if_pos h0
  rw [h0, e1] at this
  refine this.mono ?_
  rintro e w' ⟨qv', rfl, h3⟩
  exact ⟨_, qv', rfl, h3, rfl, hp⟩
theorem new_some (n : Int) (w : World) : Calls Try.prog 4 #[.int .i64 n] w fun e w' => ∃ pv ev, e = .returned (.tuple #[.pointer pv, .int .i64 ev]) ∧ Mem w [] w' [] := by
  refine (new_any n w).mono ?_
  rintro e w' (⟨_, rfl, h2⟩ | ⟨_, _, p, pg, mb, rfl, h2⟩)
  · exact ⟨_, _, rfl, h2⟩
  · exact ⟨_, _, rfl, h2.arr [] (by decide)⟩
theorem read_node {D : DV} {V : FV} {pz : Pgs} {f p pg mb : Nat} {qv : Value} {w : World} (hM : Mem w (foots [disk D p pg mb qv, blk f 69 (fC V p)]) w [disk D p pg mb qv, blk f 69 (fC V p)]) (h : Inv D V pz) (n : Nat) (h1 : 2 ≤ n) (h2 : (n : Int) < V.next) {k : Int} {t : List UInt8} (hk : 0 ≤ k) (hp : pgAt pz n = (k.toNat, t)) :
    Calls Try.prog 12 #[.pointer (some ⟨f, 0, none⟩), .int .i64 (n : Int)] w fun e w' => ∃ a c r, e = .returned (.tuple #[.int .i64 k, .slice a t.length c, .int .i64 0]) ∧ Mem w (foots [disk D p pg mb qv, blk f 69 (fC V p)]) w' [disk (D.rd r) p pg mb qv, blk f 69 (fC V p), bytesL (.slice a t.length c) t] := by
  have hN := fread_fit hM h n h1 h2
  rw [hp] at hN
  refine hN.mono ?_
  rintro e w' ⟨a, c, r, rfl, h3, _⟩
  refine ⟨a, c, r, ?_, h3⟩
  rw [show ((k.toNat : Nat) : Int) = k by omega]
theorem pub_fine {D : DV} {V : FV} {pz : Pgs} (h : Inv D V pz) (hg : V.s.gen < 1099511627776) (ha : D.armed = 0) : (pubR D V 0).2 = 0 ∧ Inv (pubR D V 0).1 { V with s := pubS V 0 } pz ∧ (pubR D V 0).1.q = [] ∧ (pubR D V 0).1.pages.length = D.pages.length ∧ (pubR D V 0).1.armed = 0 := by
  rcases h.pub (head := 0) (.inl rfl) hg with ⟨c1, c2, c3, c4⟩ | ⟨c1, c2, _⟩
  · have h1 := c3.plat.pages
    have h2 := h.plat.pages
    have h1 : (pubS V 0).pages = _ := h1
    have h3 : (pubS V 0).pages = V.s.pages := rfl
    refine ⟨c1, c3, c4, by omega, ?_⟩
    rw [c2]
    have q1 : (pubD1 D).armed = 0 := by show (actD D).armed = 0; rw [(act_arm0 ha).2]; exact ha
    have q2 : (pubD2 D (pubS V 0)).armed = 0 := by
      show (actD _).armed = 0
      rw [(act_arm0 (D := openW (pubD1 D) ((pubS V 0).gen % 2) (superB (pubS V 0))) q1).2]; exact q1
    show (actD _).armed = 0
    rw [(act_arm0 q2).2]; exact q2
  · exact absurd ha c2
theorem app_more {D : DV} {V : FV} {pz : Pgs} (h : Inv D V pz) {k : Nat} {l : List UInt8} (hx : PageOk (k, l)) (hn : V.next < (D.pages.length : Int)) (ha : D.armed = 0) : (appD D V k l).armed = 0 ∧ (appD D V k l).q.length = D.q.length + 1 := by
  obtain ⟨_, a2, _, _⟩ := h.app hx hn
  rw [a2]
  refine ⟨?_, by rw [actD_q]; simp [openW]⟩
  rw [actD_armed]
  show (if D.armed = 0 then 0 else D.armed - 1) = 0
  rw [if_pos ha]
end Go.Proofs.Ytdnahagibodnpaa

/- The law NodeLands. -/
namespace Go.Proofs.Ytdnahagibodnpaa
set_option linter.unusedSectionVars false
open Go Go.RowKit
set_option linter.unusedVariables false
set_option linter.unusedSimpArgs false
theorem told_app {os : List NodeV} {lf : NodeV → List UInt8} {pz : Pgs} {D : DV} {V : FV} {pl : List Int} (h : Told os lf pz V.next pl) (hI : Inv D V pz) {x : NodeV} (hx : os[pl.length]? = some x) (hr : rightB x = true) {m kq : Nat} (hm : V.next = ((m + 2 : Nat) : Int)) (hk : x.kind = (kq : Int)) :
    Told os lf (putP pz (m + 2) (kq, encT x (lf x))) (V.next + 1) (pl ++ [((m + 2 : Nat) : Int)]) := by
  have hl := hI.lenN
  have hle : m + 2 - 2 ≤ pz.length := by omega
  refine Told.some (n := m + 2) (h.more (fun n h1 h2 => putP_low pz (m + 2) n _ hle (by omega) h1) (by omega)) hx hr (by omega) (by omega) ?_
  rw [putP_at _ _ _ hle, hk]; rfl
theorem told_low {os : List NodeV} {lf : NodeV → List UInt8} {pz : Pgs} {D : DV} {V : FV} {pl : List Int} {nx : Int} (h : Told os lf pz nx pl) (hI : Inv D V pz) {m : Nat} (hm : V.next = ((m + 2 : Nat) : Int)) (hn : nx ≤ V.next) (z : Nat × List UInt8) :
    Told os lf (putP pz (m + 2) z) nx pl := by
  have hl := hI.lenN
  have hle : m + 2 - 2 ≤ pz.length := by omega
  exact h.more (fun n h1 h2 => putP_low pz (m + 2) n _ hle (by omega) h1) (Int.le_refl _)
set_option maxRecDepth 100000 in
set_option maxHeartbeats 60000000 in
theorem lands_big {w : World} (width : Int) (aa : Option Addr) (an ac : Nat) (os : List NodeV) (hna : Nodes w aa an os) (hina : ∀ o ∈ os, NodeIn w o) (han : an ≤ 140737488355328) (ba : Option Addr) (bn bc : Nat) (os2 : List NodeV) (hnb : Nodes w ba bn os2) (hinb : ∀ o ∈ os2, NodeIn w o) (hbn : bn ≤ 140737488355328) (ca : Option Addr) (cn cc : Nat) (cl : List UInt8) (hcr : Row w ca cn cl) (hcn : cn ≤ 140737488355328) (h64 : 64 < an + bn) : Calls Try.prog 3 #[.int .i64 width, .slice aa an ac, .slice ba bn bc, .slice ca cn cc] w fun e w' => e = .returned (.bool true) ∧ Mem w [] w' [] := by
  have M := Mem.nil w
  go_enter Try.func3, Try.ntmps3
  refine wp_seq_k (fun K1 hK1 => ?_)
  refine wp_region_lit ?_
  refine pl M (y_assign (v := .bool false) rfl rfl rfl) ?_
  simp only [Act.put, zq1, zq2, zq3]
  refine wpList_nil ?_
  refine hK1 _ _ ?_
  clear hK1
  refine wp_seq_k (fun K2 hK2 => ?_)
  refine wp_region_lit ?_
  refine pl M (y_move (v := .slice aa an ac) rfl rfl rfl) ?_
  simp only [Act.put, zq1, zq2, zq3]
  refine pl M (y_len rfl rfl rfl Try.underlying22) ?_
  simp only [Act.put, zq1, zq2, zq3]
  refine pl M (y_add (r := ((3 + an : Nat) : Int)) rfl rfl rfl rfl (by omega) (by omega)) ?_
  simp only [Act.put, zq1, zq2, zq3]
  refine pl M (y_move (v := .slice ba bn bc) rfl rfl rfl) ?_
  simp only [Act.put, zq1, zq2, zq3]
  refine pl M (y_len rfl rfl rfl Try.underlying22) ?_
  simp only [Act.put, zq1, zq2, zq3]
  refine pl M (y_add (r := ((3 + an + bn : Nat) : Int)) rfl rfl rfl rfl (by omega) (by omega)) ?_
  simp only [Act.put, zq1, zq2, zq3]
  refine pe rfl (fun K hK => ?_)
  refine e_call 4 [.int .i64 ((3 + an + bn : Nat) : Int)] rfl rfl Try.call4 (new_some _ _) ?_
  rintro e w3 ⟨pv, ev, rfl, H3⟩
  have M3 : Mem w [] w3 [] := M.step H3
  refine ⟨_, rfl, ?_⟩
  refine hK.out _ _ ?_
  clear hK K
  simp only [Act.put, zq1, zq2, zq3]
  refine pl M3 (y_move (v := .tuple #[.pointer pv, .int .i64 ev]) rfl rfl rfl) ?_
  simp only [Act.put, zq1, zq2, zq3]
  refine pl M3 (y_ext (v := .pointer pv) rfl rfl rfl rfl) ?_
  simp only [Act.put, zq1, zq2, zq3]
  refine pl M3 (y_ext (v := .int .i64 ev) rfl rfl rfl rfl) ?_
  simp only [Act.put, zq1, zq2, zq3]
  refine pl M3 (y_assign (v := .pointer pv) rfl rfl rfl) ?_
  simp only [Act.put, zq1, zq2, zq3]
  refine pl M3 (y_assign (v := .int .i64 ev) rfl rfl rfl) ?_
  simp only [Act.put, zq1, zq2, zq3]
  refine wpList_nil ?_
  refine hK2 _ _ ?_
  clear hK2
  refine wp_seq_k (fun K4 hK4 => ?_)
  refine wp_seq_k (fun K5 hK5 => ?_)
  refine wp_region_lit ?_
  refine pl M3 (y_move (v := .slice aa an ac) rfl rfl rfl) ?_
  simp only [Act.put, zq1, zq2, zq3]
  refine pl M3 (y_len rfl rfl rfl Try.underlying22) ?_
  simp only [Act.put, zq1, zq2, zq3]
  refine pl M3 (y_move (v := .slice ba bn bc) rfl rfl rfl) ?_
  simp only [Act.put, zq1, zq2, zq3]
  refine pl M3 (y_len rfl rfl rfl Try.underlying22) ?_
  simp only [Act.put, zq1, zq2, zq3]
  refine pl M3 (y_add (r := ((an + bn : Nat) : Int)) rfl rfl rfl rfl (by omega) (by omega)) ?_
  simp only [Act.put, zq1, zq2, zq3]
  refine pl M3 (y_gtr (b := true) rfl rfl rfl rfl (decide_eq_true (by omega))) ?_
  simp only [Act.put, zq1, zq2, zq3]
  refine pl M3 (y_move (v := .bool true) rfl rfl rfl) ?_
  simp only [Act.put, zq1, zq2, zq3]
  with_reducible refine pskip ?_ ?_
  · rfl
  simp only [Act.put, zq1, zq2, zq3]
  with_reducible refine pskip ?_ ?_
  · rfl
  simp only [Act.put, zq1, zq2, zq3]
  refine pl M3 (y_pickT (v := .bool true) rfl rfl rfl rfl) ?_
  simp only [Act.put, zq1, zq2, zq3]
  refine pl M3 (y_move (v := .bool true) rfl rfl rfl) ?_
  simp only [Act.put, zq1, zq2, zq3]
  with_reducible refine pskip ?_ ?_
  · rfl
  simp only [Act.put, zq1, zq2, zq3]
  with_reducible refine pskip ?_ ?_
  · rfl
  simp only [Act.put, zq1, zq2, zq3]
  refine pl M3 (y_pickT (v := .bool true) rfl rfl rfl rfl) ?_
  simp only [Act.put, zq1, zq2, zq3]
  refine wpList_nil ?_
  refine hK5 _ _ ?_
  clear hK5
  refine wp_cond_true rfl ?_
  refine wp_seq_k (fun K6 hK6 => ?_)
  refine wp_region_lit ?_
  refine pl M3 (y_assign (v := .bool true) rfl rfl rfl) ?_
  simp only [Act.put, zq1, zq2, zq3]
  refine wpList_nil ?_
  refine hK6 _ _ ?_
  clear hK6
  refine wp_ret ?_
  try simp only [Exit.inBlock, Exit.then]
  refine bodyPost_ret (v := .bool true) (res1 rfl rfl) rfl ?_
  exact ⟨rfl, M3.arr [] (by decide)⟩
set_option maxRecDepth 100000 in
set_option maxHeartbeats 60000000 in
theorem lands_lo {w : World} (width : Int) (aa : Option Addr) (an ac : Nat) (os : List NodeV) (hna : Nodes w aa an os) (hina : ∀ o ∈ os, NodeIn w o) (han : an ≤ 140737488355328) (ba : Option Addr) (bn bc : Nat) (os2 : List NodeV) (hnb : Nodes w ba bn os2) (hinb : ∀ o ∈ os2, NodeIn w o) (hbn : bn ≤ 140737488355328) (ca : Option Addr) (cn cc : Nat) (cl : List UInt8) (hcr : Row w ca cn cl) (hcn : cn ≤ 140737488355328) (h64 : ¬ 64 < an + bn) (hw : width < 1) : Calls Try.prog 3 #[.int .i64 width, .slice aa an ac, .slice ba bn bc, .slice ca cn cc] w fun e w' => e = .returned (.bool true) ∧ Mem w [] w' [] := by
  have M := Mem.nil w
  go_enter Try.func3, Try.ntmps3
  refine wp_seq_k (fun K1 hK1 => ?_)
  refine wp_region_lit ?_
  refine pl M (y_assign (v := .bool false) rfl rfl rfl) ?_
  simp only [Act.put, zq1, zq2, zq3]
  refine wpList_nil ?_
  refine hK1 _ _ ?_
  clear hK1
  refine wp_seq_k (fun K2 hK2 => ?_)
  refine wp_region_lit ?_
  refine pl M (y_move (v := .slice aa an ac) rfl rfl rfl) ?_
  simp only [Act.put, zq1, zq2, zq3]
  refine pl M (y_len rfl rfl rfl Try.underlying22) ?_
  simp only [Act.put, zq1, zq2, zq3]
  refine pl M (y_add (r := ((3 + an : Nat) : Int)) rfl rfl rfl rfl (by omega) (by omega)) ?_
  simp only [Act.put, zq1, zq2, zq3]
  refine pl M (y_move (v := .slice ba bn bc) rfl rfl rfl) ?_
  simp only [Act.put, zq1, zq2, zq3]
  refine pl M (y_len rfl rfl rfl Try.underlying22) ?_
  simp only [Act.put, zq1, zq2, zq3]
  refine pl M (y_add (r := ((3 + an + bn : Nat) : Int)) rfl rfl rfl rfl (by omega) (by omega)) ?_
  simp only [Act.put, zq1, zq2, zq3]
  refine pe rfl (fun K hK => ?_)
  refine e_call 4 [.int .i64 ((3 + an + bn : Nat) : Int)] rfl rfl Try.call4 (new_some _ _) ?_
  rintro e w3 ⟨pv, ev, rfl, H3⟩
  have M3 : Mem w [] w3 [] := M.step H3
  refine ⟨_, rfl, ?_⟩
  refine hK.out _ _ ?_
  clear hK K
  simp only [Act.put, zq1, zq2, zq3]
  refine pl M3 (y_move (v := .tuple #[.pointer pv, .int .i64 ev]) rfl rfl rfl) ?_
  simp only [Act.put, zq1, zq2, zq3]
  refine pl M3 (y_ext (v := .pointer pv) rfl rfl rfl rfl) ?_
  simp only [Act.put, zq1, zq2, zq3]
  refine pl M3 (y_ext (v := .int .i64 ev) rfl rfl rfl rfl) ?_
  simp only [Act.put, zq1, zq2, zq3]
  refine pl M3 (y_assign (v := .pointer pv) rfl rfl rfl) ?_
  simp only [Act.put, zq1, zq2, zq3]
  refine pl M3 (y_assign (v := .int .i64 ev) rfl rfl rfl) ?_
  simp only [Act.put, zq1, zq2, zq3]
  refine wpList_nil ?_
  refine hK2 _ _ ?_
  clear hK2
  refine wp_seq_k (fun K4 hK4 => ?_)
  refine wp_seq_k (fun K5 hK5 => ?_)
  refine wp_region_lit ?_
  refine pl M3 (y_move (v := .slice aa an ac) rfl rfl rfl) ?_
  simp only [Act.put, zq1, zq2, zq3]
  refine pl M3 (y_len rfl rfl rfl Try.underlying22) ?_
  simp only [Act.put, zq1, zq2, zq3]
  refine pl M3 (y_move (v := .slice ba bn bc) rfl rfl rfl) ?_
  simp only [Act.put, zq1, zq2, zq3]
  refine pl M3 (y_len rfl rfl rfl Try.underlying22) ?_
  simp only [Act.put, zq1, zq2, zq3]
  refine pl M3 (y_add (r := ((an + bn : Nat) : Int)) rfl rfl rfl rfl (by omega) (by omega)) ?_
  simp only [Act.put, zq1, zq2, zq3]
  refine pl M3 (y_gtr (b := false) rfl rfl rfl rfl (decide_eq_false (by omega))) ?_
  simp only [Act.put, zq1, zq2, zq3]
  refine pl M3 (y_move (v := .bool false) rfl rfl rfl) ?_
  simp only [Act.put, zq1, zq2, zq3]
  refine pl M3 (y_move (v := .int .i64 width) rfl rfl rfl) ?_
  simp only [Act.put, zq1, zq2, zq3]
  refine pl M3 (y_lss (b := true) rfl rfl rfl rfl (decide_eq_true (by omega))) ?_
  simp only [Act.put, zq1, zq2, zq3]
  refine pl M3 (y_pickF (v := .bool true) rfl rfl rfl rfl) ?_
  simp only [Act.put, zq1, zq2, zq3]
  refine pl M3 (y_move (v := .bool true) rfl rfl rfl) ?_
  simp only [Act.put, zq1, zq2, zq3]
  with_reducible refine pskip ?_ ?_
  · rfl
  simp only [Act.put, zq1, zq2, zq3]
  with_reducible refine pskip ?_ ?_
  · rfl
  simp only [Act.put, zq1, zq2, zq3]
  refine pl M3 (y_pickT (v := .bool true) rfl rfl rfl rfl) ?_
  simp only [Act.put, zq1, zq2, zq3]
  refine wpList_nil ?_
  refine hK5 _ _ ?_
  clear hK5
  refine wp_cond_true rfl ?_
  refine wp_seq_k (fun K6 hK6 => ?_)
  refine wp_region_lit ?_
  refine pl M3 (y_assign (v := .bool true) rfl rfl rfl) ?_
  simp only [Act.put, zq1, zq2, zq3]
  refine wpList_nil ?_
  refine hK6 _ _ ?_
  clear hK6
  refine wp_ret ?_
  try simp only [Exit.inBlock, Exit.then]
  refine bodyPost_ret (v := .bool true) (res1 rfl rfl) rfl ?_
  exact ⟨rfl, M3.arr [] (by decide)⟩
set_option maxRecDepth 100000 in
set_option maxHeartbeats 60000000 in
theorem lands_hi {w : World} (width : Int) (aa : Option Addr) (an ac : Nat) (os : List NodeV) (hna : Nodes w aa an os) (hina : ∀ o ∈ os, NodeIn w o) (han : an ≤ 140737488355328) (ba : Option Addr) (bn bc : Nat) (os2 : List NodeV) (hnb : Nodes w ba bn os2) (hinb : ∀ o ∈ os2, NodeIn w o) (hbn : bn ≤ 140737488355328) (ca : Option Addr) (cn cc : Nat) (cl : List UInt8) (hcr : Row w ca cn cl) (hcn : cn ≤ 140737488355328) (h64 : ¬ 64 < an + bn) (hw : 32 < width) : Calls Try.prog 3 #[.int .i64 width, .slice aa an ac, .slice ba bn bc, .slice ca cn cc] w fun e w' => e = .returned (.bool true) ∧ Mem w [] w' [] := by
  have M := Mem.nil w
  go_enter Try.func3, Try.ntmps3
  refine wp_seq_k (fun K1 hK1 => ?_)
  refine wp_region_lit ?_
  refine pl M (y_assign (v := .bool false) rfl rfl rfl) ?_
  simp only [Act.put, zq1, zq2, zq3]
  refine wpList_nil ?_
  refine hK1 _ _ ?_
  clear hK1
  refine wp_seq_k (fun K2 hK2 => ?_)
  refine wp_region_lit ?_
  refine pl M (y_move (v := .slice aa an ac) rfl rfl rfl) ?_
  simp only [Act.put, zq1, zq2, zq3]
  refine pl M (y_len rfl rfl rfl Try.underlying22) ?_
  simp only [Act.put, zq1, zq2, zq3]
  refine pl M (y_add (r := ((3 + an : Nat) : Int)) rfl rfl rfl rfl (by omega) (by omega)) ?_
  simp only [Act.put, zq1, zq2, zq3]
  refine pl M (y_move (v := .slice ba bn bc) rfl rfl rfl) ?_
  simp only [Act.put, zq1, zq2, zq3]
  refine pl M (y_len rfl rfl rfl Try.underlying22) ?_
  simp only [Act.put, zq1, zq2, zq3]
  refine pl M (y_add (r := ((3 + an + bn : Nat) : Int)) rfl rfl rfl rfl (by omega) (by omega)) ?_
  simp only [Act.put, zq1, zq2, zq3]
  refine pe rfl (fun K hK => ?_)
  refine e_call 4 [.int .i64 ((3 + an + bn : Nat) : Int)] rfl rfl Try.call4 (new_some _ _) ?_
  rintro e w3 ⟨pv, ev, rfl, H3⟩
  have M3 : Mem w [] w3 [] := M.step H3
  refine ⟨_, rfl, ?_⟩
  refine hK.out _ _ ?_
  clear hK K
  simp only [Act.put, zq1, zq2, zq3]
  refine pl M3 (y_move (v := .tuple #[.pointer pv, .int .i64 ev]) rfl rfl rfl) ?_
  simp only [Act.put, zq1, zq2, zq3]
  refine pl M3 (y_ext (v := .pointer pv) rfl rfl rfl rfl) ?_
  simp only [Act.put, zq1, zq2, zq3]
  refine pl M3 (y_ext (v := .int .i64 ev) rfl rfl rfl rfl) ?_
  simp only [Act.put, zq1, zq2, zq3]
  refine pl M3 (y_assign (v := .pointer pv) rfl rfl rfl) ?_
  simp only [Act.put, zq1, zq2, zq3]
  refine pl M3 (y_assign (v := .int .i64 ev) rfl rfl rfl) ?_
  simp only [Act.put, zq1, zq2, zq3]
  refine wpList_nil ?_
  refine hK2 _ _ ?_
  clear hK2
  refine wp_seq_k (fun K4 hK4 => ?_)
  refine wp_seq_k (fun K5 hK5 => ?_)
  refine wp_region_lit ?_
  refine pl M3 (y_move (v := .slice aa an ac) rfl rfl rfl) ?_
  simp only [Act.put, zq1, zq2, zq3]
  refine pl M3 (y_len rfl rfl rfl Try.underlying22) ?_
  simp only [Act.put, zq1, zq2, zq3]
  refine pl M3 (y_move (v := .slice ba bn bc) rfl rfl rfl) ?_
  simp only [Act.put, zq1, zq2, zq3]
  refine pl M3 (y_len rfl rfl rfl Try.underlying22) ?_
  simp only [Act.put, zq1, zq2, zq3]
  refine pl M3 (y_add (r := ((an + bn : Nat) : Int)) rfl rfl rfl rfl (by omega) (by omega)) ?_
  simp only [Act.put, zq1, zq2, zq3]
  refine pl M3 (y_gtr (b := false) rfl rfl rfl rfl (decide_eq_false (by omega))) ?_
  simp only [Act.put, zq1, zq2, zq3]
  refine pl M3 (y_move (v := .bool false) rfl rfl rfl) ?_
  simp only [Act.put, zq1, zq2, zq3]
  refine pl M3 (y_move (v := .int .i64 width) rfl rfl rfl) ?_
  simp only [Act.put, zq1, zq2, zq3]
  refine pl M3 (y_lss (b := false) rfl rfl rfl rfl (decide_eq_false (by omega))) ?_
  simp only [Act.put, zq1, zq2, zq3]
  refine pl M3 (y_pickF (v := .bool false) rfl rfl rfl rfl) ?_
  simp only [Act.put, zq1, zq2, zq3]
  refine pl M3 (y_move (v := .bool false) rfl rfl rfl) ?_
  simp only [Act.put, zq1, zq2, zq3]
  refine pl M3 (y_move (v := .int .i64 width) rfl rfl rfl) ?_
  simp only [Act.put, zq1, zq2, zq3]
  refine pl M3 (y_gtr (b := true) rfl rfl rfl rfl (decide_eq_true (by omega))) ?_
  simp only [Act.put, zq1, zq2, zq3]
  refine pl M3 (y_pickF (v := .bool true) rfl rfl rfl rfl) ?_
  simp only [Act.put, zq1, zq2, zq3]
  refine wpList_nil ?_
  refine hK5 _ _ ?_
  clear hK5
  refine wp_cond_true rfl ?_
  refine wp_seq_k (fun K6 hK6 => ?_)
  refine wp_region_lit ?_
  refine pl M3 (y_assign (v := .bool true) rfl rfl rfl) ?_
  simp only [Act.put, zq1, zq2, zq3]
  refine wpList_nil ?_
  refine hK6 _ _ ?_
  clear hK6
  refine wp_ret ?_
  try simp only [Exit.inBlock, Exit.then]
  refine bodyPost_ret (v := .bool true) (res1 rfl rfl) rfl ?_
  exact ⟨rfl, M3.arr [] (by decide)⟩
set_option maxRecDepth 100000 in
set_option maxHeartbeats 60000000 in
theorem lands_fit {w : World} (width : Int) (aa : Option Addr) (an ac : Nat) (os : List NodeV) (hna : Nodes w aa an os) (hina : ∀ o ∈ os, NodeIn w o) (han : an ≤ 140737488355328) (ba : Option Addr) (bn bc : Nat) (os2 : List NodeV) (hnb : Nodes w ba bn os2) (hinb : ∀ o ∈ os2, NodeIn w o) (hbn : bn ≤ 140737488355328) (ca : Option Addr) (cn cc : Nat) (cl : List UInt8) (hcr : Row w ca cn cl) (hcn : cn ≤ 140737488355328) (h64 : ¬ 64 < an + bn) (hw : 1 ≤ width ∧ width ≤ 32) : Calls Try.prog 3 #[.int .i64 width, .slice aa an ac, .slice ba bn bc, .slice ca cn cc] w fun e w' => e = .returned (.bool true) ∧ Mem w [] w' [] := by
  have M := Mem.nil w
  obtain ⟨lf, hlf⟩ := rows_of hina
  obtain ⟨lf2, hlf2⟩ := rows_of hinb
  have hal := hna.1
  have hbl := hnb.1
  go_enter Try.func3, Try.ntmps3
  refine wp_seq_k (fun K1 hK1 => ?_)
  refine wp_region_lit ?_
  refine pl M (y_assign (v := .bool false) rfl rfl rfl) ?_
  simp only [Act.put, zq1, zq2, zq3]
  refine wpList_nil ?_
  refine hK1 _ _ ?_
  clear hK1
  refine wp_seq_k (fun K2 hK2 => ?_)
  refine wp_region_lit ?_
  refine pl M (y_move (v := .slice aa an ac) rfl rfl rfl) ?_
  simp only [Act.put, zq1, zq2, zq3]
  refine pl M (y_len rfl rfl rfl Try.underlying22) ?_
  simp only [Act.put, zq1, zq2, zq3]
  refine pl M (y_add (r := ((3 + an : Nat) : Int)) rfl rfl rfl rfl (by omega) (by omega)) ?_
  simp only [Act.put, zq1, zq2, zq3]
  refine pl M (y_move (v := .slice ba bn bc) rfl rfl rfl) ?_
  simp only [Act.put, zq1, zq2, zq3]
  refine pl M (y_len rfl rfl rfl Try.underlying22) ?_
  simp only [Act.put, zq1, zq2, zq3]
  refine pl M (y_add (r := ((3 + an + bn : Nat) : Int)) rfl rfl rfl rfl (by omega) (by omega)) ?_
  simp only [Act.put, zq1, zq2, zq3]
  refine pe rfl (fun K hK => ?_)
  refine e_call 4 [.int .i64 ((3 + an + bn : Nat) : Int)] rfl rfl Try.call4 (new_fit (3 + an + bn) ⟨by omega, by omega⟩ _) ?_
  rintro e w3 ⟨p, pg, mb, rfl, H3⟩
  have M3 : Mem w [] w3 [disk (newD (3 + an + bn)) p pg mb (.slice none 0 0)] := M.step H3
  refine ⟨_, rfl, ?_⟩
  refine hK.out _ _ ?_
  clear hK K
  simp only [Act.put, zq1, zq2, zq3]
  refine pl M3 (y_move (v := .tuple #[.pointer (some ⟨p, 0, none⟩), .int .i64 0]) rfl rfl rfl) ?_
  simp only [Act.put, zq1, zq2, zq3]
  refine pl M3 (y_ext (v := .pointer (some ⟨p, 0, none⟩)) rfl rfl rfl rfl) ?_
  simp only [Act.put, zq1, zq2, zq3]
  refine pl M3 (y_ext (v := .int .i64 0) rfl rfl rfl rfl) ?_
  simp only [Act.put, zq1, zq2, zq3]
  refine pl M3 (y_assign (v := .pointer (some ⟨p, 0, none⟩)) rfl rfl rfl) ?_
  simp only [Act.put, zq1, zq2, zq3]
  refine pl M3 (y_assign (v := .int .i64 0) rfl rfl rfl) ?_
  simp only [Act.put, zq1, zq2, zq3]
  refine wpList_nil ?_
  refine hK2 _ _ ?_
  clear hK2
  refine wp_seq_k (fun K4 hK4 => ?_)
  refine wp_seq_k (fun K5 hK5 => ?_)
  refine wp_region_lit ?_
  refine pl M3 (y_move (v := .slice aa an ac) rfl rfl rfl) ?_
  simp only [Act.put, zq1, zq2, zq3]
  refine pl M3 (y_len rfl rfl rfl Try.underlying22) ?_
  simp only [Act.put, zq1, zq2, zq3]
  refine pl M3 (y_move (v := .slice ba bn bc) rfl rfl rfl) ?_
  simp only [Act.put, zq1, zq2, zq3]
  refine pl M3 (y_len rfl rfl rfl Try.underlying22) ?_
  simp only [Act.put, zq1, zq2, zq3]
  refine pl M3 (y_add (r := ((an + bn : Nat) : Int)) rfl rfl rfl rfl (by omega) (by omega)) ?_
  simp only [Act.put, zq1, zq2, zq3]
  refine pl M3 (y_gtr (b := false) rfl rfl rfl rfl (decide_eq_false (by omega))) ?_
  simp only [Act.put, zq1, zq2, zq3]
  refine pl M3 (y_move (v := .bool false) rfl rfl rfl) ?_
  simp only [Act.put, zq1, zq2, zq3]
  refine pl M3 (y_move (v := .int .i64 width) rfl rfl rfl) ?_
  simp only [Act.put, zq1, zq2, zq3]
  refine pl M3 (y_lss (b := false) rfl rfl rfl rfl (decide_eq_false (by omega))) ?_
  simp only [Act.put, zq1, zq2, zq3]
  refine pl M3 (y_pickF (v := .bool false) rfl rfl rfl rfl) ?_
  simp only [Act.put, zq1, zq2, zq3]
  refine pl M3 (y_move (v := .bool false) rfl rfl rfl) ?_
  simp only [Act.put, zq1, zq2, zq3]
  refine pl M3 (y_move (v := .int .i64 width) rfl rfl rfl) ?_
  simp only [Act.put, zq1, zq2, zq3]
  refine pl M3 (y_gtr (b := false) rfl rfl rfl rfl (decide_eq_false (by omega))) ?_
  simp only [Act.put, zq1, zq2, zq3]
  refine pl M3 (y_pickF (v := .bool false) rfl rfl rfl rfl) ?_
  simp only [Act.put, zq1, zq2, zq3]
  refine wpList_nil ?_
  refine hK5 _ _ ?_
  clear hK5
  refine wp_cond_false rfl ?_
  refine wp_skip ?_
  refine hK4 _ _ ?_
  clear hK4
  refine wp_seq_k (fun K6 hK6 => ?_)
  refine wp_seq_k (fun K7 hK7 => ?_)
  refine wp_region_lit ?_
  refine pl M3 (y_move (v := .int .i64 0) rfl rfl rfl) ?_
  simp only [Act.put, zq1, zq2, zq3]
  refine pl M3 (y_neq (b := false) rfl rfl rfl rfl (by rw [decide_eq_true (by decide)]; rfl)) ?_
  simp only [Act.put, zq1, zq2, zq3]
  refine pl M3 (y_move (v := .bool false) rfl rfl rfl) ?_
  simp only [Act.put, zq1, zq2, zq3]
  refine pl M3 (y_move (v := .pointer (some ⟨p, 0, none⟩)) rfl rfl rfl) ?_
  simp only [Act.put, zq1, zq2, zq3]
  refine pl M3 (y_eqnil (r := false) rfl rfl rfl rfl Try.underlying24 rfl) ?_
  simp only [Act.put, zq1, zq2, zq3]
  refine pl M3 (y_pickF (v := .bool false) rfl rfl rfl rfl) ?_
  simp only [Act.put, zq1, zq2, zq3]
  refine pl M3 (y_move (v := .bool false) rfl rfl rfl) ?_
  simp only [Act.put, zq1, zq2, zq3]
  refine pl M3 (y_move (v := .pointer (some ⟨p, 0, none⟩)) rfl rfl rfl) ?_
  simp only [Act.put, zq1, zq2, zq3]
  refine pl M3 (y_move (v := .int .i64 width) rfl rfl rfl) ?_
  simp only [Act.put, zq1, zq2, zq3]
  have hX8 : Mem w [] w3 ([disk (newD (3 + an + bn)) p pg mb (.slice none 0 0)] ++ []) := M3.arr [0] (by decide)
  refine pe rfl (fun K hK => ?_)
  refine e_call 5 [.pointer (some ⟨p, 0, none⟩), .int .i64 width] rfl rfl Try.call5 (format_fit (Mem.here hX8) (newD_blank (by omega) (by omega) 0 (by decide)) rfl hw) ?_
  rintro e w8 ⟨E1, qv1, rfl, H8, hP1, hq1, hd1, he1, ha1, hl1⟩
  have M8 : Mem w [] w8 [disk E1 p pg mb qv1] := Mem.frame hX8 H8
  have hn1 : (newD (3 + an + bn)).pages.length = 3 + an + bn := List.length_replicate
  rw [hn1] at hP1 hl1
  refine ⟨_, rfl, ?_⟩
  refine hK.out _ _ ?_
  clear hK K
  simp only [Act.put, zq1, zq2, zq3]
  refine pl M8 (y_neq (b := false) rfl rfl rfl rfl (by rw [decide_eq_true (by decide)]; rfl)) ?_
  simp only [Act.put, zq1, zq2, zq3]
  refine pl M8 (y_pickF (v := .bool false) rfl rfl rfl rfl) ?_
  simp only [Act.put, zq1, zq2, zq3]
  refine wpList_nil ?_
  refine hK7 _ _ ?_
  clear hK7
  refine wp_cond_false rfl ?_
  refine wp_skip ?_
  refine hK6 _ _ ?_
  clear hK6
  refine wp_seq_k (fun K9 hK9 => ?_)
  refine wp_region_lit ?_
  refine pl M8 (y_move (v := .pointer (some ⟨p, 0, none⟩)) rfl rfl rfl) ?_
  simp only [Act.put, zq1, zq2, zq3]
  have hX10 : Mem w [] w8 ([disk E1 p pg mb qv1] ++ []) := M8.arr [0] (by decide)
  refine pe rfl (fun K hK => ?_)
  refine e_call 6 [.pointer (some ⟨p, 0, none⟩)] rfl rfl Try.call6 (open_fit (Mem.here hX10) hP1 hd1) ?_
  rintro e w10 ⟨f, E0, m, rfl, H10, hI0, hq2, hp2, ha2, he2⟩
  have M10 : Mem w [] w10 [disk E0 p pg mb qv1, blk f 69 (fC (⟨secondS width (3 + an + bn), 2, m⟩ : FV) p)] := Mem.frame hX10 H10
  refine ⟨_, rfl, ?_⟩
  refine hK.out _ _ ?_
  clear hK K
  simp only [Act.put, zq1, zq2, zq3]
  refine pl M10 (y_move (v := .tuple #[.pointer (some ⟨f, 0, none⟩), .int .i64 0]) rfl rfl rfl) ?_
  simp only [Act.put, zq1, zq2, zq3]
  refine pl M10 (y_ext (v := .pointer (some ⟨f, 0, none⟩)) rfl rfl rfl rfl) ?_
  simp only [Act.put, zq1, zq2, zq3]
  refine pl M10 (y_ext (v := .int .i64 0) rfl rfl rfl rfl) ?_
  simp only [Act.put, zq1, zq2, zq3]
  refine pl M10 (y_assign (v := .pointer (some ⟨f, 0, none⟩)) rfl rfl rfl) ?_
  simp only [Act.put, zq1, zq2, zq3]
  refine pl M10 (y_assign (v := .int .i64 0) rfl rfl rfl) ?_
  simp only [Act.put, zq1, zq2, zq3]
  refine wpList_nil ?_
  refine hK9 _ _ ?_
  clear hK9
  refine wp_seq_k (fun K11 hK11 => ?_)
  refine wp_seq_k (fun K12 hK12 => ?_)
  refine wp_region_lit ?_
  refine pl M10 (y_move (v := .int .i64 0) rfl rfl rfl) ?_
  simp only [Act.put, zq1, zq2, zq3]
  refine pl M10 (y_neq (b := false) rfl rfl rfl rfl (by rw [decide_eq_true (by decide)]; rfl)) ?_
  simp only [Act.put, zq1, zq2, zq3]
  refine pl M10 (y_move (v := .bool false) rfl rfl rfl) ?_
  simp only [Act.put, zq1, zq2, zq3]
  refine pl M10 (y_move (v := .pointer (some ⟨f, 0, none⟩)) rfl rfl rfl) ?_
  simp only [Act.put, zq1, zq2, zq3]
  refine pl M10 (y_eqnil (r := false) rfl rfl rfl rfl Try.underlying29 rfl) ?_
  simp only [Act.put, zq1, zq2, zq3]
  refine pl M10 (y_pickF (v := .bool false) rfl rfl rfl rfl) ?_
  simp only [Act.put, zq1, zq2, zq3]
  refine wpList_nil ?_
  refine hK12 _ _ ?_
  clear hK12
  refine wp_cond_false rfl ?_
  refine wp_skip ?_
  refine hK11 _ _ ?_
  clear hK11
  refine wp_seq_k (fun K13 hK13 => ?_)
  refine wp_region_lit ?_
  refine pl M10 (y_assign (v := .slice none 0 0) rfl rfl rfl) ?_
  simp only [Act.put, zq1, zq2, zq3]
  refine wpList_nil ?_
  refine hK13 _ _ ?_
  clear hK13
  refine wp_seq_k (fun K14 hK14 => ?_)
  refine wp_seq_k (fun K15 hK15 => ?_)
  refine wp_region_lit ?_
  refine pl M10 (y_assign (v := .int .i64 0) rfl rfl rfl) ?_
  simp only [Act.put, zq1, zq2, zq3]
  refine wpList_nil ?_
  refine hK15 _ _ ?_
  clear hK15
  refine wp_block ?_
  refine wp_loop (fun a' w' => ∃ (i : Nat) (D : DV) (V : FV) (qv : Value) (pz : Pgs) (pgl : List Int) (pa : Option Addr) (pc : Nat) (us16 : List Value), a' = (⟨#[.int .i64 width, .slice aa an ac, .slice ba bn bc, .slice ca cn cc, undef, undef, undef, undef, (us16.getD 0 undef), .pointer (some ⟨p, 0, none⟩), .int .i64 0, .pointer (some ⟨f, 0, none⟩), .slice pa i pc, .int .i64 (i : Int), (us16.getD 1 undef), (us16.getD 2 undef), (us16.getD 3 undef), (us16.getD 4 undef), (us16.getD 5 undef), undef, undef, undef, undef, undef, undef, undef, undef, undef, .tuple #[.pointer (some ⟨p, 0, none⟩), .int .i64 0], .slice aa an ac, .int .i64 (an : Int), .int .i64 ((3 + an : Nat) : Int), .slice ba bn bc, .int .i64 (bn : Int), .int .i64 ((3 + an + bn : Nat) : Int), .tuple #[.pointer (some ⟨p, 0, none⟩), .int .i64 0], .pointer (some ⟨p, 0, none⟩), .int .i64 0, .slice aa an ac, .int .i64 (an : Int), .slice ba bn bc, .int .i64 (bn : Int), .int .i64 ((an + bn : Nat) : Int), .bool false, .bool false, .int .i64 width, .bool false, .bool false, .bool false, .int .i64 width, .bool false, .bool false, .int .i64 0, .bool false, .bool false, .pointer (some ⟨p, 0, none⟩), .bool false, .bool false, .bool false, .pointer (some ⟨p, 0, none⟩), .int .i64 width, .int .i64 0, .bool false, .bool false, .tuple #[.pointer (some ⟨f, 0, none⟩), .int .i64 0], .pointer (some ⟨p, 0, none⟩), .tuple #[.pointer (some ⟨f, 0, none⟩), .int .i64 0], .pointer (some ⟨f, 0, none⟩), .int .i64 0, .int .i64 0, .bool false, .bool false, .pointer (some ⟨f, 0, none⟩), .bool false, .bool false, (us16.getD 6 undef), (us16.getD 7 undef), (us16.getD 8 undef), (us16.getD 9 undef), (us16.getD 10 undef), (us16.getD 11 undef), (us16.getD 12 undef), (us16.getD 13 undef), (us16.getD 14 undef), (us16.getD 15 undef), (us16.getD 16 undef), (us16.getD 17 undef), (us16.getD 18 undef), (us16.getD 19 undef), (us16.getD 20 undef), (us16.getD 21 undef), (us16.getD 22 undef), (us16.getD 23 undef), (us16.getD 24 undef), (us16.getD 25 undef), (us16.getD 26 undef), (us16.getD 27 undef), (us16.getD 28 undef), (us16.getD 29 undef), (us16.getD 30 undef), (us16.getD 31 undef), (us16.getD 32 undef), (us16.getD 33 undef), (us16.getD 34 undef), (us16.getD 35 undef), (us16.getD 36 undef), (us16.getD 37 undef), (us16.getD 38 undef), (us16.getD 39 undef), (us16.getD 40 undef), (us16.getD 41 undef), (us16.getD 42 undef), (us16.getD 43 undef), (us16.getD 44 undef), (us16.getD 45 undef), (us16.getD 46 undef), (us16.getD 47 undef), undef, undef, undef, undef, undef, undef, undef, undef, undef, undef, undef, undef, undef, undef, undef, undef, undef, undef, undef, undef, undef, undef, undef, undef, undef, undef, undef, undef, undef, undef, undef, undef, undef, undef, undef, undef, undef, undef, undef, undef, undef, undef, undef, undef, undef, undef, undef, undef, undef, undef, undef, undef, undef, undef, undef, undef, undef, undef, undef, undef, undef, undef, undef, undef, undef, undef, undef, undef, undef, undef, undef, undef, undef, undef, undef, undef], []⟩ : Act) ∧ (i ≤ an) ∧ (Inv D V pz) ∧ (D.armed = 0 ∧ D.pages.length = 3 + an + bn ∧ V.s.gen = 1 ∧ D.q.length ≤ i ∧ 2 ≤ V.next ∧ V.next ≤ 2 + (i : Int) ∧ pgl.length = i) ∧ (Told os lf pz V.next pgl) ∧ Mem w [] w' [disk D p pg mb qv, blk f 69 (fC V p), lst 3 1 (.slice pa i pc) i (ints pgl)]) (fun a' _ => an - (intOf (a'.tmps.getD 13 undef)).toNat) ⟨0, E0, (⟨secondS width (3 + an + bn), 2, m⟩ : FV), qv1, [], [], none, 0, [.bool false, undef, undef, undef, undef, undef, undef, undef, undef, undef, undef, undef, undef, undef, undef, undef, undef, undef, undef, undef, undef, undef, undef, undef, undef, undef, undef, undef, undef, undef, undef, undef, undef, undef, undef, undef, undef, undef, undef, undef, undef, undef, undef, undef, undef, undef, undef, undef], rfl, Nat.zero_le _, hI0, ⟨by rw [ha2, ha1], by rw [hp2, hl1], rfl, by rw [hq2, hq1]; exact Nat.zero_le _, by show (2 : Int) ≤ 2; decide, by show (2 : Int) ≤ 2 + ((0 : Nat) : Int); decide, rfl⟩, Told.nil _ _ _ _, ((M10.nilst 3 1).arr [1, 2, 0] (by decide))⟩ ?_
  clear M10
  rintro a' w17 ⟨i, D, V, qv, pz, pgl, pa, pc, us16, rfl, hian, hI, hq, htold, M17⟩
  refine wp_seq_k (fun K18 hK18 => ?_)
  refine wp_seq_k (fun K19 hK19 => ?_)
  refine wp_region_lit ?_
  refine pl M17 (y_move (v := .int .i64 (i : Int)) rfl rfl rfl) ?_
  simp only [Act.put, zq1, zq2, zq3]
  refine pl M17 (y_move (v := .slice aa an ac) rfl rfl rfl) ?_
  simp only [Act.put, zq1, zq2, zq3]
  refine pl M17 (y_len rfl rfl rfl Try.underlying22) ?_
  simp only [Act.put, zq1, zq2, zq3]
  rcases Decidable.em ((i : Int) < (an : Int)) with h20 | h20
  · obtain ⟨x, hget⟩ : ∃ x, os[i]? = some x := ⟨_, List.getElem?_eq_getElem (by have := hna.1; omega)⟩
    obtain ⟨ga, oa, hao, hra⟩ := nodes_at hna hget
    have hx := hina x (List.mem_of_getElem? hget)
    have hrow := hlf x (List.mem_of_getElem? hget)
    refine pl M17 (y_lss (b := true) rfl rfl rfl rfl (decide_eq_true h20)) ?_
    simp only [Act.put, zq1, zq2, zq3]
    refine wpList_nil ?_
    refine hK19 _ _ ?_
    clear hK19
    refine wp_cond_true rfl ?_
    refine wp_skip ?_
    refine hK18 _ _ ?_
    clear hK18
    refine wp_seq_k (fun K21 hK21 => ?_)
    refine wp_block ?_
    refine wp_seq_k (fun K22 hK22 => ?_)
    refine wp_region_lit ?_
    refine pl M17 (y_move (v := .slice aa an ac) rfl rfl rfl) ?_
    simp only [Act.put, zq1, zq2, zq3]
    refine pl M17 (y_move (v := .int .i64 (i : Int)) rfl rfl rfl) ?_
    simp only [Act.put, zq1, zq2, zq3]
    refine pl M17 (y_ias (r := oa + i * 102) rfl rfl (congrArg (fun z => Value.slice z an ac) hao) rfl Try.underlying22 Try.sizeOf39 (by omega) (by omega)) ?_
    simp only [Act.put, zq1, zq2, zq3]
    refine pl M17 (y_loadr (cs := (nodeC x)) rfl rfl rfl Try.underlying39 rfl (size_node x) (fun W hW => hW.range hra (by simp))) ?_
    simp only [Act.put, zq1, zq2, zq3]
    refine pe rfl (fun K hK => ?_)
    refine e_call 7 [.agg ((nodeC x)).toArray] rfl rfl Try.call7 (enc_m x hx.left hx.right hx.lc hx.rc (lf x) _ (M17.row hrow (by simp)) hx.nil hx.len) ?_
    rintro e w23 ⟨ta, nt, ct, t, er, rfl, H23, rfl, henc⟩
    have M23 : Mem w [] w23 [bytesL (.slice ta t.length ct) t, disk D p pg mb qv, blk f 69 (fC V p), lst 3 1 (.slice pa i pc) i (ints pgl)] := M17.step H23
    refine ⟨_, rfl, ?_⟩
    refine hK.out _ _ ?_
    clear hK K
    simp only [Act.put, zq1, zq2, zq3]
    rcases henc with ⟨hr, rfl, ht⟩ | ⟨hr, rfl, ht⟩
    · refine pl M23 (y_move (v := .tuple #[.slice ta t.length ct, .int .i64 0]) rfl rfl rfl) ?_
      simp only [Act.put, zq1, zq2, zq3]
      refine pl M23 (y_ext (v := .slice ta t.length ct) rfl rfl rfl rfl) ?_
      simp only [Act.put, zq1, zq2, zq3]
      refine pl M23 (y_ext (v := .int .i64 0) rfl rfl rfl rfl) ?_
      simp only [Act.put, zq1, zq2, zq3]
      refine pl M23 (y_assign (v := .slice ta t.length ct) rfl rfl rfl) ?_
      simp only [Act.put, zq1, zq2, zq3]
      refine pl M23 (y_assign (v := .int .i64 0) rfl rfl rfl) ?_
      simp only [Act.put, zq1, zq2, zq3]
      refine wpList_nil ?_
      refine hK22 _ _ ?_
      clear hK22
      refine wp_seq_k (fun K24 hK24 => ?_)
      refine wp_seq_k (fun K25 hK25 => ?_)
      refine wp_region_lit ?_
      refine pl M23 (y_move (v := .int .i64 0) rfl rfl rfl) ?_
      simp only [Act.put, zq1, zq2, zq3]
      refine pl M23 (y_eql (b := true) rfl rfl rfl rfl (decide_eq_true (by decide))) ?_
      simp only [Act.put, zq1, zq2, zq3]
      refine pl M23 (y_move (v := .slice aa an ac) rfl rfl rfl) ?_
      simp only [Act.put, zq1, zq2, zq3]
      refine pl M23 (y_move (v := .int .i64 (i : Int)) rfl rfl rfl) ?_
      simp only [Act.put, zq1, zq2, zq3]
      refine pl M23 (y_ias (r := oa + i * 102) rfl rfl (congrArg (fun z => Value.slice z an ac) hao) rfl Try.underlying22 Try.sizeOf39 (by omega) (by omega)) ?_
      simp only [Act.put, zq1, zq2, zq3]
      refine pl M23 (y_loadr (cs := (nodeC x)) rfl rfl rfl Try.underlying39 rfl (size_node x) (fun W hW => hW.range hra (by simp))) ?_
      simp only [Act.put, zq1, zq2, zq3]
      refine pe rfl (fun K hK => ?_)
      refine e_call 8 [.agg ((nodeC x)).toArray] rfl rfl Try.call8 (right_m x _) ?_
      rintro e w26 ⟨rfl, H26⟩
      have M26 : Mem w [] w26 [bytesL (.slice ta t.length ct) t, disk D p pg mb qv, blk f 69 (fC V p), lst 3 1 (.slice pa i pc) i (ints pgl)] := M23.step H26
      rw [hr]
      refine ⟨_, rfl, ?_⟩
      refine hK.out _ _ ?_
      clear hK K
      simp only [Act.put, zq1, zq2, zq3]
      refine pl M26 (y_neb (r := false) rfl rfl rfl rfl Try.underlying4 rfl) ?_
      simp only [Act.put, zq1, zq2, zq3]
      refine wpList_nil ?_
      refine hK25 _ _ ?_
      clear hK25
      refine wp_cond_false rfl ?_
      refine wp_skip ?_
      refine hK24 _ _ ?_
      clear hK24
      refine wp_seq_k (fun K27 hK27 => ?_)
      refine wp_region_lit ?_
      refine pl M26 (y_assign (v := .int .i64 0) rfl rfl rfl) ?_
      simp only [Act.put, zq1, zq2, zq3]
      refine wpList_nil ?_
      refine hK27 _ _ ?_
      clear hK27
      refine wp_seq_k (fun K28 hK28 => ?_)
      refine wp_seq_k (fun K29 hK29 => ?_)
      refine wp_region_lit ?_
      refine pl M26 (y_move (v := .int .i64 0) rfl rfl rfl) ?_
      simp only [Act.put, zq1, zq2, zq3]
      refine pl M26 (y_eql (b := true) rfl rfl rfl rfl (decide_eq_true (by decide))) ?_
      simp only [Act.put, zq1, zq2, zq3]
      refine wpList_nil ?_
      refine hK29 _ _ ?_
      clear hK29
      refine wp_cond_true rfl ?_
      refine wp_seq_k (fun K30 hK30 => ?_)
      refine wp_region_lit ?_
      refine pl M26 (y_move (v := .pointer (some ⟨f, 0, none⟩)) rfl rfl rfl) ?_
      simp only [Act.put, zq1, zq2, zq3]
      refine pl M26 (y_move (v := .slice aa an ac) rfl rfl rfl) ?_
      simp only [Act.put, zq1, zq2, zq3]
      refine pl M26 (y_move (v := .int .i64 (i : Int)) rfl rfl rfl) ?_
      simp only [Act.put, zq1, zq2, zq3]
      refine pl M26 (y_ias (r := oa + i * 102) rfl rfl (congrArg (fun z => Value.slice z an ac) hao) rfl Try.underlying22 Try.sizeOf39 (by omega) (by omega)) ?_
      simp only [Act.put, zq1, zq2, zq3]
      refine pl M26 (y_fa (r := oa + i * 102) rfl rfl rfl Try.underlying39 rfl Try.sizeOf3 rfl) ?_
      simp only [Act.put, zq1, zq2, zq3]
      refine pl M26 (y_loadc (v := .int .i64 x.kind) rfl rfl rfl Try.isAgg3 (fun W hW => (hW.range hra (by simp)) 0 _ rfl)) ?_
      simp only [Act.put, zq1, zq2, zq3]
      refine pl M26 (y_move (v := .slice ta t.length ct) rfl rfl rfl) ?_
      simp only [Act.put, zq1, zq2, zq3]
      obtain ⟨m2, hm2⟩ : ∃ x : Nat, V.next = ((x + 2 : Nat) : Int) := ⟨(V.next - 2).toNat, by omega⟩
      have hlt : V.next < (D.pages.length : Int) := by omega
      obtain ⟨hk12, h246⟩ := rightB_kind hrow.1 hr
      obtain ⟨kq, hkq⟩ : ∃ kq : Nat, x.kind = (kq : Int) := Int.eq_ofNat_of_zero_le (by omega)
      have hxo : PageOk (kq, t) := ⟨⟨by show 1 ≤ kq; omega, by show kq ≤ 3; omega⟩, by rw [ht]; exact h246⟩
      have hX31 : Mem w [] w26 ([disk D p pg mb qv, blk f 69 (fC V p)] ++ [bytesL (.slice ta t.length ct) t, lst 3 1 (.slice pa i pc) i (ints pgl)]) := M26.arr [1, 2, 0, 3] (by decide)
      refine pe rfl (fun K hK => ?_)
      refine e_call 9 [.pointer (some ⟨f, 0, none⟩), .int .i64 x.kind, .slice ta t.length ct] rfl rfl Try.call9 (by have N := xapp_go (Mem.here hX31) hI kq ta t.length ct t hxo (bytesL_row (M26.get 0 rfl)) (M26.arr [0, 1, 2] (by decide)).off (by omega) hlt m2 hm2 (act_arm0 hq.1).1; rw [← hkq] at N; exact N) ?_
      rintro e w31 ⟨E5, qv5, rfl, H31, hE, hI5, hpl5⟩
      have M31 : Mem w [] w31 [disk E5 p pg mb qv5, blk f 69 (fC ({ V with next := V.next + 1 } : FV) p), bytesL (.slice ta t.length ct) t, lst 3 1 (.slice pa i pc) i (ints pgl)] := Mem.frame hX31 H31
      rw [hkq] at hE
      obtain ⟨hea, heq⟩ := app_more hI hxo hlt hq.1
      rw [← hE] at hea heq
      have htold5 := told_app htold hI (by rw [hq.2.2.2.2.2.2]; exact hget) hr hm2 hkq
      rw [← ht] at htold5
      refine ⟨_, rfl, ?_⟩
      refine hK.out _ _ ?_
      clear hK K
      simp only [Act.put, zq1, zq2, zq3]
      refine pl M31 (y_move (v := .tuple #[.int .i64 ((m2 + 2 : Nat) : Int), .int .i64 0]) rfl rfl rfl) ?_
      simp only [Act.put, zq1, zq2, zq3]
      refine pl M31 (y_ext (v := .int .i64 ((m2 + 2 : Nat) : Int)) rfl rfl rfl rfl) ?_
      simp only [Act.put, zq1, zq2, zq3]
      refine pl M31 (y_ext (v := .int .i64 0) rfl rfl rfl rfl) ?_
      simp only [Act.put, zq1, zq2, zq3]
      refine pl M31 (y_assign (v := .int .i64 ((m2 + 2 : Nat) : Int)) rfl rfl rfl) ?_
      simp only [Act.put, zq1, zq2, zq3]
      refine pl M31 (y_assign (v := .int .i64 0) rfl rfl rfl) ?_
      simp only [Act.put, zq1, zq2, zq3]
      refine wpList_nil ?_
      refine hK30 _ _ ?_
      clear hK30
      refine wp_seq_k (fun K32 hK32 => ?_)
      refine wp_seq_k (fun K33 hK33 => ?_)
      refine wp_region_lit ?_
      refine pl M31 (y_move (v := .int .i64 0) rfl rfl rfl) ?_
      simp only [Act.put, zq1, zq2, zq3]
      refine pl M31 (y_neq (b := false) rfl rfl rfl rfl (by rw [decide_eq_true (by decide)]; rfl)) ?_
      simp only [Act.put, zq1, zq2, zq3]
      refine wpList_nil ?_
      refine hK33 _ _ ?_
      clear hK33
      refine wp_cond_false rfl ?_
      refine wp_skip ?_
      refine hK32 _ _ ?_
      clear hK32
      refine wp_region_lit ?_
      refine pl M31 (y_move (v := .int .i64 ((m2 + 2 : Nat) : Int)) rfl rfl rfl) ?_
      simp only [Act.put, zq1, zq2, zq3]
      refine pl M31 (y_assign (v := .int .i64 ((m2 + 2 : Nat) : Int)) rfl rfl rfl) ?_
      simp only [Act.put, zq1, zq2, zq3]
      refine wpList_nil ?_
      refine hK28 _ _ ?_
      clear hK28
      refine wp_region_lit ?_
      refine pl M31 (y_move (v := .slice pa i pc) rfl rfl rfl) ?_
      simp only [Act.put, zq1, zq2, zq3]
      refine pl M31 (y_move (v := .int .i64 ((m2 + 2 : Nat) : Int)) rfl rfl rfl) ?_
      simp only [Act.put, zq1, zq2, zq3]
      refine pe rfl (fun K hK => ?_)
      refine e_bslice M31 ([.int .i64 ((m2 + 2 : Nat) : Int)]) (pv := [(0, .int .i64 ((m2 + 2 : Nat) : Int))]) rfl rfl Try.underlying32 Try.sizeOf3 Try.zeroValue3 (by decide) (by kernel_rfl) ?_
      intro g34 w35 (M35 : Mem w [] w35 [blk g34 3 ([.int .i64 ((m2 + 2 : Nat) : Int)]), disk E5 p pg mb qv5, blk f 69 (fC ({ V with next := V.next + 1 } : FV) p), bytesL (.slice ta t.length ct) t, lst 3 1 (.slice pa i pc) i (ints pgl)])
      clear M31
      refine hK.out _ _ ?_
      clear hK K
      simp only [Act.put, zq1, zq2, zq3]
      refine pe rfl (fun K hK => ?_)
      refine e_append M35 4 intsT (by decide) (news := [.int .i64 ((m2 + 2 : Nat) : Int)]) rfl rfl rfl rfl (rfl) (by intro h; cases h) (fun ad e j u hj => by cases e; match j with | 0 => cases hj; exact cell_of_blk (M35.get 0 rfl) rfl | j + 1 => cases hj) (by intro u hu; cases hu with | head => rfl | tail _ h => cases h) (⟨by unfold maxLen; omega, by omega⟩) ?_
      intro v36 w36 M36
      replace M36 : Mem w [] w36 [blk g34 3 ([.int .i64 ((m2 + 2 : Nat) : Int)]), disk E5 p pg mb qv5, blk f 69 (fC ({ V with next := V.next + 1 } : FV) p), bytesL (.slice ta t.length ct) t, lst 3 1 v36 (i + 1) (ints (pgl ++ [((m2 + 2 : Nat) : Int)]))] := (by have N := M36; rw [ints_snoc] at N; exact N)
      clear M35
      obtain ⟨a36, c36, rfl⟩ := qv_at (M36.get 4 rfl)
      refine hK.out _ _ ?_
      clear hK K
      simp only [Act.put, zq1, zq2, zq3]
      refine pl M36 (y_assign (v := .slice a36 (i + 1) c36) rfl rfl rfl) ?_
      simp only [Act.put, zq1, zq2, zq3]
      refine wpList_nil ?_
      refine hK21 _ _ ?_
      clear hK21
      refine wp_region_lit ?_
      refine pl M36 (y_move (v := .int .i64 (i : Int)) rfl rfl rfl) ?_
      simp only [Act.put, zq1, zq2, zq3]
      refine pl M36 (y_add (r := (i : Int) + 1) rfl rfl rfl rfl (rfl) (by omega)) ?_
      simp only [Act.put, zq1, zq2, zq3]
      refine pl M36 (y_assign (v := .int .i64 ((i : Int) + 1)) rfl rfl rfl) ?_
      simp only [Act.put, zq1, zq2, zq3]
      refine wpList_nil ?_
      refine ⟨⟨i + 1, E5, ({ V with next := V.next + 1 } : FV), qv5, putP pz (m2 + 2) (kq, t), pgl ++ [((m2 + 2 : Nat) : Int)], a36, c36, [(us16.getD 0 undef), .slice ta t.length ct, .int .i64 0, .int .i64 ((m2 + 2 : Nat) : Int), .int .i64 ((m2 + 2 : Nat) : Int), .int .i64 0, .int .i64 (i : Int), .slice aa an ac, .int .i64 (an : Int), .bool true, .int .i64 (i : Int), .int .i64 ((i : Int) + 1), .tuple #[.slice ta t.length ct, .int .i64 0], .slice aa an ac, .int .i64 (i : Int), .pointer (some ⟨ga, oa + i * 102, none⟩), .agg ((nodeC x)).toArray, .tuple #[.slice ta t.length ct, .int .i64 0], .slice ta t.length ct, .int .i64 0, .int .i64 0, .bool true, .slice aa an ac, .int .i64 (i : Int), .pointer (some ⟨ga, oa + i * 102, none⟩), .agg ((nodeC x)).toArray, .bool true, .bool false, .int .i64 0, .bool true, .tuple #[.int .i64 ((m2 + 2 : Nat) : Int), .int .i64 0], .pointer (some ⟨f, 0, none⟩), .slice aa an ac, .int .i64 (i : Int), .pointer (some ⟨ga, oa + i * 102, none⟩), .pointer (some ⟨ga, oa + i * 102, none⟩), .int .i64 x.kind, .slice ta t.length ct, .tuple #[.int .i64 ((m2 + 2 : Nat) : Int), .int .i64 0], .int .i64 ((m2 + 2 : Nat) : Int), .int .i64 0, .int .i64 0, .bool false, .int .i64 ((m2 + 2 : Nat) : Int), .slice pa i pc, .int .i64 ((m2 + 2 : Nat) : Int), .slice (some ⟨g34, 0, none⟩) 1 1, .slice a36 (i + 1) c36], rfl, (by omega), (by first | exact hI5 | exact hI), (by first | exact ⟨hea, by rw [hpl5]; exact hq.2.1, hq.2.2.1, by omega, by show (2 : Int) ≤ V.next + 1; omega, by show V.next + 1 ≤ 2 + ((i + 1 : Nat) : Int); omega, by simp; exact hq.2.2.2.2.2.2⟩ | exact ⟨hq.1, hq.2.1, hq.2.2.1, by omega, hq.2.2.2.2.1, by omega, by simp; exact hq.2.2.2.2.2.2⟩), (by first | exact htold5 | exact htold.none (by rw [hq.2.2.2.2.2.2]; exact hget) hr), (M36.arr [1, 2, 4] (by decide))⟩, ?_⟩
      simp [intOf]; omega
    · refine pl M23 (y_move (v := .tuple #[.slice ta t.length ct, .int .i64 90]) rfl rfl rfl) ?_
      simp only [Act.put, zq1, zq2, zq3]
      refine pl M23 (y_ext (v := .slice ta t.length ct) rfl rfl rfl rfl) ?_
      simp only [Act.put, zq1, zq2, zq3]
      refine pl M23 (y_ext (v := .int .i64 90) rfl rfl rfl rfl) ?_
      simp only [Act.put, zq1, zq2, zq3]
      refine pl M23 (y_assign (v := .slice ta t.length ct) rfl rfl rfl) ?_
      simp only [Act.put, zq1, zq2, zq3]
      refine pl M23 (y_assign (v := .int .i64 90) rfl rfl rfl) ?_
      simp only [Act.put, zq1, zq2, zq3]
      refine wpList_nil ?_
      refine hK22 _ _ ?_
      clear hK22
      refine wp_seq_k (fun K37 hK37 => ?_)
      refine wp_seq_k (fun K38 hK38 => ?_)
      refine wp_region_lit ?_
      refine pl M23 (y_move (v := .int .i64 90) rfl rfl rfl) ?_
      simp only [Act.put, zq1, zq2, zq3]
      refine pl M23 (y_eql (b := false) rfl rfl rfl rfl (decide_eq_false (by decide))) ?_
      simp only [Act.put, zq1, zq2, zq3]
      refine pl M23 (y_move (v := .slice aa an ac) rfl rfl rfl) ?_
      simp only [Act.put, zq1, zq2, zq3]
      refine pl M23 (y_move (v := .int .i64 (i : Int)) rfl rfl rfl) ?_
      simp only [Act.put, zq1, zq2, zq3]
      refine pl M23 (y_ias (r := oa + i * 102) rfl rfl (congrArg (fun z => Value.slice z an ac) hao) rfl Try.underlying22 Try.sizeOf39 (by omega) (by omega)) ?_
      simp only [Act.put, zq1, zq2, zq3]
      refine pl M23 (y_loadr (cs := (nodeC x)) rfl rfl rfl Try.underlying39 rfl (size_node x) (fun W hW => hW.range hra (by simp))) ?_
      simp only [Act.put, zq1, zq2, zq3]
      refine pe rfl (fun K hK => ?_)
      refine e_call 8 [.agg ((nodeC x)).toArray] rfl rfl Try.call8 (right_m x _) ?_
      rintro e w39 ⟨rfl, H39⟩
      have M39 : Mem w [] w39 [bytesL (.slice ta t.length ct) t, disk D p pg mb qv, blk f 69 (fC V p), lst 3 1 (.slice pa i pc) i (ints pgl)] := M23.step H39
      rw [hr]
      refine ⟨_, rfl, ?_⟩
      refine hK.out _ _ ?_
      clear hK K
      simp only [Act.put, zq1, zq2, zq3]
      refine pl M39 (y_neb (r := false) rfl rfl rfl rfl Try.underlying4 rfl) ?_
      simp only [Act.put, zq1, zq2, zq3]
      refine wpList_nil ?_
      refine hK38 _ _ ?_
      clear hK38
      refine wp_cond_false rfl ?_
      refine wp_skip ?_
      refine hK37 _ _ ?_
      clear hK37
      refine wp_seq_k (fun K40 hK40 => ?_)
      refine wp_region_lit ?_
      refine pl M39 (y_assign (v := .int .i64 0) rfl rfl rfl) ?_
      simp only [Act.put, zq1, zq2, zq3]
      refine wpList_nil ?_
      refine hK40 _ _ ?_
      clear hK40
      refine wp_seq_k (fun K41 hK41 => ?_)
      refine wp_seq_k (fun K42 hK42 => ?_)
      refine wp_region_lit ?_
      refine pl M39 (y_move (v := .int .i64 90) rfl rfl rfl) ?_
      simp only [Act.put, zq1, zq2, zq3]
      refine pl M39 (y_eql (b := false) rfl rfl rfl rfl (decide_eq_false (by decide))) ?_
      simp only [Act.put, zq1, zq2, zq3]
      refine wpList_nil ?_
      refine hK42 _ _ ?_
      clear hK42
      refine wp_cond_false rfl ?_
      refine wp_skip ?_
      refine hK41 _ _ ?_
      clear hK41
      refine wp_region_lit ?_
      refine pl M39 (y_move (v := .slice pa i pc) rfl rfl rfl) ?_
      simp only [Act.put, zq1, zq2, zq3]
      refine pl M39 (y_move (v := .int .i64 0) rfl rfl rfl) ?_
      simp only [Act.put, zq1, zq2, zq3]
      refine pe rfl (fun K hK => ?_)
      refine e_bslice M39 ([.int .i64 0]) (pv := [(0, .int .i64 0)]) rfl rfl Try.underlying32 Try.sizeOf3 Try.zeroValue3 (by decide) (by kernel_rfl) ?_
      intro g43 w44 (M44 : Mem w [] w44 [blk g43 3 ([.int .i64 0]), bytesL (.slice ta t.length ct) t, disk D p pg mb qv, blk f 69 (fC V p), lst 3 1 (.slice pa i pc) i (ints pgl)])
      clear M39
      refine hK.out _ _ ?_
      clear hK K
      simp only [Act.put, zq1, zq2, zq3]
      refine pe rfl (fun K hK => ?_)
      refine e_append M44 4 intsT (by decide) (news := [.int .i64 0]) rfl rfl rfl rfl (rfl) (by intro h; cases h) (fun ad e j u hj => by cases e; match j with | 0 => cases hj; exact cell_of_blk (M44.get 0 rfl) rfl | j + 1 => cases hj) (by intro u hu; cases hu with | head => rfl | tail _ h => cases h) (⟨by unfold maxLen; omega, by omega⟩) ?_
      intro v45 w45 M45
      replace M45 : Mem w [] w45 [blk g43 3 ([.int .i64 0]), bytesL (.slice ta t.length ct) t, disk D p pg mb qv, blk f 69 (fC V p), lst 3 1 v45 (i + 1) (ints (pgl ++ [0]))] := (by have N := M45; rw [ints_snoc] at N; exact N)
      clear M44
      obtain ⟨a45, c45, rfl⟩ := qv_at (M45.get 4 rfl)
      refine hK.out _ _ ?_
      clear hK K
      simp only [Act.put, zq1, zq2, zq3]
      refine pl M45 (y_assign (v := .slice a45 (i + 1) c45) rfl rfl rfl) ?_
      simp only [Act.put, zq1, zq2, zq3]
      refine wpList_nil ?_
      refine hK21 _ _ ?_
      clear hK21
      refine wp_region_lit ?_
      refine pl M45 (y_move (v := .int .i64 (i : Int)) rfl rfl rfl) ?_
      simp only [Act.put, zq1, zq2, zq3]
      refine pl M45 (y_add (r := (i : Int) + 1) rfl rfl rfl rfl (rfl) (by omega)) ?_
      simp only [Act.put, zq1, zq2, zq3]
      refine pl M45 (y_assign (v := .int .i64 ((i : Int) + 1)) rfl rfl rfl) ?_
      simp only [Act.put, zq1, zq2, zq3]
      refine wpList_nil ?_
      refine ⟨⟨i + 1, D, V, qv, pz, pgl ++ [0], a45, c45, [(us16.getD 0 undef), .slice ta t.length ct, .int .i64 90, .int .i64 0, (us16.getD 4 undef), (us16.getD 5 undef), .int .i64 (i : Int), .slice aa an ac, .int .i64 (an : Int), .bool true, .int .i64 (i : Int), .int .i64 ((i : Int) + 1), .tuple #[.slice ta t.length ct, .int .i64 90], .slice aa an ac, .int .i64 (i : Int), .pointer (some ⟨ga, oa + i * 102, none⟩), .agg ((nodeC x)).toArray, .tuple #[.slice ta t.length ct, .int .i64 90], .slice ta t.length ct, .int .i64 90, .int .i64 90, .bool false, .slice aa an ac, .int .i64 (i : Int), .pointer (some ⟨ga, oa + i * 102, none⟩), .agg ((nodeC x)).toArray, .bool false, .bool false, .int .i64 90, .bool false, (us16.getD 30 undef), (us16.getD 31 undef), (us16.getD 32 undef), (us16.getD 33 undef), (us16.getD 34 undef), (us16.getD 35 undef), (us16.getD 36 undef), (us16.getD 37 undef), (us16.getD 38 undef), (us16.getD 39 undef), (us16.getD 40 undef), (us16.getD 41 undef), (us16.getD 42 undef), (us16.getD 43 undef), .slice pa i pc, .int .i64 0, .slice (some ⟨g43, 0, none⟩) 1 1, .slice a45 (i + 1) c45], rfl, (by omega), (by first | exact hI5 | exact hI), (by first | exact ⟨hea, by rw [hpl5]; exact hq.2.1, hq.2.2.1, by omega, by show (2 : Int) ≤ V.next + 1; omega, by show V.next + 1 ≤ 2 + ((i + 1 : Nat) : Int); omega, by simp; exact hq.2.2.2.2.2.2⟩ | exact ⟨hq.1, hq.2.1, hq.2.2.1, by omega, hq.2.2.2.2.1, by omega, by simp; exact hq.2.2.2.2.2.2⟩), (by first | exact htold5 | exact htold.none (by rw [hq.2.2.2.2.2.2]; exact hget) hr), (M45.arr [2, 3, 4] (by decide))⟩, ?_⟩
      simp [intOf]; omega
  · refine pl M17 (y_lss (b := false) rfl rfl rfl rfl (decide_eq_false h20)) ?_
    simp only [Act.put, zq1, zq2, zq3]
    refine wpList_nil ?_
    refine hK19 _ _ ?_
    clear hK19
    refine wp_cond_false rfl ?_
    refine wp_exit ?_
    refine hK14 _ _ ?_
    clear hK14
    refine wp_seq_k (fun K46 hK46 => ?_)
    refine wp_seq_k (fun K47 hK47 => ?_)
    refine wp_region_lit ?_
    refine pl M17 (y_move (v := .pointer (some ⟨f, 0, none⟩)) rfl rfl rfl) ?_
    simp only [Act.put, zq1, zq2, zq3]
    obtain ⟨p1, p2, p3, p4, p5⟩ := pub_fine hI (by omega) hq.1
    have hX48 : Mem w [] w17 ([disk D p pg mb qv, blk f 69 (fC V p)] ++ [lst 3 1 (.slice pa i pc) i (ints pgl)]) := M17.arr [0, 1, 2] (by decide)
    refine pe rfl (fun K hK => ?_)
    refine e_call 10 [.pointer (some ⟨f, 0, none⟩), .int .i64 0] rfl rfl Try.call10 (xpub_go (Mem.here hX48) hI 0 (by omega) p1 p4) ?_
    rintro e w48 ⟨E6, qv6, rfl, H48, hE6, hpl6⟩
    have M48 : Mem w [] w48 [disk E6 p pg mb qv6, blk f 69 (fC ({ V with s := pubS V 0 } : FV) p), lst 3 1 (.slice pa i pc) i (ints pgl)] := Mem.frame hX48 H48
    rw [← hE6] at p2 p3 p4 p5
    refine ⟨_, rfl, ?_⟩
    refine hK.out _ _ ?_
    clear hK K
    simp only [Act.put, zq1, zq2, zq3]
    refine pl M48 (y_neq (b := false) rfl rfl rfl rfl (by rw [decide_eq_true (by decide)]; rfl)) ?_
    simp only [Act.put, zq1, zq2, zq3]
    refine wpList_nil ?_
    refine hK47 _ _ ?_
    clear hK47
    refine wp_cond_false rfl ?_
    refine wp_skip ?_
    refine hK46 _ _ ?_
    clear hK46
    refine wp_seq_k (fun K49 hK49 => ?_)
    refine wp_seq_k (fun K50 hK50 => ?_)
    refine wp_region_lit ?_
    refine pl M48 (y_assign (v := .int .i64 0) rfl rfl rfl) ?_
    simp only [Act.put, zq1, zq2, zq3]
    refine wpList_nil ?_
    refine hK50 _ _ ?_
    clear hK50
    refine wp_block ?_
    refine wp_loop (fun a' w' => ∃ (j : Nat) (D2 : DV) (V2 : FV) (qv2 : Value) (pz2 : Pgs) (us51 : List Value), a' = (⟨#[.int .i64 width, .slice aa an ac, .slice ba bn bc, .slice ca cn cc, undef, undef, undef, undef, (us16.getD 0 undef), .pointer (some ⟨p, 0, none⟩), .int .i64 0, .pointer (some ⟨f, 0, none⟩), .slice pa i pc, .int .i64 (i : Int), (us16.getD 1 undef), (us16.getD 2 undef), (us16.getD 3 undef), (us16.getD 4 undef), (us16.getD 5 undef), .int .i64 (j : Int), (us51.getD 0 undef), (us51.getD 1 undef), undef, undef, undef, undef, undef, undef, .tuple #[.pointer (some ⟨p, 0, none⟩), .int .i64 0], .slice aa an ac, .int .i64 (an : Int), .int .i64 ((3 + an : Nat) : Int), .slice ba bn bc, .int .i64 (bn : Int), .int .i64 ((3 + an + bn : Nat) : Int), .tuple #[.pointer (some ⟨p, 0, none⟩), .int .i64 0], .pointer (some ⟨p, 0, none⟩), .int .i64 0, .slice aa an ac, .int .i64 (an : Int), .slice ba bn bc, .int .i64 (bn : Int), .int .i64 ((an + bn : Nat) : Int), .bool false, .bool false, .int .i64 width, .bool false, .bool false, .bool false, .int .i64 width, .bool false, .bool false, .int .i64 0, .bool false, .bool false, .pointer (some ⟨p, 0, none⟩), .bool false, .bool false, .bool false, .pointer (some ⟨p, 0, none⟩), .int .i64 width, .int .i64 0, .bool false, .bool false, .tuple #[.pointer (some ⟨f, 0, none⟩), .int .i64 0], .pointer (some ⟨p, 0, none⟩), .tuple #[.pointer (some ⟨f, 0, none⟩), .int .i64 0], .pointer (some ⟨f, 0, none⟩), .int .i64 0, .int .i64 0, .bool false, .bool false, .pointer (some ⟨f, 0, none⟩), .bool false, .bool false, .int .i64 (i : Int), .slice aa an ac, .int .i64 (an : Int), .bool false, (us16.getD 10 undef), (us16.getD 11 undef), (us16.getD 12 undef), (us16.getD 13 undef), (us16.getD 14 undef), (us16.getD 15 undef), (us16.getD 16 undef), (us16.getD 17 undef), (us16.getD 18 undef), (us16.getD 19 undef), (us16.getD 20 undef), (us16.getD 21 undef), (us16.getD 22 undef), (us16.getD 23 undef), (us16.getD 24 undef), (us16.getD 25 undef), (us16.getD 26 undef), (us16.getD 27 undef), (us16.getD 28 undef), (us16.getD 29 undef), (us16.getD 30 undef), (us16.getD 31 undef), (us16.getD 32 undef), (us16.getD 33 undef), (us16.getD 34 undef), (us16.getD 35 undef), (us16.getD 36 undef), (us16.getD 37 undef), (us16.getD 38 undef), (us16.getD 39 undef), (us16.getD 40 undef), (us16.getD 41 undef), (us16.getD 42 undef), (us16.getD 43 undef), (us16.getD 44 undef), (us16.getD 45 undef), (us16.getD 46 undef), (us16.getD 47 undef), .pointer (some ⟨f, 0, none⟩), .int .i64 0, .bool false, (us51.getD 2 undef), (us51.getD 3 undef), (us51.getD 4 undef), (us51.getD 5 undef), (us51.getD 6 undef), (us51.getD 7 undef), (us51.getD 8 undef), (us51.getD 9 undef), (us51.getD 10 undef), (us51.getD 11 undef), (us51.getD 12 undef), (us51.getD 13 undef), (us51.getD 14 undef), (us51.getD 15 undef), (us51.getD 16 undef), (us51.getD 17 undef), (us51.getD 18 undef), undef, undef, undef, undef, undef, undef, undef, undef, undef, undef, undef, undef, undef, undef, undef, undef, undef, undef, undef, undef, undef, undef, undef, undef, undef, undef, undef, undef, undef, undef, undef, undef, undef, undef, undef, undef, undef, undef, undef, undef, undef, undef, undef, undef, undef, undef, undef, undef, undef, undef, undef, undef, undef, undef, undef, undef], []⟩ : Act) ∧ (j ≤ bn) ∧ (Inv D2 V2 pz2) ∧ (D2.armed = 0 ∧ D2.pages.length = 3 + an + bn ∧ V2.s = pubS V 0 ∧ D2.q.length ≤ j ∧ V.next ≤ V2.next ∧ V2.next ≤ 2 + (an : Int) + (j : Int)) ∧ (Told os lf pz2 V.next pgl) ∧ Mem w [] w' [disk D2 p pg mb qv2, blk f 69 (fC V2 p), lst 3 1 (.slice pa i pc) i (ints pgl)]) (fun a' _ => bn - (intOf (a'.tmps.getD 19 undef)).toNat) ⟨0, E6, ({ V with s := pubS V 0 } : FV), qv6, pz, [undef, undef, undef, undef, undef, undef, undef, undef, undef, undef, undef, undef, undef, undef, undef, undef, undef, undef, undef], rfl, Nat.zero_le _, p2, ⟨p5, by rw [p4]; exact hq.2.1, rfl, by rw [p3]; exact Nat.zero_le _, Int.le_refl _, by show V.next ≤ _; omega⟩, htold, (M48.arr [0, 1, 2] (by decide))⟩ ?_
    clear M48
    rintro a' w52 ⟨j, D2, V2, qv2, pz2, us51, rfl, hjbn, hI, hq, htold, M52⟩
    refine wp_seq_k (fun K53 hK53 => ?_)
    refine wp_seq_k (fun K54 hK54 => ?_)
    refine wp_region_lit ?_
    refine pl M52 (y_move (v := .int .i64 (j : Int)) rfl rfl rfl) ?_
    simp only [Act.put, zq1, zq2, zq3]
    refine pl M52 (y_move (v := .slice ba bn bc) rfl rfl rfl) ?_
    simp only [Act.put, zq1, zq2, zq3]
    refine pl M52 (y_len rfl rfl rfl Try.underlying22) ?_
    simp only [Act.put, zq1, zq2, zq3]
    rcases Decidable.em ((j : Int) < (bn : Int)) with h55 | h55
    · obtain ⟨x, hget⟩ : ∃ x, os2[j]? = some x := ⟨_, List.getElem?_eq_getElem (by have := hnb.1; omega)⟩
      obtain ⟨ga, oa, hao, hra⟩ := nodes_at hnb hget
      have hx := hinb x (List.mem_of_getElem? hget)
      have hrow := hlf2 x (List.mem_of_getElem? hget)
      refine pl M52 (y_lss (b := true) rfl rfl rfl rfl (decide_eq_true h55)) ?_
      simp only [Act.put, zq1, zq2, zq3]
      refine wpList_nil ?_
      refine hK54 _ _ ?_
      clear hK54
      refine wp_cond_true rfl ?_
      refine wp_skip ?_
      refine hK53 _ _ ?_
      clear hK53
      refine wp_seq_k (fun K56 hK56 => ?_)
      refine wp_block ?_
      refine wp_seq_k (fun K57 hK57 => ?_)
      refine wp_region_lit ?_
      refine pl M52 (y_move (v := .slice ba bn bc) rfl rfl rfl) ?_
      simp only [Act.put, zq1, zq2, zq3]
      refine pl M52 (y_move (v := .int .i64 (j : Int)) rfl rfl rfl) ?_
      simp only [Act.put, zq1, zq2, zq3]
      refine pl M52 (y_ias (r := oa + j * 102) rfl rfl (congrArg (fun z => Value.slice z bn bc) hao) rfl Try.underlying22 Try.sizeOf39 (by omega) (by omega)) ?_
      simp only [Act.put, zq1, zq2, zq3]
      refine pl M52 (y_loadr (cs := (nodeC x)) rfl rfl rfl Try.underlying39 rfl (size_node x) (fun W hW => hW.range hra (by simp))) ?_
      simp only [Act.put, zq1, zq2, zq3]
      refine pe rfl (fun K hK => ?_)
      refine e_call 7 [.agg ((nodeC x)).toArray] rfl rfl Try.call7 (enc_m x hx.left hx.right hx.lc hx.rc (lf2 x) _ (M52.row hrow (by simp)) hx.nil hx.len) ?_
      rintro e w58 ⟨ta, nt, ct, t, er, rfl, H58, rfl, henc⟩
      have M58 : Mem w [] w58 [bytesL (.slice ta t.length ct) t, disk D2 p pg mb qv2, blk f 69 (fC V2 p), lst 3 1 (.slice pa i pc) i (ints pgl)] := M52.step H58
      refine ⟨_, rfl, ?_⟩
      refine hK.out _ _ ?_
      clear hK K
      simp only [Act.put, zq1, zq2, zq3]
      have ht246 : t.length ≤ 246 := by rcases henc with ⟨hr, _, e⟩ | ⟨_, _, e⟩ <;> rw [e] <;> first | exact (rightB_kind (hlf2 x (List.mem_of_getElem? hget)).1 hr).2 | decide
      refine pl M58 (y_move (v := .tuple #[.slice ta t.length ct, .int .i64 er]) rfl rfl rfl) ?_
      simp only [Act.put, zq1, zq2, zq3]
      refine pl M58 (y_ext (v := .slice ta t.length ct) rfl rfl rfl rfl) ?_
      simp only [Act.put, zq1, zq2, zq3]
      refine pl M58 (y_ext (v := .int .i64 er) rfl rfl rfl rfl) ?_
      simp only [Act.put, zq1, zq2, zq3]
      refine pl M58 (y_assign (v := .slice ta t.length ct) rfl rfl rfl) ?_
      simp only [Act.put, zq1, zq2, zq3]
      refine pl M58 (y_assign (v := .int .i64 er) rfl rfl rfl) ?_
      simp only [Act.put, zq1, zq2, zq3]
      refine wpList_nil ?_
      refine hK57 _ _ ?_
      clear hK57
      refine wp_region_lit ?_
      refine pl M58 (y_move (v := .pointer (some ⟨f, 0, none⟩)) rfl rfl rfl) ?_
      simp only [Act.put, zq1, zq2, zq3]
      refine pl M58 (y_move (v := .slice ta t.length ct) rfl rfl rfl) ?_
      simp only [Act.put, zq1, zq2, zq3]
      obtain ⟨m2, hm2⟩ : ∃ x : Nat, V2.next = ((x + 2 : Nat) : Int) := ⟨(V2.next - 2).toNat, by omega⟩
      have hlt : V2.next < (D2.pages.length : Int) := by omega
      have hxo : PageOk (1, t) := ⟨⟨by show 1 ≤ 1; decide, by show 1 ≤ 3; decide⟩, ht246⟩
      have hX59 : Mem w [] w58 ([disk D2 p pg mb qv2, blk f 69 (fC V2 p)] ++ [bytesL (.slice ta t.length ct) t, lst 3 1 (.slice pa i pc) i (ints pgl)]) := M58.arr [1, 2, 0, 3] (by decide)
      refine pe rfl (fun K hK => ?_)
      refine e_call 9 [.pointer (some ⟨f, 0, none⟩), .int .i64 1, .slice ta t.length ct] rfl rfl Try.call9 (by have N := xapp_go (Mem.here hX59) hI 1 ta t.length ct t hxo (bytesL_row (M58.get 0 rfl)) (M58.arr [0, 1, 2] (by decide)).off (by omega) hlt m2 hm2 (act_arm0 hq.1).1; exact N) ?_
      rintro e w59 ⟨E5, qv5, rfl, H59, hE, hI5, hpl5⟩
      have M59 : Mem w [] w59 [disk E5 p pg mb qv5, blk f 69 (fC ({ V2 with next := V2.next + 1 } : FV) p), bytesL (.slice ta t.length ct) t, lst 3 1 (.slice pa i pc) i (ints pgl)] := Mem.frame hX59 H59
      obtain ⟨hea, heq⟩ := app_more hI hxo hlt hq.1
      rw [← hE] at hea heq
      have htold5 := told_low htold hI hm2 (by omega) (1, t)
      refine ⟨_, rfl, ?_⟩
      refine hK.out _ _ ?_
      clear hK K
      simp only [Act.put, zq1, zq2, zq3]
      refine wpList_nil ?_
      refine hK56 _ _ ?_
      clear hK56
      refine wp_region_lit ?_
      refine pl M59 (y_move (v := .int .i64 (j : Int)) rfl rfl rfl) ?_
      simp only [Act.put, zq1, zq2, zq3]
      refine pl M59 (y_add (r := (j : Int) + 1) rfl rfl rfl rfl (rfl) (by omega)) ?_
      simp only [Act.put, zq1, zq2, zq3]
      refine pl M59 (y_assign (v := .int .i64 ((j : Int) + 1)) rfl rfl rfl) ?_
      simp only [Act.put, zq1, zq2, zq3]
      refine wpList_nil ?_
      refine ⟨⟨j + 1, E5, ({ V2 with next := V2.next + 1 } : FV), qv5, putP pz2 (m2 + 2) (1, t), [.slice ta t.length ct, .int .i64 er, .int .i64 (j : Int), .slice ba bn bc, .int .i64 (bn : Int), .bool true, .int .i64 (j : Int), .int .i64 ((j : Int) + 1), .tuple #[.slice ta t.length ct, .int .i64 er], .slice ba bn bc, .int .i64 (j : Int), .pointer (some ⟨ga, oa + j * 102, none⟩), .agg ((nodeC x)).toArray, .tuple #[.slice ta t.length ct, .int .i64 er], .slice ta t.length ct, .int .i64 er, .pointer (some ⟨f, 0, none⟩), .slice ta t.length ct, .tuple #[.int .i64 ((m2 + 2 : Nat) : Int), .int .i64 0]], rfl, (by omega), hI5, ⟨hea, by rw [hpl5]; exact hq.2.1, hq.2.2.1, by omega, by show V.next ≤ V2.next + 1; omega, by show V2.next + 1 ≤ _; omega⟩, htold5, (M59.arr [0, 1, 3] (by decide))⟩, ?_⟩
      simp [intOf]; omega
    · refine pl M52 (y_lss (b := false) rfl rfl rfl rfl (decide_eq_false h55)) ?_
      simp only [Act.put, zq1, zq2, zq3]
      refine wpList_nil ?_
      refine hK54 _ _ ?_
      clear hK54
      refine wp_cond_false rfl ?_
      refine wp_exit ?_
      refine hK49 _ _ ?_
      clear hK49
      refine wp_seq_k (fun K60 hK60 => ?_)
      refine wp_region_lit ?_
      refine pl M52 (y_move (v := .pointer (some ⟨p, 0, none⟩)) rfl rfl rfl) ?_
      simp only [Act.put, zq1, zq2, zq3]
      refine pl M52 (y_move (v := .slice ca cn cc) rfl rfl rfl) ?_
      simp only [Act.put, zq1, zq2, zq3]
      have hX61 : Mem w [] w52 ([disk D2 p pg mb qv2] ++ [blk f 69 (fC V2 p), lst 3 1 (.slice pa i pc) i (ints pgl)]) := M52.arr [0, 1, 2] (by decide)
      refine pe rfl (fun K hK => ?_)
      refine e_call 11 [.pointer (some ⟨p, 0, none⟩), .slice ca cn cc] rfl rfl Try.call11 (crash_any (Mem.here hX61) ca cn cc cl (M52.row hcr (by simp)) (hX61.left.off_row hcr) (by omega)) ?_
      rintro e w61 ⟨qv7, rfl, H61⟩
      have M61 : Mem w [] w61 [disk (crashD D2 cl) p pg mb qv7, blk f 69 (fC V2 p), lst 3 1 (.slice pa i pc) i (ints pgl)] := Mem.frame hX61 H61
      refine ⟨_, rfl, ?_⟩
      refine hK.out _ _ ?_
      clear hK K
      simp only [Act.put, zq1, zq2, zq3]
      refine wpList_nil ?_
      refine hK60 _ _ ?_
      clear hK60
      refine wp_seq_k (fun K62 hK62 => ?_)
      refine wp_region_lit ?_
      refine pl M61 (y_move (v := .pointer (some ⟨p, 0, none⟩)) rfl rfl rfl) ?_
      simp only [Act.put, zq1, zq2, zq3]
      have hX63 : Mem w [] w61 ([disk (crashD D2 cl) p pg mb qv7] ++ [lst 3 1 (.slice pa i pc) i (ints pgl)]) := M61.arr [0, 2] (by decide)
      refine pe rfl (fun K hK => ?_)
      refine e_call 6 [.pointer (some ⟨p, 0, none⟩)] rfl rfl Try.call6 (open_fit (Mem.here hX63) (hI.plat.crash cl) rfl) ?_
      rintro e w63 ⟨f3, E7, m3, rfl, H63, hI7, hq7, hp7, ha7, he7⟩
      have M63 : Mem w [] w63 [disk E7 p pg mb qv7, blk f3 69 (fC (⟨V2.s, V2.s.mark, m3⟩ : FV) p), lst 3 1 (.slice pa i pc) i (ints pgl)] := Mem.frame hX63 H63
      refine ⟨_, rfl, ?_⟩
      refine hK.out _ _ ?_
      clear hK K
      simp only [Act.put, zq1, zq2, zq3]
      refine pl M63 (y_move (v := .tuple #[.pointer (some ⟨f3, 0, none⟩), .int .i64 0]) rfl rfl rfl) ?_
      simp only [Act.put, zq1, zq2, zq3]
      refine pl M63 (y_ext (v := .pointer (some ⟨f3, 0, none⟩)) rfl rfl rfl rfl) ?_
      simp only [Act.put, zq1, zq2, zq3]
      refine pl M63 (y_ext (v := .int .i64 0) rfl rfl rfl rfl) ?_
      simp only [Act.put, zq1, zq2, zq3]
      refine pl M63 (y_assign (v := .pointer (some ⟨f3, 0, none⟩)) rfl rfl rfl) ?_
      simp only [Act.put, zq1, zq2, zq3]
      refine pl M63 (y_assign (v := .int .i64 0) rfl rfl rfl) ?_
      simp only [Act.put, zq1, zq2, zq3]
      refine wpList_nil ?_
      refine hK62 _ _ ?_
      clear hK62
      refine wp_seq_k (fun K64 hK64 => ?_)
      refine wp_seq_k (fun K65 hK65 => ?_)
      refine wp_region_lit ?_
      refine pl M63 (y_move (v := .int .i64 0) rfl rfl rfl) ?_
      simp only [Act.put, zq1, zq2, zq3]
      refine pl M63 (y_neq (b := false) rfl rfl rfl rfl (by rw [decide_eq_true (by decide)]; rfl)) ?_
      simp only [Act.put, zq1, zq2, zq3]
      refine pl M63 (y_move (v := .bool false) rfl rfl rfl) ?_
      simp only [Act.put, zq1, zq2, zq3]
      refine pl M63 (y_move (v := .pointer (some ⟨f3, 0, none⟩)) rfl rfl rfl) ?_
      simp only [Act.put, zq1, zq2, zq3]
      refine pl M63 (y_eqnil (r := false) rfl rfl rfl rfl Try.underlying29 rfl) ?_
      simp only [Act.put, zq1, zq2, zq3]
      refine pl M63 (y_pickF (v := .bool false) rfl rfl rfl rfl) ?_
      simp only [Act.put, zq1, zq2, zq3]
      refine wpList_nil ?_
      refine hK65 _ _ ?_
      clear hK65
      refine wp_cond_false rfl ?_
      refine wp_skip ?_
      refine hK64 _ _ ?_
      clear hK64
      refine wp_seq_k (fun K66 hK66 => ?_)
      refine wp_seq_k (fun K67 hK67 => ?_)
      refine wp_region_lit ?_
      refine pl M63 (y_assign (v := .int .i64 0) rfl rfl rfl) ?_
      simp only [Act.put, zq1, zq2, zq3]
      refine wpList_nil ?_
      refine hK67 _ _ ?_
      clear hK67
      refine wp_block ?_
      refine wp_loop (fun a' w' => ∃ (j3 : Nat) (D3 : DV) (us68 : List Value), a' = (⟨#[.int .i64 width, .slice aa an ac, .slice ba bn bc, .slice ca cn cc, undef, undef, undef, undef, (us68.getD 0 undef), .pointer (some ⟨p, 0, none⟩), .int .i64 0, .pointer (some ⟨f3, 0, none⟩), .slice pa i pc, .int .i64 (i : Int), (us16.getD 1 undef), (us16.getD 2 undef), (us16.getD 3 undef), (us16.getD 4 undef), (us16.getD 5 undef), .int .i64 (j : Int), (us51.getD 0 undef), (us51.getD 1 undef), .int .i64 (j3 : Int), (us68.getD 1 undef), (us68.getD 2 undef), (us68.getD 3 undef), (us68.getD 4 undef), (us68.getD 5 undef), .tuple #[.pointer (some ⟨p, 0, none⟩), .int .i64 0], .slice aa an ac, .int .i64 (an : Int), .int .i64 ((3 + an : Nat) : Int), .slice ba bn bc, .int .i64 (bn : Int), .int .i64 ((3 + an + bn : Nat) : Int), .tuple #[.pointer (some ⟨p, 0, none⟩), .int .i64 0], .pointer (some ⟨p, 0, none⟩), .int .i64 0, .slice aa an ac, .int .i64 (an : Int), .slice ba bn bc, .int .i64 (bn : Int), .int .i64 ((an + bn : Nat) : Int), .bool false, .bool false, .int .i64 width, .bool false, .bool false, .bool false, .int .i64 width, .bool false, .bool false, .int .i64 0, .bool false, .bool false, .pointer (some ⟨p, 0, none⟩), .bool false, .bool false, .bool false, .pointer (some ⟨p, 0, none⟩), .int .i64 width, .int .i64 0, .bool false, .bool false, .tuple #[.pointer (some ⟨f, 0, none⟩), .int .i64 0], .pointer (some ⟨p, 0, none⟩), .tuple #[.pointer (some ⟨f, 0, none⟩), .int .i64 0], .pointer (some ⟨f, 0, none⟩), .int .i64 0, .int .i64 0, .bool false, .bool false, .pointer (some ⟨f, 0, none⟩), .bool false, .bool false, .int .i64 (i : Int), .slice aa an ac, .int .i64 (an : Int), .bool false, (us16.getD 10 undef), (us16.getD 11 undef), (us16.getD 12 undef), (us16.getD 13 undef), (us16.getD 14 undef), (us16.getD 15 undef), (us16.getD 16 undef), (us16.getD 17 undef), (us16.getD 18 undef), (us16.getD 19 undef), (us16.getD 20 undef), (us16.getD 21 undef), (us16.getD 22 undef), (us16.getD 23 undef), (us16.getD 24 undef), (us16.getD 25 undef), (us16.getD 26 undef), (us16.getD 27 undef), (us16.getD 28 undef), (us16.getD 29 undef), (us16.getD 30 undef), (us16.getD 31 undef), (us16.getD 32 undef), (us16.getD 33 undef), (us16.getD 34 undef), (us16.getD 35 undef), (us16.getD 36 undef), (us16.getD 37 undef), (us16.getD 38 undef), (us16.getD 39 undef), (us16.getD 40 undef), (us16.getD 41 undef), (us16.getD 42 undef), (us16.getD 43 undef), (us16.getD 44 undef), (us16.getD 45 undef), (us16.getD 46 undef), (us16.getD 47 undef), .pointer (some ⟨f, 0, none⟩), .int .i64 0, .bool false, .int .i64 (j : Int), .slice ba bn bc, .int .i64 (bn : Int), .bool false, (us51.getD 6 undef), (us51.getD 7 undef), (us51.getD 8 undef), (us51.getD 9 undef), (us51.getD 10 undef), (us51.getD 11 undef), (us51.getD 12 undef), (us51.getD 13 undef), (us51.getD 14 undef), (us51.getD 15 undef), (us51.getD 16 undef), (us51.getD 17 undef), (us51.getD 18 undef), .pointer (some ⟨p, 0, none⟩), .slice ca cn cc, .int .i64 (D2.q.length : Int), .tuple #[.pointer (some ⟨f3, 0, none⟩), .int .i64 0], .pointer (some ⟨p, 0, none⟩), .tuple #[.pointer (some ⟨f3, 0, none⟩), .int .i64 0], .pointer (some ⟨f3, 0, none⟩), .int .i64 0, .int .i64 0, .bool false, .bool false, .pointer (some ⟨f3, 0, none⟩), .bool false, .bool false, (us68.getD 6 undef), (us68.getD 7 undef), (us68.getD 8 undef), (us68.getD 9 undef), (us68.getD 10 undef), (us68.getD 11 undef), (us68.getD 12 undef), (us68.getD 13 undef), (us68.getD 14 undef), (us68.getD 15 undef), (us68.getD 16 undef), (us68.getD 17 undef), (us68.getD 18 undef), (us68.getD 19 undef), (us68.getD 20 undef), (us68.getD 21 undef), (us68.getD 22 undef), (us68.getD 23 undef), (us68.getD 24 undef), (us68.getD 25 undef), (us68.getD 26 undef), (us68.getD 27 undef), (us68.getD 28 undef), (us68.getD 29 undef), (us68.getD 30 undef), (us68.getD 31 undef), (us68.getD 32 undef), (us68.getD 33 undef), (us68.getD 34 undef), (us68.getD 35 undef), (us68.getD 36 undef), (us68.getD 37 undef), (us68.getD 38 undef), (us68.getD 39 undef), (us68.getD 40 undef), (us68.getD 41 undef), (us68.getD 42 undef), (us68.getD 43 undef), (us68.getD 44 undef), (us68.getD 45 undef), (us68.getD 46 undef), (us68.getD 47 undef)], []⟩ : Act) ∧ (Inv D3 (⟨V2.s, V2.s.mark, m3⟩ : FV) pz2) ∧ Mem w [] w' [disk D3 p pg mb qv7, blk f3 69 (fC (⟨V2.s, V2.s.mark, m3⟩ : FV) p), lst 3 1 (.slice pa i pc) i (ints pgl)]) (fun a' _ => an - (intOf (a'.tmps.getD 22 undef)).toNat) ⟨0, E7, [(us16.getD 0 undef), undef, undef, undef, undef, undef, undef, undef, undef, undef, undef, undef, undef, undef, undef, undef, undef, undef, undef, undef, undef, undef, undef, undef, undef, undef, undef, undef, undef, undef, undef, undef, undef, undef, undef, undef, undef, undef, undef, undef, undef, undef, undef, undef, undef, undef, undef, undef], rfl, hI7, (M63.arr [0, 1, 2] (by decide))⟩ ?_
      clear M63
      rintro a' w69 ⟨j3, D3, us68, rfl, hI3, M69⟩
      refine wp_seq_k (fun K70 hK70 => ?_)
      refine wp_seq_k (fun K71 hK71 => ?_)
      refine wp_region_lit ?_
      refine pl M69 (y_move (v := .int .i64 (j3 : Int)) rfl rfl rfl) ?_
      simp only [Act.put, zq1, zq2, zq3]
      refine pl M69 (y_move (v := .slice aa an ac) rfl rfl rfl) ?_
      simp only [Act.put, zq1, zq2, zq3]
      refine pl M69 (y_len rfl rfl rfl Try.underlying22) ?_
      simp only [Act.put, zq1, zq2, zq3]
      rcases Decidable.em ((j3 : Int) < (an : Int)) with h72 | h72
      · obtain ⟨x, hget⟩ : ∃ x, os[j3]? = some x := ⟨_, List.getElem?_eq_getElem (by have := hna.1; omega)⟩
        obtain ⟨ga, oa, hao, hra⟩ := nodes_at hna hget
        have hx := hina x (List.mem_of_getElem? hget)
        have hrow := hlf x (List.mem_of_getElem? hget)
        refine pl M69 (y_lss (b := true) rfl rfl rfl rfl (decide_eq_true h72)) ?_
        simp only [Act.put, zq1, zq2, zq3]
        refine wpList_nil ?_
        refine hK71 _ _ ?_
        clear hK71
        refine wp_cond_true rfl ?_
        refine wp_skip ?_
        refine hK70 _ _ ?_
        clear hK70
        refine wp_seq_k (fun K73 hK73 => ?_)
        refine wp_block ?_
        refine wp_seq_k (fun K74 hK74 => ?_)
        refine wp_seq_k (fun K75 hK75 => ?_)
        refine wp_region_lit ?_
        obtain ⟨z, hz⟩ : ∃ z, pgl[j3]? = some z := ⟨_, List.getElem?_eq_getElem (by omega)⟩
        obtain ⟨gk, ck, hk⟩ := lst_pt (M69.get 2 rfl) (ints_at hz)
        rcases htold j3 x z hget hz with ⟨hr, rfl⟩ | ⟨hr, n, rfl, hn2, hnn, hpn⟩
        · refine pl M69 (y_move (v := .slice pa i pc) rfl rfl rfl) ?_
          simp only [Act.put, zq1, zq2, zq3]
          refine pl M69 (y_move (v := .int .i64 (j3 : Int)) rfl rfl rfl) ?_
          simp only [Act.put, zq1, zq2, zq3]
          refine pl M69 (y_ias (r := j3) rfl rfl hk rfl Try.underlying32 Try.sizeOf3 (by omega) (by omega)) ?_
          simp only [Act.put, zq1, zq2, zq3]
          refine pl M69 (y_loadc (v := .int .i64 0) rfl rfl rfl Try.isAgg3 (fun W hW => lst_cell_at (hW.get 2 rfl) hk (ints_at hz))) ?_
          simp only [Act.put, zq1, zq2, zq3]
          refine pl M69 (y_eql (b := true) rfl rfl rfl rfl (decide_eq_true (by decide))) ?_
          simp only [Act.put, zq1, zq2, zq3]
          refine wpList_nil ?_
          refine hK75 _ _ ?_
          clear hK75
          refine wp_cond_true rfl ?_
          refine wp_exit ?_
          refine hK73 _ _ ?_
          clear hK73
          refine wp_region_lit ?_
          refine pl M69 (y_move (v := .int .i64 (j3 : Int)) rfl rfl rfl) ?_
          simp only [Act.put, zq1, zq2, zq3]
          refine pl M69 (y_add (r := (j3 : Int) + 1) rfl rfl rfl rfl (rfl) (by omega)) ?_
          simp only [Act.put, zq1, zq2, zq3]
          refine pl M69 (y_assign (v := .int .i64 ((j3 : Int) + 1)) rfl rfl rfl) ?_
          simp only [Act.put, zq1, zq2, zq3]
          refine wpList_nil ?_
          refine ⟨⟨j3 + 1, D3, [(us68.getD 0 undef), (us68.getD 1 undef), (us68.getD 2 undef), (us68.getD 3 undef), (us68.getD 4 undef), (us68.getD 5 undef), .int .i64 (j3 : Int), .slice aa an ac, .int .i64 (an : Int), .bool true, .int .i64 (j3 : Int), .int .i64 ((j3 : Int) + 1), .slice pa i pc, .int .i64 (j3 : Int), .pointer (some ⟨gk, j3, none⟩), .int .i64 0, .bool true, (us68.getD 17 undef), (us68.getD 18 undef), (us68.getD 19 undef), (us68.getD 20 undef), (us68.getD 21 undef), (us68.getD 22 undef), (us68.getD 23 undef), (us68.getD 24 undef), (us68.getD 25 undef), (us68.getD 26 undef), (us68.getD 27 undef), (us68.getD 28 undef), (us68.getD 29 undef), (us68.getD 30 undef), (us68.getD 31 undef), (us68.getD 32 undef), (us68.getD 33 undef), (us68.getD 34 undef), (us68.getD 35 undef), (us68.getD 36 undef), (us68.getD 37 undef), (us68.getD 38 undef), (us68.getD 39 undef), (us68.getD 40 undef), (us68.getD 41 undef), (us68.getD 42 undef), (us68.getD 43 undef), (us68.getD 44 undef), (us68.getD 45 undef), (us68.getD 46 undef), (us68.getD 47 undef)], rfl, (by first | exact hI3.rd _ | exact hI3), (M69.arr [0, 1, 2] (by decide))⟩, ?_⟩
          simp [intOf]; omega
        · refine pl M69 (y_move (v := .slice pa i pc) rfl rfl rfl) ?_
          simp only [Act.put, zq1, zq2, zq3]
          refine pl M69 (y_move (v := .int .i64 (j3 : Int)) rfl rfl rfl) ?_
          simp only [Act.put, zq1, zq2, zq3]
          refine pl M69 (y_ias (r := j3) rfl rfl hk rfl Try.underlying32 Try.sizeOf3 (by omega) (by omega)) ?_
          simp only [Act.put, zq1, zq2, zq3]
          refine pl M69 (y_loadc (v := .int .i64 (n : Int)) rfl rfl rfl Try.isAgg3 (fun W hW => lst_cell_at (hW.get 2 rfl) hk (ints_at hz))) ?_
          simp only [Act.put, zq1, zq2, zq3]
          refine pl M69 (y_eql (b := false) rfl rfl rfl rfl (decide_eq_false (by omega))) ?_
          simp only [Act.put, zq1, zq2, zq3]
          refine wpList_nil ?_
          refine hK75 _ _ ?_
          clear hK75
          refine wp_cond_false rfl ?_
          refine wp_skip ?_
          refine hK74 _ _ ?_
          clear hK74
          refine wp_seq_k (fun K76 hK76 => ?_)
          refine wp_region_lit ?_
          refine pl M69 (y_move (v := .pointer (some ⟨f3, 0, none⟩)) rfl rfl rfl) ?_
          simp only [Act.put, zq1, zq2, zq3]
          refine pl M69 (y_move (v := .slice pa i pc) rfl rfl rfl) ?_
          simp only [Act.put, zq1, zq2, zq3]
          refine pl M69 (y_move (v := .int .i64 (j3 : Int)) rfl rfl rfl) ?_
          simp only [Act.put, zq1, zq2, zq3]
          refine pl M69 (y_ias (r := j3) rfl rfl hk rfl Try.underlying32 Try.sizeOf3 (by omega) (by omega)) ?_
          simp only [Act.put, zq1, zq2, zq3]
          refine pl M69 (y_loadc (v := .int .i64 (n : Int)) rfl rfl rfl Try.isAgg3 (fun W hW => lst_cell_at (hW.get 2 rfl) hk (ints_at hz))) ?_
          simp only [Act.put, zq1, zq2, zq3]
          have hX77 : Mem w [] w69 ([disk D3 p pg mb qv7, blk f3 69 (fC (⟨V2.s, V2.s.mark, m3⟩ : FV) p)] ++ [lst 3 1 (.slice pa i pc) i (ints pgl)]) := M69.arr [0, 1, 2] (by decide)
          refine pe rfl (fun K hK => ?_)
          refine e_call 12 [.pointer (some ⟨f3, 0, none⟩), .int .i64 (n : Int)] rfl rfl Try.call12 (read_node (Mem.here hX77) hI3 n hn2 (by show (n : Int) < V2.s.mark; rw [hq.2.2.1]; exact hnn) (k := x.kind) (by rcases (rightB_kind hrow.1 hr).1 with e | e <;> omega) hpn) ?_
          rintro e w77 ⟨ra, rc, r3, rfl, H77⟩
          have M77 : Mem w [] w77 [disk (D3.rd r3) p pg mb qv7, blk f3 69 (fC (⟨V2.s, V2.s.mark, m3⟩ : FV) p), bytesL (.slice ra (encT x (lf x)).length rc) (encT x (lf x)), lst 3 1 (.slice pa i pc) i (ints pgl)] := Mem.frame hX77 H77
          refine ⟨_, rfl, ?_⟩
          refine hK.out _ _ ?_
          clear hK K
          simp only [Act.put, zq1, zq2, zq3]
          refine pl M77 (y_move (v := .tuple #[.int .i64 x.kind, .slice ra ((encT x (lf x)).length) rc, .int .i64 0]) rfl rfl rfl) ?_
          simp only [Act.put, zq1, zq2, zq3]
          refine pl M77 (y_ext (v := .int .i64 x.kind) rfl rfl rfl rfl) ?_
          simp only [Act.put, zq1, zq2, zq3]
          refine pl M77 (y_ext (v := .slice ra ((encT x (lf x)).length) rc) rfl rfl rfl rfl) ?_
          simp only [Act.put, zq1, zq2, zq3]
          refine pl M77 (y_ext (v := .int .i64 0) rfl rfl rfl rfl) ?_
          simp only [Act.put, zq1, zq2, zq3]
          refine pl M77 (y_assign (v := .int .i64 x.kind) rfl rfl rfl) ?_
          simp only [Act.put, zq1, zq2, zq3]
          refine pl M77 (y_assign (v := .slice ra ((encT x (lf x)).length) rc) rfl rfl rfl) ?_
          simp only [Act.put, zq1, zq2, zq3]
          refine pl M77 (y_assign (v := .int .i64 0) rfl rfl rfl) ?_
          simp only [Act.put, zq1, zq2, zq3]
          refine wpList_nil ?_
          refine hK76 _ _ ?_
          clear hK76
          refine wp_seq_k (fun K78 hK78 => ?_)
          refine wp_region_lit ?_
          refine pl M77 (y_move (v := .int .i64 x.kind) rfl rfl rfl) ?_
          simp only [Act.put, zq1, zq2, zq3]
          refine pl M77 (y_move (v := .slice ra ((encT x (lf x)).length) rc) rfl rfl rfl) ?_
          simp only [Act.put, zq1, zq2, zq3]
          have hcap := bytesL_cap (M77.get 2 rfl)
          refine pe rfl (fun K hK => ?_)
          refine e_call 13 [.int .i64 x.kind, .slice ra ((encT x (lf x)).length) rc] rfl rfl Try.call13 (dec_m x (lf x) hrow.1 hr ra _ rc _ (bytesL_row (M77.get 2 rfl)) (fun e => hcap.2.2.1 e) hcap.1 (by have h9 := (rightB_kind hrow.1 hr).2; omega) hcap.2.1) ?_
          rintro e w79 ⟨y, ly, rfl, H79, hyn, heqn⟩
          have M79 : Mem w [] w79 [bytesL y.val ly, disk (D3.rd r3) p pg mb qv7, blk f3 69 (fC (⟨V2.s, V2.s.mark, m3⟩ : FV) p), bytesL (.slice ra (encT x (lf x)).length rc) (encT x (lf x)), lst 3 1 (.slice pa i pc) i (ints pgl)] := M77.step H79
          refine ⟨_, rfl, ?_⟩
          refine hK.out _ _ ?_
          clear hK K
          simp only [Act.put, zq1, zq2, zq3]
          refine pl M79 (y_move (v := .tuple #[.agg ((nodeC y)).toArray, .int .i64 0]) rfl rfl rfl) ?_
          simp only [Act.put, zq1, zq2, zq3]
          refine pl M79 (y_ext (v := .agg ((nodeC y)).toArray) rfl rfl rfl rfl) ?_
          simp only [Act.put, zq1, zq2, zq3]
          refine pl M79 (y_ext (v := .int .i64 0) rfl rfl rfl rfl) ?_
          simp only [Act.put, zq1, zq2, zq3]
          refine pe rfl (fun K hK => ?_)
          refine e_alloc M79 (nodeC noNode) rfl zero_node ?_
          intro gy w80 (M80 : Mem w [] w80 [blk gy 39 (nodeC noNode), bytesL y.val ly, disk (D3.rd r3) p pg mb qv7, blk f3 69 (fC (⟨V2.s, V2.s.mark, m3⟩ : FV) p), bytesL (.slice ra (encT x (lf x)).length rc) (encT x (lf x)), lst 3 1 (.slice pa i pc) i (ints pgl)])
          clear M79
          refine hK.out _ _ ?_
          clear hK K
          simp only [Act.put, zq1, zq2, zq3]
          refine pe rfl (fun K hK => ?_)
          refine e_storew M80 0 (cs := (nodeC y)) rfl rfl rfl rfl (size_node y) (node_all y) rfl (node_len _ _) ?_
          intro w81 (M81 : Mem w [] w81 [blk gy 39 (nodeC y), bytesL y.val ly, disk (D3.rd r3) p pg mb qv7, blk f3 69 (fC (⟨V2.s, V2.s.mark, m3⟩ : FV) p), bytesL (.slice ra (encT x (lf x)).length rc) (encT x (lf x)), lst 3 1 (.slice pa i pc) i (ints pgl)])
          clear M80
          refine hK.out _ _ ?_
          clear hK K
          simp only [Act.put, zq1, zq2, zq3]
          refine pl M81 (y_assign (v := .int .i64 0) rfl rfl rfl) ?_
          simp only [Act.put, zq1, zq2, zq3]
          refine wpList_nil ?_
          refine hK78 _ _ ?_
          clear hK78
          refine wp_seq_k (fun K82 hK82 => ?_)
          have M83 := M81.drew
          refine held_begin (fun W => Mem w [] W [blk gy 39 (nodeC y)]) (by kernel_rfl) (M83.arr [0] (by decide)) (fun hS => ?_)
          refine held_take 0 _ rfl (by kernel_rfl) (by kernel_rfl) (by kernel_rfl) (y_move (v := .int .i64 0) rfl rfl rfl) hS ?_
          simp only [Act.put, zq1, zq2, zq3]
          refine held_take 1 _ rfl (by kernel_rfl) (by kernel_rfl) (by kernel_rfl) (y_neq (b := false) rfl rfl rfl rfl (by rw [decide_eq_true (by decide)]; rfl)) hS ?_
          simp only [Act.put, zq1, zq2, zq3]
          refine held_take 2 _ rfl (by kernel_rfl) (by kernel_rfl) (by kernel_rfl) (y_move (v := .bool false) rfl rfl rfl) hS ?_
          simp only [Act.put, zq1, zq2, zq3]
          refine held_take 3 _ rfl (by kernel_rfl) (by kernel_rfl) (by kernel_rfl) (y_move (v := .int .i64 0) rfl rfl rfl) hS ?_
          simp only [Act.put, zq1, zq2, zq3]
          refine held_take 4 _ rfl (by kernel_rfl) (by kernel_rfl) (by kernel_rfl) (y_neq (b := false) rfl rfl rfl rfl (by rw [decide_eq_true (by decide)]; rfl)) hS ?_
          simp only [Act.put, zq1, zq2, zq3]
          refine held_take 5 _ rfl (by kernel_rfl) (by kernel_rfl) (by kernel_rfl) (y_pickF (v := .bool false) rfl rfl rfl rfl) hS ?_
          simp only [Act.put, zq1, zq2, zq3]
          refine held_take 6 _ rfl (by kernel_rfl) (by kernel_rfl) (by kernel_rfl) (y_move (v := .bool false) rfl rfl rfl) hS ?_
          simp only [Act.put, zq1, zq2, zq3]
          refine held_take 7 _ rfl (by kernel_rfl) (by kernel_rfl) (by kernel_rfl) (y_loadb (cs := (nodeC y)) rfl rfl rfl Try.underlying39 rfl (size_node y) (fun W hW => hW.get 0 rfl) (List.take_of_length_le (Nat.le_refl _))) hS ?_
          simp only [Act.put, zq1, zq2, zq3]
          refine held_take 8 _ rfl (by kernel_rfl) (by kernel_rfl) (by kernel_rfl) (y_move (v := .slice aa an ac) rfl rfl rfl) hS ?_
          simp only [Act.put, zq1, zq2, zq3]
          refine held_take 9 _ rfl (by kernel_rfl) (by kernel_rfl) (by kernel_rfl) (y_move (v := .int .i64 (j3 : Int)) rfl rfl rfl) hS ?_
          simp only [Act.put, zq1, zq2, zq3]
          refine held_take 10 _ rfl (by kernel_rfl) (by kernel_rfl) (by kernel_rfl) (y_ias (r := oa + j3 * 102) rfl rfl (congrArg (fun z => Value.slice z an ac) hao) rfl Try.underlying22 Try.sizeOf39 (by omega) (by omega)) hS ?_
          simp only [Act.put, zq1, zq2, zq3]
          refine held_take 11 _ rfl (by kernel_rfl) (by kernel_rfl) (by kernel_rfl) (y_loadr (cs := (nodeC x)) rfl rfl rfl Try.underlying39 rfl (size_node x) (fun W hW => hW.range hra (by simp))) hS ?_
          simp only [Act.put, zq1, zq2, zq3]
          have hycap := bytesL_cap (ao := y.ao) (n := y.n) (c := y.c) (M83.get 1 rfl)
          have hyrow := bytesL_row (ao := y.ao) (n := y.n) (c := y.c) (M83.get 1 rfl)
          rw [← hyn] at hyrow
          refine held_step 12 (by kernel_rfl) rfl (by rfl) (fun K hK => ?_)
          refine e_call 14 [.agg ((nodeC y)).toArray, .agg ((nodeC x)).toArray] rfl rfl Try.call14 (sameNode_m y x ly (lf x) _ hyrow (M83.row hrow (by simp)) (by omega) (by have h9 := hx.len; unfold maxLen; omega)) ?_
          rintro e w84 ⟨rfl, H84⟩
          have M84 : Mem w [] w84 [blk gy 39 (nodeC y), bytesL y.val ly, disk (D3.rd r3) p pg mb qv7, blk f3 69 (fC (⟨V2.s, V2.s.mark, m3⟩ : FV) p), bytesL (.slice ra (encT x (lf x)).length rc) (encT x (lf x)), lst 3 1 (.slice pa i pc) i (ints pgl)] := M83.step H84
          rw [heqn]
          refine ⟨_, rfl, ?_⟩
          refine hK.out _ _ (M84.arr [0] (by decide)) (fun hS => ?_)
          clear hK K
          simp only [Act.put, zq1, zq2, zq3]
          refine held_take 13 _ rfl (by kernel_rfl) (by kernel_rfl) (by kernel_rfl) (y_not rfl rfl rfl rfl) hS ?_
          simp only [Act.put, zq1, zq2, zq3]
          refine held_take 14 _ rfl (by kernel_rfl) (by kernel_rfl) (by kernel_rfl) (y_pickF (v := .bool false) rfl rfl rfl rfl) hS ?_
          simp only [Act.put, zq1, zq2, zq3]
          refine held_done (by kernel_rfl) ?_ _
          refine hK82 _ _ ?_
          clear hK82
          refine wp_cond_false rfl ?_
          refine wp_skip ?_
          refine hK73 _ _ ?_
          clear hK73
          refine wp_region_lit ?_
          refine pl M84 (y_move (v := .int .i64 (j3 : Int)) rfl rfl rfl) ?_
          simp only [Act.put, zq1, zq2, zq3]
          refine pl M84 (y_add (r := (j3 : Int) + 1) rfl rfl rfl rfl (rfl) (by omega)) ?_
          simp only [Act.put, zq1, zq2, zq3]
          refine pl M84 (y_assign (v := .int .i64 ((j3 : Int) + 1)) rfl rfl rfl) ?_
          simp only [Act.put, zq1, zq2, zq3]
          refine wpList_nil ?_
          refine ⟨⟨j3 + 1, (D3.rd r3), [(us68.getD 0 undef), .int .i64 x.kind, .slice ra ((encT x (lf x)).length) rc, .int .i64 0, .pointer (some ⟨gy, 0, none⟩), .int .i64 0, .int .i64 (j3 : Int), .slice aa an ac, .int .i64 (an : Int), .bool true, .int .i64 (j3 : Int), .int .i64 ((j3 : Int) + 1), .slice pa i pc, .int .i64 (j3 : Int), .pointer (some ⟨gk, j3, none⟩), .int .i64 (n : Int), .bool false, .tuple #[.int .i64 x.kind, .slice ra ((encT x (lf x)).length) rc, .int .i64 0], .pointer (some ⟨f3, 0, none⟩), .slice pa i pc, .int .i64 (j3 : Int), .pointer (some ⟨gk, j3, none⟩), .int .i64 (n : Int), .tuple #[.int .i64 x.kind, .slice ra ((encT x (lf x)).length) rc, .int .i64 0], .int .i64 x.kind, .slice ra ((encT x (lf x)).length) rc, .int .i64 0, .tuple #[.agg ((nodeC y)).toArray, .int .i64 0], .int .i64 x.kind, .slice ra ((encT x (lf x)).length) rc, .tuple #[.agg ((nodeC y)).toArray, .int .i64 0], .agg ((nodeC y)).toArray, .int .i64 0, .int .i64 0, .bool false, .bool false, .int .i64 0, .bool false, .bool false, .bool false, .agg ((nodeC y)).toArray, .slice aa an ac, .int .i64 (j3 : Int), .pointer (some ⟨ga, oa + j3 * 102, none⟩), .agg ((nodeC x)).toArray, .bool true, .bool false, .bool false], rfl, (by first | exact hI3.rd _ | exact hI3), (M84.arr [2, 3, 5] (by decide))⟩, ?_⟩
          simp [intOf]; omega
      · refine pl M69 (y_lss (b := false) rfl rfl rfl rfl (decide_eq_false h72)) ?_
        simp only [Act.put, zq1, zq2, zq3]
        refine wpList_nil ?_
        refine hK71 _ _ ?_
        clear hK71
        refine wp_cond_false rfl ?_
        refine wp_exit ?_
        refine hK66 _ _ ?_
        clear hK66
        refine wp_seq_k (fun K85 hK85 => ?_)
        refine wp_region_lit ?_
        refine pl M69 (y_assign (v := .bool true) rfl rfl rfl) ?_
        simp only [Act.put, zq1, zq2, zq3]
        refine wpList_nil ?_
        refine hK85 _ _ ?_
        clear hK85
        refine wp_ret ?_
        try simp only [Exit.inBlock, Exit.then]
        refine bodyPost_ret (v := .bool true) (res1 rfl rfl) rfl ?_
        exact ⟨rfl, M69.arr [] (by decide)⟩
theorem lands_walk {w : World} (width : Int) (aa : Option Addr) (an ac : Nat) (os : List NodeV) (hna : Nodes w aa an os) (hina : ∀ o ∈ os, NodeIn w o) (han : an ≤ 140737488355328) (ba : Option Addr) (bn bc : Nat) (os2 : List NodeV) (hnb : Nodes w ba bn os2) (hinb : ∀ o ∈ os2, NodeIn w o) (hbn : bn ≤ 140737488355328) (ca : Option Addr) (cn cc : Nat) (cl : List UInt8) (hcr : Row w ca cn cl) (hcn : cn ≤ 140737488355328) : Calls Try.prog 3 #[.int .i64 width, .slice aa an ac, .slice ba bn bc, .slice ca cn cc] w fun e w' => e = .returned (.bool true) ∧ Below w.heap.size w w' := by
  have fin : Calls Try.prog 3 #[.int .i64 width, .slice aa an ac, .slice ba bn bc, .slice ca cn cc] w (fun e w' => e = .returned (.bool true) ∧ Mem w [] w' []) := by
    have X := width
    by_cases h64 : 64 < an + bn
    · exact lands_big width aa an ac os hna hina han ba bn bc os2 hnb hinb hbn ca cn cc cl hcr hcn h64
    · by_cases h1 : width < 1
      · exact lands_lo width aa an ac os hna hina han ba bn bc os2 hnb hinb hbn ca cn cc cl hcr hcn h64 h1
      · by_cases h2 : 32 < width
        · exact lands_hi width aa an ac os hna hina han ba bn bc os2 hnb hinb hbn ca cn cc cl hcr hcn h64 h2
        · exact lands_fit width aa an ac os hna hina han ba bn bc os2 hnb hinb hbn ca cn cc cl hcr hcn h64 ⟨by omega, by omega⟩
  refine fin.mono ?_
  rintro e w' ⟨rfl, h⟩
  exact ⟨rfl, h.below⟩
end Go.Proofs.Ytdnahagibodnpaa
