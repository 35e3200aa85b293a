/- Texts joined: Disk0, Page1, Disk1, Disk2. -/
import Derived.Test.YtehnnnohoaapdaaFC02
import Derived.Test.YtehnnnohoaapdaaFC05
import Derived.Test.YtehnnnohoaapdaaFC03
import Derived.Test.YtehnnnohoaapdaaFC04
import Derived.Test.YtehnnnohoaapdaaRows
/- A disk as a value; rows of like pieces. No program in sight. -/
namespace Go.Proofs.Ytehnnnohoaapdaa
set_option linter.unusedSectionVars false
set_option linter.unusedSimpArgs false
open Go Go.RowKit
set_option linter.unusedVariables false
section flat
variable {α β : Type} (f : α → List β) (n : Nat)
theorem flat_len : ∀ (l : List α), (∀ y ∈ l, (f y).length = n) → (l.flatMap f).length = n * l.length
  | [], _ => by simp
  | y :: l, h => by
    rw [List.flatMap_cons, List.length_append, h y (List.mem_cons_self ..), flat_len l (fun z hz => h z (List.mem_cons_of_mem _ hz)), List.length_cons, Nat.mul_add, Nat.mul_one, Nat.add_comm]
theorem flat_get : ∀ (l : List α) (i : Nat) (x : α), (∀ y ∈ l, (f y).length = n) → l[i]? = some x → ((l.flatMap f).drop (n * i)).take n = f x
  | [], i, x, _, h => by simp at h
  | y :: l, 0, x, hn, h => by
    have e : y = x := by simpa using h
    subst e
    rw [List.flatMap_cons, Nat.mul_zero, List.drop_zero, List.take_left' (hn y (List.mem_cons_self ..))]
  | y :: l, i + 1, x, hn, h => by
    have h1 := hn y (List.mem_cons_self ..)
    rw [List.flatMap_cons, Nat.mul_add, Nat.mul_one, Nat.add_comm, ← List.drop_drop, List.drop_left' h1]
    exact flat_get l i x (fun z hz => hn z (List.mem_cons_of_mem _ hz)) (by simpa using h)
theorem flat_upd : ∀ (l : List α) (i : Nat) (x y : α) (o : Nat) (m : List β), (∀ y ∈ l, (f y).length = n) → l[i]? = some x → o + m.length ≤ n → f y = splice (f x) o m → splice (l.flatMap f) (n * i + o) m = (l.set i y).flatMap f
  | [], i, x, y, o, m, _, h, _, _ => by simp at h
  | z :: l, 0, x, y, o, m, hn, h, hm, hy => by
    have e : z = x := by simpa using h
    subst e
    have h1 := hn z (List.mem_cons_self ..)
    unfold splice at hy ⊢
    rw [List.set_cons_zero, List.flatMap_cons, List.flatMap_cons, hy, Nat.mul_zero, Nat.zero_add, List.take_append_of_le_length (by omega), List.drop_append_of_le_length (by omega)]
    simp [List.append_assoc]
  | z :: l, i + 1, x, y, o, m, hn, h, hm, hy => by
    have h1 := hn z (List.mem_cons_self ..)
    have ih := flat_upd l i x y o m (fun z hz => hn z (List.mem_cons_of_mem _ hz)) (by simpa using h) hm hy
    rw [List.set_cons_succ, List.flatMap_cons, List.flatMap_cons, ← ih]
    have e1 : n * (i + 1) + o = (f z).length + (n * i + o) := by rw [Nat.mul_add, h1]; omega
    unfold splice
    rw [e1, List.take_length_add_append, Nat.add_assoc (f z).length, List.drop_length_add_append, List.append_assoc]
end flat
theorem splice_bvs (l m : List UInt8) (o : Nat) : splice (bvs l) o (bvs m) = bvs (splice l o m) := by
  unfold splice bvs
  simp [List.map_take, List.map_drop]
theorem splice_all {α : Type} (l m : List α) (h : l.length = m.length) : splice l 0 m = m := by
  unfold splice; simp [← h]
def pagesC (ps : List (List UInt8)) : List Value := ps.flatMap bvs
def wC (x : Wr) : List Value := .int .i64 (x.1 : Int) :: bvs x.2
def qC (q : List Wr) : List Value := q.flatMap wC
theorem wC_one (x : Wr) : ∀ u ∈ wC x, u.oneCell' = true := by
  intro u hu
  rcases List.mem_cons.1 hu with rfl | hu
  · rfl
  · exact bvs_oneCell _ u hu
structure DV where
  pages : List (List UInt8)
  q : List Wr
  armed : Int
  dead : Bool
  epoch : Int
  reads : Int
  writes : Int
  syncs : Int
structure DOk (D : DV) : Prop where
  lo : 3 ≤ D.pages.length
  hi : D.pages.length ≤ 4096
  len : ∀ p ∈ D.pages, p.length = 256
  qs : ∀ x ∈ D.q, x.1 < D.pages.length ∧ x.2.length = 256
  arm : 0 ≤ D.armed ∧ D.armed ≤ 9223372036854775807
  ep : inI D.epoch
theorem pages_get {ps : List (List UInt8)} (h : ∀ p ∈ ps, p.length = 256) {i : Nat} (hi : i < ps.length) : (ps.getD i []).length = 256 := by
  rw [List.getD_eq_getElem?_getD, List.getElem?_eq_getElem hi]
  exact h _ (List.getElem_mem hi)
theorem pages_set {ps : List (List UInt8)} (h : ∀ p ∈ ps, p.length = 256) {i : Nat} {d : List UInt8} (hd : d.length = 256) : ∀ p ∈ ps.set i d, p.length = 256 := by
  intro p hp
  rcases List.mem_or_eq_of_mem_set hp with h1 | h1
  · exact h p h1
  · rw [h1]; exact hd
def zeroPage : List UInt8 := List.replicate 256 0
def newD (n : Nat) : DV := ⟨List.replicate n zeroPage, [], 0, false, 0, 0, 0, 0⟩
theorem newD_ok {n : Nat} (h1 : 3 ≤ n) (h2 : n ≤ 4096) : DOk (newD n) where
  lo := by simpa [newD] using h1
  hi := by simpa [newD] using h2
  len p hp := by
    have := List.eq_of_mem_replicate hp
    rw [this]; exact List.length_replicate
  qs x hx := by cases hx
  arm := ⟨Int.le_refl 0, by show (0 : Int) ≤ _; decide⟩
  ep := by show inI 0; unfold inI; decide
def DV.pg (D : DV) (p : Nat) : List UInt8 := D.pages.getD p []
def DV.cur (D : DV) (p : Nat) : List UInt8 := curP (D.pg p) D.q p
def DV.has (D : DV) (p : Int) : Prop := 0 ≤ p ∧ p < D.pages.length
instance (D : DV) (p : Int) : Decidable (D.has p) := inferInstanceAs (Decidable (_ ∧ _))
theorem cur_len {D : DV} (h : DOk D) {p : Nat} (hp : p < D.pages.length) : (D.cur p).length = 256 := by
  unfold DV.cur
  cases hl : lastAt D.q p with
  | none => rw [curP_none _ _ _ hl]; exact pages_get h.len hp
  | some i =>
    obtain ⟨x, h1, _, h3⟩ := curP_some (D.pg p) p D.q i hl
    rw [h3]
    exact (h.qs x (List.mem_of_getElem? h1)).2
def actD (D : DV) : DV := if D.armed = 0 then D else { D with armed := D.armed - 1, dead := decide (D.armed = 1) }
def actE (D : DV) : Int := if D.armed = 1 then 2 else 0
def readD (D : DV) (p : Int) : DV := if D.dead then D else if D.has p then { D with reads := wrap64 (D.reads + 1) } else D
def readE (D : DV) (p : Int) : Int := if D.dead then 2 else if D.has p then 0 else 41
def readL (D : DV) (p : Int) : List UInt8 := if D.dead then [] else if D.has p then D.cur p.toNat else []
def writeE (D : DV) (p : Int) (d : List UInt8) : Int := if D.dead then 2 else if D.has p then (if d.length = 256 then actE D else 42) else 41
def openW (D : DV) (p : Int) (d : List UInt8) : DV := { D with q := D.q ++ [(p.toNat, d)], writes := wrap64 (D.writes + 1) }
def writeD (D : DV) (p : Int) (d : List UInt8) : DV := if D.dead then D else if D.has p then (if d.length = 256 then actD (openW D p d) else D) else D
def applyQ (ps : List (List UInt8)) (q : List Wr) : List (List UInt8) := q.foldl (fun ps x => ps.set x.1 x.2) ps
def syncE (D : DV) : Int := if D.dead then 2 else actE D
def flushD (D : DV) : DV := { D with pages := applyQ D.pages D.q, q := [], syncs := wrap64 (D.syncs + 1) }
def syncD (D : DV) : DV := if D.dead then D else if D.armed = 1 then actD D else flushD (actD D)
def armD (D : DV) (n : Int) : DV := if D.dead then D else { D with armed := max n 0 }
def mix1 (fate : UInt8) (new old : List UInt8) (j : Nat) : List UInt8 := if fate.toNat >>> j % 2 = 1 then splice old (64 * j) ((new.drop (64 * j)).take 64) else old
def mixS (fate : UInt8) (new old : List UInt8) (k : Nat) : List UInt8 := (List.range k).foldl (mix1 fate new) old
def crashP (ps : List (List UInt8)) (l : List (Wr × UInt8)) : List (List UInt8) := l.foldl (fun ps x => ps.set x.1.1 (mixS x.2 x.1.2 (ps.getD x.1.1 []) 4)) ps
def crashD (D : DV) (fates : List UInt8) : DV := { D with pages := crashP D.pages (D.q.zip fates), q := [], dead := false, armed := 0, epoch := wrap64 (D.epoch + 1) }
def claimD (D : DV) : DV := { D with epoch := wrap64 (D.epoch + 1) }
theorem applyQ_snoc (ps : List (List UInt8)) (q : List Wr) (x : Wr) : applyQ ps (q ++ [x]) = (applyQ ps q).set x.1 x.2 := by unfold applyQ; rw [List.foldl_append]; rfl
theorem applyQ_len (ps : List (List UInt8)) (q : List Wr) : (applyQ ps q).length = ps.length := by
  revert q
  refine snocInd rfl fun q x ih => ?_
  rw [applyQ_snoc, List.length_set, ih]
theorem applyQ_each {ps : List (List UInt8)} (h : ∀ p ∈ ps, p.length = 256) : ∀ (q : List Wr), (∀ x ∈ q, x.2.length = 256) → ∀ p ∈ applyQ ps q, p.length = 256 := by
  refine snocInd (fun _ => h) fun q x ih hq => ?_
  rw [applyQ_snoc]
  exact pages_set (ih fun y hy => hq y (List.mem_append_left _ hy)) (hq x (by simp))
theorem length_mix1 (fate : UInt8) (new old : List UInt8) (j : Nat) (hn : new.length = 256) (ho : old.length = 256) (hj : j < 4) : (mix1 fate new old j).length = 256 := by
  unfold mix1
  split
  · rw [length_splice, ho]
    rw [List.length_take, List.length_drop]; omega
  · exact ho
theorem mixS_succ (fate : UInt8) (new old : List UInt8) (k : Nat) : mixS fate new old (k + 1) = mix1 fate new (mixS fate new old k) k := by
  unfold mixS; rw [List.range_succ, List.foldl_append]; rfl
theorem length_mixS (fate : UInt8) (new old : List UInt8) (hn : new.length = 256) (ho : old.length = 256) : ∀ k, k ≤ 4 → (mixS fate new old k).length = 256
  | 0, _ => ho
  | k + 1, h => by rw [mixS_succ]; exact length_mix1 _ _ _ _ hn (length_mixS fate new old hn ho k (by omega)) (by omega)
theorem crashP_snoc (ps : List (List UInt8)) (l : List (Wr × UInt8)) (x : Wr × UInt8) : crashP ps (l ++ [x]) = (crashP ps l).set x.1.1 (mixS x.2 x.1.2 ((crashP ps l).getD x.1.1 []) 4) := by
  unfold crashP; rw [List.foldl_append]; rfl
theorem crashP_len (ps : List (List UInt8)) (l : List (Wr × UInt8)) : (crashP ps l).length = ps.length := by
  revert l
  refine snocInd rfl fun q x ih => ?_
  rw [crashP_snoc, List.length_set, ih]
theorem crashP_each {ps : List (List UInt8)} (h : ∀ p ∈ ps, p.length = 256) : ∀ (l : List (Wr × UInt8)), (∀ x ∈ l, x.1.1 < ps.length ∧ x.1.2.length = 256) → ∀ p ∈ crashP ps l, p.length = 256 := by
  refine snocInd (fun _ => h) fun q x ih hq => ?_
  rw [crashP_snoc]
  have h1 := ih fun y hy => hq y (List.mem_append_left _ hy)
  have h2 := hq x (by simp)
  exact pages_set h1 (length_mixS _ _ _ h2.2 (pages_get h1 (by rw [crashP_len]; exact h2.1)) 4 (Nat.le_refl _))
def dC (D : DV) (pg mb : Nat) (qv : Value) : List Value :=
  [.int .i64 D.reads, .int .i64 D.writes, .int .i64 D.syncs, .int .i64 (D.q.length : Int), .slice (some ⟨pg, 0, none⟩) D.pages.length D.pages.length, qv, .map (some mb), .int .i64 D.armed, .bool D.dead, .int .i64 D.epoch]
structure DiskAt (P : Program) (TD TP TW k e : TypeId) (w : World) (D : DV) (p pg mb : Nat) (qv : Value) : Prop where
  ok : DOk D
  blk : w.heap[p]? = some (.cells (dC D pg mb qv).toArray TD (0, 0))
  pgs : w.heap[pg]? = some (.cells (pagesC D.pages).toArray TP (0, 0))
  que : w.ownsRow 0 TW 257 qv D.q.length (qC D.q)
  map : MapAt P k e w mb D.q
  dist : (p :: pg :: mb :: obs qv).Nodup
section
variable {P : Program} {TD TP TW k e : TypeId} {w w' : World} {D : DV} {p pg mb : Nat} {qv : Value}
theorem DiskAt.lt (h : DiskAt P TD TP TW k e w D p pg mb qv) : ∀ g ∈ p :: pg :: mb :: obs qv, g < w.heap.size := by
  intro g hg
  simp only [List.mem_cons] at hg
  rcases hg with rfl | rfl | rfl | hg
  · exact heap_lt h.blk
  · exact heap_lt h.pgs
  · exact h.map.lt
  · exact (ownsRow_lt h.que g (mem_obs.1 hg)).2
theorem DiskAt.kept (h : DiskAt P TD TP TW k e w D p pg mb qv) (hs : ∀ g ∈ p :: pg :: mb :: obs qv, w'.heap[g]? = w.heap[g]?) : DiskAt P TD TP TW k e w' D p pg mb qv where
  ok := h.ok
  blk := (hs p (by simp)).trans h.blk
  pgs := (hs pg (by simp)).trans h.pgs
  que := ownsRow_same h.que fun g hg => hs g (by simp [mem_obs.2 hg])
  map := h.map.kept (hs mb (by simp))
  dist := h.dist
end
end Go.Proofs.Ytehnnnohoaapdaa

/- Pages as bytes: place, kindOf, Pack. -/
namespace Go.Proofs.Ytehnnnohoaapdaa
set_option linter.unusedSectionVars false
open Go Go.RowKit
set_option linter.unusedVariables false
set_option linter.unusedSimpArgs false
def pageH (kind page : Nat) (load : List UInt8) : List UInt8 := [UInt8.ofNat kind, UInt8.ofNat load.length] ++ leN page 4 ++ load ++ zerosB (246 - load.length)
def pageB (kind page : Nat) (load : List UInt8) : List UInt8 := sealB (pageH kind page load)
def PlaceOk (page : Int) : Prop := 2 ≤ page ∧ page < 4096
instance (page : Int) : Decidable (PlaceOk page) := inferInstanceAs (Decidable (_ ∧ _))
def KindOk (kind : Int) : Prop := 1 ≤ kind ∧ kind ≤ 3
instance (kind : Int) : Decidable (KindOk kind) := inferInstanceAs (Decidable (_ ∧ _))
theorem length_pageH (kind page : Nat) {load : List UInt8} (h : load.length ≤ 246) : (pageH kind page load).length = 252 := by
  simp [pageH, length_leN, zerosB]; omega
theorem length_pageB (kind page : Nat) {load : List UInt8} (h : load.length ≤ 246) : (pageB kind page load).length = 256 := by
  unfold pageB
  rw [length_sealB, length_pageH _ _ h]
def unpgE (page : Int) (raw : List UInt8) : Int :=
  if ¬ PlaceOk page then 54 else if raw.length ≠ 256 then 53 else if wholeB raw = false then 52 else if ¬ KindOk ((raw.getD 0 0).toNat : Int) then 50 else if 246 < (raw.getD 1 0).toNat then 51
  else if ((decN ((raw.drop 2).take 4) : Nat) : Int) ≠ page then 54 else if allZ ((raw.drop (6 + (raw.getD 1 0).toNat)).take (246 - (raw.getD 1 0).toNat)) = false then 53 else 0
def unpgK (page : Int) (raw : List UInt8) : Int := if unpgE page raw = 0 then ((raw.getD 0 0).toNat : Int) else 0
def unpgL (page : Int) (raw : List UInt8) : List UInt8 := if unpgE page raw = 0 then (raw.drop 6).take (raw.getD 1 0).toNat else []
theorem unpg_no {page : Int} {raw : List UInt8} {e : Int} (h : unpgE page raw = e) (he : e ≠ 0) : unpgK page raw = 0 ∧ unpgL page raw = [] := by
  unfold unpgK unpgL
  rw [h, if_neg he, if_neg he]
  exact ⟨rfl, rfl⟩
theorem unpg_yes {page : Int} {raw : List UInt8} (h : unpgE page raw = 0) : unpgK page raw = ((raw.getD 0 0).toNat : Int) ∧ unpgL page raw = (raw.drop 6).take (raw.getD 1 0).toNat := by
  unfold unpgK unpgL
  rw [if_pos h, if_pos h]
  exact ⟨rfl, rfl⟩
theorem allZ_zerosB (n : Nat) : allZ (zerosB n) = true := by
  unfold allZ
  rw [decide_eq_true_iff, zerosB, List.length_replicate]
  rfl
theorem ofNat_toNat8 {n : Nat} (h : n < 256) : (UInt8.ofNat n).toNat = n := by rw [UInt8.toNat_ofNat', Nat.mod_eq_of_lt h]
theorem unpg_pageB {kind page : Nat} {load : List UInt8} (hk : 1 ≤ kind ∧ kind ≤ 3) (hp : 2 ≤ page ∧ page < 4096) (hl : load.length ≤ 246) :
    unpgE (page : Int) (pageB kind page load) = 0 ∧ unpgK (page : Int) (pageB kind page load) = (kind : Int) ∧ unpgL (page : Int) (pageB kind page load) = load := by
  have h256 := length_pageB kind page hl
  have e0 : ((pageB kind page load).getD 0 0).toNat = kind := by
    show (UInt8.ofNat kind).toNat = kind
    exact ofNat_toNat8 (by omega)
  have e1 : ((pageB kind page load).getD 1 0).toNat = load.length := by
    show (UInt8.ofNat load.length).toNat = load.length
    exact ofNat_toNat8 (by omega)
  have e2 : ((pageB kind page load).drop 2).take 4 = leN page 4 := by
    show ((leN page 4 ++ load ++ zerosB (246 - load.length)) ++ sum4 (crcL (pageH kind page load))).take 4 = _
    rw [List.append_assoc, List.append_assoc, List.take_left' (length_leN 4 page)]
  have e6 : (pageB kind page load).drop 6 = load ++ (zerosB (246 - load.length) ++ sum4 (crcL (pageH kind page load))) := by
    show ((leN page 4 ++ load ++ zerosB (246 - load.length)) ++ sum4 (crcL (pageH kind page load))).drop 4 = _
    rw [List.append_assoc, List.append_assoc, List.drop_left' (length_leN 4 page)]
  have e3 : ((pageB kind page load).drop (6 + load.length)).take (246 - load.length) = zerosB (246 - load.length) := by
    rw [← List.drop_drop, e6, List.drop_left' rfl, List.take_left' (by simp [zerosB])]
  have hE : unpgE (page : Int) (pageB kind page load) = 0 := by
    unfold unpgE
    rw [if_neg (by unfold PlaceOk; omega), if_neg (by rw [h256]; decide), if_neg (by rw [show wholeB (pageB kind page load) = true from wholeB_sealB _]; decide), e0, if_neg (by unfold KindOk; omega), e1, if_neg (by omega), e2,
      decN_leN 4 page (by omega), if_neg (by simp), e3, allZ_zerosB, if_neg (by decide)]
  obtain ⟨h1, h2⟩ := unpg_yes hE
  refine ⟨hE, by rw [h1, e0], ?_⟩
  rw [h2, e1, e6, List.take_left' rfl]
set_option maxRecDepth 100000 in
set_option maxHeartbeats 4000000 in
theorem place_any (page : Int) (w : World) : Calls Try.prog 64 #[.int .i64 page] w fun e w' => e = .returned (.bool (decide (PlaceOk page))) ∧ Mem w [] w' [] := by
  have M := Mem.nil w
  go_enter Try.func64, Try.ntmps64
  refine wp_seq_k (fun K1 hK1 => ?_)
  refine wp_region_lit ?_
  refine pl M (y_assign (v := .bool false) rfl rfl rfl) ?_
  simp only [Act.put, zq1, zq2, zq3]
  refine wpList_nil ?_
  refine hK1 _ _ ?_
  clear hK1
  refine wp_seq_k (fun K2 hK2 => ?_)
  refine wp_region_lit ?_
  refine pl M (y_move (v := .int .i64 page) rfl rfl rfl) ?_
  simp only [Act.put, zq1, zq2, zq3]
  rcases Decidable.em ((2 : Int) ≤ page) with h3 | h3
  · refine pl M (y_geq (b := true) rfl rfl rfl rfl (decide_eq_true h3)) ?_
    simp only [Act.put, zq1, zq2, zq3]
    refine pl M (y_move (v := .bool true) rfl rfl rfl) ?_
    simp only [Act.put, zq1, zq2, zq3]
    refine pl M (y_move (v := .int .i64 page) rfl rfl rfl) ?_
    simp only [Act.put, zq1, zq2, zq3]
    refine pl M (y_lss rfl rfl rfl rfl rfl) ?_
    simp only [Act.put, zq1, zq2, zq3]
    refine pl M (y_pickT (v := .bool (decide (page < 4096))) rfl rfl rfl rfl) ?_
    simp only [Act.put, zq1, zq2, zq3]
    refine pl M (y_assign (v := .bool (decide (page < 4096))) rfl rfl rfl) ?_
    simp only [Act.put, zq1, zq2, zq3]
    refine wpList_nil ?_
    refine hK2 _ _ ?_
    clear hK2
    refine wp_ret ?_
    try simp only [Exit.inBlock, Exit.then]
    refine bodyPost_ret (v := .bool (decide (page < 4096))) (res1 rfl rfl) rfl ?_
    have e : decide (page < 4096) = decide (PlaceOk page) := decide_eq_decide.2 ⟨fun h => ⟨h3, h⟩, fun h => h.2⟩
    rw [e]
    exact ⟨rfl, M⟩
  · refine pl M (y_geq (b := false) rfl rfl rfl rfl (decide_eq_false h3)) ?_
    simp only [Act.put, zq1, zq2, zq3]
    refine pl M (y_move (v := .bool false) rfl rfl rfl) ?_
    simp only [Act.put, zq1, zq2, zq3]
    with_reducible refine pskip ?_ ?_
    · rfl
    simp only [Act.put, zq1, zq2, zq3]
    with_reducible refine pskip ?_ ?_
    · rfl
    simp only [Act.put, zq1, zq2, zq3]
    refine pl M (y_pickF (v := .bool false) rfl rfl rfl rfl) ?_
    simp only [Act.put, zq1, zq2, zq3]
    refine pl M (y_assign (v := .bool false) rfl rfl rfl) ?_
    simp only [Act.put, zq1, zq2, zq3]
    refine wpList_nil ?_
    refine hK2 _ _ ?_
    clear hK2
    refine wp_ret ?_
    try simp only [Exit.inBlock, Exit.then]
    refine bodyPost_ret (v := .bool false) (res1 rfl rfl) rfl ?_
    have e : decide (PlaceOk page) = false := decide_eq_false fun h => h3 h.1
    rw [e]
    exact ⟨rfl, M⟩
set_option maxRecDepth 100000 in
set_option maxHeartbeats 4000000 in
theorem kindOf_any (kind : Int) (w : World) : Calls Try.prog 65 #[.int .i64 kind] w fun e w' => e = .returned (.bool (decide (KindOk kind))) ∧ Mem w [] w' [] := by
  have M := Mem.nil w
  go_enter Try.func65, Try.ntmps65
  refine wp_seq_k (fun K1 hK1 => ?_)
  refine wp_region_lit ?_
  refine pl M (y_assign (v := .bool false) rfl rfl rfl) ?_
  simp only [Act.put, zq1, zq2, zq3]
  refine wpList_nil ?_
  refine hK1 _ _ ?_
  clear hK1
  refine wp_seq_k (fun K2 hK2 => ?_)
  refine wp_seq_k (fun K3 hK3 => ?_)
  refine wp_region_lit ?_
  refine pl M (y_move (v := .int .i64 kind) rfl rfl rfl) ?_
  simp only [Act.put, zq1, zq2, zq3]
  refine wpList_nil ?_
  refine hK3 _ _ ?_
  clear hK3
  refine wp_block ?_
  refine wp_seq_k (fun K4 hK4 => ?_)
  refine wp_seq_k (fun K5 hK5 => ?_)
  refine wp_region_lit ?_
  rcases Decidable.em (kind = 1) with h6 | h6
  · refine pl M (y_eql (b := true) rfl rfl rfl rfl (decide_eq_true h6)) ?_
    simp only [Act.put, zq1, zq2, zq3]
    refine pl M (y_assign (v := .bool true) rfl rfl rfl) ?_
    simp only [Act.put, zq1, zq2, zq3]
    refine wpList_nil ?_
    refine hK5 _ _ ?_
    clear hK5
    refine wp_cond_true rfl ?_
    refine wp_skip ?_
    refine hK4 _ _ ?_
    clear hK4
    refine wp_cond_true rfl ?_
    refine wp_seq_k (fun K7 hK7 => ?_)
    refine wp_region_lit ?_
    refine pl M (y_assign (v := .bool true) rfl rfl rfl) ?_
    simp only [Act.put, zq1, zq2, zq3]
    refine wpList_nil ?_
    refine hK7 _ _ ?_
    clear hK7
    refine wp_ret ?_
    try simp only [Exit.inBlock, Exit.then]
    refine bodyPost_ret (v := .bool true) (res1 rfl rfl) rfl ?_
    have e : decide (KindOk kind) = true := decide_eq_true ⟨by omega, by omega⟩
    rw [e]
    exact ⟨rfl, M⟩
  · refine pl M (y_eql (b := false) rfl rfl rfl rfl (decide_eq_false h6)) ?_
    simp only [Act.put, zq1, zq2, zq3]
    refine pl M (y_assign (v := .bool false) rfl rfl rfl) ?_
    simp only [Act.put, zq1, zq2, zq3]
    refine wpList_nil ?_
    refine hK5 _ _ ?_
    clear hK5
    refine wp_cond_false rfl ?_
    refine wp_seq_k (fun K8 hK8 => ?_)
    refine wp_region_lit ?_
    rcases Decidable.em (kind = 2) with h9 | h9
    · refine pl M (y_eql (b := true) rfl rfl rfl rfl (decide_eq_true h9)) ?_
      simp only [Act.put, zq1, zq2, zq3]
      refine pl M (y_assign (v := .bool true) rfl rfl rfl) ?_
      simp only [Act.put, zq1, zq2, zq3]
      refine wpList_nil ?_
      refine hK8 _ _ ?_
      clear hK8
      refine wp_cond_true rfl ?_
      refine wp_skip ?_
      refine hK4 _ _ ?_
      clear hK4
      refine wp_cond_true rfl ?_
      refine wp_seq_k (fun K10 hK10 => ?_)
      refine wp_region_lit ?_
      refine pl M (y_assign (v := .bool true) rfl rfl rfl) ?_
      simp only [Act.put, zq1, zq2, zq3]
      refine wpList_nil ?_
      refine hK10 _ _ ?_
      clear hK10
      refine wp_ret ?_
      try simp only [Exit.inBlock, Exit.then]
      refine bodyPost_ret (v := .bool true) (res1 rfl rfl) rfl ?_
      have e : decide (KindOk kind) = true := decide_eq_true ⟨by omega, by omega⟩
      rw [e]
      exact ⟨rfl, M⟩
    · refine pl M (y_eql (b := false) rfl rfl rfl rfl (decide_eq_false h9)) ?_
      simp only [Act.put, zq1, zq2, zq3]
      refine pl M (y_assign (v := .bool false) rfl rfl rfl) ?_
      simp only [Act.put, zq1, zq2, zq3]
      refine wpList_nil ?_
      refine hK8 _ _ ?_
      clear hK8
      refine wp_cond_false rfl ?_
      refine wp_region_lit ?_
      rcases Decidable.em (kind = 3) with h11 | h11
      · refine pl M (y_eql (b := true) rfl rfl rfl rfl (decide_eq_true h11)) ?_
        simp only [Act.put, zq1, zq2, zq3]
        refine pl M (y_assign (v := .bool true) rfl rfl rfl) ?_
        simp only [Act.put, zq1, zq2, zq3]
        refine wpList_nil ?_
        refine hK4 _ _ ?_
        clear hK4
        refine wp_cond_true rfl ?_
        refine wp_seq_k (fun K12 hK12 => ?_)
        refine wp_region_lit ?_
        refine pl M (y_assign (v := .bool true) rfl rfl rfl) ?_
        simp only [Act.put, zq1, zq2, zq3]
        refine wpList_nil ?_
        refine hK12 _ _ ?_
        clear hK12
        refine wp_ret ?_
        try simp only [Exit.inBlock, Exit.then]
        refine bodyPost_ret (v := .bool true) (res1 rfl rfl) rfl ?_
        have e : decide (KindOk kind) = true := decide_eq_true ⟨by omega, by omega⟩
        rw [e]
        exact ⟨rfl, M⟩
      · refine pl M (y_eql (b := false) rfl rfl rfl rfl (decide_eq_false h11)) ?_
        simp only [Act.put, zq1, zq2, zq3]
        refine pl M (y_assign (v := .bool false) rfl rfl rfl) ?_
        simp only [Act.put, zq1, zq2, zq3]
        refine wpList_nil ?_
        refine hK4 _ _ ?_
        clear hK4
        refine wp_cond_false rfl ?_
        refine wp_skip ?_
        refine hK2 _ _ ?_
        clear hK2
        refine wp_seq_k (fun K13 hK13 => ?_)
        refine wp_region_lit ?_
        refine pl M (y_assign (v := .bool false) rfl rfl rfl) ?_
        simp only [Act.put, zq1, zq2, zq3]
        refine wpList_nil ?_
        refine hK13 _ _ ?_
        clear hK13
        refine wp_ret ?_
        try simp only [Exit.inBlock, Exit.then]
        refine bodyPost_ret (v := .bool false) (res1 rfl rfl) rfl ?_
        have e : decide (KindOk kind) = false := decide_eq_false fun h => by have := h.1; have := h.2; omega
        rw [e]
        exact ⟨rfl, M⟩
theorem zero_252 : ∀ w : World, (zeroValue 117).run Try.prog w = .ok (.agg (bvs (zerosB 252)).toArray) w := fun w => by kernel_rfl
theorem byteWrap (n : Nat) (h : n < 256) : IntKind.u8.wrap (n : Int) = ((UInt8.ofNat n).toNat : Int) := wrap_u8 n
theorem page_splice (kind page : Nat) (l : List UInt8) (hl : l.length ≤ 246) : splice ([UInt8.ofNat kind, UInt8.ofNat l.length] ++ leN page 4 ++ zerosB 246) 6 l = pageH kind page l := by
  unfold splice pageH
  have h6 : ([UInt8.ofNat kind, UInt8.ofNat l.length] ++ leN page 4).length = 6 := by simp [length_leN]
  rw [List.take_left' h6, ← List.drop_drop, List.drop_left' h6]
  unfold zerosB
  rw [List.drop_replicate]
  simp [List.append_assoc]
set_option maxRecDepth 100000 in
set_option maxHeartbeats 4000000 in
theorem pack_ok (kind page : Nat) (ao : Option Addr) (n c : Nat) (l : List UInt8) (w : World) (hr : Row w ao n l) (hk : 1 ≤ kind ∧ kind ≤ 3) (hp : 2 ≤ page ∧ page < 4096) (hl : l.length ≤ 246) : Calls Try.prog 50 #[.int .i64 (kind : Int), .int .i64 (page : Int), .slice ao n c] w fun e w' => ∃ v, e = .returned (.tuple #[v, .int .i64 0]) ∧ Mem w [] w' [lst 5 1 v 256 (bvs (pageB kind page l))] := by
  have M := Mem.nil w
  have hn := hr.1
  have hk1 := hk.1
  have hk2 := hk.2
  have hp1 := hp.1
  have hp2 := hp.2
  go_enter Try.func50, Try.ntmps50
  refine wp_seq_k (fun K1 hK1 => ?_)
  refine wp_region_lit ?_
  refine pl M (y_assign (v := .slice none 0 0) rfl rfl rfl) ?_
  simp only [Act.put, zq1, zq2, zq3]
  refine pl M (y_assign (v := .int .i64 0) rfl rfl rfl) ?_
  simp only [Act.put, zq1, zq2, zq3]
  refine wpList_nil ?_
  refine hK1 _ _ ?_
  clear hK1
  refine wp_seq_k (fun K2 hK2 => ?_)
  refine wp_seq_k (fun K3 hK3 => ?_)
  refine wp_region_lit ?_
  refine pl M (y_move (v := .int .i64 (kind : Int)) rfl rfl rfl) ?_
  simp only [Act.put, zq1, zq2, zq3]
  refine pe rfl (fun K hK => ?_)
  refine e_call 65 [.int .i64 (kind : Int)] rfl rfl Try.call65 (kindOf_any (kind : Int) _) ?_
  rintro e w4 ⟨rfl, H4⟩
  have M4 : Mem w [] w4 [] := M.step H4
  rw [(decide_eq_true (show KindOk kind from ⟨by omega, by omega⟩))]
  refine ⟨_, rfl, ?_⟩
  refine hK.out _ _ ?_
  clear hK K
  simp only [Act.put, zq1, zq2, zq3]
  refine pl M4 (y_not rfl rfl rfl rfl) ?_
  simp only [Act.put, zq1, zq2, zq3]
  refine wpList_nil ?_
  refine hK3 _ _ ?_
  clear hK3
  refine wp_cond_false rfl ?_
  refine wp_skip ?_
  refine hK2 _ _ ?_
  clear hK2
  refine wp_seq_k (fun K5 hK5 => ?_)
  refine wp_seq_k (fun K6 hK6 => ?_)
  refine wp_region_lit ?_
  refine pl M4 (y_move (v := .int .i64 (page : Int)) rfl rfl rfl) ?_
  simp only [Act.put, zq1, zq2, zq3]
  refine pe rfl (fun K hK => ?_)
  refine e_call 64 [.int .i64 (page : Int)] rfl rfl Try.call64 (place_any (page : Int) _) ?_
  rintro e w7 ⟨rfl, H7⟩
  have M7 : Mem w [] w7 [] := M4.step H7
  rw [(decide_eq_true (show PlaceOk page from ⟨by omega, by omega⟩))]
  refine ⟨_, rfl, ?_⟩
  refine hK.out _ _ ?_
  clear hK K
  simp only [Act.put, zq1, zq2, zq3]
  refine pl M7 (y_not rfl rfl rfl rfl) ?_
  simp only [Act.put, zq1, zq2, zq3]
  refine wpList_nil ?_
  refine hK6 _ _ ?_
  clear hK6
  refine wp_cond_false rfl ?_
  refine wp_skip ?_
  refine hK5 _ _ ?_
  clear hK5
  refine wp_seq_k (fun K8 hK8 => ?_)
  refine wp_seq_k (fun K9 hK9 => ?_)
  refine wp_region_lit ?_
  refine pl M7 (y_move (v := .slice ao n c) rfl rfl rfl) ?_
  simp only [Act.put, zq1, zq2, zq3]
  refine pl M7 (y_len rfl rfl rfl Try.underlying22) ?_
  simp only [Act.put, zq1, zq2, zq3]
  refine pl M7 (y_gtr (b := false) rfl rfl rfl rfl (decide_eq_false (by omega))) ?_
  simp only [Act.put, zq1, zq2, zq3]
  refine wpList_nil ?_
  refine hK9 _ _ ?_
  clear hK9
  refine wp_cond_false rfl ?_
  refine wp_skip ?_
  refine hK8 _ _ ?_
  clear hK8
  refine wp_seq_k (fun K10 hK10 => ?_)
  refine wp_region_lit ?_
  refine pe rfl (fun K hK => ?_)
  refine e_alloc M7 (bvs (zerosB 252)) rfl zero_252 ?_
  intro gb w11 (M11 : Mem w [] w11 [blk gb 117 (bvs (zerosB 252))])
  clear M7
  refine hK.out _ _ ?_
  clear hK K
  simp only [Act.put, zq1, zq2, zq3]
  refine wpList_nil ?_
  refine hK10 _ _ ?_
  clear hK10
  refine wp_seq_k (fun K12 hK12 => ?_)
  refine wp_region_lit ?_
  refine pl M11 (y_move (v := .int .i64 (kind : Int)) rfl rfl rfl) ?_
  simp only [Act.put, zq1, zq2, zq3]
  refine pl M11 (y_conv (r := ((UInt8.ofNat kind).toNat : Int)) rfl rfl rfl Try.underlying3 Try.underlying5 (byteWrap kind (by omega))) ?_
  simp only [Act.put, zq1, zq2, zq3]
  refine pl M11 (y_move (v := .slice ao n c) rfl rfl rfl) ?_
  simp only [Act.put, zq1, zq2, zq3]
  refine pl M11 (y_len rfl rfl rfl Try.underlying22) ?_
  simp only [Act.put, zq1, zq2, zq3]
  refine pl M11 (y_conv (r := ((UInt8.ofNat l.length).toNat : Int)) rfl rfl rfl Try.underlying3 Try.underlying5 (by rw [← hr.1]; exact byteWrap l.length (by omega))) ?_
  simp only [Act.put, zq1, zq2, zq3]
  refine pl M11 (y_iaa (r := 0) rfl rfl rfl rfl Try.underlying117 Try.sizeOf5 (by omega) (by omega)) ?_
  simp only [Act.put, zq1, zq2, zq3]
  refine pe rfl (fun K hK => ?_)
  refine e_store M11 0 (v := .int .u8 ((UInt8.ofNat kind).toNat : Int)) rfl rfl rfl rfl rfl rfl Try.sizeOf5 rfl (show (0 : Nat) < 252 by decide) ?_
  intro w13 (M13 : Mem w [] w13 [blk gb 117 ((bvs (zerosB 252)).set 0 (.int .u8 ((UInt8.ofNat kind).toNat : Int)))])
  clear M11
  refine hK.out _ _ ?_
  clear hK K
  simp only [Act.put, zq1, zq2, zq3]
  refine pl M13 (y_iaa (r := 1) rfl rfl rfl rfl Try.underlying117 Try.sizeOf5 (by omega) (by omega)) ?_
  simp only [Act.put, zq1, zq2, zq3]
  refine pe rfl (fun K hK => ?_)
  refine e_store M13 0 (v := .int .u8 ((UInt8.ofNat l.length).toNat : Int)) rfl rfl rfl rfl rfl rfl Try.sizeOf5 rfl (show (1 : Nat) < 252 by decide) ?_
  intro w14 (M14 : Mem w [] w14 [blk gb 117 (((bvs (zerosB 252)).set 0 (.int .u8 ((UInt8.ofNat kind).toNat : Int))).set 1 (.int .u8 ((UInt8.ofNat l.length).toNat : Int)))])
  clear M13
  refine hK.out _ _ ?_
  clear hK K
  simp only [Act.put, zq1, zq2, zq3]
  have M15 : Mem w [] w14 [blk gb 117 (bvs ([UInt8.ofNat kind, UInt8.ofNat l.length] ++ zerosB 250))] := M14
  clear M14
  refine wpList_nil ?_
  refine hK12 _ _ ?_
  clear hK12
  refine wp_seq_k (fun K16 hK16 => ?_)
  refine wp_region_lit ?_
  refine pl M15 (y_sla (l := 2) (h := 252) (r := 2) (n' := 250) (c' := 250) rfl rfl rfl rfl rfl Try.underlying117 Try.sizeOf5 (by exact ⟨rfl, ⟨_, _, rfl, by omega, by omega⟩⟩) (rfl) (by omega) (by omega)) ?_
  simp only [Act.put, zq1, zq2, zq3]
  refine pl M15 (y_move (v := .int .i64 (page : Int)) rfl rfl rfl) ?_
  simp only [Act.put, zq1, zq2, zq3]
  refine pe rfl (fun K hK => ?_)
  refine e_call 66 [.slice (some ⟨gb, 2, none⟩) 250 250, .int .i64 (page : Int), .int .i64 4] rfl rfl Try.call66 (put_any gb 2 250 250 page 4 (bvs ([UInt8.ofNat kind, UInt8.ofNat l.length] ++ zerosB 250)) 117 _ (M15.get 0 rfl) (by decide) (by decide) (by rw [length_bvs]; simp [zerosB]) (by unfold maxLen; omega)) ?_
  rintro e w17 ⟨rfl, H, G⟩
  have M17 : Mem w [] w17 [blk gb 117 (bvs ([UInt8.ofNat kind, UInt8.ofNat l.length] ++ leN page 4 ++ zerosB 246))] := (by have h := M15.setBlk2 0 _ rfl G H; rw [splice_bvs] at h; exact h)
  refine ⟨_, rfl, ?_⟩
  refine hK.out _ _ ?_
  clear hK K
  simp only [Act.put, zq1, zq2, zq3]
  refine wpList_nil ?_
  refine hK16 _ _ ?_
  clear hK16
  refine wp_seq_k (fun K18 hK18 => ?_)
  refine wp_region_lit ?_
  refine pl M17 (y_sla (l := 6) (h := 252) (r := 6) (n' := 246) (c' := 246) rfl rfl rfl rfl rfl Try.underlying117 Try.sizeOf5 (by exact ⟨rfl, ⟨_, _, rfl, by omega, by omega⟩⟩) (rfl) (by omega) (by omega)) ?_
  simp only [Act.put, zq1, zq2, zq3]
  refine pl M17 (y_move (v := .slice ao n c) rfl rfl rfl) ?_
  simp only [Act.put, zq1, zq2, zq3]
  refine pe rfl (fun K hK => ?_)
  refine e_copy M17 0 (l := l) rfl rfl Try.underlying22 Try.sizeOf5 rfl rfl rfl (by rw [hr.1]; exact (Nat.min_eq_left (by omega)).symm) ((M17.row hr (by simp)).self) (by rw [length_bvs]; simp [length_leN, zerosB]; omega) ?_
  intro w19 M19
  replace M19 : Mem w [] w19 [blk gb 117 (bvs (pageH kind page l))] := by rw [splice_bvs] at M19; rw [show pageH kind page l = splice ([UInt8.ofNat kind, UInt8.ofNat l.length] ++ leN page 4 ++ zerosB 246) 6 l from (page_splice kind page l hl).symm]; exact M19
  clear M17
  refine hK.out _ _ ?_
  clear hK K
  simp only [Act.put, zq1, zq2, zq3]
  refine wpList_nil ?_
  refine hK18 _ _ ?_
  clear hK18
  refine wp_seq_k (fun K20 hK20 => ?_)
  refine wp_region_lit ?_
  refine pl M19 (y_sla (l := 0) (h := 252) (r := 0) (n' := 252) (c' := 252) rfl rfl rfl rfl rfl Try.underlying117 Try.sizeOf5 (by exact ⟨rfl, rfl⟩) (rfl) (by omega) (by omega)) ?_
  simp only [Act.put, zq1, zq2, zq3]
  refine pe rfl (fun K hK => ?_)
  refine e_call 67 [.slice (some ⟨gb, 0, none⟩) 252 252] rfl rfl Try.call67 (seal_any (some ⟨gb, 0, none⟩) 252 252 (pageH kind page l) _ (by have := blk_row (M19.get 0 rfl); rwa [length_pageH kind page hl] at this) (by intro h; cases h) (by omega)) ?_
  rintro e w21 ⟨⟨gs, cs, rfl, H⟩, G⟩
  have M21 : Mem w [] w21 [lst 5 1 (.slice (some ⟨gs, 0, none⟩) (252 + 4) cs) ((pageB kind page l).length) (bvs (pageB kind page l)), blk gb 117 (bvs (pageH kind page l))] := M19.ownl G H
  refine ⟨_, rfl, ?_⟩
  refine hK.out _ _ ?_
  clear hK K
  simp only [Act.put, zq1, zq2, zq3]
  refine pl M21 (y_assign (v := .slice (some ⟨gs, 0, none⟩) (252 + 4) cs) rfl rfl rfl) ?_
  simp only [Act.put, zq1, zq2, zq3]
  refine pl M21 (y_assign (v := .int .i64 0) rfl rfl rfl) ?_
  simp only [Act.put, zq1, zq2, zq3]
  refine wpList_nil ?_
  refine hK20 _ _ ?_
  clear hK20
  refine wp_ret ?_
  try simp only [Exit.inBlock, Exit.then]
  refine bodyPost_ret (v := .tuple #[.slice (some ⟨gs, 0, none⟩) (252 + 4) cs, .int .i64 0]) (res2 rfl rfl rfl) rfl ?_
  have N : Mem w [] w21 [lst 5 1 (.slice (some ⟨gs, 0, none⟩) (252 + 4) cs) (pageB kind page l).length (bvs (pageB kind page l))] := M21.arr [0] (by decide)
  rw [length_pageB kind page hl] at N
  exact ⟨_, rfl, N⟩
end Go.Proofs.Ytehnnnohoaapdaa

/- The program's disk as an assertion. -/
namespace Go.Proofs.Ytehnnnohoaapdaa
set_option linter.unusedSectionVars false
set_option linter.unusedSimpArgs false
open Go Go.RowKit
set_option linter.unusedVariables false
abbrev mapq (b : Nat) (q : List Wr) : Asn := mapq' Try.prog 3 3 b q
def diskL (D : DV) (p pg mb : Nat) (qv : Value) : List Asn := [blk p 60 (dC D pg mb qv), blk pg 92 (pagesC D.pages), lst 94 257 qv D.q.length (qC D.q), mapq mb D.q]
def disk (D : DV) (p pg mb : Nat) (qv : Value) : Asn := star (DOk D) (diskL D p pg mb qv)
section
variable {w0 w : World} {F : List Nat} {R : List Asn} {D : DV} {p pg mb : Nat} {qv : Value}
theorem disk_open (h : Mem w0 F w (disk D p pg mb qv :: R)) : DOk D ∧ Mem w0 F w (blk p 60 (dC D pg mb qv) :: blk pg 92 (pagesC D.pages) :: lst 94 257 qv D.q.length (qC D.q) :: mapq mb D.q :: R) := h.open
theorem disk_close (hD : DOk D) (h : Mem w0 F w (blk p 60 (dC D pg mb qv) :: blk pg 92 (pagesC D.pages) :: lst 94 257 qv D.q.length (qC D.q) :: mapq mb D.q :: R)) : Mem w0 F w (disk D p pg mb qv :: R) := Mem.close (X := diskL D p pg mb qv) hD h
end
theorem size_of_len {t n : Nat} (l : List Value) (hl : l.length = n) (h : (Try.prog.info? t).map (·.size) = some n) : Box ((Try.prog.info? t).map (·.size) = some l.length) := ⟨by rw [hl]; exact h⟩
theorem size_page (l : List UInt8) (h : l.length = 256) : Box ((Try.prog.info? 92).map (·.size) = some (bvs l).length) := size_of_len _ (by rw [length_bvs, h]) (by kernel_rfl)
theorem zero_page : ∀ w : World, (zeroValue 92).run Try.prog w = .ok (.agg (bvs zeroPage).toArray) w := fun w => by kernel_rfl
theorem bytesT : ElemTy Try.prog 22 5 1 1 := elemTy_of (by kernel_rfl)
theorem writesT : ElemTy Try.prog 57 94 257 264 := elemTy_of (by kernel_rfl)
theorem pagesT : ElemTy Try.prog 56 92 256 256 := elemTy_of (by kernel_rfl)
theorem zeroPage_len : zeroPage.length = 256 := List.length_replicate
theorem pages_row {D : DV} (hD : DOk D) {n : Nat} (hn : n < D.pages.length) : ((pagesC D.pages).drop (256 * n)).take (bvs (D.pg n)).length = bvs (D.pg n) := by
  have hg : D.pages[n]? = some (D.pg n) := by
    unfold DV.pg
    rw [List.getD_eq_getElem?_getD, List.getElem?_eq_getElem hn]; rfl
  have hl : (bvs (D.pg n)).length = 256 := by rw [length_bvs]; exact pages_get hD.len hn
  rw [hl]
  exact flat_get bvs 256 D.pages n (D.pg n) (fun y hy => by rw [length_bvs]; exact hD.len y hy) hg
theorem queue_row {q : List Wr} (hq : ∀ x ∈ q, x.2.length = 256) {i : Nat} {x : Wr} (hi : q[i]? = some x) : ((qC q).drop (257 * i + 1)).take (bvs x.2).length = bvs x.2 := by
  have h := flat_get wC 257 q i x (fun y hy => by simp [wC, hq y hy]) hi
  have hl : (bvs x.2).length = 256 := by rw [length_bvs]; exact hq x (List.mem_of_getElem? hi)
  rw [hl, ← List.drop_drop]
  have h2 := congrArg (List.drop 1) h
  rw [List.drop_take] at h2
  exact h2
end Go.Proofs.Ytehnnnohoaapdaa

/- The program's disk: the small walks. -/
namespace Go.Proofs.Ytehnnnohoaapdaa
set_option linter.unusedSectionVars false
open Go Go.RowKit
set_option linter.unusedVariables false
set_option linter.unusedSimpArgs false
theorem act_ok {D : DV} (h : DOk D) (h0 : ¬ D.armed = 0) : DOk { D with armed := D.armed - 1, dead := decide (D.armed - 1 = 0) } := ⟨h.lo, h.hi, h.len, h.qs, ⟨by have := h.arm; show 0 ≤ D.armed - 1; omega, by have := h.arm; show D.armed - 1 ≤ _; omega⟩, h.ep⟩
set_option maxRecDepth 100000 in
set_option maxHeartbeats 4000000 in
theorem act_any {D : DV} {p pg mb : Nat} {qv : Value} {w : World} (hM : Mem w (foots [disk D p pg mb qv]) w [disk D p pg mb qv])  : Calls Try.prog 63 #[.pointer (some ⟨p, 0, none⟩)] w fun e w' => e = .returned (.int .i64 (actE D)) ∧ Mem w (foots [disk D p pg mb qv]) w' [disk (actD D) p pg mb qv] := by
  obtain ⟨hok, M⟩ := disk_open hM
  clear hM
  have ha := hok.arm
  go_enter Try.func63, Try.ntmps63
  refine wp_seq_k (fun K1 hK1 => ?_)
  refine wp_region_lit ?_
  refine pl M (y_assign (v := .int .i64 0) rfl rfl rfl) ?_
  simp only [Act.put, zq1, zq2, zq3]
  refine wpList_nil ?_
  refine hK1 _ _ ?_
  clear hK1
  refine wp_seq_k (fun K2 hK2 => ?_)
  refine wp_seq_k (fun K3 hK3 => ?_)
  refine wp_region_lit ?_
  refine pl M (y_move (v := .pointer (some ⟨p, 0, none⟩)) rfl rfl rfl) ?_
  simp only [Act.put, zq1, zq2, zq3]
  refine pl M (y_nil rfl rfl rfl) ?_
  simp only [Act.put, zq1, zq2, zq3]
  refine pl M (y_fa (r := 7) rfl rfl rfl Try.underlying60 rfl Try.sizeOf3 rfl) ?_
  simp only [Act.put, zq1, zq2, zq3]
  refine pl M (y_load (v := .int .i64 D.armed) rfl rfl rfl Try.isAgg3 (fun W hW => hW.get 0 rfl) (rfl)) ?_
  simp only [Act.put, zq1, zq2, zq3]
  rcases Decidable.em (D.armed = 0) with h4 | h4
  · refine pl M (y_eql (b := true) rfl rfl rfl rfl (decide_eq_true h4)) ?_
    simp only [Act.put, zq1, zq2, zq3]
    refine wpList_nil ?_
    refine hK3 _ _ ?_
    clear hK3
    refine wp_cond_true rfl ?_
    refine wp_seq_k (fun K5 hK5 => ?_)
    refine wp_region_lit ?_
    refine pl M (y_assign (v := .int .i64 0) rfl rfl rfl) ?_
    simp only [Act.put, zq1, zq2, zq3]
    refine wpList_nil ?_
    refine hK5 _ _ ?_
    clear hK5
    refine wp_ret ?_
    try simp only [Exit.inBlock, Exit.then]
    refine bodyPost_ret (v := .int .i64 0) (res1 rfl rfl) rfl ?_
    have e1 : actD D = D := by unfold actD; rw [if_pos h4]
    have e2 : actE D = 0 := by unfold actE; rw [if_neg (by omega)]
    rw [e1, e2]
    exact ⟨rfl, disk_close hok M⟩
  · refine pl M (y_eql (b := false) rfl rfl rfl rfl (decide_eq_false h4)) ?_
    simp only [Act.put, zq1, zq2, zq3]
    refine wpList_nil ?_
    refine hK3 _ _ ?_
    clear hK3
    refine wp_cond_false rfl ?_
    refine wp_skip ?_
    refine hK2 _ _ ?_
    clear hK2
    refine wp_seq_k (fun K6 hK6 => ?_)
    refine wp_region_lit ?_
    refine pl M (y_move (v := .pointer (some ⟨p, 0, none⟩)) rfl rfl rfl) ?_
    simp only [Act.put, zq1, zq2, zq3]
    refine pl M (y_nil rfl rfl rfl) ?_
    simp only [Act.put, zq1, zq2, zq3]
    refine pl M (y_fa (r := 7) rfl rfl rfl Try.underlying60 rfl Try.sizeOf3 rfl) ?_
    simp only [Act.put, zq1, zq2, zq3]
    refine pl M (y_load (v := .int .i64 D.armed) rfl rfl rfl Try.isAgg3 (fun W hW => hW.get 0 rfl) (rfl)) ?_
    simp only [Act.put, zq1, zq2, zq3]
    refine pl M (y_sub (r := D.armed - 1) rfl rfl rfl rfl (rfl) (by omega)) ?_
    simp only [Act.put, zq1, zq2, zq3]
    refine pl M (y_nil rfl rfl rfl) ?_
    simp only [Act.put, zq1, zq2, zq3]
    refine pl M (y_fa (r := 7) rfl rfl rfl Try.underlying60 rfl Try.sizeOf3 rfl) ?_
    simp only [Act.put, zq1, zq2, zq3]
    refine pe rfl (fun K hK => ?_)
    refine e_store M 0 (v := .int .i64 (D.armed - 1)) rfl rfl rfl rfl rfl rfl Try.sizeOf3 rfl (show (7 : Nat) < 10 by decide) ?_
    intro w7 (M7 : Mem w _ w7 [blk p 60 ([.int .i64 D.reads, .int .i64 D.writes, .int .i64 D.syncs, .int .i64 (D.q.length : Int), .slice (some ⟨pg, 0, none⟩) D.pages.length D.pages.length, qv, .map (some mb), .int .i64 (D.armed - 1), .bool D.dead, .int .i64 D.epoch]), blk pg 92 (pagesC D.pages), lst 94 257 qv D.q.length (qC D.q), mapq mb D.q])
    clear M
    refine hK.out _ _ ?_
    clear hK K
    simp only [Act.put, zq1, zq2, zq3]
    refine wpList_nil ?_
    refine hK6 _ _ ?_
    clear hK6
    refine wp_seq_k (fun K8 hK8 => ?_)
    refine wp_region_lit ?_
    refine pl M7 (y_move (v := .pointer (some ⟨p, 0, none⟩)) rfl rfl rfl) ?_
    simp only [Act.put, zq1, zq2, zq3]
    refine pl M7 (y_move (v := .pointer (some ⟨p, 0, none⟩)) rfl rfl rfl) ?_
    simp only [Act.put, zq1, zq2, zq3]
    refine pl M7 (y_nil rfl rfl rfl) ?_
    simp only [Act.put, zq1, zq2, zq3]
    refine pl M7 (y_fa (r := 7) rfl rfl rfl Try.underlying60 rfl Try.sizeOf3 rfl) ?_
    simp only [Act.put, zq1, zq2, zq3]
    refine pl M7 (y_load (v := .int .i64 (D.armed - 1)) rfl rfl rfl Try.isAgg3 (fun W hW => hW.get 0 rfl) (rfl)) ?_
    simp only [Act.put, zq1, zq2, zq3]
    refine pl M7 (y_eql rfl rfl rfl rfl rfl) ?_
    simp only [Act.put, zq1, zq2, zq3]
    refine pl M7 (y_nil rfl rfl rfl) ?_
    simp only [Act.put, zq1, zq2, zq3]
    refine pl M7 (y_fa (r := 8) rfl rfl rfl Try.underlying60 rfl Try.sizeOf4 rfl) ?_
    simp only [Act.put, zq1, zq2, zq3]
    refine pe rfl (fun K hK => ?_)
    refine e_store M7 0 (v := .bool (decide (D.armed - 1 = 0))) rfl rfl rfl rfl rfl rfl Try.sizeOf4 rfl (show (8 : Nat) < 10 by decide) ?_
    intro w9 (M9 : Mem w _ w9 [blk p 60 ([.int .i64 D.reads, .int .i64 D.writes, .int .i64 D.syncs, .int .i64 (D.q.length : Int), .slice (some ⟨pg, 0, none⟩) D.pages.length D.pages.length, qv, .map (some mb), .int .i64 (D.armed - 1), .bool (decide (D.armed - 1 = 0)), .int .i64 D.epoch]), blk pg 92 (pagesC D.pages), lst 94 257 qv D.q.length (qC D.q), mapq mb D.q])
    clear M7
    refine hK.out _ _ ?_
    clear hK K
    simp only [Act.put, zq1, zq2, zq3]
    refine wpList_nil ?_
    refine hK8 _ _ ?_
    clear hK8
    refine wp_seq_k (fun K10 hK10 => ?_)
    refine wp_seq_k (fun K11 hK11 => ?_)
    refine wp_region_lit ?_
    refine pl M9 (y_move (v := .pointer (some ⟨p, 0, none⟩)) rfl rfl rfl) ?_
    simp only [Act.put, zq1, zq2, zq3]
    refine pl M9 (y_nil rfl rfl rfl) ?_
    simp only [Act.put, zq1, zq2, zq3]
    refine pl M9 (y_fa (r := 8) rfl rfl rfl Try.underlying60 rfl Try.sizeOf4 rfl) ?_
    simp only [Act.put, zq1, zq2, zq3]
    rcases Bool.eq_false_or_eq_true (decide (D.armed - 1 = 0)) with h12 | h12
    · refine pl M9 (y_load (v := .bool true) rfl rfl rfl Try.isAgg4 (fun W hW => hW.get 0 rfl) (congrArg (fun b => some (Value.bool b)) h12)) ?_
      simp only [Act.put, zq1, zq2, zq3]
      refine wpList_nil ?_
      refine hK11 _ _ ?_
      clear hK11
      refine wp_cond_true rfl ?_
      refine wp_seq_k (fun K13 hK13 => ?_)
      refine wp_region_lit ?_
      refine pl M9 (y_assign (v := .int .i64 2) rfl rfl rfl) ?_
      simp only [Act.put, zq1, zq2, zq3]
      refine wpList_nil ?_
      refine hK13 _ _ ?_
      clear hK13
      refine wp_ret ?_
      try simp only [Exit.inBlock, Exit.then]
      refine bodyPost_ret (v := .int .i64 2) (res1 rfl rfl) rfl ?_
      have e0 := of_decide_eq_true h12
      have e1 : actD D = { D with armed := D.armed - 1, dead := decide (D.armed - 1 = 0) } := by
        unfold actD; rw [if_neg h4]; congr 1; exact decide_eq_decide.2 (by omega)
      have e2 : actE D = 2 := by unfold actE; rw [if_pos (by omega)]
      rw [e1, e2]
      exact ⟨rfl, disk_close (act_ok hok h4) M9⟩
    · refine pl M9 (y_load (v := .bool false) rfl rfl rfl Try.isAgg4 (fun W hW => hW.get 0 rfl) (congrArg (fun b => some (Value.bool b)) h12)) ?_
      simp only [Act.put, zq1, zq2, zq3]
      refine wpList_nil ?_
      refine hK11 _ _ ?_
      clear hK11
      refine wp_cond_false rfl ?_
      refine wp_skip ?_
      refine hK10 _ _ ?_
      clear hK10
      refine wp_seq_k (fun K14 hK14 => ?_)
      refine wp_region_lit ?_
      refine pl M9 (y_assign (v := .int .i64 0) rfl rfl rfl) ?_
      simp only [Act.put, zq1, zq2, zq3]
      refine wpList_nil ?_
      refine hK14 _ _ ?_
      clear hK14
      refine wp_ret ?_
      try simp only [Exit.inBlock, Exit.then]
      refine bodyPost_ret (v := .int .i64 0) (res1 rfl rfl) rfl ?_
      have e0 := of_decide_eq_false h12
      have e1 : actD D = { D with armed := D.armed - 1, dead := decide (D.armed - 1 = 0) } := by
        unfold actD; rw [if_neg h4]; congr 1; exact decide_eq_decide.2 (by omega)
      have e2 : actE D = 0 := by unfold actE; rw [if_neg (by omega)]
      rw [e1, e2]
      exact ⟨rfl, disk_close (act_ok hok h4) M9⟩
set_option maxRecDepth 100000 in
set_option maxHeartbeats 4000000 in
theorem has_any {D : DV} {p pg mb : Nat} {qv : Value} {w : World} (hM : Mem w (foots [disk D p pg mb qv]) w [disk D p pg mb qv]) (page : Int) : Calls Try.prog 55 #[.pointer (some ⟨p, 0, none⟩), .int .i64 page] w fun e w' => e = .returned (.bool (decide (D.has page))) ∧ Mem w (foots [disk D p pg mb qv]) w' [disk (D) p pg mb qv] := by
  obtain ⟨hok, M⟩ := disk_open hM
  clear hM
  go_enter Try.func55, Try.ntmps55
  refine wp_seq_k (fun K1 hK1 => ?_)
  refine wp_region_lit ?_
  refine pl M (y_assign (v := .bool false) rfl rfl rfl) ?_
  simp only [Act.put, zq1, zq2, zq3]
  refine wpList_nil ?_
  refine hK1 _ _ ?_
  clear hK1
  refine wp_seq_k (fun K2 hK2 => ?_)
  refine wp_region_lit ?_
  refine pl M (y_move (v := .int .i64 page) rfl rfl rfl) ?_
  simp only [Act.put, zq1, zq2, zq3]
  rcases Decidable.em ((0 : Int) ≤ page) with h3 | h3
  · refine pl M (y_geq (b := true) rfl rfl rfl rfl (decide_eq_true h3)) ?_
    simp only [Act.put, zq1, zq2, zq3]
    refine pl M (y_move (v := .bool true) rfl rfl rfl) ?_
    simp only [Act.put, zq1, zq2, zq3]
    refine pl M (y_move (v := .int .i64 page) rfl rfl rfl) ?_
    simp only [Act.put, zq1, zq2, zq3]
    refine pl M (y_move (v := .pointer (some ⟨p, 0, none⟩)) rfl rfl rfl) ?_
    simp only [Act.put, zq1, zq2, zq3]
    refine pl M (y_nil rfl rfl rfl) ?_
    simp only [Act.put, zq1, zq2, zq3]
    refine pl M (y_fa (r := 4) rfl rfl rfl Try.underlying60 rfl Try.sizeOf56 rfl) ?_
    simp only [Act.put, zq1, zq2, zq3]
    refine pl M (y_load (v := .slice (some ⟨pg, 0, none⟩) D.pages.length D.pages.length) rfl rfl rfl Try.isAgg56 (fun W hW => hW.get 0 rfl) (rfl)) ?_
    simp only [Act.put, zq1, zq2, zq3]
    refine pl M (y_len rfl rfl rfl Try.underlying56) ?_
    simp only [Act.put, zq1, zq2, zq3]
    refine pl M (y_lss rfl rfl rfl rfl rfl) ?_
    simp only [Act.put, zq1, zq2, zq3]
    refine pl M (y_pickT (v := .bool (decide (page < (D.pages.length : Int)))) rfl rfl rfl rfl) ?_
    simp only [Act.put, zq1, zq2, zq3]
    refine pl M (y_assign (v := .bool (decide (page < (D.pages.length : Int)))) rfl rfl rfl) ?_
    simp only [Act.put, zq1, zq2, zq3]
    refine wpList_nil ?_
    refine hK2 _ _ ?_
    clear hK2
    refine wp_ret ?_
    try simp only [Exit.inBlock, Exit.then]
    refine bodyPost_ret (v := .bool (decide (page < (D.pages.length : Int)))) (res1 rfl rfl) rfl ?_
    have e : decide (page < (D.pages.length : Int)) = decide (D.has page) := decide_eq_decide.2 ⟨fun h => ⟨h3, h⟩, fun h => h.2⟩
    rw [e]
    exact ⟨rfl, disk_close hok M⟩
  · refine pl M (y_geq (b := false) rfl rfl rfl rfl (decide_eq_false h3)) ?_
    simp only [Act.put, zq1, zq2, zq3]
    refine pl M (y_move (v := .bool false) rfl rfl rfl) ?_
    simp only [Act.put, zq1, zq2, zq3]
    with_reducible refine pskip ?_ ?_
    · rfl
    simp only [Act.put, zq1, zq2, zq3]
    with_reducible refine pskip ?_ ?_
    · rfl
    simp only [Act.put, zq1, zq2, zq3]
    with_reducible refine pskip ?_ ?_
    · rfl
    simp only [Act.put, zq1, zq2, zq3]
    with_reducible refine pskip ?_ ?_
    · rfl
    simp only [Act.put, zq1, zq2, zq3]
    with_reducible refine pskip ?_ ?_
    · rfl
    simp only [Act.put, zq1, zq2, zq3]
    with_reducible refine pskip ?_ ?_
    · rfl
    simp only [Act.put, zq1, zq2, zq3]
    with_reducible refine pskip ?_ ?_
    · rfl
    simp only [Act.put, zq1, zq2, zq3]
    refine pl M (y_pickF (v := .bool false) rfl rfl rfl rfl) ?_
    simp only [Act.put, zq1, zq2, zq3]
    refine pl M (y_assign (v := .bool false) rfl rfl rfl) ?_
    simp only [Act.put, zq1, zq2, zq3]
    refine wpList_nil ?_
    refine hK2 _ _ ?_
    clear hK2
    refine wp_ret ?_
    try simp only [Exit.inBlock, Exit.then]
    refine bodyPost_ret (v := .bool false) (res1 rfl rfl) rfl ?_
    have e : decide (D.has page) = false := decide_eq_false fun h => h3 h.1
    rw [e]
    exact ⟨rfl, disk_close hok M⟩
set_option maxRecDepth 100000 in
set_option maxHeartbeats 4000000 in
theorem claim_any {D : DV} {p pg mb : Nat} {qv : Value} {w : World} (hM : Mem w (foots [disk D p pg mb qv]) w [disk D p pg mb qv])  : Calls Try.prog 38 #[.pointer (some ⟨p, 0, none⟩)] w fun e w' => e = .returned (.int .i64 (claimD D).epoch) ∧ Mem w (foots [disk D p pg mb qv]) w' [disk (claimD D) p pg mb qv] := by
  obtain ⟨hok, M⟩ := disk_open hM
  clear hM
  go_enter Try.func38, Try.ntmps38
  refine wp_seq_k (fun K1 hK1 => ?_)
  refine wp_region_lit ?_
  refine pl M (y_assign (v := .int .i64 0) rfl rfl rfl) ?_
  simp only [Act.put, zq1, zq2, zq3]
  refine wpList_nil ?_
  refine hK1 _ _ ?_
  clear hK1
  refine wp_seq_k (fun K2 hK2 => ?_)
  refine wp_region_lit ?_
  refine pl M (y_move (v := .pointer (some ⟨p, 0, none⟩)) rfl rfl rfl) ?_
  simp only [Act.put, zq1, zq2, zq3]
  refine pl M (y_nil rfl rfl rfl) ?_
  simp only [Act.put, zq1, zq2, zq3]
  refine pl M (y_fa (r := 9) rfl rfl rfl Try.underlying60 rfl Try.sizeOf3 rfl) ?_
  simp only [Act.put, zq1, zq2, zq3]
  refine pl M (y_load (v := .int .i64 D.epoch) rfl rfl rfl Try.isAgg3 (fun W hW => hW.get 0 rfl) (rfl)) ?_
  simp only [Act.put, zq1, zq2, zq3]
  refine pl M (y_addw rfl rfl rfl rfl) ?_
  simp only [Act.put, zq1, zq2, zq3]
  refine pl M (y_nil rfl rfl rfl) ?_
  simp only [Act.put, zq1, zq2, zq3]
  refine pl M (y_fa (r := 9) rfl rfl rfl Try.underlying60 rfl Try.sizeOf3 rfl) ?_
  simp only [Act.put, zq1, zq2, zq3]
  refine pe rfl (fun K hK => ?_)
  refine e_store M 0 (v := .int .i64 (wrap64 (D.epoch + 1))) rfl rfl rfl rfl rfl rfl Try.sizeOf3 rfl (show (9 : Nat) < 10 by decide) ?_
  intro w3 (M3 : Mem w _ w3 [blk p 60 ([.int .i64 D.reads, .int .i64 D.writes, .int .i64 D.syncs, .int .i64 (D.q.length : Int), .slice (some ⟨pg, 0, none⟩) D.pages.length D.pages.length, qv, .map (some mb), .int .i64 D.armed, .bool D.dead, .int .i64 (wrap64 (D.epoch + 1))]), blk pg 92 (pagesC D.pages), lst 94 257 qv D.q.length (qC D.q), mapq mb D.q])
  clear M
  refine hK.out _ _ ?_
  clear hK K
  simp only [Act.put, zq1, zq2, zq3]
  refine wpList_nil ?_
  refine hK2 _ _ ?_
  clear hK2
  refine wp_seq_k (fun K4 hK4 => ?_)
  refine wp_region_lit ?_
  refine pl M3 (y_move (v := .pointer (some ⟨p, 0, none⟩)) rfl rfl rfl) ?_
  simp only [Act.put, zq1, zq2, zq3]
  refine pl M3 (y_nil rfl rfl rfl) ?_
  simp only [Act.put, zq1, zq2, zq3]
  refine pl M3 (y_fa (r := 9) rfl rfl rfl Try.underlying60 rfl Try.sizeOf3 rfl) ?_
  simp only [Act.put, zq1, zq2, zq3]
  refine pl M3 (y_load (v := .int .i64 (wrap64 (D.epoch + 1))) rfl rfl rfl Try.isAgg3 (fun W hW => hW.get 0 rfl) (rfl)) ?_
  simp only [Act.put, zq1, zq2, zq3]
  refine pl M3 (y_assign (v := .int .i64 (wrap64 (D.epoch + 1))) rfl rfl rfl) ?_
  simp only [Act.put, zq1, zq2, zq3]
  refine wpList_nil ?_
  refine hK4 _ _ ?_
  clear hK4
  refine wp_ret ?_
  try simp only [Exit.inBlock, Exit.then]
  refine bodyPost_ret (v := .int .i64 (wrap64 (D.epoch + 1))) (res1 rfl rfl) rfl ?_
  exact ⟨rfl, disk_close ⟨hok.lo, hok.hi, hok.len, hok.qs, hok.arm, inI_wrap _⟩ M3⟩
set_option maxRecDepth 100000 in
set_option maxHeartbeats 4000000 in
theorem epoch_any {D : DV} {p pg mb : Nat} {qv : Value} {w : World} (hM : Mem w (foots [disk D p pg mb qv]) w [disk D p pg mb qv])  : Calls Try.prog 17 #[.pointer (some ⟨p, 0, none⟩)] w fun e w' => e = .returned (.int .i64 D.epoch) ∧ Mem w (foots [disk D p pg mb qv]) w' [disk (D) p pg mb qv] := by
  obtain ⟨hok, M⟩ := disk_open hM
  clear hM
  go_enter Try.func17, Try.ntmps17
  refine wp_seq_k (fun K1 hK1 => ?_)
  refine wp_region_lit ?_
  refine pl M (y_assign (v := .int .i64 0) rfl rfl rfl) ?_
  simp only [Act.put, zq1, zq2, zq3]
  refine wpList_nil ?_
  refine hK1 _ _ ?_
  clear hK1
  refine wp_seq_k (fun K2 hK2 => ?_)
  refine wp_region_lit ?_
  refine pl M (y_move (v := .pointer (some ⟨p, 0, none⟩)) rfl rfl rfl) ?_
  simp only [Act.put, zq1, zq2, zq3]
  refine pl M (y_nil rfl rfl rfl) ?_
  simp only [Act.put, zq1, zq2, zq3]
  refine pl M (y_fa (r := 9) rfl rfl rfl Try.underlying60 rfl Try.sizeOf3 rfl) ?_
  simp only [Act.put, zq1, zq2, zq3]
  refine pl M (y_load (v := .int .i64 D.epoch) rfl rfl rfl Try.isAgg3 (fun W hW => hW.get 0 rfl) (rfl)) ?_
  simp only [Act.put, zq1, zq2, zq3]
  refine pl M (y_assign (v := .int .i64 D.epoch) rfl rfl rfl) ?_
  simp only [Act.put, zq1, zq2, zq3]
  refine wpList_nil ?_
  refine hK2 _ _ ?_
  clear hK2
  refine wp_ret ?_
  try simp only [Exit.inBlock, Exit.then]
  refine bodyPost_ret (v := .int .i64 D.epoch) (res1 rfl rfl) rfl ?_
  exact ⟨rfl, disk_close hok M⟩
set_option maxRecDepth 100000 in
set_option maxHeartbeats 4000000 in
theorem power_any {D : DV} {p pg mb : Nat} {qv : Value} {w : World} (hM : Mem w (foots [disk D p pg mb qv]) w [disk D p pg mb qv])  : Calls Try.prog 42 #[.pointer (some ⟨p, 0, none⟩)] w fun e w' => e = .returned (.bool (!D.dead)) ∧ Mem w (foots [disk D p pg mb qv]) w' [disk (D) p pg mb qv] := by
  obtain ⟨hok, M⟩ := disk_open hM
  clear hM
  go_enter Try.func42, Try.ntmps42
  refine wp_seq_k (fun K1 hK1 => ?_)
  refine wp_region_lit ?_
  refine pl M (y_assign (v := .bool false) rfl rfl rfl) ?_
  simp only [Act.put, zq1, zq2, zq3]
  refine wpList_nil ?_
  refine hK1 _ _ ?_
  clear hK1
  refine wp_seq_k (fun K2 hK2 => ?_)
  refine wp_region_lit ?_
  refine pl M (y_move (v := .pointer (some ⟨p, 0, none⟩)) rfl rfl rfl) ?_
  simp only [Act.put, zq1, zq2, zq3]
  refine pl M (y_nil rfl rfl rfl) ?_
  simp only [Act.put, zq1, zq2, zq3]
  refine pl M (y_fa (r := 8) rfl rfl rfl Try.underlying60 rfl Try.sizeOf4 rfl) ?_
  simp only [Act.put, zq1, zq2, zq3]
  refine pl M (y_load (v := .bool D.dead) rfl rfl rfl Try.isAgg4 (fun W hW => hW.get 0 rfl) (rfl)) ?_
  simp only [Act.put, zq1, zq2, zq3]
  refine pl M (y_not rfl rfl rfl rfl) ?_
  simp only [Act.put, zq1, zq2, zq3]
  refine pl M (y_assign (v := .bool (!D.dead)) rfl rfl rfl) ?_
  simp only [Act.put, zq1, zq2, zq3]
  refine wpList_nil ?_
  refine hK2 _ _ ?_
  clear hK2
  refine wp_ret ?_
  try simp only [Exit.inBlock, Exit.then]
  refine bodyPost_ret (v := .bool (!D.dead)) (res1 rfl rfl) rfl ?_
  exact ⟨rfl, disk_close hok M⟩
set_option maxRecDepth 100000 in
set_option maxHeartbeats 4000000 in
theorem pages_any {D : DV} {p pg mb : Nat} {qv : Value} {w : World} (hM : Mem w (foots [disk D p pg mb qv]) w [disk D p pg mb qv])  : Calls Try.prog 24 #[.pointer (some ⟨p, 0, none⟩)] w fun e w' => e = .returned (.int .i64 (D.pages.length : Int)) ∧ Mem w (foots [disk D p pg mb qv]) w' [disk (D) p pg mb qv] := by
  obtain ⟨hok, M⟩ := disk_open hM
  clear hM
  go_enter Try.func24, Try.ntmps24
  refine wp_seq_k (fun K1 hK1 => ?_)
  refine wp_region_lit ?_
  refine pl M (y_assign (v := .int .i64 0) rfl rfl rfl) ?_
  simp only [Act.put, zq1, zq2, zq3]
  refine wpList_nil ?_
  refine hK1 _ _ ?_
  clear hK1
  refine wp_seq_k (fun K2 hK2 => ?_)
  refine wp_region_lit ?_
  refine pl M (y_move (v := .pointer (some ⟨p, 0, none⟩)) rfl rfl rfl) ?_
  simp only [Act.put, zq1, zq2, zq3]
  refine pl M (y_nil rfl rfl rfl) ?_
  simp only [Act.put, zq1, zq2, zq3]
  refine pl M (y_fa (r := 4) rfl rfl rfl Try.underlying60 rfl Try.sizeOf56 rfl) ?_
  simp only [Act.put, zq1, zq2, zq3]
  refine pl M (y_load (v := .slice (some ⟨pg, 0, none⟩) D.pages.length D.pages.length) rfl rfl rfl Try.isAgg56 (fun W hW => hW.get 0 rfl) (rfl)) ?_
  simp only [Act.put, zq1, zq2, zq3]
  refine pl M (y_len rfl rfl rfl Try.underlying56) ?_
  simp only [Act.put, zq1, zq2, zq3]
  refine pl M (y_assign (v := .int .i64 (D.pages.length : Int)) rfl rfl rfl) ?_
  simp only [Act.put, zq1, zq2, zq3]
  refine wpList_nil ?_
  refine hK2 _ _ ?_
  clear hK2
  refine wp_ret ?_
  try simp only [Exit.inBlock, Exit.then]
  refine bodyPost_ret (v := .int .i64 (D.pages.length : Int)) (res1 rfl rfl) rfl ?_
  exact ⟨rfl, disk_close hok M⟩
end Go.Proofs.Ytehnnnohoaapdaa
