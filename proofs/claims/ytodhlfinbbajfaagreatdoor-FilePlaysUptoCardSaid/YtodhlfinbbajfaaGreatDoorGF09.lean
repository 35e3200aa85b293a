/- Texts joined. -/
import Derived.Test.YtodhlfinbbajfaaGreatDoorGF04
import Derived.Test.YtodhlfinbbajfaaGreatDoorGF06
import Derived.Test.YtodhlfinbbajfaaGreatDoorGF08
import Derived.Test.YtodhlfinbbajfaaGreatDoorGF03
import Derived.Test.YtodhlfinbbajfaaGreatDoorGF05
namespace Go.Proofs.YtodhlfinbbajfaaGreatDoor
open Go Go.RowKit
set_option linter.unusedVariables false
set_option linter.unusedSimpArgs false
set_option linter.unusedSectionVars false
set_option maxRecDepth 100000
set_option maxHeartbeats 40000000
structure Ev where
  kind : Nat
  page : Nat
  bit : Nat
  data : List UInt8
  pat : UInt32
def evD (D : DV) (e : Ev) : DV :=
  if e.kind = 1 then Jeg D (e.page : Int) e.data
  else if e.kind = 2 then Jin D
  else if e.kind = 3 then { D with pages := Ja1 D.pages (D.q.zip e.data), q := [] }
  else { D with pages := D.pages.set e.page (Jf2 (2048 - e.bit) (D.pg e.page) e.bit e.pat) }
def Jb4 (ps : List (List UInt8)) (log : List Ev) : DV := log.foldl evD ⟨ps, [], 0, false, 0, 0, 0, 0⟩
def EvOk (n : Nat) (e : Ev) : Prop :=
  (e.kind = 1 ∧ e.page < n ∧ e.data.length = 256) ∨ (e.kind = 2 ∧ e.page ≤ 4096 ∧ e.data.length ≤ 1099511627776) ∨ (e.kind = 3 ∧ e.page ≤ 4096 ∧ e.data.length ≤ 1099511627776) ∨ (e.kind = 4 ∧ e.page < n ∧ e.bit < 2048 ∧ e.data.length ≤ 1099511627776)
theorem Jj8 (ps : List (List UInt8)) (log : List Ev) (e : Ev) : Jb4 ps (log ++ [e]) = evD (Jb4 ps log) e := by unfold Jb4; rw [List.foldl_append]; rfl
theorem Jsc (ps : List (List UInt8)) (log : List Ev) {i : Nat} (h : i < log.length) : Jb4 ps (log.take (i + 1)) = evD (Jb4 ps (log.take i)) log[i] := by
 rw [List.take_succ_eq_append_getElem h, Jj8]
structure PlayOk (n : Nat) (E : DV) : Prop where
  len : E.pages.length = n
  each : ∀ p ∈ E.pages, p.length = 256
  qs : ∀ x ∈ E.q, x.1 < n ∧ x.2.length = 256
theorem Jzk {n : Nat} {E : DV} (h : PlayOk n E) {e : Ev} (he : EvOk n e) : PlayOk n (evD E e) := by
 have h12 : ¬ (2 : Nat) = 1 := by decide
 rcases he with ⟨h1, h2, h3⟩ | ⟨h1, _⟩ | ⟨h1, _⟩ | ⟨h1, h2, h3, _⟩ <;> unfold evD <;> rw [h1]
 ·rw [if_pos rfl];refine ⟨h.len, h.each, fun x hx => ?_⟩;rcases List.mem_append.1 hx with hx | hx
  ·exact h.qs x hx
  ·obtain rfl : x = _ := by simpa using hx
   exact ⟨by simpa using h2, h3⟩
 ·rw [if_neg (by decide), if_pos rfl];exact ⟨(Jc0 _ _).trans h.len, Jgr h.each E.q fun x hx => (h.qs x hx).2, fun x hx => by cases hx⟩
 ·rw [if_neg (by decide), if_neg (by decide), if_pos rfl];refine ⟨(Jca _ _).trans h.len, Jgs h.each _ fun x hx => ?_, fun x hx => by cases hx⟩;have := h.qs x.1 (List.of_mem_zip (a := x.1) (b := x.2) hx).1;exact ⟨by rw [h.len]; exact this.1, this.2⟩
 ·rw [if_neg (by decide), if_neg (by decide), if_neg (by decide)];refine ⟨(List.length_set ..).trans h.len, Jf6 h.each ?_, h.qs⟩;rw [Jje];exact Jb6 h.each (by rw [h.len]; exact h2)
theorem Jue {n : Nat} {ps : List (List UInt8)} (hl : ps.length = n) (hp : ∀ p ∈ ps, p.length = 256) : ∀ (log : List Ev), (∀ e ∈ log, EvOk n e) → PlayOk n (Jb4 ps log) := by
 refine Je2 (fun _ => ⟨hl, hp, fun x hx => by cases hx⟩) fun q x ih h => ?_;rw [Jj8];exact Jzk (ih fun e he => h e (List.mem_append_left _ he)) (h x (by simp))
def noWr : Wr := (0, [])
def qAt : List Wr → Nat → List Nat := fun q p => (q.zipIdx.filter fun x => decide (x.1.1 = p)).map (·.2)
theorem Jjq (q : List Wr) (x : Wr) (p : Nat) : qAt (q ++ [x]) p = qAt q p ++ (if x.1 = p then [q.length] else []) := by
 unfold qAt;rw [List.zipIdx_append, List.filter_append, List.map_append];congr 1;by_cases h : x.1 = p <;> simp [h]
theorem Juf (p : Nat) : ∀ (q : List Wr), ∀ i ∈ qAt q p, i < q.length := by
 refine Je2 (fun i h => by cases h) fun q x ih i h => ?_;rw [Jjq] at h;rw [List.length_append, List.length_singleton];rcases List.mem_append.1 h with h | h
 ·have := ih i h; omega
 ·split at h
  ·have : i = q.length := by simpa using h
   omega
  ·cases h
theorem Jfy {q : List Wr} {x : Wr} {i : Nat} (h : i < q.length) : (q ++ [x]).getD i noWr = q.getD i noWr := by
 rw [List.getD_eq_getElem?_getD, List.getElem?_append_left h, List.getD_eq_getElem?_getD]
theorem Jhu (q : List Wr) (x : Wr) : (q ++ [x]).getD q.length noWr = x := by
 rw [List.getD_eq_getElem?_getD, List.getElem?_append_right (Nat.le_refl _), Nat.sub_self]; rfl
theorem Jj9 {α β : Type} {f g : β → α → β} : ∀ (l : List α), (∀ b, ∀ x ∈ l, f b x = g b x) → ∀ b, l.foldl f b = l.foldl g b
  | [], _, _ => rfl
  | x :: l, h, b => by
    rw [List.foldl_cons, List.foldl_cons, h b x (List.mem_cons_self ..)]
    exact Jj9 l (fun b y hy => h b y (List.mem_cons_of_mem _ hy)) _
def curJ (q : List Wr) (b : List UInt8) (l : List Nat) : List UInt8 := l.foldl (fun _ i => (q.getD i noWr).2) b
theorem Jno (b : List UInt8) (p : Nat) : ∀ q : List Wr, curJ q b (qAt q p) = curP b q p := by
 refine Je2 rfl fun q x ih => ?_;rw [Jjq, Jjl];unfold curJ at ih ⊢;rw [List.foldl_append];have e : (qAt q p).foldl (fun _ i => ((q ++ [x]).getD i noWr).2) b = (qAt q p).foldl (fun _ i => (q.getD i noWr).2) b := Jj9 _ (fun _ i hi => by rw [Jfy (Juf p q i hi)]) b;split
 ·show ((q ++ [x]).getD q.length noWr).2 = _;rw [Jhu]
 ·rw [List.foldl_nil, e, ih]
theorem Jug (q : List Wr) (b : List UInt8) (l : List Nat) {j : Nat} (h : j < l.length) : curJ q b (l.take (j + 1)) = (q.getD l[j] noWr).2 := by
 unfold curJ;rw [List.take_succ_eq_append_getElem h, List.foldl_append]; rfl
theorem Ji0 {ps : List (List UInt8)} {i : Nat} (x : List UInt8) (h : i < ps.length) : (ps.set i x).getD i [] = x := by
 rw [List.getD_eq_getElem?_getD, List.getElem?_set_self h]; rfl
theorem Ji1 {ps : List (List UInt8)} {i j : Nat} (x : List UInt8) (h : i ≠ j) : (ps.set i x).getD j [] = ps.getD j [] := by
 rw [List.getD_eq_getElem?_getD, List.getElem?_set_ne h, List.getD_eq_getElem?_getD]
theorem Juh {ps : List (List UInt8)} {p : Nat} (hp : p < ps.length) : ∀ q : List Wr, (Jcp ps q).getD p [] = curP (ps.getD p []) q p := by
 refine Je2 rfl fun q x ih => ?_;rw [Jgq, Jjl];by_cases h : x.1 = p
 ·rw [if_pos h, h, Ji0 _ (by rw [Jc0]; exact hp)]
 ·rw [if_neg h, Ji1 _ h, ih]
def crJ (q : List Wr) (fs : List UInt8) (b : List UInt8) (l : List Nat) : List UInt8 := l.foldl (fun a i => if i < fs.length then mixS (fs.getD i 0) (q.getD i noWr).2 a 4 else a) b
theorem Jwk (q : List Wr) (fs b : List UInt8) (l : List Nat) {j : Nat} (h : j < l.length) : crJ q fs b (l.take (j + 1)) = if l[j] < fs.length then mixS (fs.getD l[j] 0) (q.getD l[j] noWr).2 (crJ q fs b (l.take j)) 4 else crJ q fs b (l.take j) := by
 unfold crJ;rw [List.take_succ_eq_append_getElem h, List.foldl_append]; rfl
theorem Jwl (q : List Wr) (x : Wr) (fs : List UInt8) : (q ++ [x]).zip fs = q.zip fs ++ (if q.length < fs.length then [(x, fs.getD q.length 0)] else []) := by
 induction q generalizing fs with
 | nil => cases fs <;> simp
 | cons y q ih =>
   cases fs with
   | nil => simp
   | cons f fs =>
     simp only [List.cons_append, List.zip_cons_cons, ih fs, List.length_cons, Nat.add_lt_add_iff_right, List.getD_cons_succ]
theorem Jwm {ps : List (List UInt8)} {p : Nat} (hp : p < ps.length) (fs : List UInt8) : ∀ q : List Wr, (Ja1 ps (q.zip fs)).getD p [] = crJ q fs (ps.getD p []) (qAt q p) := by
 refine Je2 rfl fun q x ih => ?_;rw [Jwl, Jjq];unfold crJ at ih ⊢;rw [List.foldl_append];have e : (qAt q p).foldl (fun a i => if i < fs.length then mixS (fs.getD i 0) ((q ++ [x]).getD i noWr).2 a 4 else a) (ps.getD p []) = (qAt q p).foldl (fun a i => if i < fs.length then mixS (fs.getD i 0) (q.getD i noWr).2 a 4 else a) (ps.getD p []) := Jj9 _ (fun _ i hi => by rw [Jfy (Juf p q i hi)]) _;rw [e, ← ih];by_cases hx : x.1 = p
 ·rw [if_pos hx, List.foldl_cons, List.foldl_nil, Jhu];split
  ·rw [Jfe];simp only;rw [hx, Ji0 _ (by rw [Jca]; exact hp)]
  ·rw [List.append_nil]
 ·rw [if_neg hx, List.foldl_nil];split
  ·rw [Jfe];simp only;rw [Ji1 _ hx]
  ·rw [List.append_nil]
theorem Jwn (f : UInt8) (new old : List UInt8) (j i : Nat) (hn : new.length = 256) (ho : old.length = 256) (hj : j < 4) (hi : i < 256) : (mix1 f new old j).getD i 0 = if f.toNat >>> j % 2 = 1 ∧ i / 64 = j then new.getD i 0 else old.getD i 0 := by
 unfold mix1;by_cases h : f.toNat >>> j % 2 = 1
 ·rw [if_pos h];have hm : ((new.drop (64 * j)).take 64).length = 64 := by rw [List.length_take, List.length_drop]; omega
  unfold splice;rw [List.getD_eq_getElem?_getD];by_cases h1 : i < 64 * j
  ·rw [if_neg (by omega), List.getElem?_append_left (by rw [List.length_take]; omega), List.getElem?_take, if_pos h1, List.getD_eq_getElem?_getD]
  ·have h64 : (old.take (64 * j)).length = 64 * j := by rw [List.length_take]; omega
   by_cases h2 : i < 64 * j + 64
   ·rw [if_pos ⟨h, by omega⟩, List.getElem?_append_right (by omega), h64, List.getElem?_append_left (by omega), List.getElem?_take, if_pos (by omega), List.getElem?_drop, List.getD_eq_getElem?_getD, show 64 * j + (i - 64 * j) = i by omega]
   ·rw [if_neg (by omega), List.getElem?_append_right (by omega), h64, List.getElem?_append_right (by omega), hm, List.getElem?_drop, List.getD_eq_getElem?_getD, show 64 * j + 64 + (i - 64 * j - 64) = i by omega]
 ·rw [if_neg h, if_neg (by omega)]
theorem Jwo (f : UInt8) (new old : List UInt8) (i : Nat) (hn : new.length = 256) (ho : old.length = 256) (hi : i < 256) : (mixS f new old 4).getD i 0 = if f.toNat / 2 ^ (i / 64) % 2 = 1 then new.getD i 0 else old.getD i 0 := by
 have key : ∀ k, k ≤ 4 → (mixS f new old k).getD i 0 = if f.toNat / 2 ^ (i / 64) % 2 = 1 ∧ i / 64 < k then new.getD i 0 else old.getD i 0 := by
   intro k;induction k with
   | zero => intro _; rw [if_neg (by omega)]; rfl
   | succ k ih =>
     intro hk;rw [Jjb, Jwn f new _ k i hn (Jdj f new old hn ho k (by omega)) (by omega) hi, ih (by omega), Nat.shiftRight_eq_div_pow];by_cases h1 : i / 64 = k
     ·subst h1;by_cases h2 : f.toNat / 2 ^ (i / 64) % 2 = 1
      ·rw [if_pos ⟨h2, rfl⟩, if_pos ⟨h2, by omega⟩]
      ·rw [if_neg (fun h => h2 h.1), if_neg (fun h => h2 h.1), if_neg (fun h => h2 h.1)]
     ·rw [if_neg (fun h => h1 h.2)];by_cases h2 : f.toNat / 2 ^ (i / 64) % 2 = 1 ∧ i / 64 < k
      ·rw [if_pos h2, if_pos ⟨h2.1, by omega⟩]
      ·rw [if_neg h2, if_neg (fun h => h2 ⟨h.1, by omega⟩)]
 rw [key 4 (Nat.le_refl _)];by_cases h2 : f.toNat / 2 ^ (i / 64) % 2 = 1
 ·rw [if_pos ⟨h2, by omega⟩, if_pos h2]
 ·rw [if_neg (fun h => h2 h.1), if_neg h2]
def Jka (f : UInt8) (new old : List UInt8) (i : Nat) : List UInt8 := (mixS f new old 4).take i ++ old.drop i
theorem Jow (f : UInt8) (new old : List UInt8) (i : Nat) (hn : new.length = 256) (ho : old.length = 256) (hi : i ≤ 256) : (Jka f new old i).length = 256 := by
 unfold Jka;rw [List.length_append, List.length_take, List.length_drop, Jdj f new old hn ho 4 (Nat.le_refl _)]; omega
theorem Jms (f : UInt8) (new old : List UInt8) (i : Nat) (hn : new.length = 256) (ho : old.length = 256) (hi : i < 256) : Jka f new old (i + 1) = if f.toNat / 2 ^ (i / 64) % 2 = 1 then (Jka f new old i).set i (new.getD i 0) else Jka f new old i := by
 have hl := Jdj f new old hn ho 4 (Nat.le_refl _);unfold Jka;rw [← Jc4 (l := mixS f new old 4) (i := i) (by omega), Jwo f new old i hn ho hi, List.append_assoc]
 have e : old.drop i = old.getD i 0 :: old.drop (i + 1) := by
   rw [List.drop_eq_getElem_cons (by omega), List.getD_eq_getElem?_getD, List.getElem?_eq_getElem (show i < old.length by omega)]; rfl
 have ht : ((mixS f new old 4).take i).length = i := by rw [List.length_take]; omega
 split
 ·rw [e, List.set_append_right _ _ (by omega), ht, Nat.sub_self]; rfl
 ·rw [e]; rfl
theorem Jui (f : UInt8) (new old : List UInt8) (hn : new.length = 256) (ho : old.length = 256) : Jka f new old 256 = mixS f new old 4 := by
 unfold Jka;rw [List.take_of_length_le (by rw [Jdj f new old hn ho 4 (Nat.le_refl _)]; decide), List.drop_of_length_le (by omega), List.append_nil]
def Jhv (l : List UInt8) (i : Nat) (b : UInt32) : List UInt8 := if b = 1 ∧ i < 2048 then l.set (i / 8) (l.getD (i / 8) 0 ^^^ ((1 : UInt8) <<< UInt8.ofNat (i % 8))) else l
def Jko : Nat → List UInt8 → Nat → UInt32 → List UInt8
  | 0, l, _, _ => l
  | n + 1, l, i, x => Jko n (Jhv l i (x &&& 1)) (i + 1) (x >>> 1)
theorem Juj (l : List UInt8) (i : Nat) (b : UInt32) : (Jhv l i b).length = l.length := by
 unfold Jhv;split
 ·rw [List.length_set]
 ·rfl
theorem Jmt : ∀ (n : Nat) (l : List UInt8) (i : Nat), Jko n l i 0 = l
  | 0, _, _ => rfl
  | n + 1, l, i => by
    show Jko n (Jhv l i (0 &&& 1)) (i + 1) ((0 : UInt32) >>> 1) = l
    have e : Jhv l i (0 &&& 1) = l := if_neg (fun h => absurd h.1 (by decide))
    rw [e, show (0 : UInt32) >>> 1 = 0 by decide, Jmt n]
theorem Jox : ∀ (n : Nat) (l : List UInt8) (i : Nat) (x : UInt32), 2048 ≤ i → Jko n l i x = l
  | 0, _, _, _, _ => rfl
  | n + 1, l, i, x, h => by
    show Jko n (Jhv l i (x &&& 1)) (i + 1) (x >>> 1) = l
    have e : Jhv l i (x &&& 1) = l := if_neg (fun h' => by omega)
    rw [e, Jox n l (i + 1) _ (by omega)]
theorem Jmu : ∀ (n : Nat) (l : List UInt8) (i : Nat), Jf2 n l i 0 = l
  | 0, _, _ => rfl
  | n + 1, l, i => if_pos rfl
theorem Jwp (l : List UInt8) (i : Nat) : l.set i (l.getD i 0 ^^^ 0) = l := by
 rw [UInt8.xor_zero];by_cases h : i < l.length
 ·rw [List.getD_eq_getElem?_getD, List.getElem?_eq_getElem h];exact List.set_getElem_self h
 ·exact List.set_eq_of_length_le (by omega)
theorem Jmv : ∀ (n : Nat) (l : List UInt8) (i : Nat) (x : UInt32), n ≤ 32 → x.toNat < 2 ^ n → Jko n l i x = Jf2 (2048 - i) l i x
  | 0, l, i, x, _, h => by
    have : x = 0 := by apply UInt32.toNat_inj.1; have h2 : (0 : UInt32).toNat = 0 := rfl; rw [Nat.pow_zero] at h; omega
    rw [this, Jmu]; rfl
  | n + 1, l, i, x, hn, h => by
    rcases Nat.lt_or_ge i 2048 with hi | hi
    · by_cases h0 : x = 0
      · rw [h0, Jmt, Jmu]
      · have hs := Jfg x 1 (by decide)
        rw [show (x >>> UInt32.ofNat 1) = x >>> 1 from rfl, Nat.pow_one] at hs
        rw [show 2048 - i = (2048 - (i + 1)) + 1 by omega]
        show Jko n (Jhv l i (x &&& 1)) (i + 1) (x >>> 1) = if x = 0 then l else Jf2 (2048 - (i + 1)) (l.set (i / 8) (l.getD (i / 8) 0 ^^^ ((x &&& 1).toUInt8 <<< UInt8.ofNat (i % 8)))) (i + 1) (x >>> 1)
        rw [if_neg h0, Jmv n _ (i + 1) (x >>> 1) (by omega) (by rw [hs]; rw [Nat.pow_succ] at h; omega)]
        congr 1
        unfold Jhv
        rcases Jhf x with hb | hb
        · rw [hb, if_neg (fun h => absurd h.1 (by decide)), show (0 : UInt32).toUInt8 <<< UInt8.ofNat (i % 8) = 0 by rw [show (0 : UInt32).toUInt8 = 0 by decide]; exact UInt8.zero_shiftLeft, Jwp]
        · rw [hb, if_pos ⟨rfl, hi⟩]; rfl
    · rw [Jox _ _ _ _ hi, show 2048 - i = 0 by omega]; rfl
structure RX where
  ps : List (List UInt8)
  log : List Ev
  bv : Value
  lv : Value
  vs : List Value
def evC (v : Value) (e : Ev) : List Value := [.int .i64 (e.kind : Int), .int .i64 (e.page : Int), .int .i64 (e.bit : Int), v, .int .u32 (e.pat.toNat : Int)]
def evsC (vs : List Value) (log : List Ev) : List Value := (List.zipWith evC vs log).flatten
theorem Juk {vs : List Value} {log : List Ev} (h : vs.length = log.length) (v : Value) (e : Ev) : evsC (vs ++ [v]) (log ++ [e]) = evsC vs log ++ evC v e := by
 unfold evsC;rw [List.zipWith_append h, List.flatten_append]; simp
theorem Jul : ∀ {vs : List Value} {log : List Ev} {i : Nat}, vs.length = log.length → ∀ (h : i < log.length) (hv : i < vs.length), ((evsC vs log).drop (i * 5)).take 5 = evC vs[i] log[i]
  | v :: vs, e :: log, 0, _, _, _ => rfl
  | v :: vs, e :: log, i + 1, hl, h, hv => by
    have ih := Jul (vs := vs) (log := log) (i := i) (by simpa using hl) (by simpa using h) (by simpa using hv)
    rw [show (i + 1) * 5 = 5 + i * 5 by omega, ← List.drop_drop]
    exact ih
structure RDOk (D : DV) (X : RX) : Prop where
  ok : DOk D
  psl : X.ps.length = D.pages.length
  pse : ∀ p ∈ X.ps, p.length = 256
  ev : ∀ e ∈ X.log, EvOk D.pages.length e
  vsl : X.vs.length = X.log.length
  core : (Jb4 X.ps X.log).pages = D.pages ∧ (Jb4 X.ps X.log).q = D.q ∧ (Jb4 X.ps X.log).writes = D.writes ∧ (Jb4 X.ps X.log).syncs = D.syncs
def rC (D : DV) (X : RX) : List Value := [X.bv, X.lv, .int .i64 D.armed, .bool D.dead, .int .i64 D.epoch, .int .i64 D.reads]
def rdL (D : DV) (r : Nat) (X : RX) : List Asn := [blk r 134 (rC D X), lst 5 1 X.bv (256 * X.ps.length) (bvs X.ps.flatten), lst 142 5 X.lv X.log.length (evsC X.vs X.log), Ja3 X.vs (X.log.map Ev.data)]
def Jai (D : DV) (r : Nat) (X : RX) : Asn := star (RDOk D X) (rdL D r X)
section
variable {w0 w : World} {F : List Nat} {R : List Asn} {D : DV} {r : Nat} {X : RX}
theorem Jbz (h : Mem w0 F w (Jai D r X :: R)) : RDOk D X ∧ Mem w0 F w (blk r 134 (rC D X) :: lst 5 1 X.bv (256 * X.ps.length) (bvs X.ps.flatten) :: lst 142 5 X.lv X.log.length (evsC X.vs X.log) :: Ja3 X.vs (X.log.map Ev.data) :: R) := Mem.open h
theorem Jaq (hp : RDOk D X) (h : Mem w0 F w (blk r 134 (rC D X) :: lst 5 1 X.bv (256 * X.ps.length) (bvs X.ps.flatten) :: lst 142 5 X.lv X.log.length (evsC X.vs X.log) :: Ja3 X.vs (X.log.map Ev.data) :: R)) : Mem w0 F w (Jai D r X :: R) := Mem.close (X := rdL D r X) hp h
end
theorem Jfz {vs : List Value} {ls : List (List UInt8)} {w : World} (h : (Ja3 vs ls).holds w) (hv : vs.length = ls.length) {i : Nat} (hi : i < ls.length) :
    ∃ ao c, vs[i]? = some (.slice ao (ls.getD i []).length c) ∧ Row w ao (ls.getD i []).length (ls.getD i []) ∧ (ls.getD i []).length ≤ c ∧ c ≤ maxLen ∧ ((ao = none → (ls.getD i []).length = 0 ∧ c = 0)) ∧ ∀ b o, ao = some ⟨b, o, none⟩ → b ∈ (Ja3 vs ls).foot := by
 have h9 := h.2;have hiv : i < vs.length := by omega
 have hz : (Jkq vs ls)[i]? = some (Jed vs[i] ls[i]) := by
   unfold Jkq;rw [List.getElem?_zipWith, List.getElem?_eq_getElem hiv, List.getElem?_eq_getElem hi]
 have hm : Jed vs[i] ls[i] ∈ Jkq vs ls := List.mem_of_getElem? hz;have h3 : (Jed vs[i] ls[i]).holds w := h9 _ hm;have hg : ls.getD i [] = ls[i] := by rw [List.getD_eq_getElem?_getD, List.getElem?_eq_getElem hi]; rfl
 rw [hg, List.getElem?_eq_getElem hiv];rcases Jct h3 with ⟨e1, e2, e3⟩ | ⟨g2, c2, e1, e2, e3⟩
 ·refine ⟨none, 0, ?_, ?_, by omega, Nat.zero_le _, (fun _ => ⟨e2, rfl⟩), fun b o hb => by cases hb⟩
  ·rw [e1, e2]
  ·rw [List.eq_nil_of_length_eq_zero e2]; exact Row.nil
 ·refine ⟨some ⟨g2, 0, none⟩, c2, by rw [e1], ?_, e2, e3, (fun hb => by cases hb), fun b o hb => ?_⟩
  ·rw [e1] at h3; exact Jhi h3
  ·cases hb
   show g2 ∈ Jag (Jkq vs ls);refine Jde.2 ⟨_, hm, ?_⟩;show g2 ∈ obs _;rw [Jhm, e1]; rfl
theorem Jyi {ps : List (List UInt8)} (h : ∀ p ∈ ps, p.length = 256) {p : Nat} (hp : p < ps.length) : (ps.flatten.drop (256 * p)).take 256 = ps.getD p [] := by
 have e : ps.flatten = ps.flatMap id := by rw [List.flatMap_id]
 rw [e, Jh6 id 256 ps p (ps.getD p []) h (by rw [List.getD_eq_getElem?_getD, List.getElem?_eq_getElem hp]; rfl)]; rfl
theorem Jum {ps : List (List UInt8)} (h : ∀ p ∈ ps, p.length = 256) : ps.flatten.length = 256 * ps.length := by
 have e : ps.flatten = ps.flatMap id := by rw [List.flatMap_id]
 rw [e]; exact Jm8 id 256 ps h
section
variable {gT0 : TypeId}
theorem Jwb (ao : Option Addr) (n c : Nat) (l : List UInt8) {w : World} (hr : Row w ao n l) (hn : n ≤ 1099511627776) : zC 123 [.slice ao n c] w fun e w' => ∃ a c', e = .returned (.slice a (Jg1 l).length c') ∧ Mem w [] w' [lst 5 1 (.slice a (Jg1 l).length c') (Jg1 l).length (bvs (Jg1 l))] := by
 have M := Mem.nil w;go_enter Tryz.func123, Tryz.ntmps123;refine zk fun _ hK1 => zr ?_;refine zp 1 rfl (zw (hK1 _ _ (zk fun _ hK2 => zr (zp 1 rfl (zw (hK2 _ _ (zk fun _ hK3 => zk fun _ hK4 => zr (zp 1 rfl ?_))))))));simp only[Za,Zb,Zc];refine zw (hK4 _ _ (zbl ?_));refine wp_loop (fun a' w' => ∃ (i m : Nat) (av : Option Addr) (cv : Nat) (us5 : List Value), a' = (⟨#[.slice ao n c, undef, zN, .slice av m cv, zI (i : Int), (zU us5 0), (zU us5 1), (zU us5 2), (zU us5 3), (zU us5 4), (zU us5 5), (zU us5 6), (zU us5 7), (zU us5 8), (zU us5 9), (zU us5 10), (zU us5 11), (zU us5 12), (zU us5 13), (zU us5 14), (zU us5 15), (zU us5 16), (zU us5 17), (zU us5 18), (zU us5 19), (zU us5 20), (zU us5 21), undef], []⟩ : Act) ∧ (i ≤ n) ∧ (m = 8 * i) ∧ Mem w [] w' [lst 5 1 (.slice av m cv) m (bvs (Jg1 (l.take i)))]) (fun a' _ => n - (intOf (a'.tmps.getD 4 undef)).toNat) ⟨0, 0, none, 0, [_,_,_,_,_,_,_,_,_,_,_,_,_,_,_,_,_,_,_,_,_,_], rfl, Nat.zero_le _, rfl, (M.nilst 5 1)⟩ ?_;clear M;rintro a' w6 ⟨i, m, av, cv, us5, rfl, hi, hm, M6⟩;refine zk fun _ hK7 => zk fun _ hK8 => zr ?_;refine zp 2 rfl (zo M6 (Jbp rfl rfl rfl zu22) ?_);simp only[Za,Zb,Zc];rcases zem ((i : Int) < (n : Int)) with h9 | h9
 ·have hin : i < n := by omega
  obtain ⟨b, o, rfl⟩ := hr.at0 (by omega);refine zo M6 (zlss rfl (zT h9)) ?_;simp only[Za,Zb,Zc];refine zw (hK8 _ _ (zct rfl (zsk (hK7 _ _ (zk fun _ hK10 => ?_)))));refine zbl (zk fun _ hK11 => zr ?_);refine zp 1 rfl ?_;simp only[Za,Zb,Zc];refine zw (hK11 _ _ (zbl ?_));refine wp_loop (fun a' w' => ∃ (j m2 : Nat) (a2 : Option Addr) (c2 : Nat) (us12 : List Value), a' = (⟨#[.slice (some ⟨b, o, none⟩) n c, undef, zN, .slice a2 m2 c2, zI (i : Int), zI (j : Int), zI (i : Int), .slice (some ⟨b, o, none⟩) n c, zI (n : Int), .bool true, (zU us5 5), (zU us5 6), (zU us12 0), (zU us12 1), (zU us12 2), (zU us12 3), (zU us12 4), (zU us12 5), (zU us12 6), (zU us12 7), (zU us12 8), (zU us12 9), (zU us12 10), (zU us12 11), (zU us12 12), (zU us12 13), (zU us12 14), undef], []⟩ : Act) ∧ (j ≤ 8) ∧ (m2 = 8 * i + j) ∧ Mem w [] w' [lst 5 1 (.slice a2 m2 c2) m2 (bvs (Jg1 (l.take i) ++ (Jg0 (l.getD i 0)).take j))]) (fun a' _ => 8 - (intOf (a'.tmps.getD 5 undef)).toNat) ⟨0, m, av, cv, [_,_,_,_,_,_,_,_,_,_,_,_,_,_,_], rfl, by omega, by omega, (by rw [List.take_zero, List.append_nil]; exact M6)⟩ ?_;rintro a' w13 ⟨j, m2, a2, c2, us12, rfl, hj, hm2, M13⟩;refine zk fun _ hK14 => zk fun _ hK15 => zr ?_;refine zp 1 rfl ?_;simp only[Za,Zb,Zc];rcases zem ((j : Int) < 8) with h16 | h16
  ·have hj8 : j < 8 := by omega
   refine zo M13 (zlss rfl (zT h16)) ?_;simp only[Za,Zb,Zc];refine zw (hK15 _ _ (zct rfl (zsk (hK14 _ _ (zk fun _ hK17 => ?_)))));refine zbl (zr ?_);refine zp 3 rfl (zo M13 (Jbc (r := o + i) rfl rfl rfl rfl zu22 zz5 (by omega) (by omega)) (zo M13 (Jbd (v := .int .u8 ((l.getD i 0).toNat)) rfl rfl rfl zg5 (fun W hW => Row.cellD (hW.row hr (by simp)) (by omega))) (zp 1 rfl (zo M13 (Jcq (r := (j : Int)) rfl rfl rfl zu3 Jpi (Je1 (by omega))) (zo M13 (Jfn (r := .int .u8 (((l.getD i 0).toNat / 2 ^ j : Nat) : Int)) rfl rfl rfl rfl (Jzq _ _ hj8 _)) ?_)))));simp only[Za,Zb,Zc];refine zo M13 (Jfn (r := .int .u8 (((Jg0 (l.getD i 0)).getD j 0).toNat : Int)) rfl rfl rfl rfl (bit8 _ hj8)) ?_;simp only[Za,Zb,Zc];refine pe rfl fun K hK => Ja8 M13 ([.int .u8 (((Jg0 (l.getD i 0)).getD j 0).toNat : Int)]) (pv := [(0, .int .u8 (((Jg0 (l.getD i 0)).getD j 0).toNat : Int))]) rfl rfl zu22 zz5 z05 (by decide) (by kernel_rfl) ?_;intro g18 w19 (M19 : Mem w [] w19 [blk g18 5 ([.int .u8 (((Jg0 (l.getD i 0)).getD j 0).toNat : Int)]), lst 5 1 (.slice a2 m2 c2) m2 (bvs (Jg1 (l.take i) ++ (Jg0 (l.getD i 0)).take j))]);refine hK.out _ _ ?_;simp only[Ze,Zb,Zc,Zd];refine pe rfl fun K hK => Ja5 M19 1 Jd7 (by decide) (news := bvs [((Jg0 (l.getD i 0)).getD j 0)]) rfl rfl rfl rfl (rfl) (by intro h; cases h) (fun ad e j u hj => by cases e; match j with | 0 => cases hj; exact Jaj (M19.get 0 rfl) rfl | j + 1 => cases hj) (by intro u hu; cases hu with | head => rfl | tail _ h => cases h) (⟨by unfold maxLen; omega, by omega⟩) ?_;intro v20 w20 M20;replace M20 : Mem w [] w20 [blk g18 5 ([.int .u8 (((Jg0 (l.getD i 0)).getD j 0).toNat : Int)]), lst 5 1 v20 (m2 + 1) (bvs (Jg1 (l.take i) ++ (Jg0 (l.getD i 0)).take (j + 1)))] := (by have N := M20; rw [← Jci, List.append_assoc, Jc4 (by rw [Jhp]; exact hj8)] at N; exact N);obtain ⟨a20, c20, rfl⟩ := Jcj (M20.get 1 rfl);refine hK.out _ _ ?_;simp only[Ze,Zb,Zc,Zd];refine zp 1 rfl (zw (hK17 _ _ (zr (zp 1 rfl (zo M20 (Ja0 (r := (j : Int) + 1) rfl rfl rfl rfl (rfl) (by omega)) (zp 1 rfl ?_))))));simp only[Za,Zb,Zc];refine zw ?_;refine ⟨⟨j + 1, m2 + 1, a20, c20, [_,_,_,_,_,_,_,_,_,_,_,_,_,_,_], rfl, by omega, by omega, (M20.arr [1] (by decide))⟩, ?_⟩;simp [intOf]; omega
  ·have e8 : j = 8 := by omega
   rw [e8, List.take_of_length_le (l := Jg0 (l.getD i 0)) (by rw [Jhp]; decide), Ju2 l (by rw [hr.1]; exact hin)] at M13;refine zo M13 (zlss rfl (zF h16)) (zw (hK15 _ _ (zcf rfl (zx (hK10 _ _ (zr (zp 1 rfl (zo M13 (Ja0 (r := (i : Int) + 1) rfl rfl rfl rfl (rfl) (by omega)) (zp 1 rfl ?_)))))))));simp only[Za,Zb,Zc];refine zw ?_;refine ⟨⟨i + 1, m2, a2, c2, [_,_,_,_,_,_,_,_,_,_,_,_,_,_,_,_,_,_,_,_,_,_], rfl, by omega, by omega, (M13.arr [0] (by decide))⟩, ?_⟩;simp [intOf]; omega
 ·refine zo M6 (zlss rfl (zF h9)) ?_;simp only[Za,Zb,Zc];refine zw (hK8 _ _ (zcf rfl (zx (hK3 _ _ (zk fun _ hK21 => ?_)))));refine zr ?_;refine zp 2 rfl ?_;simp only[Za,Zb,Zc];refine zw (hK21 _ _ (zrt ?_));(try simp only[zi,zj]);refine zR (v := .slice av m cv) (res1 rfl rfl) rfl ?_;have e2 : m = (Jg1 l).length := by rw [Jhq, hr.1]; omega
  have e1 : l.take i = l := List.take_of_length_le (by rw [hr.1]; omega);rw [e1] at M6;subst e2;exact ⟨_, _, rfl, M6⟩
theorem Jr5 (start : UInt32) (ao : Option Addr) (n c : Nat) (l : List UInt8) {w : World} (hM : zM w [blk 0 gT0 (bvs Jaa)]) (hr : Row w ao n l) (ho : ∀ b o, ao = some ⟨b, o, none⟩ → 0 < n → b ∉ Jag [blk 0 gT0 (bvs Jaa)]) (hn : n ≤ 1099511627776) : zC 121 [.int .u32 (start.toNat : Int), .slice ao n c] w fun e w' => e = .returned (.int .u32 ((Jj1 start l).toNat : Int)) ∧ zD w [blk 0 gT0 (bvs Jaa)] w' [blk 0 gT0 (bvs Jaa)] := by
 have M := hM;clear hM;go_enter Tryz.func121, Tryz.ntmps121;refine zk fun _ hK1 => zr ?_;refine zp 1 rfl (zw (hK1 _ _ (zk fun _ hK2 => zr (zp 1 rfl ?_))));simp only[Za,Zb,Zc];obtain ⟨bl, hbl⟩ : ∃ bl, bl = Jg1 l := ⟨_, rfl⟩;have h01 : ∀ b ∈ bl, b = 0 ∨ b = 1 := by rw [hbl]; exact Jwd l
 have hB := Jwb ao n c l (M.row hr ho) hn;rw [← hbl] at hB;have hbll : bl.length = 8 * n := by rw [hbl, Jhq, hr.1]
 refine zca 123 _ rfl Tryz.call123 (hB) ?_;rintro e w3 ⟨ba, bc, rfl, H3⟩;have M3 := M.step H3;simp only[Y1,Y2]at M3;refine ⟨_, rfl, ?_⟩;simp only[Za,Zb,Zc];refine zp 1 rfl (zw (hK2 _ _ (zk fun _ hK4 => zr (zp 1 rfl (zo M3 (Jbp rfl rfl rfl zu22) (zp 1 rfl (zw (hK4 _ _ (zk fun _ hK5 => zk fun _ hK6 => zr (zp 1 rfl ?_))))))))));simp only[Za,Zb,Zc];refine zw (hK6 _ _ (zbl ?_));refine wp_loop (fun a' w' => ∃ (i4 m : Nat) (a : Option Addr) (c2 : Nat) (us7 : List Value), a' = (⟨#[.int .u32 (start.toNat : Int), .slice ao n c, undef, undef, .int .u32 0, .slice a m c2, zI (bl.length : Int), zI (i4 : Int), undef, undef, undef, undef, undef, .slice ao n c, .slice ba bl.length bc, .slice ba bl.length bc, zI (bl.length : Int), (zU us7 0), (zU us7 1), (zU us7 2), (zU us7 3), (zU us7 4), (zU us7 5), (zU us7 6), undef, undef, undef, undef, undef, undef, undef, undef, undef, undef, undef, undef, undef, undef, undef, undef, undef, undef, undef, undef, undef, undef, undef, undef, undef, undef, undef, undef, undef, undef, undef, undef, undef, undef, undef, undef, undef, undef, undef, undef, undef, undef, undef, undef, undef, undef, undef, undef, undef, undef, undef, undef, undef, undef, undef, undef, undef, undef, undef, undef, undef, undef, undef, undef], []⟩ : Act) ∧ (i4 ≤ 32) ∧ (m = bl.length + i4) ∧ zD w [blk 0 gT0 (bvs Jaa)] w' [lst 5 1 (.slice a m c2) m (bvs (bl ++ Je3 i4)), blk 0 gT0 (bvs Jaa)]) (fun a' _ => 32 - (intOf (a'.tmps.getD 7 undef)).toNat) ⟨0, bl.length, ba, bc, [_,_,_,_,_,_,_], rfl, by omega, rfl, (by rw [show Je3 0 = [] from rfl, List.append_nil]; exact M3)⟩ ?_;rintro a' w8 ⟨i4, m, a, c2, us7, rfl, hi, hm, M8⟩;refine zk fun _ hK9 => zk fun _ hK10 => zr ?_;refine zp 1 rfl ?_;simp only[Za,Zb,Zc];rcases zem ((i4 : Int) < 32) with h11 | h11
 ·refine zo M8 (zlss rfl (zT h11)) ?_;simp only[Za,Zb,Zc];refine zw (hK10 _ _ (zct rfl (zsk (hK9 _ _ (zk fun _ hK12 => ?_)))));refine zbl (zr ?_);refine zp 1 rfl ?_;simp only[Za,Zb,Zc];refine pe rfl fun K hK => Ja8 M8 ([.int .u8 0]) (pv := [(0, .int .u8 0)]) rfl rfl zu22 zz5 z05 (by decide) (by kernel_rfl) ?_;intro g13 w14 (M14 : Mem w _ w14 [blk g13 5 ([.int .u8 0]), lst 5 1 (.slice a m c2) m (bvs (bl ++ Je3 i4)), blk 0 gT0 (bvs Jaa)]);refine hK.out _ _ ?_;simp only[Ze,Zb,Zc,Zd];refine pe rfl fun K hK => Ja5 M14 1 Jd7 (by decide) (news := bvs [0]) rfl rfl rfl rfl (rfl) (by intro h; cases h) (fun ad e j u hj => by cases e; match j with | 0 => cases hj; exact Jaj (M14.get 0 rfl) rfl | j + 1 => cases hj) (by intro u hu; cases hu with | head => rfl | tail _ h => cases h) (⟨by unfold maxLen; omega, by omega⟩) ?_;intro v15 w15 M15;replace M15 : zD w [blk 0 gT0 (bvs Jaa)] w15 [blk g13 5 ([.int .u8 0]), lst 5 1 v15 (m + 1) (bvs (bl ++ Je3 (i4 + 1))), blk 0 gT0 (bvs Jaa)] := (by have N := M15; rw [← Jci, List.append_assoc, Jqp] at N; exact N);obtain ⟨a15, c15, rfl⟩ := Jcj (M15.get 1 rfl);refine hK.out _ _ ?_;simp only[Ze,Zb,Zc,Zd];refine zp 1 rfl (zw (hK12 _ _ (zr (zp 1 rfl (zo M15 (Ja0 (r := (i4 : Int) + 1) rfl rfl rfl rfl (rfl) (by omega)) (zp 1 rfl ?_))))));simp only[Za,Zb,Zc];refine zw ?_;refine ⟨⟨i4 + 1, m + 1, a15, c15, [_,_,_,_,_,_,_], rfl, by omega, by omega, (M15.arr [1, 2] (by decide))⟩, ?_⟩;simp [intOf]; omega
 ·have e32 : i4 = 32 := by omega
  rw [e32] at M8;refine zo M8 (zlss rfl (zF h11)) ?_;simp only[Za,Zb,Zc];refine zw (hK10 _ _ (zcf rfl (zx (hK5 _ _ (zk fun _ hK16 => ?_)))));refine zk fun _ hK17 => zr ?_;have hN := M8.arr [0, 1] (by decide);obtain ⟨g, c9, e9⟩ := Mem.lstpt hN (by omega);cases e9
  obtain ⟨rest, hr1, hr2, hr3, hr4, hN2⟩ := Mem.lstblk hN;obtain ⟨m0, hm0⟩ : ∃ m0, m0 = bl ++ Je3 32 := ⟨_, rfl⟩;have hm0l : m0.length = bl.length + 32 := by rw [hm0, List.length_append]; simp [Je3]
  rw [← hm0] at hN2;have M18 : zD w [blk 0 gT0 (bvs Jaa)] w8 [blk g 5 (bvs (xorL m0 ((Jbv 32 start).take 0)) ++ rest), blk 0 gT0 (bvs Jaa)] := by rw [List.take_zero, Jkz]; exact hN2
  clear M8 hN hN2;refine zp 1 rfl ?_;simp only[Za,Zb,Zc];refine zw (hK17 _ _ (zbl ?_));refine wp_loop (fun a' w' => ∃ (i8 : Nat) (us19 : List Value), a' = (⟨#[.int .u32 (start.toNat : Int), .slice ao n c, undef, undef, .int .u32 0, zS g m c2, zI (bl.length : Int), zI (i4 : Int), zI (i8 : Int), undef, undef, undef, undef, .slice ao n c, .slice ba bl.length bc, .slice ba bl.length bc, zI (bl.length : Int), zI (i4 : Int), .bool false, (zU us7 2), (zU us7 3), (zU us7 4), (zU us7 5), (zU us7 6), (zU us19 0), (zU us19 1), (zU us19 2), (zU us19 3), (zU us19 4), (zU us19 5), (zU us19 6), (zU us19 7), (zU us19 8), (zU us19 9), (zU us19 10), (zU us19 11), (zU us19 12), (zU us19 13), (zU us19 14), (zU us19 15), (zU us19 16), (zU us19 17), undef, undef, undef, undef, undef, undef, undef, undef, undef, undef, undef, undef, undef, undef, undef, undef, undef, undef, undef, undef, undef, undef, undef, undef, undef, undef, undef, undef, undef, undef, undef, undef, undef, undef, undef, undef, undef, undef, undef, undef, undef, undef, undef, undef, undef, undef], []⟩ : Act) ∧ (i8 ≤ 32) ∧ zD w [blk 0 gT0 (bvs Jaa)] w' [blk g 5 (bvs (xorL m0 ((Jbv 32 start).take i8)) ++ rest), blk 0 gT0 (bvs Jaa)]) (fun a' _ => 32 - (intOf (a'.tmps.getD 8 undef)).toNat) ⟨0, [_,_,_,_,_,_,_,_,_,_,_,_,_,_,_,_,_,_], rfl, by omega, M18⟩ ?_;rintro a' w20 ⟨i8, us19, rfl, hi, M20⟩;refine zk fun _ hK21 => zk fun _ hK22 => zr ?_;refine zp 1 rfl ?_;simp only[Za,Zb,Zc];rcases zem ((i8 : Int) < 32) with h23 | h23
  ·have hi32 : i8 < 32 := by omega
   have hxl : (xorL m0 ((Jbv 32 start).take i8)).length = bl.length + 32 := by rw [Jfh, hm0l]
   refine zo M20 (zlss rfl (zT h23)) ?_;simp only[Za,Zb,Zc];refine zw (hK22 _ _ (zct rfl (zsk (hK21 _ _ (zk fun _ hK24 => ?_)))));refine zbl (zr ?_);refine zp 4 rfl (zo M20 (Jbc (r := i8) rfl rfl rfl rfl zu22 zz5 (by omega) (by omega)) (zo M20 (zm (v := .int .u8 (((xorL m0 ((Jbv 32 start).take i8)).getD i8 0).toNat)) 0 rfl zg5 (Jju (by omega))) (zp 2 rfl ?_)));simp only[Za,Zb,Zc];refine zo M20 (Jcq (r := (i8 : Int)) rfl rfl rfl zu3 Jpi (Je1 (by omega))) (zo M20 (Jfn (r := .int .u32 ((start.toNat / 2 ^ i8 : Nat) : Int)) rfl rfl rfl rfl (Jrf _ _ hi32 _)) (zo M20 (Jfn (r := .int .u32 ((start.toNat / 2 ^ i8 % 2 : Nat) : Int)) rfl rfl rfl rfl (Jxm _ (Nat.lt_of_le_of_lt (Nat.div_le_self _ _) start.toNat_lt))) (zo M20 (Jcq (r := (((Jbv 32 start).getD i8 0).toNat : Int)) rfl rfl rfl zu35 zu5 (by rw [Jic 32 start i8 hi32 (by decide)]; exact Jk2 (by omega))) (zo M20 (Jfn (r := .int .u8 (((xorL m0 ((Jbv 32 start).take i8)).getD i8 0 ^^^ (Jbv 32 start).getD i8 0).toNat : Int)) rfl rfl rfl rfl (Jyr _ _)) (zo M20 (Jbc (r := i8) rfl rfl rfl rfl zu22 zz5 (by omega) (by omega)) ?_)))));simp only[Za,Zb,Zc];refine pe rfl fun K hK => Jc9 M20 0 (v := .int .u8 (((xorL m0 ((Jbv 32 start).take i8)).getD i8 0 ^^^ (Jbv 32 start).getD i8 0).toNat : Int)) rfl rfl rfl rfl rfl rfl zz5 rfl (by rw [List.length_append, Jam]; omega) ?_;intro w25 M25
   replace M25 : zD w [blk 0 gT0 (bvs Jaa)] w25 [blk g 5 (bvs (xorL m0 ((Jbv 32 start).take (i8 + 1))) ++ rest), blk 0 gT0 (bvs Jaa)] := by
     have e : (bvs (xorL m0 ((Jbv 32 start).take i8)) ++ rest).set i8 (.int .u8 (((xorL m0 ((Jbv 32 start).take i8)).getD i8 0 ^^^ (Jbv 32 start).getD i8 0).toNat : Int)) = bvs (xorL m0 ((Jbv 32 start).take (i8 + 1))) ++ rest := by rw [Jk3 _ (by omega), Jf3 m0 (Jbv 32 start) i8 (by rw [Jdp]; exact hi32) (by omega)]
     rw [← e]; exact M25
   refine hK.out _ _ ?_;simp only[Ze,Zb,Zc,Zd];refine zw (hK24 _ _ (zr ?_));refine zp 1 rfl (zo M25 (Ja0 (r := (i8 : Int) + 1) rfl rfl rfl rfl (rfl) (by omega)) (zp 1 rfl ?_));simp only[Za,Zb,Zc];refine zw ?_;refine ⟨⟨i8 + 1, [_,_,_,_,_,_,_,_,_,_,_,_,_,_,_,_,_,_], rfl, by omega, M25⟩, ?_⟩;simp [intOf]; omega
  ·have e32 : i8 = 32 := by omega
   rw [e32, List.take_of_length_le (l := Jbv 32 start) (by rw [Jdp]; decide), show xorL m0 (Jbv 32 start) = [] ++ Jdu bl start 0 by rw [hm0]; rfl] at M20;refine zo M20 (zlss rfl (zF h23)) ?_;simp only[Za,Zb,Zc];refine zw (hK22 _ _ (zcf rfl (zx (hK16 _ _ (zk fun _ hK26 => ?_)))));refine zk fun _ hK27 => zr ?_;refine zp 1 rfl ?_;simp only[Za,Zb,Zc];refine zw (hK27 _ _ (zbl ?_));refine wp_loop (fun a' w' => ∃ (i : Nat) (pre : List UInt8) (us28 : List Value), a' = (⟨#[.int .u32 (start.toNat : Int), .slice ao n c, undef, undef, .int .u32 0, zS g m c2, zI (bl.length : Int), zI (i4 : Int), zI (i8 : Int), zI (i : Int), (zU us28 0), undef, undef, .slice ao n c, .slice ba bl.length bc, .slice ba bl.length bc, zI (bl.length : Int), zI (i4 : Int), .bool false, (zU us7 2), (zU us7 3), (zU us7 4), (zU us7 5), (zU us7 6), zI (i8 : Int), .bool false, (zU us19 2), (zU us19 3), (zU us19 4), (zU us19 5), (zU us19 6), (zU us19 7), (zU us19 8), (zU us19 9), (zU us19 10), (zU us19 11), (zU us19 12), (zU us19 13), (zU us19 14), (zU us19 15), (zU us19 16), (zU us19 17), (zU us28 1), (zU us28 2), (zU us28 3), (zU us28 4), (zU us28 5), (zU us28 6), (zU us28 7), (zU us28 8), (zU us28 9), (zU us28 10), (zU us28 11), (zU us28 12), (zU us28 13), (zU us28 14), (zU us28 15), (zU us28 16), (zU us28 17), (zU us28 18), (zU us28 19), (zU us28 20), (zU us28 21), (zU us28 22), (zU us28 23), (zU us28 24), (zU us28 25), (zU us28 26), (zU us28 27), (zU us28 28), (zU us28 29), undef, undef, undef, undef, undef, undef, undef, undef, undef, undef, undef, undef, undef, undef, undef, undef, undef], []⟩ : Act) ∧ (i ≤ bl.length) ∧ (pre.length = i) ∧ zD w [blk 0 gT0 (bvs Jaa)] w' [blk g 5 (bvs (pre ++ Jdu bl start i) ++ rest), blk 0 gT0 (bvs Jaa)]) (fun a' _ => bl.length - (intOf (a'.tmps.getD 9 undef)).toNat) ⟨0, [], [_,_,_,_,_,_,_,_,_,_,_,_,_,_,_,_,_,_,_,_,_,_,_,_,_,_,_,_,_,_], rfl, by omega, rfl, M20⟩ ?_;rintro a' w29 ⟨i, pre, us28, rfl, hi, hpre, M29⟩;refine zk fun _ hK30 => zk fun _ hK31 => zr ?_;refine zp 2 rfl ?_;simp only[Za,Zb,Zc];rcases zem ((i : Int) < (bl.length : Int)) with h32 | h32
   ·have hib : i < bl.length := by omega
    obtain ⟨dv, hdv⟩ : ∃ dv, dv = Jdu bl start i := ⟨_, rfl⟩;have hdl : dv.length = bl.length + 32 - i := by rw [hdv, Jey]
    have hpl : (pre ++ Jdu bl start i).length = bl.length + 32 := by rw [List.length_append, hpre, Jey]; omega
    have hdl0 : 0 < (divS (Jdu bl start i)).length := by
      unfold divS;split <;> (try rw [Jfh]) <;> rw [Jey] <;> omega
    refine zo M29 (zlss rfl (zT h32)) ?_;simp only[Za,Zb,Zc];refine zw (hK31 _ _ (zct rfl (zsk (hK30 _ _ (zk fun _ hK33 => ?_)))));refine zbl (zk fun _ hK34 => zr ?_);refine zp 2 rfl (zo M29 (Jbc (r := i) rfl rfl rfl rfl zu22 zz5 (by omega) (by omega)) (zo M29 (zm (v := .int .u8 (((pre ++ Jdu bl start i).getD i 0).toNat : Int)) 0 rfl zg5 (Jju (by omega))) ?_));simp only[Za,Zb,Zc];rcases zem ((((pre ++ Jdu bl start i).getD i 0).toNat : Int) = 1) with h35 | h35
    ·have hd1 : (Jdu bl start i).getD 0 0 = 1 := by rw [Jit hpre] at h35; apply UInt8.toNat_inj.1; have h3 : (1 : UInt8).toNat = 1 := rfl; omega
     have hS : divS (Jdu bl start i) = xorL (Jdu bl start i) Jaa := if_pos hd1;refine zo M29 (zeql rfl (zT h35)) (zw (hK34 _ _ (zct rfl (zk fun _ hK36 => zr (zp 1 rfl ?_)))));simp only[Za,Zb,Zc];refine zw (hK36 _ _ (zbl ?_));refine wp_loop (fun a' w' => ∃ (j : Nat) (us37 : List Value), a' = (⟨#[.int .u32 (start.toNat : Int), .slice ao n c, undef, undef, .int .u32 0, zS g m c2, zI (bl.length : Int), zI (i4 : Int), zI (i8 : Int), zI (i : Int), zI (j : Int), undef, undef, .slice ao n c, .slice ba bl.length bc, .slice ba bl.length bc, zI (bl.length : Int), zI (i4 : Int), .bool false, (zU us7 2), (zU us7 3), (zU us7 4), (zU us7 5), (zU us7 6), zI (i8 : Int), .bool false, (zU us19 2), (zU us19 3), (zU us19 4), (zU us19 5), (zU us19 6), (zU us19 7), (zU us19 8), (zU us19 9), (zU us19 10), (zU us19 11), (zU us19 12), (zU us19 13), (zU us19 14), (zU us19 15), (zU us19 16), (zU us19 17), zI (i : Int), zI (bl.length : Int), .bool true, (zU us28 4), (zU us28 5), zS g m c2, zI (i : Int), zP g i, .int .u8 (((pre ++ Jdu bl start i).getD i 0).toNat : Int), .bool true, (zU us37 0), (zU us37 1), (zU us37 2), (zU us37 3), (zU us37 4), (zU us37 5), (zU us37 6), (zU us37 7), (zU us37 8), (zU us37 9), (zU us37 10), (zU us37 11), (zU us37 12), (zU us37 13), (zU us37 14), (zU us37 15), (zU us37 16), (zU us37 17), (zU us37 18), undef, undef, undef, undef, undef, undef, undef, undef, undef, undef, undef, undef, undef, undef, undef, undef, undef], []⟩ : Act) ∧ (j ≤ 33) ∧ zD w [blk 0 gT0 (bvs Jaa)] w' [blk g 5 (bvs (pre ++ xorL (Jdu bl start i) (Jaa.take j)) ++ rest), blk 0 gT0 (bvs Jaa)]) (fun a' _ => 33 - (intOf (a'.tmps.getD 10 undef)).toNat) ⟨0, [_,_,_,_,_,_,_,_,_,_,_,_,_,_,_,_,_,_,_], rfl, by omega, (by rw [List.take_zero, Jkz]; exact M29)⟩ ?_;rintro a' w38 ⟨j, us37, rfl, hj, M38⟩;refine zk fun _ hK39 => zk fun _ hK40 => zr ?_;refine zp 1 rfl ?_;simp only[Za,Zb,Zc];rcases zem ((j : Int) < 33) with h41 | h41
     ·have hj33 : j < 33 := by omega
      have hxl2 : (pre ++ xorL (Jdu bl start i) (Jaa.take j)).length = bl.length + 32 := by rw [List.length_append, Jfh, Jey, hpre]; omega
      have hdv33 : Jaa.length = 33 := rfl;refine zo M38 (zlss rfl (zT h41)) ?_;simp only[Za,Zb,Zc];refine zw (hK40 _ _ (zct rfl (zsk (hK39 _ _ (zk fun _ hK42 => ?_)))));refine zbl ?_;have M43 := M38.drew;refine Jar 15 (by kernel_rfl) (by kernel_rfl) ?_;simp only [List.take_succ_cons, List.take_zero, List.drop_succ_cons, List.drop_zero];refine Zs 3 rfl (zq M43 (Ja0 (r := (i : Int) + (j : Int)) rfl rfl rfl rfl (rfl) (by omega)) (Zs 3 rfl (zq M43 (Ja0 (r := (i : Int) + (j : Int)) rfl rfl rfl rfl (rfl) (by omega)) ?_)));simp only[Za,Zb,Zc];refine zq M43 (Jbc (r := i + j) rfl rfl rfl rfl zu22 zz5 (by omega) (by omega)) (zq M43 (zm (v := .int .u8 (((pre ++ xorL (Jdu bl start i) (Jaa.take j)).getD (i + j) 0).toNat)) 0 rfl zg5 (Jju (by omega))) (Zs 1 rfl (zq M43 (Jpz (r := j) rfl rfl rfl rfl Tryz.underlying173 zz5 (by omega) (by omega)) (zq M43 (zm (v := .int .u8 ((Jaa.getD j 0).toNat)) 1 rfl zg5 (Jjv (by omega))) (zq M43 (Jfn (r := .int .u8 (((pre ++ xorL (Jdu bl start i) (Jaa.take j)).getD (i + j) 0 ^^^ Jaa.getD j 0).toNat : Int)) rfl rfl rfl rfl (Jyr _ _)) (zq M43 (Jbc (r := i + j) rfl rfl rfl rfl zu22 zz5 (by omega) (by omega)) ?_))))));simp only[Za,Zb,Zc];refine wpStill_nil ?_;refine pe rfl fun K hK => Jc9 M43 0 (v := .int .u8 (((pre ++ xorL (Jdu bl start i) (Jaa.take j)).getD (i + j) 0 ^^^ Jaa.getD j 0).toNat : Int)) rfl rfl rfl rfl rfl rfl zz5 rfl (by rw [List.length_append, Jam]; omega) ?_;intro w44 M44
      replace M44 : zD w [blk 0 gT0 (bvs Jaa)] w44 [blk g 5 (bvs (pre ++ xorL (Jdu bl start i) (Jaa.take (j + 1))) ++ rest), blk 0 gT0 (bvs Jaa)] := by
        have e : (bvs (pre ++ xorL (Jdu bl start i) (Jaa.take j)) ++ rest).set (i + j) (.int .u8 (((pre ++ xorL (Jdu bl start i) (Jaa.take j)).getD (i + j) 0 ^^^ Jaa.getD j 0).toNat : Int)) = bvs (pre ++ xorL (Jdu bl start i) (Jaa.take (j + 1))) ++ rest := by rw [Jk3 _ (by omega), Jkc _ hpre, Jec hpre, Jf3 (Jdu bl start i) Jaa j (by omega) (by rw [Jey]; omega)]
        rw [← e]; exact M44
      refine hK.out _ _ ?_;simp only[Ze,Zb,Zc,Zd];refine zw (hK42 _ _ (zr ?_));refine zp 1 rfl (zo M44 (Ja0 (r := (j : Int) + 1) rfl rfl rfl rfl (rfl) (by omega)) (zp 1 rfl ?_));simp only[Za,Zb,Zc];refine zw ?_;refine ⟨⟨j + 1, [_,_,_,_,_,_,_,_,_,_,_,_,_,_,_,_,_,_,_], rfl, by omega, M44⟩, ?_⟩;simp [intOf]; omega
     ·have e33 : j = 33 := by omega
      rw [e33, List.take_of_length_le (l := Jaa) (Nat.le_refl 33), ← hS] at M38;refine zo M38 (zlss rfl (zF h41)) (zw (hK40 _ _ (zcf rfl (zx (hK33 _ _ (zr (zp 1 rfl (zo M38 (Ja0 (r := (i : Int) + 1) rfl rfl rfl rfl (rfl) (by omega)) (zp 1 rfl ?_)))))))));simp only[Za,Zb,Zc];refine zw ?_;refine ⟨⟨i + 1, pre ++ [(divS (Jdu bl start i)).getD 0 0], [_,_,_,_,_,_,_,_,_,_,_,_,_,_,_,_,_,_,_,_,_,_,_,_,_,_,_,_,_,_], rfl, by omega, by rw [List.length_append, hpre]; rfl, (by rw [← Jmm h01 start hib, ← Jlu (p := pre) (X := divS (Jdu bl start i)) hdl0]; exact M38)⟩, ?_⟩;simp [intOf]; omega
    ·have hS : divS (Jdu bl start i) = Jdu bl start i := if_neg (fun h => by rw [Jit hpre] at h35; rw [h] at h35; exact h35 rfl);rw [← hS] at M29;refine zo M29 (zeql rfl (zF h35)) (zw (hK34 _ _ (zcf rfl (zsk (hK33 _ _ (zr (zp 1 rfl (zo M29 (Ja0 (r := (i : Int) + 1) rfl rfl rfl rfl (rfl) (by omega)) (zp 1 rfl ?_)))))))));simp only[Za,Zb,Zc];refine zw ?_;refine ⟨⟨i + 1, pre ++ [(divS (Jdu bl start i)).getD 0 0], [_,_,_,_,_,_,_,_,_,_,_,_,_,_,_,_,_,_,_,_,_,_,_,_,_,_,_,_,_,_], rfl, by omega, by rw [List.length_append, hpre]; rfl, (by rw [← Jmm h01 start hib, ← Jlu (p := pre) (X := divS (Jdu bl start i)) hdl0]; exact M29)⟩, ?_⟩;simp [intOf]; omega
   ·have ek : i = bl.length := by omega
    rw [ek, Jt9] at M29;refine zo M29 (zlss rfl (zF h32)) ?_;simp only[Za,Zb,Zc];refine zw (hK31 _ _ (zcf rfl (zx (hK26 _ _ (zk fun _ hK45 => ?_)))));refine zr ?_;refine zp 1 rfl (zw (hK45 _ _ (zk fun _ hK46 => zk fun _ hK47 => zr (zp 1 rfl ?_))));simp only[Za,Zb,Zc];refine zw (hK47 _ _ (zbl ?_));refine wp_loop (fun a' w' => ∃ (i2 : Nat) (rv : UInt32) (us48 : List Value), a' = (⟨#[.int .u32 (start.toNat : Int), .slice ao n c, undef, undef, .int .u32 0, zS g m c2, zI (bl.length : Int), zI (i4 : Int), zI (i8 : Int), zI (i : Int), (zU us28 0), .int .u32 (rv.toNat : Int), zI (i2 : Int), .slice ao n c, .slice ba bl.length bc, .slice ba bl.length bc, zI (bl.length : Int), zI (i4 : Int), .bool false, (zU us7 2), (zU us7 3), (zU us7 4), (zU us7 5), (zU us7 6), zI (i8 : Int), .bool false, (zU us19 2), (zU us19 3), (zU us19 4), (zU us19 5), (zU us19 6), (zU us19 7), (zU us19 8), (zU us19 9), (zU us19 10), (zU us19 11), (zU us19 12), (zU us19 13), (zU us19 14), (zU us19 15), (zU us19 16), (zU us19 17), zI (i : Int), zI (bl.length : Int), .bool false, (zU us28 4), (zU us28 5), (zU us28 6), (zU us28 7), (zU us28 8), (zU us28 9), (zU us28 10), (zU us28 11), (zU us28 12), (zU us28 13), (zU us28 14), (zU us28 15), (zU us28 16), (zU us28 17), (zU us28 18), (zU us28 19), (zU us28 20), (zU us28 21), (zU us28 22), (zU us28 23), (zU us28 24), (zU us28 25), (zU us28 26), (zU us28 27), (zU us28 28), (zU us28 29), (zU us48 0), (zU us48 1), (zU us48 2), (zU us48 3), (zU us48 4), (zU us48 5), (zU us48 6), (zU us48 7), (zU us48 8), (zU us48 9), (zU us48 10), (zU us48 11), (zU us48 12), (zU us48 13), (zU us48 14), (zU us48 15), undef], []⟩ : Act) ∧ (i2 ≤ 32) ∧ (rv = Jis (bl.foldl Jfo start) i2) ∧ zD w [blk 0 gT0 (bvs Jaa)] w' [blk g 5 (bvs (pre ++ Jbv 32 (bl.foldl Jfo start)) ++ rest), blk 0 gT0 (bvs Jaa)]) (fun a' _ => 32 - (intOf (a'.tmps.getD 12 undef)).toNat) ⟨0, 0, [_,_,_,_,_,_,_,_,_,_,_,_,_,_,_,_], rfl, by omega, (Jp5 _).symm, M29⟩ ?_;rintro a' w49 ⟨i2, rv, us48, rfl, hi2, hrv, M49⟩;refine zk fun _ hK50 => zk fun _ hK51 => zr ?_;refine zp 1 rfl ?_;simp only[Za,Zb,Zc];rcases zem ((i2 : Int) < 32) with h52 | h52
    ·have hi32 : i2 < 32 := by omega
     have hpl2 : (pre ++ Jbv 32 (bl.foldl Jfo start)).length = bl.length + 32 := by rw [List.length_append, hpre, Jdp, ek]
     refine zo M49 (zlss rfl (zT h52)) ?_;simp only[Za,Zb,Zc];refine zw (hK51 _ _ (zct rfl (zsk (hK50 _ _ (zk fun _ hK53 => ?_)))));refine zbl (zr ?_);refine zp 4 rfl (zo M49 (Ja0 (r := (bl.length : Int) + (i2 : Int)) rfl rfl rfl rfl (rfl) (by omega)) (zo M49 (Jbc (r := bl.length + i2) rfl rfl rfl rfl zu22 zz5 (by omega) (by omega)) (zo M49 (zm (v := .int .u8 (((pre ++ Jbv 32 (bl.foldl Jfo start)).getD (bl.length + i2) 0).toNat)) 0 rfl zg5 (Jju (by omega))) (zo M49 (Jcq (r := (((Jbv 32 (bl.foldl Jfo start)).getD i2 0).toUInt32.toNat : Int)) rfl rfl rfl zu5 zu35 (by rw [Jec (hpre.trans ek), UInt8.toNat_toUInt32]; exact Jo8 (by have := ((Jbv 32 (bl.foldl Jfo start)).getD i2 0).toNat_lt; omega))) ?_))));simp only[Za,Zb,Zc];refine zp 1 rfl (zo M49 (Jcq (r := (i2 : Int)) rfl rfl rfl zu3 Jpi (Je1 (by omega))) (zo M49 (Jfn (r := .int .u32 ((((Jbv 32 (bl.foldl Jfo start)).getD i2 0).toUInt32 <<< UInt32.ofNat i2).toNat : Int)) rfl rfl rfl rfl (Jzx _ _ .u64 i2 hi32)) (zo M49 (Jfn (r := .int .u32 ((Jis (bl.foldl Jfo start) (i2 + 1)).toNat : Int)) rfl rfl rfl rfl (by rw [hrv, ← Jp4 _ _ hi32]; exact uv_or _ _ _)) (zp 1 rfl (zw (hK53 _ _ (zr (zp 1 rfl (zo M49 (Ja0 (r := (i2 : Int) + 1) rfl rfl rfl rfl (rfl) (by omega)) (zp 1 rfl ?_))))))))));simp only[Za,Zb,Zc];refine zw ?_;refine ⟨⟨i2 + 1, Jis (bl.foldl Jfo start) (i2 + 1), [_,_,_,_,_,_,_,_,_,_,_,_,_,_,_,_], rfl, by omega, rfl, M49⟩, ?_⟩;simp [intOf]; omega
    ·have e32 : i2 = 32 := by omega
     rw [e32] at hrv;refine zo M49 (zlss rfl (zF h52)) ?_;simp only[Za,Zb,Zc];refine zw (hK51 _ _ (zcf rfl (zx (hK46 _ _ (zk fun _ hK54 => ?_)))));refine zr ?_;refine zp 2 rfl ?_;simp only[Za,Zb,Zc];refine zw (hK54 _ _ (zrt ?_));(try simp only[zi,zj]);refine zR (v := .int .u32 (rv.toNat : Int)) (res1 rfl rfl) rfl ?_;have e1 : rv = Jj1 start l := by rw [hrv, Jr6, hbl, Jwe]
     rw [e1];exact ⟨rfl, M49.arr [1] (by decide)⟩
end
section
variable {gT0 : TypeId}
theorem Jo5 (s : UInt32) {i : Nat} (hi : i < 4) : ((sum4 s).getD i 0).toNat = s.toNat / 2 ^ (8 * i) % 256 := by
 have h : ∀ k, k < 32 → ((s >>> UInt32.ofNat k).toUInt8).toNat = s.toNat / 2 ^ k % 256 := fun k hk => by
   rw [UInt32.toNat_toUInt8, Jfg s k hk]
 match i, hi with
 | 0, _ => show (s.toUInt8).toNat = _; rw [UInt32.toNat_toUInt8]; simp;| 1, _ => exact h 8 (by decide);| 2, _ => exact h 16 (by decide);| 3, _ => exact h 24 (by decide)
theorem Jls (s : UInt32) : (sum4 s).length = 4 := rfl
theorem Jmz (l : List UInt8) {m : Nat} (h : l.length = m + 4) : Jb9 l = true ↔ l.drop m = sum4 (crcL (l.take m)) := by
 unfold Jb9;rw [decide_eq_true_iff, h, Nat.add_sub_cancel];exact ⟨fun h => h.2, fun h' => ⟨by omega, h'⟩⟩
theorem Jlt (l : List UInt8) (m i : Nat) : (l.drop m).getD i 0 = l.getD (m + i) 0 := by
 rw [List.getD_eq_getElem?_getD, List.getElem?_drop, List.getD_eq_getElem?_getD]
theorem Ju1 {a b : List UInt8} {i : Nat} (ha : i < a.length) (hb : i < b.length) (h : a.take i = b.take i) (h2 : a.getD i 0 = b.getD i 0) : a.take (i + 1) = b.take (i + 1) := by
 rw [← Jc4 ha, ← Jc4 hb, h, h2]
theorem Jqn (ao : Option Addr) (n c : Nat) (l : List UInt8) {w : World} (hM : Mem w (Jag [blk 0 gT0 (bvs Jaa)]) w [blk 0 gT0 (bvs Jaa)]) (hr : Row w ao n l) (ho : ∀ b o, ao = some ⟨b, o, none⟩ → 0 < n → b ∉ Jag [blk 0 gT0 (bvs Jaa)]) (hn : n ≤ 1099511627776) : Calls Tryz.prog 121 #[.int .u32 4294967295, .slice ao n c] w fun e w' => e = .returned (.int .u32 ((Jj1 4294967295 l).toNat : Int)) ∧ Mem w (Jag [blk 0 gT0 (bvs Jaa)]) w' [blk 0 gT0 (bvs Jaa)] := by
 have h := Jr5 4294967295 ao n c l hM hr ho hn;rw [show ((4294967295 : UInt32).toNat : Int) = 4294967295 by decide] at h;exact h
theorem Jre (ao : Option Addr) (n c : Nat) (l : List UInt8) {w : World} (hM : zM w [blk 0 gT0 (bvs Jaa)]) (hr : Row w ao n l) (ho : ∀ b o, ao = some ⟨b, o, none⟩ → 0 < n → b ∉ Jag [blk 0 gT0 (bvs Jaa)]) (hn : n ≤ 1099511627776) : zC 107 [.slice ao n c] w fun e w' => e = .returned (.int .u32 ((crcL l).toNat : Int)) ∧ zD w [blk 0 gT0 (bvs Jaa)] w' [blk 0 gT0 (bvs Jaa)] := by
 have M := hM;clear hM;go_enter Tryz.func107, Tryz.ntmps107;refine zk fun _ hK1 => zr ?_;refine zp 1 rfl (zw (hK1 _ _ (zk fun _ hK2 => zr (zp 1 rfl ?_))));simp only[Za,Zb,Zc];have hX3 := M.pk [0];simp only[Y3,Y4,Y1,Y2]at hX3;refine zca 121 _ rfl Tryz.call121 (Jqn ao n c l hX3.h1 (M.row hr ho) (fun b o e h => ho b o e h) hn) ?_;rintro e w3 ⟨rfl, H3⟩;have M3 : Mem w _ w3 [blk 0 gT0 (bvs Jaa)] := hX3.f1 H3;refine ⟨_, rfl, ?_⟩;simp only[Za,Zb,Zc];refine zo M3 (Jys rfl rfl rfl) (zp 1 rfl ?_);simp only[Za,Zb,Zc];refine zw (hK2 _ _ (zrt ?_));(try simp only[zi,zj]);refine zR (res1 rfl rfl) rfl ?_;exact ⟨rfl, M3.arr [0] (by decide)⟩
theorem Jo6 (ao : Option Addr) (n c : Nat) (l : List UInt8) {w : World} (hM : zM w [blk 0 gT0 (bvs Jaa)]) (hr : Row w ao n l) (ho : ∀ b o, ao = some ⟨b, o, none⟩ → 0 < n → b ∉ Jag [blk 0 gT0 (bvs Jaa)]) (hn : n ≤ 1099511627776) : zC 89 [.slice ao n c] w fun e w' => ∃ a c', e = .returned (.slice a (Jer l).length c') ∧ zD w [blk 0 gT0 (bvs Jaa)] w' [blk 0 gT0 (bvs Jaa), lst 5 1 (.slice a (Jer l).length c') (Jer l).length (bvs (Jer l))] := by
 have M := hM;clear hM;go_enter Tryz.func89, Tryz.ntmps89;refine zk fun _ hK1 => zr ?_;refine zp 1 rfl (zw (hK1 _ _ (zk fun _ hK2 => zr (zp 1 rfl ?_))));simp only[Za,Zb,Zc];have hX3 := M.pk [0];simp only[Y3,Y4,Y1,Y2]at hX3;refine zca 107 _ rfl Tryz.call107 (Jre ao n c l hX3.h1 (M.row hr ho) (fun b o e h => ho b o e h) hn) ?_;rintro e w3 ⟨rfl, H3⟩;have M3 : Mem w _ w3 [blk 0 gT0 (bvs Jaa)] := hX3.f1 H3;refine ⟨_, rfl, ?_⟩;simp only[Za,Zb,Zc];refine zp 1 rfl (zw (hK2 _ _ (zk fun _ hK4 => zr (zp 1 rfl (zw (hK4 _ _ (zk fun _ hK5 => zk fun _ hK6 => zr (zp 1 rfl ?_))))))));simp only[Za,Zb,Zc];refine zw (hK6 _ _ (zbl ?_));refine wp_loop (fun a' w' => ∃ (i m : Nat) (a : Option Addr) (c2 : Nat) (us7 : List Value), a' = (⟨#[.slice ao n c, undef, zN, .int .u32 ((crcL l).toNat : Int), .slice a m c2, zI (i : Int), undef, .slice ao n c, .int .u32 ((crcL l).toNat : Int), (zU us7 0), (zU us7 1), (zU us7 2), (zU us7 3), (zU us7 4), (zU us7 5), (zU us7 6), (zU us7 7), (zU us7 8), (zU us7 9), (zU us7 10), (zU us7 11), (zU us7 12), undef, undef, undef, undef, undef, undef, undef, undef, undef, undef, undef, undef, undef, undef], []⟩ : Act) ∧ (i ≤ n) ∧ (m = i) ∧ zD w [blk 0 gT0 (bvs Jaa)] w' [lst 5 1 (.slice a m c2) m (bvs (l.take i)), blk 0 gT0 (bvs Jaa)]) (fun a' _ => n - (intOf (a'.tmps.getD 5 undef)).toNat) ⟨0, 0, none, 0, [_,_,_,_,_,_,_,_,_,_,_,_,_], rfl, Nat.zero_le _, rfl, (M3.nilst 5 1)⟩ ?_;rintro a' w8 ⟨i, m, a, c2, us7, rfl, hi, hm, M8⟩;refine zk fun _ hK9 => zk fun _ hK10 => zr ?_;refine zp 2 rfl (zo M8 (Jbp rfl rfl rfl zu22) ?_);simp only[Za,Zb,Zc];rcases zem ((i : Int) < (n : Int)) with h11 | h11
 ·have hin : i < n := by omega
  obtain ⟨b, o, rfl⟩ := hr.at0 (by omega);refine zo M8 (zlss rfl (zT h11)) ?_;simp only[Za,Zb,Zc];refine zw (hK10 _ _ (zct rfl (zsk (hK9 _ _ (zk fun _ hK12 => ?_)))));refine zbl (zr ?_);refine zp 3 rfl (zo M8 (Jbc (r := o + i) rfl rfl rfl rfl zu22 zz5 (by omega) (by omega)) (zo M8 (Jbd (v := .int .u8 ((l.getD i 0).toNat)) rfl rfl rfl zg5 (fun W hW => Row.cellD (hW.row hr ho) (by omega))) ?_));simp only[Za,Zb,Zc];refine pe rfl fun K hK => Ja8 M8 ([.int .u8 ((l.getD i 0).toNat)]) (pv := [(0, .int .u8 ((l.getD i 0).toNat))]) rfl rfl zu22 zz5 z05 (by decide) (by kernel_rfl) ?_;intro g13 w14 (M14 : Mem w _ w14 [blk g13 5 ([.int .u8 ((l.getD i 0).toNat)]), lst 5 1 (.slice a m c2) m (bvs (l.take i)), blk 0 gT0 (bvs Jaa)]);refine hK.out _ _ ?_;simp only[Ze,Zb,Zc,Zd];refine pe rfl fun K hK => Ja5 M14 1 Jd7 (by decide) (news := bvs [(l.getD i 0)]) rfl rfl rfl rfl (rfl) (by intro h; cases h) (fun ad e j u hj => by cases e; match j with | 0 => cases hj; exact Jaj (M14.get 0 rfl) rfl | j + 1 => cases hj) (by intro u hu; cases hu with | head => rfl | tail _ h => cases h) (⟨by unfold maxLen; omega, by omega⟩) ?_;intro v15 w15 M15;replace M15 : zD w [blk 0 gT0 (bvs Jaa)] w15 [blk g13 5 ([.int .u8 ((l.getD i 0).toNat)]), lst 5 1 v15 (m + 1) (bvs (l.take (i + 1))), blk 0 gT0 (bvs Jaa)] := (by have N := M15; rw [← Jci, Jc4 (by rw [hr.1]; exact hin)] at N; exact N);obtain ⟨a15, c15, rfl⟩ := Jcj (M15.get 1 rfl);refine hK.out _ _ ?_;simp only[Ze,Zb,Zc,Zd];refine zp 1 rfl (zw (hK12 _ _ (zr (zp 1 rfl (zo M15 (Ja0 (r := (i : Int) + 1) rfl rfl rfl rfl (rfl) (by omega)) (zp 1 rfl ?_))))));simp only[Za,Zb,Zc];refine zw ?_;refine ⟨⟨i + 1, m + 1, a15, c15, [_,_,_,_,_,_,_,_,_,_,_,_,_], rfl, by omega, by omega, (M15.arr [1, 2] (by decide))⟩, ?_⟩;simp [intOf]; omega
 ·have en : i = n := by omega
  rw [en, List.take_of_length_le (Nat.le_of_eq hr.1)] at M8;refine zo M8 (zlss rfl (zF h11)) ?_;simp only[Za,Zb,Zc];refine zw (hK10 _ _ (zcf rfl (zx (hK5 _ _ (zk fun _ hK16 => ?_)))));refine zk fun _ hK17 => zr ?_;refine zp 1 rfl ?_;simp only[Za,Zb,Zc];refine zw (hK17 _ _ (zbl ?_));refine wp_loop (fun a' w' => ∃ (i2 m2 : Nat) (a2 : Option Addr) (c3 : Nat) (us18 : List Value), a' = (⟨#[.slice ao n c, undef, zN, .int .u32 ((crcL l).toNat : Int), .slice a2 m2 c3, zI (i : Int), zI (i2 : Int), .slice ao n c, .int .u32 ((crcL l).toNat : Int), zI (i : Int), .slice ao n c, zI (n : Int), .bool false, (zU us7 4), (zU us7 5), (zU us7 6), (zU us7 7), (zU us7 8), (zU us7 9), (zU us7 10), (zU us7 11), (zU us7 12), (zU us18 0), (zU us18 1), (zU us18 2), (zU us18 3), (zU us18 4), (zU us18 5), (zU us18 6), (zU us18 7), (zU us18 8), (zU us18 9), (zU us18 10), (zU us18 11), (zU us18 12), undef], []⟩ : Act) ∧ (i2 ≤ 4) ∧ (m2 = n + i2) ∧ zD w [blk 0 gT0 (bvs Jaa)] w' [lst 5 1 (.slice a2 m2 c3) m2 (bvs (l ++ (sum4 (crcL l)).take i2)), blk 0 gT0 (bvs Jaa)]) (fun a' _ => 4 - (intOf (a'.tmps.getD 6 undef)).toNat) ⟨0, m, a, c2, [_,_,_,_,_,_,_,_,_,_,_,_,_], rfl, by omega, by omega, (by rw [List.take_zero, List.append_nil]; exact M8)⟩ ?_;rintro a' w19 ⟨i2, m2, a2, c3, us18, rfl, hi2, hm2, M19⟩;refine zk fun _ hK20 => zk fun _ hK21 => zr ?_;refine zp 1 rfl ?_;simp only[Za,Zb,Zc];rcases zem ((i2 : Int) < 4) with h22 | h22
  ·have hi4 : i2 < 4 := by omega
   refine zo M19 (zlss rfl (zT h22)) ?_;simp only[Za,Zb,Zc];refine zw (hK21 _ _ (zct rfl (zsk (hK20 _ _ (zk fun _ hK23 => ?_)))));refine zbl (zr ?_);refine zp 3 rfl (zo M19 (Jl2 (r := ((8 * i2 : Nat) : Int)) rfl rfl rfl rfl (by omega) (by omega)) (zo M19 (Jcq (r := ((8 * i2 : Nat) : Int)) rfl rfl rfl zu3 Jpi (Je1 (by omega))) (zo M19 (Jfn (r := .int .u32 (((crcL l).toNat / 2 ^ (8 * i2) : Nat) : Int)) rfl rfl rfl rfl (Jrf _ _ (by omega) _)) (zo M19 (Jcq (r := (((sum4 (crcL l)).getD i2 0).toNat : Int)) rfl rfl rfl zu35 zu5 (by rw [Jo5 _ hi4]; exact Jee _)) ?_))));simp only[Za,Zb,Zc];refine pe rfl fun K hK => Ja8 M19 ([.int .u8 (((sum4 (crcL l)).getD i2 0).toNat : Int)]) (pv := [(0, .int .u8 (((sum4 (crcL l)).getD i2 0).toNat : Int))]) rfl rfl zu22 zz5 z05 (by decide) (by kernel_rfl) ?_;intro g24 w25 (M25 : Mem w _ w25 [blk g24 5 ([.int .u8 (((sum4 (crcL l)).getD i2 0).toNat : Int)]), lst 5 1 (.slice a2 m2 c3) m2 (bvs (l ++ (sum4 (crcL l)).take i2)), blk 0 gT0 (bvs Jaa)]);refine hK.out _ _ ?_;simp only[Ze,Zb,Zc,Zd];refine pe rfl fun K hK => Ja5 M25 1 Jd7 (by decide) (news := bvs [((sum4 (crcL l)).getD i2 0)]) rfl rfl rfl rfl (rfl) (by intro h; cases h) (fun ad e j u hj => by cases e; match j with | 0 => cases hj; exact Jaj (M25.get 0 rfl) rfl | j + 1 => cases hj) (by intro u hu; cases hu with | head => rfl | tail _ h => cases h) (⟨by unfold maxLen; omega, by omega⟩) ?_;intro v26 w26 M26;replace M26 : zD w [blk 0 gT0 (bvs Jaa)] w26 [blk g24 5 ([.int .u8 (((sum4 (crcL l)).getD i2 0).toNat : Int)]), lst 5 1 v26 (m2 + 1) (bvs (l ++ (sum4 (crcL l)).take (i2 + 1))), blk 0 gT0 (bvs Jaa)] := (by have N := M26; rw [← Jci, List.append_assoc, Jc4 hi4] at N; exact N);obtain ⟨a26, c26, rfl⟩ := Jcj (M26.get 1 rfl);refine hK.out _ _ ?_;simp only[Ze,Zb,Zc,Zd];refine zp 1 rfl (zw (hK23 _ _ (zr (zp 1 rfl (zo M26 (Ja0 (r := (i2 : Int) + 1) rfl rfl rfl rfl (rfl) (by omega)) (zp 1 rfl ?_))))));simp only[Za,Zb,Zc];refine zw ?_;refine ⟨⟨i2 + 1, m2 + 1, a26, c26, [_,_,_,_,_,_,_,_,_,_,_,_,_], rfl, by omega, by omega, (M26.arr [1, 2] (by decide))⟩, ?_⟩;simp [intOf]; omega
  ·refine zo M19 (zlss rfl (zF h22)) ?_;simp only[Za,Zb,Zc];refine zw (hK21 _ _ (zcf rfl (zx (hK16 _ _ (zk fun _ hK27 => ?_)))));refine zr ?_;refine zp 2 rfl ?_;simp only[Za,Zb,Zc];refine zw (hK27 _ _ (zrt ?_));(try simp only[zi,zj]);refine zR (v := .slice a2 m2 c3) (res1 rfl rfl) rfl ?_;have e1 : m2 = (Jer l).length := by rw [Ja6, hr.1]; omega
   have e2 : l ++ (sum4 (crcL l)).take i2 = Jer l := by rw [List.take_of_length_le (by rw [Jls]; omega)]; rfl
   rw [e2] at M19;subst e1;exact ⟨_, _, rfl, M19.arr [1, 0] (by decide)⟩
theorem Jo7 (ao : Option Addr) (n c : Nat) (l : List UInt8) {w : World} (hM : zM w [blk 0 gT0 (bvs Jaa)]) (hr : Row w ao n l) (ho : ∀ b o, ao = some ⟨b, o, none⟩ → 0 < n → b ∉ Jag [blk 0 gT0 (bvs Jaa)]) (hn : n ≤ 1099511627776) (hs : n < 4) : zC 103 [.slice ao n c] w fun e w' => e = .returned (.bool (Jb9 l)) ∧ zD w [blk 0 gT0 (bvs Jaa)] w' [blk 0 gT0 (bvs Jaa)] := by
 have M := hM;clear hM;go_enter Tryz.func103, Tryz.ntmps103;refine zk fun _ hK1 => zr ?_;refine zp 1 rfl (zw (hK1 _ _ (zk fun _ hK2 => zr (zp 1 rfl (zo M (Jbp rfl rfl rfl zu22) (zo M (Jkn (r := (n : Int) - 4) rfl rfl rfl rfl (rfl) (by omega)) (zp 1 rfl (zw (hK2 _ _ (zk fun _ hK3 => zk fun _ hK4 => zr (zp 1 rfl (zo M (zlss rfl (zT (by omega))) (zw (hK4 _ _ (zct rfl (zk fun _ hK5 => zr (zp 1 rfl ?_)))))))))))))))));simp only[Za,Zb,Zc];refine zw (hK5 _ _ (zrt ?_));(try simp only[zi,zj]);refine zR (v := .bool false) (res1 rfl rfl) rfl ?_;have e1 : Jb9 l = false := decide_eq_false (by rw [hr.1]; omega);rw [e1];exact ⟨rfl, M⟩
theorem Jqo (b o m c : Nat) (l : List UInt8) {w : World} (hM : zM w [blk 0 gT0 (bvs Jaa)]) (hr : Row w (some ⟨b, o, none⟩) (m + 4) l) (ho : ∀ b' o', some (⟨b, o, none⟩ : Addr) = some ⟨b', o', none⟩ → 0 < m + 4 → b' ∉ Jag [blk 0 gT0 (bvs Jaa)]) (hn : m + 4 ≤ 1099511627776) (hnc : m + 4 ≤ c) : zC 103 [.slice (some ⟨b, o, none⟩) (m + 4) c] w fun e w' => e = .returned (.bool (Jb9 l)) ∧ zD w [blk 0 gT0 (bvs Jaa)] w' [blk 0 gT0 (bvs Jaa)] := by
 have M := hM;clear hM;go_enter Tryz.func103, Tryz.ntmps103;refine zk fun _ hK1 => zr ?_;refine zp 1 rfl (zw (hK1 _ _ (zk fun _ hK2 => zr (zp 1 rfl (zo M (Jbp rfl rfl rfl zu22) (zo M (Jkn (r := (m : Int)) rfl rfl rfl rfl (by omega) (by omega)) (zp 1 rfl (zw (hK2 _ _ (zk fun _ hK3 => zk fun _ hK4 => zr (zp 1 rfl (zo M (zlss rfl (zF (by omega))) ?_))))))))))));simp only[Za,Zb,Zc];refine zw (hK4 _ _ (zcf rfl (zsk (hK3 _ _ (zk fun _ hK5 => ?_)))));refine zr ?_;refine zp 2 rfl (zo M (Jjk (l := 0) (h := m) (r := o) (n' := m) (c' := c) rfl rfl rfl rfl rfl zu22 zz5 (by exact ⟨⟨_, _, rfl, by omega, by omega⟩, rfl⟩) (by split <;> omega) (by omega) (by omega)) ?_);simp only[Za,Zb,Zc];have hX6 := M.pk [0];simp only[Y3,Y4,Y1,Y2]at hX6;refine zca 107 _ rfl Tryz.call107 (Jre (some ⟨b, o, none⟩) m c (l.take m) hX6.h1 (M.row (hr.take m (by omega)) (fun b o e _ => ho b o e (by omega))) (fun b o e h => ho b o e (by omega)) (by omega)) ?_;rintro e w6 ⟨rfl, H6⟩;have M6 : Mem w _ w6 [blk 0 gT0 (bvs Jaa)] := hX6.f1 H6;refine ⟨_, rfl, ?_⟩;simp only[Za,Zb,Zc];refine zp 1 rfl (zw (hK5 _ _ (zk fun _ hK7 => zk fun _ hK8 => zr (zp 1 rfl ?_))));simp only[Za,Zb,Zc];refine zw (hK8 _ _ (zbl ?_));refine wp_loop (fun a' w' => ∃ (i : Nat) (us9 : List Value), a' = (⟨#[.slice (some ⟨b, o, none⟩) (m + 4) c, undef, (zU us9 0), zI (m : Int), .int .u32 ((crcL (l.take m)).toNat : Int), zI (i : Int), .slice (some ⟨b, o, none⟩) (m + 4) c, zI ((m + 4 : Nat) : Int), zI (m : Int), zI (m : Int), .bool false, .slice (some ⟨b, o, none⟩) (m + 4) c, zI (m : Int), .slice (some ⟨b, o, none⟩) m c, .int .u32 ((crcL (l.take m)).toNat : Int), (zU us9 1), (zU us9 2), (zU us9 3), (zU us9 4), (zU us9 5), (zU us9 6), (zU us9 7), (zU us9 8), (zU us9 9), (zU us9 10), (zU us9 11), (zU us9 12), (zU us9 13), (zU us9 14), (zU us9 15), (zU us9 16), (zU us9 17)], []⟩ : Act) ∧ (i ≤ 4) ∧ ((l.drop m).take i = (sum4 (crcL (l.take m))).take i) ∧ zD w [blk 0 gT0 (bvs Jaa)] w' [blk 0 gT0 (bvs Jaa)]) (fun a' _ => 4 - (intOf (a'.tmps.getD 5 undef)).toNat) ⟨0, [_,_,_,_,_,_,_,_,_,_,_,_,_,_,_,_,_,_], rfl, by omega, rfl, M6⟩ ?_;rintro a' w10 ⟨i, us9, rfl, hi, hT, M10⟩;refine zk fun _ hK11 => zk fun _ hK12 => zr ?_;refine zp 1 rfl ?_;simp only[Za,Zb,Zc];rcases zem ((i : Int) < 4) with h13 | h13
 ·have hi4 : i < 4 := by omega
  refine zo M10 (zlss rfl (zT h13)) ?_;simp only[Za,Zb,Zc];refine zw (hK12 _ _ (zct rfl (zsk (hK11 _ _ (zk fun _ hK14 => ?_)))));refine zbl (zk fun _ hK15 => zr ?_);refine zp 3 rfl (zo M10 (Ja0 (r := (m : Int) + (i : Int)) rfl rfl rfl rfl (rfl) (by omega)) (zo M10 (Jbc (r := o + (m + i)) rfl rfl rfl rfl zu22 zz5 (by omega) (by omega)) (zo M10 (Jbd (v := .int .u8 ((l.getD (m + i) 0).toNat : Int)) rfl rfl rfl zg5 (fun W hW => Row.cellD (hW.row hr ho) (by omega))) (zp 2 rfl ?_))));simp only[Za,Zb,Zc];refine zo M10 (Jl2 (r := ((8 * i : Nat) : Int)) rfl rfl rfl rfl (by omega) (by omega)) (zo M10 (Jcq (r := ((8 * i : Nat) : Int)) rfl rfl rfl zu3 Jpi (Je1 (by omega))) (zo M10 (Jfn (r := .int .u32 (((crcL (l.take m)).toNat / 2 ^ (8 * i) : Nat) : Int)) rfl rfl rfl rfl (Jrf _ _ (by omega) _)) (zo M10 (Jcq (r := (((sum4 (crcL (l.take m))).getD i 0).toNat : Int)) rfl rfl rfl zu35 zu5 (by rw [Jo5 _ hi4]; exact Jee _)) ?_)));simp only[Za,Zb,Zc];rcases zem (((l.getD (m + i) 0).toNat : Int) = (((sum4 (crcL (l.take m))).getD i 0).toNat : Int)) with h16 | h16
  ·refine zo M10 (zneq (b := false) rfl (by rw [decide_eq_true h16]; rfl)) (zw (hK15 _ _ (zcf rfl (zsk (hK14 _ _ (zr (zp 1 rfl (zo M10 (Ja0 (r := (i : Int) + 1) rfl rfl rfl rfl (rfl) (by omega)) (zp 1 rfl ?_)))))))));simp only[Za,Zb,Zc];refine zw ?_;refine ⟨⟨i + 1, [_,_,_,_,_,_,_,_,_,_,_,_,_,_,_,_,_,_], rfl, by omega, Ju1 (by rw [List.length_drop, hr.1]; omega) hi4 hT (by rw [Jlt]; apply UInt8.toNat_inj.1; omega), M10⟩, ?_⟩;simp [intOf]; omega
  ·refine zo M10 (zneq (b := true) rfl (by rw [decide_eq_false h16]; rfl)) (zw (hK15 _ _ (zct rfl (zk fun _ hK17 => zr (zp 1 rfl ?_)))));simp only[Za,Zb,Zc];refine zw (hK17 _ _ (zrt ?_));(try simp only[zi,zj]);refine zR (v := .bool false) (res1 rfl rfl) rfl ?_
   have e1 : Jb9 l = false := by
     cases hw : Jb9 l with
     | false => rfl
     | true =>
       exfalso; apply h16;have h9 := (Jmz l hr.1).1 hw;rw [← Jlt, h9]
   rw [e1];exact ⟨rfl, M10⟩
 ·refine zo M10 (zlss rfl (zF h13)) ?_;simp only[Za,Zb,Zc];refine zw (hK12 _ _ (zcf rfl (zx (hK7 _ _ (zk fun _ hK18 => ?_)))));refine zr ?_;refine zp 1 rfl ?_;simp only[Za,Zb,Zc];refine zw (hK18 _ _ (zrt ?_));(try simp only[zi,zj]);refine zR (v := .bool true) (res1 rfl rfl) rfl ?_
  have e1 : Jb9 l = true := (Jmz l hr.1).2 (by
    have e4 : i = 4 := by omega
    rw [e4, List.take_of_length_le (by rw [List.length_drop, hr.1]; omega), List.take_of_length_le (by rw [Jls]; decide)] at hT;exact hT)
  rw [e1];exact ⟨rfl, M10⟩
theorem Jm0 (ao : Option Addr) (n c : Nat) (l : List UInt8) {w : World} (hM : Mem w (Jag [blk 0 gT0 (bvs Jaa)]) w [blk 0 gT0 (bvs Jaa)]) (hr : Row w ao n l) (ho : ∀ b o, ao = some ⟨b, o, none⟩ → 0 < n → b ∉ Jag [blk 0 gT0 (bvs Jaa)]) (hn : n ≤ 1099511627776) (hnc : n ≤ c) : Calls Tryz.prog 103 #[.slice ao n c] w fun e w' => e = .returned (.bool (Jb9 l)) ∧ Mem w (Jag [blk 0 gT0 (bvs Jaa)]) w' [blk 0 gT0 (bvs Jaa)] := by
 rcases Nat.lt_or_ge n 4 with h | h
 ·exact Jo7 ao n c l hM hr ho hn h
 ·obtain ⟨m, rfl⟩ : ∃ m, n = m + 4 := ⟨n - 4, by omega⟩;obtain ⟨b, o, rfl⟩ := hr.at0 (by omega);exact Jqo b o m c l hM hr ho hn hnc
end
theorem Jsy (l : List UInt8) (m : Nat) (h : l.length = m + 4) (s : UInt32) (hs : crcL (l.take m) = s) :
    Jb9 l = (decide (l[m]'(by omega) = s.toUInt8) && decide (l[m + 1]'(by omega) = (s >>> 8).toUInt8) && decide (l[m + 2]'(by omega) = (s >>> 16).toUInt8) && decide (l[m + 3]'(by omega) = (s >>> 24).toUInt8)) := by
 unfold Jb9;have e : l.length - 4 = m := by omega
 rw [e, hs]
 have hd : l.drop m = [l[m]'(by omega), l[m + 1]'(by omega), l[m + 2]'(by omega), l[m + 3]'(by omega)] := by
   apply List.ext_getElem
   ·simp; omega
   ·intro i h1 h2;rw [List.getElem_drop];match i, h2 with
    | 0, _ => rfl;| 1, _ => rfl;| 2, _ => rfl;| 3, _ => rfl
 rw [hd];rw [Bool.eq_iff_iff];simp [sum4, and_assoc, h]
theorem Jn3 (ao : Option Addr) (n c : Nat) (l : List UInt8) (w : World) (h0 : Row w ao n l) (hm : n ≤ maxLen) (hnc : n ≤ c) (hcm : c ≤ maxLen) :
    zC 118 [.slice ao n c] w fun e w' => e = .returned (.bool (Jb9 l)) ∧ Below w.heap.size w w' := by
 unfold maxLen at hm hcm;by_cases hn : n < 4
 ·have HF := Box.mk (show Jb9 l = false by
    have := h0.1;unfold Jb9;rw [decide_eq_false_iff_not]; omega)
  clear h0;go_enter Tryz.func118, Tryz.ntmps118;go_wp2;go_ret;exact ⟨by rw [HF.out]; rfl, Below.refl _ w⟩
 ·obtain ⟨m, rfl⟩ : ∃ m, n = m + 4 := ⟨n - 4, by omega⟩;have hl := h0.1;have HF := Box.mk (Jsy l m hl _ rfl);have hf := Box.mk (Jqx ao m c (l.take m) w (h0.take m (by omega)) (by unfold maxLen; omega));obtain ⟨b, o, rfl⟩ := h0.at0 (by omega)
  have hC := Box.mk (fun (W : World) (hW : Below w.heap.size w W) => show W.cell? ⟨b, o + m, none⟩ = some (bv (l[m]'(by omega))) ∧ W.cell? ⟨b, o + (m + 1), none⟩ = some (bv (l[m + 1]'(by omega))) ∧ W.cell? ⟨b, o + (m + 2), none⟩ = some (bv (l[m + 2]'(by omega))) ∧ W.cell? ⟨b, o + (m + 3), none⟩ = some (bv (l[m + 3]'(by omega))) from
    ⟨(h0.old hW).bcell m (by omega), (h0.old hW).bcell (m + 1) (by omega), (h0.old hW).bcell (m + 2) (by omega), (h0.old hW).bcell (m + 3) (by omega)⟩)
  generalize crcL (l.take m) = s at *;generalize l[m]'(by omega) = x0 at *;generalize l[m + 1]'(by omega) = x1 at *;generalize l[m + 2]'(by omega) = x2 at *;generalize l[m + 3]'(by omega) = x3 at *;clear h0 hl hn;go_enter Tryz.func118, Tryz.ntmps118;go_upto_region 5 with (go_at_call 122; refine (Ji8 hf.out).mono ?_);rintro e w1 ⟨⟨rfl, hB⟩⟩;have B1 := Box.mk hB;obtain ⟨c0, c1, c2, c3⟩ := hC.out w1 hB;clear hB hf hC;generalize hd0 : decide (x0 = s.toUInt8) = d0 at *;generalize hd1 : decide (x1 = (s >>> 8).toUInt8) = d1 at *;generalize hd2 : decide (x2 = (s >>> 16).toUInt8) = d2 at *;generalize hd3 : decide (x3 = (s >>> 24).toUInt8) = d3 at *;cases d0
  ·go_wp2;go_ret;exact ⟨by rw [HF.out]; rfl, B1.out⟩
  cases d1
  ·go_wp2;go_ret;exact ⟨by rw [HF.out]; rfl, B1.out⟩
  cases d2
  ·go_wp2;go_ret;exact ⟨by rw [HF.out]; rfl, B1.out⟩
  cases d3
  ·go_wp2;go_ret;exact ⟨by rw [HF.out]; rfl, B1.out⟩
  ·go_wp2;go_ret;exact ⟨by rw [HF.out]; rfl, B1.out⟩
end Go.Proofs.YtodhlfinbbajfaaGreatDoor
