/- Texts joined: Cach, Cache1, Cache2, Cache3. -/
import Derived.Test.YtopdhanbmnfeeaaDoorIR04
import Derived.Test.YtopdhanbmnfeeaaDoorIR05
/- The cache's memory as an assertion over its two lists. No program in sight but its types' numbers. -/
namespace Go.Proofs.YtopdhanbmnfeeaaDoor
set_option linter.unusedSectionVars false
open Go Go.RowKit
set_option linter.unusedVariables false
set_option linter.unusedSimpArgs false
structure CS where
  room : Int
  cl : List En
  kp : List En
  hits : Int
  misses : Int
  gone : Int
structure CX where
  ks : List (Nat × TypeId)
  m : HM
  n : Nat
  f : Int → Option Addr
abbrev TC : TypeId := 107
abbrev TE : TypeId := 103
abbrev KIn (k : Int) : Prop := -9223372036854775808 ≤ k ∧ k ≤ 9223372036854775807
structure CInv (S : CS) (Z : List En) (c mb : Nat) (x : CX) : Prop where
  core : Core c 2 9 S.cl S.kp Z x.m
  cks : (c, TC) ∈ x.ks
  eks : ∀ e ∈ S.cl ++ S.kp ++ Z, (e.b, TE) ∈ x.ks
  keys : ((S.cl ++ S.kp ++ Z).map (·.k)).Nodup
  kin : ∀ e ∈ S.cl ++ S.kp ++ Z, KIn e.k
  f1 : ∀ e ∈ S.cl ++ S.kp ++ Z, x.f e.k = some ⟨e.b, 0, none⟩
  f2 : ∀ k, (∀ e ∈ S.cl ++ S.kp ++ Z, e.k ≠ k) → x.f k = none
  c0 : x.m.rd c 0 = some (.int .i64 S.room)
  c1 : x.m.rd c 1 = some (.map (some mb))
  c16 : x.m.rd c 16 = some (.int .i64 S.hits)
  c17 : x.m.rd c 17 = some (.int .i64 S.misses)
  c18 : x.m.rd c 18 = some (.int .i64 S.gone)
  rm : 0 ≤ S.room ∧ S.room ≤ 4096
  cn : KIn S.hits ∧ KIn S.misses ∧ KIn S.gone
section
variable {S : CS} {Z : List En} {c mb : Nat} {x : CX}
theorem CInv.perm {S' : CS} {Z' : List En} {m' : HM} (h : CInv S Z c mb x) (hc : Core c 2 9 S'.cl S'.kp Z' m') (p : (S.cl ++ S.kp ++ Z).Perm (S'.cl ++ S'.kp ++ Z')) (hk : ∀ o, o < 2 ∨ 16 ≤ o → m'.rd c o = x.m.rd c o)
    (e1 : S'.room = S.room) (e2 : S'.hits = S.hits) (e3 : S'.misses = S.misses) (e4 : S'.gone = S.gone) : CInv S' Z' c mb { x with m := m' } where
  core := hc
  cks := h.cks
  eks e he := h.eks e (p.mem_iff.2 he)
  keys := (p.map _).nodup_iff.1 h.keys
  kin e he := h.kin e (p.mem_iff.2 he)
  f1 e he := h.f1 e (p.mem_iff.2 he)
  f2 k hk := h.f2 k fun e he => hk e (p.mem_iff.1 he)
  c0 := by show m'.rd c 0 = _; rw [hk 0 (by omega), h.c0, e1]
  c1 := by show m'.rd c 1 = _; rw [hk 1 (by omega), h.c1]
  c16 := by show m'.rd c 16 = _; rw [hk 16 (by omega), h.c16, e2]
  c17 := by show m'.rd c 17 = _; rw [hk 17 (by omega), h.c17, e3]
  c18 := by show m'.rd c 18 = _; rw [hk 18 (by omega), h.c18, e4]
  rm := by rw [e1]; exact h.rm
  cn := by rw [e2, e3, e4]; exact h.cn
structure DropC (ks : List (Nat × TypeId)) (m : HM) (e p n : NA) (c ro : Nat) (sz : Int) : Prop where
  pv : m.rd e.1 (e.2 + 4) = some (pt p)
  nx : m.rd e.1 (e.2 + 5) = some (pt n)
  ke : ∃ T, (e.1, T) ∈ ks
  kp : ∃ T, (p.1, T) ∈ ks
  kn : ∃ T, (n.1, T) ∈ ks
  kc : ∃ T, (c, T) ∈ ks
  sp : (m.rd p.1 (p.2 + 5)).isSome
  sn : ((m.wr p.1 (p.2 + 5) (pt n)).rd n.1 (n.2 + 4)).isSome
  hz : ((m.wr p.1 (p.2 + 5) (pt n)).wr n.1 (n.2 + 4) (pt p)).rd c (ro + 6) = some (.int .i64 sz)
  si : KIn (sz - 1)
structure LastC (ks : List (Nat × TypeId)) (m : HM) (e q : NA) (c ro : Nat) (sz : Int) : Prop where
  pv : m.rd c (ro + 4) = some (pt q)
  ke : ∃ T, (e.1, T) ∈ ks
  kq : ∃ T, (q.1, T) ∈ ks
  kc : ∃ T, (c, T) ∈ ks
  s4 : (m.rd e.1 (e.2 + 4)).isSome
  s5 : ((m.wr e.1 (e.2 + 4) (pt q)).rd e.1 (e.2 + 5)).isSome
  r4 : ((m.wr e.1 (e.2 + 4) (pt q)).wr e.1 (e.2 + 5) (pt (c, ro))).rd e.1 (e.2 + 4) = some (pt q)
  sq : (((m.wr e.1 (e.2 + 4) (pt q)).wr e.1 (e.2 + 5) (pt (c, ro))).rd q.1 (q.2 + 5)).isSome
  r5 : ((m.wr e.1 (e.2 + 4) (pt q)).wr e.1 (e.2 + 5) (pt (c, ro))).rd e.1 (e.2 + 5) = some (pt (c, ro))
  sr : ((((m.wr e.1 (e.2 + 4) (pt q)).wr e.1 (e.2 + 5) (pt (c, ro))).wr q.1 (q.2 + 5) (pt e)).rd c (ro + 4)).isSome
  ne1 : e.1 ≠ c
  ne2 : e.1 ≠ q.1
  hz : ((((m.wr e.1 (e.2 + 4) (pt q)).wr e.1 (e.2 + 5) (pt (c, ro))).wr q.1 (q.2 + 5) (pt e)).wr c (ro + 4) (pt e)).rd c (ro + 6) = some (.int .i64 sz)
  si : KIn (sz + 1)
theorem CInv.key_of (h : CInv S Z c mb x) {g : Nat} (hg : g = c ∨ g ∈ (S.cl ++ S.kp ++ Z).map (·.b)) : ∃ T, (g, T) ∈ x.ks := by
  rcases hg with rfl | hg
  · exact ⟨_, h.cks⟩
  · obtain ⟨e, he, rfl⟩ := List.mem_map.1 hg
    exact ⟨_, h.eks e he⟩
theorem drop_si {α : Type} {a b : List α} {e : α} (hl : (a ++ e :: b).length ≤ 1099511627776) : KIn (((a ++ e :: b).length : Nat) - 1 : Int) := by
  have : 1 ≤ (a ++ e :: b).length := by simp; omega
  constructor <;> omega
theorem CInv.drop_cl {a b : List En} {e : En} (h : CInv S Z c mb x) (hs : S.cl = a ++ e :: b) (hl : S.cl.length ≤ 1099511627776) :
    ∃ p n, DropC x.ks x.m e.nd p n c 2 (S.cl.length : Int) ∧ CInv { S with cl := a ++ b } (e :: Z) c mb { x with m := dropM x.m p n c 2 ((S.cl.length : Int) - 1) } := by
  have hc := h.core
  rw [hs] at hc
  obtain ⟨p, n, h1, h2, h3, h4, h5, h6, h7, _, h9, h10⟩ := hc.drop (.inl ⟨rfl, rfl⟩)
  rw [← hs] at h7 h9 h10
  have hp : (S.cl ++ S.kp ++ Z).Perm ((a ++ b) ++ S.kp ++ (e :: Z)) := by
    rw [hs]
    have q1 : (a ++ e :: b).Perm (e :: (a ++ b)) := List.perm_middle
    have q2 : ((a ++ b) ++ S.kp ++ (e :: Z)).Perm (e :: ((a ++ b) ++ S.kp ++ Z)) := List.perm_middle
    exact ((q1.append_right S.kp).append_right Z).trans q2.symm
  have mk : ∀ {g : Nat}, (g = c ∨ g ∈ (a ++ b).map (·.b)) → (g = c ∨ g ∈ (S.cl ++ S.kp ++ Z).map (·.b)) := fun {g} hg => hg.imp id fun hg => by
    rw [hs]
    obtain ⟨u, hu, rfl⟩ := List.mem_map.1 hg
    exact List.mem_map.2 ⟨u, by simp at hu ⊢; rcases hu with h | h <;> simp [h], rfl⟩
  refine ⟨p, n, ⟨h1, h2, ⟨_, h.eks e (by rw [hs]; simp)⟩, h.key_of (mk h3), h.key_of (mk h4), ⟨_, h.cks⟩, h5, h6, h7, by rw [hs] at hl ⊢; exact drop_si hl⟩, h.perm h9 hp h10 rfl rfl rfl rfl⟩
theorem CInv.last_cl {e : En} (h : CInv S (e :: Z) c mb x) (hl : S.cl.length ≤ 1099511627776) :
    ∃ q, LastC x.ks x.m e.nd q c 2 (S.cl.length : Int) ∧ CInv { S with cl := S.cl ++ [e] } Z c mb { x with m := lastM x.m e.nd q c 2 ((S.cl.length : Int) + 1) } := by
  obtain ⟨q, h1, h2, h3, h4, h5, h6, h7, h8, h9, h10, h11, h12⟩ := h.core.last (.inl ⟨rfl, rfl⟩)
  refine ⟨q, ⟨h1, ⟨_, h.eks e (by simp)⟩, h.key_of (h2.imp id fun hx => by simp at hx ⊢; obtain ⟨a, ha, hb⟩ := hx; exact .inl ⟨a, ha, hb⟩), ⟨_, h.cks⟩, h3, h4, h5, h6, h7, h8, (h.core.blk e (by simp)).1, (fun hx => h12 hx.symm), h9, by constructor <;> omega⟩, h.perm h10 ?_ h11 rfl rfl rfl rfl⟩
  have h1 : (S.cl ++ S.kp ++ (e :: Z)).Perm (e :: (S.cl ++ S.kp ++ Z)) := List.perm_middle
  have h2 : ((S.cl ++ [e]) ++ S.kp ++ Z).Perm (e :: (S.cl ++ S.kp ++ Z)) := by
    have : ((S.cl ++ [e]) ++ S.kp ++ Z) = S.cl ++ e :: (S.kp ++ Z) := by simp
    rw [this, List.append_assoc]
    exact List.perm_middle
  exact h1.trans h2.symm
theorem CInv.last_kp {e : En} (h : CInv S (e :: Z) c mb x) (hl : S.kp.length ≤ 1099511627776) :
    ∃ q, LastC x.ks x.m e.nd q c 9 (S.kp.length : Int) ∧ CInv { S with kp := S.kp ++ [e] } Z c mb { x with m := lastM x.m e.nd q c 9 ((S.kp.length : Int) + 1) } := by
  obtain ⟨q, h1, h2, h3, h4, h5, h6, h7, h8, h9, h10, h11, h12⟩ := h.core.symm.last (.inr ⟨rfl, rfl⟩)
  refine ⟨q, ⟨h1, ⟨_, h.eks e (by simp)⟩, h.key_of (h2.imp id fun hx => by simp at hx ⊢; obtain ⟨a, ha, hb⟩ := hx; exact .inr (.inl ⟨a, ha, hb⟩)), ⟨_, h.cks⟩, h3, h4, h5, h6, h7, h8, (h.core.blk e (by simp)).1, (fun hx => h12 hx.symm), h9, by constructor <;> omega⟩, h.perm h10.symm ?_ h11 rfl rfl rfl rfl⟩
  have h1 : (S.cl ++ S.kp ++ (e :: Z)).Perm (e :: (S.cl ++ S.kp ++ Z)) := List.perm_middle
  have h2 : (S.cl ++ (S.kp ++ [e]) ++ Z).Perm (e :: (S.cl ++ S.kp ++ Z)) := by
    have : (S.cl ++ (S.kp ++ [e]) ++ Z) = (S.cl ++ S.kp) ++ e :: Z := by simp
    rw [this]
    exact List.perm_middle
  exact h1.trans h2.symm
theorem CInv.del {e : En} (h : CInv S (e :: Z) c mb x) : CInv S Z c mb { x with f := fun j => if j = e.k then none else x.f j } := by
  have hsub : ∀ u ∈ S.cl ++ S.kp ++ Z, u ∈ S.cl ++ S.kp ++ (e :: Z) := fun u hu => by
    rcases List.mem_append.1 hu with hu | hu
    · exact List.mem_append_left _ hu
    · exact List.mem_append_right _ (List.mem_cons_of_mem _ hu)
  have perm : (S.cl ++ S.kp ++ (e :: Z)).Perm (e :: (S.cl ++ S.kp ++ Z)) := List.perm_middle
  have hk := (perm.map (·.k)).nodup_iff.1 h.keys
  rw [List.map_cons, List.nodup_cons] at hk
  have hne : ∀ u ∈ S.cl ++ S.kp ++ Z, u.k ≠ e.k := fun u hu hx => hk.1 (List.mem_map.2 ⟨u, hu, hx⟩)
  have hb := (perm.map (·.b)).nodup_iff.1 h.core.nd
  rw [List.map_cons, List.nodup_cons] at hb
  refine ⟨⟨hb.2, fun u hu => h.core.blk u (hsub u hu), h.core.len, h.core.rA, h.core.rB, h.core.sA, h.core.sB, fun u hu => h.core.dat u (hsub u hu)⟩, h.cks, fun u hu => h.eks u (hsub u hu), hk.2, fun u hu => h.kin u (hsub u hu), fun u hu => ?_, fun k hk2 => ?_, h.c0, h.c1, h.c16, h.c17, h.c18, h.rm, h.cn⟩
  · show (if u.k = e.k then none else x.f u.k) = _
    rw [if_neg (hne u hu)]
    exact h.f1 u (hsub u hu)
  · show (if k = e.k then none else x.f k) = none
    by_cases hke : k = e.k
    · rw [if_pos hke]
    · rw [if_neg hke]
      refine h.f2 k fun u hu => ?_
      rcases List.mem_cons.1 (perm.mem_iff.1 hu) with rfl | hu
      · exact fun hx => hke hx.symm
      · exact hk2 u hu
theorem CInv.cell {S' : CS} {o : Nat} {v : Int} (h : CInv S Z c mb x) (ho : 16 ≤ o) (h0 : (x.m.rd c o).isSome) (hl : S'.cl = S.cl ∧ S'.kp = S.kp ∧ S'.room = S.room)
    (e16 : S'.hits = if o = 16 then v else S.hits) (e17 : S'.misses = if o = 17 then v else S.misses) (e18 : S'.gone = if o = 18 then v else S.gone) (hv : KIn v) : CInv S' Z c mb { x with m := x.m.wr c o (.int .i64 v) } := by
  have rd : ∀ g p, ¬ (g = c ∧ p = o) → (x.m.wr c o (.int .i64 v)).rd g p = x.m.rd g p := fun g p hn => HM.rd_other hn
  have hrA := h.core.okA (.inl ⟨rfl, rfl⟩)
  have hrB := h.core.symm.okA (.inr ⟨rfl, rfl⟩)
  have lnk : ∀ y : NA, NOk c y → (x.m.wr c o (.int .i64 v)).rd y.1 (y.2 + 5) = x.m.rd y.1 (y.2 + 5) ∧ (x.m.wr c o (.int .i64 v)).rd y.1 (y.2 + 4) = x.m.rd y.1 (y.2 + 4) := fun y hy => by
    refine ⟨rd _ _ ?_, rd _ _ ?_⟩ <;> rintro ⟨h1, h2⟩ <;> rcases hy.cell with ⟨_, h3⟩ | ⟨h3, _⟩ <;> omega
  obtain ⟨l1, l2, l3⟩ := hl
  have num : ∀ j, 16 ≤ j → ∀ w : Int, x.m.rd c j = some (.int .i64 w) → (x.m.wr c o (.int .i64 v)).rd c j = some (.int .i64 (if o = j then v else w)) := fun j hj w hw => by
    by_cases e : o = j
    · subst e
      rw [HM.rd_same h0, if_pos rfl]
    · rw [rd _ _ (fun x => e x.2.symm), hw, if_neg e]
  refine ⟨⟨?_, ?_, ?_, ?_, ?_, ?_, ?_, ?_⟩, h.cks, ?_, ?_, ?_, ?_, ?_, ?_, ?_, ?_, ?_, ?_, by rw [l3]; exact h.rm, ?_⟩
  · rw [l1, l2]; exact h.core.nd
  · rw [l1, l2]; intro e he; have := h.core.blk e he; exact ⟨this.1, by show ((x.m.wr c o _) e.b).length = 6; rw [HM.len_wr]; exact this.2⟩
  · show ((x.m.wr c o _) c).length = 19; rw [HM.len_wr]; exact h.core.len
  · rw [l1]; exact ring_same h.core.rA fun y hy => lnk y (hrA y hy)
  · rw [l2]; exact ring_same h.core.rB fun y hy => lnk y (hrB y hy)
  · rw [l1]; show (x.m.wr c o _).rd c 8 = _; rw [rd _ _ (by omega)]; exact h.core.sA
  · rw [l2]; show (x.m.wr c o _).rd c 15 = _; rw [rd _ _ (by omega)]; exact h.core.sB
  · rw [l1, l2]
    intro e he
    have hb := (h.core.blk e he).1
    have hd := h.core.dat e he
    exact ⟨by rw [rd _ _ (fun x => hb x.1)]; exact hd.1, by rw [rd _ _ (fun x => hb x.1)]; exact hd.2.1, by rw [rd _ _ (fun x => hb x.1)]; exact hd.2.2.1, by rw [rd _ _ (fun x => hb x.1)]; exact hd.2.2.2⟩
  · rw [l1, l2]; exact h.eks
  · rw [l1, l2]; exact h.keys
  · rw [l1, l2]; exact h.kin
  · rw [l1, l2]; exact h.f1
  · rw [l1, l2]; exact h.f2
  · rw [l3]; show (x.m.wr c o _).rd c 0 = _; rw [rd _ _ (by omega)]; exact h.c0
  · show (x.m.wr c o _).rd c 1 = _; rw [rd _ _ (by omega)]; exact h.c1
  · show (x.m.wr c o _).rd c 16 = _; rw [num 16 (by omega) _ h.c16, e16]
  · show (x.m.wr c o _).rd c 17 = _; rw [num 17 (by omega) _ h.c17, e17]
  · show (x.m.wr c o _).rd c 18 = _; rw [num 18 (by omega) _ h.c18, e18]
  · rw [e16, e17, e18]
    refine ⟨?_, ?_, ?_⟩ <;> split <;> first | exact hv | exact h.cn.1 | exact h.cn.2.1 | exact h.cn.2.2
theorem CInv.entry {S' : CS} {Z' : List En} {e e' : En} {m' : HM} (h : CInv S Z c mb x) (he : e ∈ S.cl ++ S.kp ++ Z) (eb : e'.b = e.b) (ek : e'.k = e.k)
    (hl : S'.cl = S.cl.map (fun u => if u.b = e.b then e' else u) ∧ S'.kp = S.kp.map (fun u => if u.b = e.b then e' else u) ∧ Z' = Z.map (fun u => if u.b = e.b then e' else u))
    (hc : S'.room = S.room ∧ S'.hits = S.hits ∧ S'.misses = S.misses ∧ S'.gone = S.gone)
    (hm : ∀ g o, ¬ (g = e.b ∧ o < 4) → m'.rd g o = x.m.rd g o) (hml : ∀ g, (m' g).length = (x.m g).length) (hd : dat m' e') : CInv S' Z' c mb { x with m := m' } := by
  obtain ⟨l1, l2, l3⟩ := hl
  have all : S'.cl ++ S'.kp ++ Z' = (S.cl ++ S.kp ++ Z).map (fun u => if u.b = e.b then e' else u) := by rw [l1, l2, l3, List.map_append, List.map_append]
  have fb : ∀ u : En, (if u.b = e.b then e' else u).b = u.b := fun u => by split <;> simp_all
  have mapb : ∀ l : List En, (l.map (fun u => if u.b = e.b then e' else u)).map (·.b) = l.map (·.b) := fun l => by
    rw [List.map_map]; exact List.map_congr_left fun u _ => fb u
  have mapn : ∀ l : List En, (l.map (fun u => if u.b = e.b then e' else u)).map En.nd = l.map En.nd := fun l => by
    rw [List.map_map]; exact List.map_congr_left fun u _ => by show En.nd _ = _; unfold En.nd; rw [fb u]
  have one : ∀ u ∈ S.cl ++ S.kp ++ Z, u.b = e.b → u = e := fun u hu hb => by
    have hN := h.core.nd
    unfold List.Nodup at hN
    rw [List.pairwise_map] at hN
    apply Classical.byContradiction
    intro hne
    obtain ⟨i, hi, rfl⟩ := List.mem_iff_getElem.1 hu
    obtain ⟨j, hj, rfl⟩ := List.mem_iff_getElem.1 he
    have hp := List.pairwise_iff_getElem.1 hN
    rcases Nat.lt_trichotomy i j with hlt | rfl | hlt
    · exact hp i j hi hj hlt hb
    · exact hne rfl
    · exact hp j i hj hi hlt hb.symm
  have fk : ∀ u ∈ S.cl ++ S.kp ++ Z, (if u.b = e.b then e' else u).k = u.k := fun u hu => by
    split
    · next hb => rw [ek, one u hu hb]
    · rfl
  have mem : ∀ u' ∈ S'.cl ++ S'.kp ++ Z', ∃ u ∈ S.cl ++ S.kp ++ Z, u' = if u.b = e.b then e' else u := fun u' hu => by
    rw [all] at hu
    obtain ⟨u, hv, rfl⟩ := List.mem_map.1 hu
    exact ⟨u, hv, rfl⟩
  have hne := (h.core.blk e he).1
  have rc : ∀ o, m'.rd c o = x.m.rd c o := fun o => hm c o fun x => hne x.1.symm
  have lnk : ∀ y : NA, m'.rd y.1 (y.2 + 5) = x.m.rd y.1 (y.2 + 5) ∧ m'.rd y.1 (y.2 + 4) = x.m.rd y.1 (y.2 + 4) := fun y => ⟨hm _ _ (by omega), hm _ _ (by omega)⟩
  obtain ⟨q1, q2, q3, q4⟩ := hc
  refine ⟨⟨?_, ?_, ?_, ?_, ?_, ?_, ?_, ?_⟩, h.cks, ?_, ?_, ?_, ?_, ?_, ?_, ?_, ?_, ?_, ?_, by rw [q1]; exact h.rm, by rw [q2, q3, q4]; exact h.cn⟩
  · rw [all, mapb]; exact h.core.nd
  · intro u' hu
    obtain ⟨u, hv, rfl⟩ := mem u' hu
    have := h.core.blk u hv
    exact ⟨by rw [fb]; exact this.1, by show (m' _).length = 6; rw [hml, fb]; exact this.2⟩
  · show (m' c).length = 19; rw [hml]; exact h.core.len
  · rw [l1, mapn]; exact ring_same h.core.rA fun y _ => lnk y
  · rw [l2, mapn]; exact ring_same h.core.rB fun y _ => lnk y
  · rw [l1, List.length_map]; show m'.rd c 8 = _; rw [rc]; exact h.core.sA
  · rw [l2, List.length_map]; show m'.rd c 15 = _; rw [rc]; exact h.core.sB
  · intro u' hu
    obtain ⟨u, hv, rfl⟩ := mem u' hu
    by_cases hb : u.b = e.b
    · rw [if_pos hb]; exact hd
    · rw [if_neg hb]
      have hd := h.core.dat u hv
      have k : ∀ o, m'.rd u.b o = x.m.rd u.b o := fun o => hm _ _ fun x => hb x.1
      exact ⟨by rw [k]; exact hd.1, by rw [k]; exact hd.2.1, by rw [k]; exact hd.2.2.1, by rw [k]; exact hd.2.2.2⟩
  · intro u' hu
    obtain ⟨u, hv, rfl⟩ := mem u' hu
    rw [fb]; exact h.eks u hv
  · have e1 : (S'.cl ++ S'.kp ++ Z').map (·.k) = (S.cl ++ S.kp ++ Z).map (·.k) := by
      rw [all, List.map_map]
      exact List.map_congr_left fun u hu => fk u hu
    rw [e1]
    exact h.keys
  · intro u' hu
    obtain ⟨u, hv, rfl⟩ := mem u' hu
    rw [fk u hv]; exact h.kin u hv
  · intro u' hu
    obtain ⟨u, hv, rfl⟩ := mem u' hu
    rw [fk u hv, fb]; exact h.f1 u hv
  · intro k hk
    refine h.f2 k fun u hu => ?_
    have := hk _ (by rw [all]; exact List.mem_map.2 ⟨u, hu, rfl⟩)
    rwa [fk u hu] at this
  · rw [q1]; show m'.rd c 0 = _; rw [rc]; exact h.c0
  · show m'.rd c 1 = _; rw [rc]; exact h.c1
  · rw [q2]; show m'.rd c 16 = _; rw [rc]; exact h.c16
  · rw [q3]; show m'.rd c 17 = _; rw [rc]; exact h.c17
  · rw [q4]; show m'.rd c 18 = _; rw [rc]; exact h.c18
theorem CInv.new {g : Nat} {C : List Value} {e : En} (h : CInv S Z c mb x) (hg : g ∉ x.ks.map (·.1)) (eb : e.b = g) (hk : ∀ u ∈ S.cl ++ S.kp ++ Z, u.k ≠ e.k) (hki : KIn e.k) (hC : C.length = 6) (hd : C[0]? = some (.int .i64 e.k) ∧ C[1]? = some (.int .i64 e.kd) ∧ C[2]? = some e.ld ∧ C[3]? = some (.bool e.h)) :
    CInv S (e :: Z) c mb ⟨(g, TE) :: x.ks, x.m.put g C, x.n + 1, fun j => if j = e.k then some ⟨g, 0, none⟩ else x.f j⟩ := by
  subst eb
  have perm : (S.cl ++ S.kp ++ (e :: Z)).Perm (e :: (S.cl ++ S.kp ++ Z)) := List.perm_middle
  have hgc : e.b ≠ c := fun hx => hg (hx ▸ List.mem_map.2 ⟨_, h.cks, rfl⟩)
  have hgu : ∀ u ∈ S.cl ++ S.kp ++ Z, u.b ≠ e.b := fun u hu hx => hg (hx ▸ List.mem_map.2 ⟨_, h.eks u hu, rfl⟩)
  have rd : ∀ y o, y ≠ e.b → (x.m.put e.b C).rd y o = x.m.rd y o := fun y o hy => HM.rd_put_ne C hy
  have rc : ∀ o, (x.m.put e.b C).rd c o = x.m.rd c o := fun o => rd _ _ (Ne.symm hgc)
  have lk1 : ∀ l : List En, (∀ u ∈ l, u ∈ S.cl ++ S.kp ++ Z) → ∀ ro, ∀ y ∈ ((c, ro) : NA) :: l.map En.nd, (x.m.put e.b C).rd y.1 (y.2 + 5) = x.m.rd y.1 (y.2 + 5) ∧ (x.m.put e.b C).rd y.1 (y.2 + 4) = x.m.rd y.1 (y.2 + 4) := fun l hl ro y hy => by
    have hy1 : y.1 ≠ e.b := by
      rcases List.mem_cons.1 hy with rfl | hy
      · exact Ne.symm hgc
      · obtain ⟨u, hu, rfl⟩ := List.mem_map.1 hy
        exact hgu u (hl u hu)
    exact ⟨rd _ _ hy1, rd _ _ hy1⟩
  refine ⟨⟨?_, ?_, ?_, ?_, ?_, ?_, ?_, ?_⟩, List.mem_cons_of_mem _ h.cks, ?_, ?_, ?_, ?_, ?_, by show (x.m.put e.b C).rd c 0 = _; rw [rc]; exact h.c0, by show (x.m.put e.b C).rd c 1 = _; rw [rc]; exact h.c1, by show (x.m.put e.b C).rd c 16 = _; rw [rc]; exact h.c16, by show (x.m.put e.b C).rd c 17 = _; rw [rc]; exact h.c17, by show (x.m.put e.b C).rd c 18 = _; rw [rc]; exact h.c18, h.rm, h.cn⟩
  · rw [(perm.map (·.b)).nodup_iff, List.map_cons, List.nodup_cons]
    exact ⟨fun hx => by obtain ⟨u, hu, hb⟩ := List.mem_map.1 hx; exact hgu u hu hb, h.core.nd⟩
  · intro u hu
    rcases List.mem_cons.1 (perm.mem_iff.1 hu) with rfl | hu
    · exact ⟨hgc, by show ((x.m.put u.b C) u.b).length = 6; unfold HM.put; rw [if_pos rfl]; exact hC⟩
    · have := h.core.blk u hu
      exact ⟨this.1, by show ((x.m.put e.b C) u.b).length = 6; unfold HM.put; rw [if_neg (hgu u hu)]; exact this.2⟩
  · show ((x.m.put e.b C) c).length = 19; unfold HM.put; rw [if_neg (Ne.symm hgc)]; exact h.core.len
  · exact ring_same h.core.rA (lk1 S.cl (fun u hu => by simp [hu]) 2)
  · exact ring_same h.core.rB (lk1 S.kp (fun u hu => by simp [hu]) 9)
  · show (x.m.put e.b C).rd c 8 = _; rw [rc]; exact h.core.sA
  · show (x.m.put e.b C).rd c 15 = _; rw [rc]; exact h.core.sB
  · intro u hu
    rcases List.mem_cons.1 (perm.mem_iff.1 hu) with rfl | hu
    · exact ⟨by rw [HM.rd_put]; exact hd.1, by rw [HM.rd_put]; exact hd.2.1, by rw [HM.rd_put]; exact hd.2.2.1, by rw [HM.rd_put]; exact hd.2.2.2⟩
    · have hd := h.core.dat u hu
      exact ⟨by rw [rd _ _ (hgu u hu)]; exact hd.1, by rw [rd _ _ (hgu u hu)]; exact hd.2.1, by rw [rd _ _ (hgu u hu)]; exact hd.2.2.1, by rw [rd _ _ (hgu u hu)]; exact hd.2.2.2⟩
  · intro u hu
    rcases List.mem_cons.1 (perm.mem_iff.1 hu) with rfl | hu
    · exact List.mem_cons_self ..
    · exact List.mem_cons_of_mem _ (h.eks u hu)
  · rw [(perm.map (·.k)).nodup_iff, List.map_cons, List.nodup_cons]
    exact ⟨fun hx => by obtain ⟨u, hu, hb⟩ := List.mem_map.1 hx; exact hk u hu hb, h.keys⟩
  · intro u hu
    rcases List.mem_cons.1 (perm.mem_iff.1 hu) with rfl | hu
    · exact hki
    · exact h.kin u hu
  · intro u hu
    show (if u.k = e.k then _ else x.f u.k) = _
    rcases List.mem_cons.1 (perm.mem_iff.1 hu) with rfl | hu
    · rw [if_pos rfl]
    · rw [if_neg (hk u hu)]; exact h.f1 u hu
  · intro k hk2
    show (if k = e.k then _ else x.f k) = none
    rw [if_neg (fun hx => hk2 e (perm.mem_iff.2 (List.mem_cons_self ..)) hx.symm)]
    exact h.f2 k fun u hu => hk2 u (perm.mem_iff.2 (List.mem_cons_of_mem _ hu))
theorem ring_fst {m : HM} {r : NA} {a : NA} {l : List NA} (h : ring m r (a :: l)) : m.rd r.1 (r.2 + 5) = some (pt a) := h.1.1
end
def CFlag (S : CS) : Prop := (∀ e ∈ S.cl, e.h = false) ∧ (∀ e ∈ S.kp, e.h = true)
def cacheL (mb : Nat) (x : CX) : List Asn := [hmap x.ks x.m, mapr Tryd.prog 3 mb x.n x.f]
def cache (S : CS) (c mb : Nat) (x : CX) : Asn := star (CInv S [] c mb x ∧ CFlag S) (cacheL mb x)
section
variable {w0 w : World} {F : List Nat} {R : List Asn} {S : CS} {c mb : Nat} {x : CX}
theorem cache_open (h : Mem w0 F w (cache S c mb x :: R)) : (CInv S [] c mb x ∧ CFlag S) ∧ Mem w0 F w (hmap x.ks x.m :: mapr Tryd.prog 3 mb x.n x.f :: R) := h.open
theorem cache_close (hi : CInv S [] c mb x ∧ CFlag S) (h : Mem w0 F w (hmap x.ks x.m :: mapr Tryd.prog 3 mb x.n x.f :: R)) : Mem w0 F w (cache S c mb x :: R) := Mem.close (X := cacheL mb x) hi h
end
def trimS (S : CS) : CS := { S with cl := S.cl.drop (S.cl.length - S.room.toNat), gone := wrap64 (S.gone + ((S.cl.length - S.room.toNat : Nat) : Int)) }
def trimI (S : CS) (i : Nat) : CS := { S with cl := S.cl.drop i, gone := wrap64 (S.gone + (i : Int)) }
theorem wrap_kin {m : Int} (h : KIn m) : wrap64 m = m := by obtain ⟨h1, h2⟩ := h; unfold wrap64; omega
theorem kin_wrap (m : Int) : KIn (wrap64 m) := ⟨by unfold wrap64; omega, by unfold wrap64; omega⟩
theorem wrap_succ (g : Int) (i : Nat) : wrap64 (wrap64 (g + (i : Int)) + 1) = wrap64 (g + ((i + 1 : Nat) : Int)) := by
  unfold wrap64
  omega
section
variable {S : CS} {Z : List En} {c mb : Nat} {x : CX} {ks : List (Nat × TypeId)} {m : HM} {n : Nat} {f : Int → Option Addr}
theorem CInv.trim0 (h : CInv S [] c mb x) : CInv (trimI S 0) [] c mb x := by
  have e : trimI S 0 = S := by
    unfold trimI
    rw [List.drop_zero, Int.natCast_zero, Int.add_zero, wrap_kin h.cn.2.2]
  rw [e]; exact h
theorem drop_some {α : Type} {l : List α} {i : Nat} {k : Int} (h0 : 0 ≤ k) (h : k < ((l.drop i).length : Int)) : ∃ e r, l.drop i = e :: r := by
  rcases hl : l.drop i with _ | ⟨e, r⟩
  · rw [hl] at h
    simp at h; omega
  · exact ⟨e, r, rfl⟩
theorem CInv.trim_next {e : En} {r : List En} {i : Nat} (he : (trimI S i).cl = e :: r) (h : CInv { trimI S i with cl := [] ++ r } [] c mb ⟨ks, m, n, f⟩) :
    CInv (trimI S (i + 1)) [] c mb ⟨ks, m.wr c 18 (.int .i64 (wrap64 (wrap64 (S.gone + (i : Int)) + 1))), n, f⟩ := by
  have h18 : (m.rd c 18).isSome := by have := h.c18; show (HM.rd m c 18).isSome; rw [show m.rd c 18 = _ from this]; rfl
  have hcl : (trimI S (i + 1)).cl = r := by
    show S.cl.drop (i + 1) = r
    have : S.cl.drop i = e :: r := he
    rw [← List.drop_drop, this]; rfl
  refine h.cell (S' := trimI S (i + 1)) (o := 18) (v := wrap64 (wrap64 (S.gone + (i : Int)) + 1)) (by omega) h18 ⟨hcl, rfl, rfl⟩ ?_ ?_ ?_ (kin_wrap _)
  · rw [if_neg (by decide)]; rfl
  · rw [if_neg (by decide)]; rfl
  · rw [if_pos rfl, wrap_succ]; rfl
theorem first_rd {ro : Nat} {e : En} {r l : List En} (h : ring m (c, ro) (l.map En.nd)) (he : l = e :: r) : m.rd c (ro + 5) = some (pt e.nd) := by
  subst he
  exact ring_fst h
theorem trim_end {i : Nat} (hi : i ≤ S.cl.length - S.room.toNat) (h0 : 0 ≤ S.room) (h : ¬ S.room < (((trimI S i).cl.length : Nat) : Int)) : trimI S i = trimS S := by
  have : (trimI S i).cl.length = S.cl.length - i := by show (S.cl.drop i).length = _; rw [List.length_drop]
  have e : i = S.cl.length - S.room.toNat := by omega
  rw [e]; rfl
theorem trim_le {i : Nat} (hi : i ≤ S.cl.length - S.room.toNat) (h : S.room < (((trimI S i).cl.length : Nat) : Int)) (h0 : 0 ≤ S.room) : i + 1 ≤ S.cl.length - S.room.toNat ∧ i < S.cl.length := by
  have : (trimI S i).cl.length = S.cl.length - i := by show (S.cl.drop i).length = _; rw [List.length_drop]
  omega
theorem trim_len (i : Nat) : (trimI S i).cl.length ≤ S.cl.length := by show (S.cl.drop i).length ≤ _; rw [List.length_drop]; omega
theorem rd_two {g o : Nat} {a b : Value} (h1 : m.rd g o = some a) (h2 : m.rd g (o + 1) = some b) : ((m g).drop o).take ([a, b] : List Value).length = [a, b] := by
  unfold HM.rd at h1 h2
  have hl : o + 1 < (m g).length := by
    rcases Nat.lt_or_ge (o + 1) (m g).length with h | h
    · exact h
    · rw [List.getElem?_eq_none h] at h2; cases h2
  rw [List.drop_eq_getElem_cons (by omega), List.drop_eq_getElem_cons hl]
  rw [List.getElem?_eq_getElem (by omega)] at h1
  rw [List.getElem?_eq_getElem hl] at h2
  rw [Option.some.inj h1, Option.some.inj h2]; rfl
theorem list_all2 {k : Int} {v : Value} (h : v.oneCell' = true) : ([.int .i64 k, v] : List Value).toArray.all (·.oneCell') = true := list_all _ (by show (true && (v.oneCell' && true)) = true; rw [h]; rfl)
theorem CInv.look_no (h : CInv S [] c mb x) {k : Int} (hk : ∀ e ∈ S.cl ++ S.kp, e.k ≠ k) : x.f k = none := h.f2 k fun e he => hk e (by simpa using he)
theorem CInv.look_yes (h : CInv S [] c mb x) {e : En} {k : Int} (he : e ∈ S.cl ++ S.kp) (hk : e.k = k) : x.f k = some ⟨e.b, 0, none⟩ := by subst hk; exact h.f1 e (by simpa using he)
theorem map_keep {e e' : En} {l : List En} (h : ∀ u ∈ l, u.b ≠ e.b) : l.map (fun u => if u.b = e.b then e' else u) = l := by
  induction l with
  | nil => rfl
  | cons u l ih => rw [List.map_cons, if_neg (h u (List.mem_cons_self ..)), ih fun v hv => h v (List.mem_cons_of_mem _ hv)]
theorem map_keep1 {e e' : En} {l : List En} (h : ∀ u ∈ l, u.b ≠ e.b) : (l ++ [e]).map (fun u => if u.b = e.b then e' else u) = l ++ [e'] := by
  rw [List.map_append, map_keep h, List.map_cons, if_pos rfl]; rfl
theorem nd_parts {A B Z : List En} (h : ((A ++ B ++ Z).map (·.b)).Nodup) : (∀ u ∈ A, ∀ v ∈ B, u.b ≠ v.b) ∧ (∀ u ∈ A, ∀ v ∈ Z, u.b ≠ v.b) ∧ (∀ u ∈ B, ∀ v ∈ Z, u.b ≠ v.b) ∧ (A.map (·.b)).Nodup ∧ (B.map (·.b)).Nodup := by
  rw [List.map_append, List.map_append] at h
  obtain ⟨h1, _, h3⟩ := List.nodup_append.1 h
  obtain ⟨h4, h5, h6⟩ := List.nodup_append.1 h1
  exact ⟨fun u hu v hv => h6 _ (List.mem_map.2 ⟨u, hu, rfl⟩) _ (List.mem_map.2 ⟨v, hv, rfl⟩), fun u hu v hv => h3 _ (List.mem_append_left _ (List.mem_map.2 ⟨u, hu, rfl⟩)) _ (List.mem_map.2 ⟨v, hv, rfl⟩), fun u hu v hv => h3 _ (List.mem_append_right _ (List.mem_map.2 ⟨u, hu, rfl⟩)) _ (List.mem_map.2 ⟨v, hv, rfl⟩), h4, h5⟩
theorem nd_last {l : List En} {e : En} (h : ((l ++ [e]).map (·.b)).Nodup) : ∀ u ∈ l, u.b ≠ e.b := fun u hu => by
  rw [List.map_append] at h
  exact (List.nodup_append.1 h).2.2 _ (List.mem_map.2 ⟨u, hu, rfl⟩) _ (by simp)
theorem CInv.val_cl {l : List En} {e : En} {kd : Int} {ld : Value} {l0 : List UInt8} (hs : S.cl = l ++ [e]) (h : CInv S [] c mb ⟨ks, m, n, f⟩) :
    CInv { S with cl := l ++ [{ e with kd := kd, ld := ld, l := l0 }] } [] c mb ⟨ks, (m.wr e.b 1 (.int .i64 kd)).wr e.b 2 ld, n, f⟩ := by
  obtain ⟨d1, _, _, d4, _⟩ := nd_parts h.core.nd
  rw [hs] at d1 d4
  have he : e ∈ S.cl ++ S.kp ++ [] := by simp [hs]
  have hl : (m e.b).length = 6 := (h.core.blk e he).2
  obtain ⟨q0, q1, q2, q3⟩ := h.core.dat e he
  refine h.entry (e := e) (e' := { e with kd := kd, ld := ld, l := l0 }) he rfl rfl ⟨?_, ?_, rfl⟩ ⟨rfl, rfl, rfl, rfl⟩ (fun g o hg => ?_) (fun g => ?_) ⟨?_, ?_, ?_, ?_⟩
  · rw [hs, map_keep1 (nd_last d4)]
  · exact (map_keep fun u hu => (d1 e (by simp) u hu).symm).symm
  · rw [HM.rd_other (by omega), HM.rd_other (by omega)]
  · rw [HM.len_wr, HM.len_wr]
  · rw [HM.rd_other (by show ¬ (e.b = e.b ∧ 0 = 2); omega), HM.rd_other (by show ¬ (e.b = e.b ∧ 0 = 1); omega)]; exact q0
  · rw [HM.rd_other (by show ¬ (e.b = e.b ∧ 1 = 2); omega), HM.rd_same (HM.rd_lt (by show 1 < (m e.b).length; omega))]
  · rw [HM.rd_same]
    rw [HM.rd_other (by show ¬ (e.b = e.b ∧ 2 = 1); omega)]; exact HM.rd_lt (by show 2 < (m e.b).length; omega)
  · rw [HM.rd_other (by show ¬ (e.b = e.b ∧ 3 = 2); omega), HM.rd_other (by show ¬ (e.b = e.b ∧ 3 = 1); omega)]; exact q3
theorem CInv.val_kp {l : List En} {e : En} {kd : Int} {ld : Value} {l0 : List UInt8} (hs : S.kp = l ++ [e]) (h : CInv S [] c mb ⟨ks, m, n, f⟩) :
    CInv { S with kp := l ++ [{ e with kd := kd, ld := ld, h := true, l := l0 }] } [] c mb ⟨ks, ((m.wr e.b 1 (.int .i64 kd)).wr e.b 2 ld).wr e.b 3 (.bool true), n, f⟩ := by
  obtain ⟨d1, _, _, _, d5⟩ := nd_parts h.core.nd
  rw [hs] at d1 d5
  have he : e ∈ S.cl ++ S.kp ++ [] := by simp [hs]
  have hl : (m e.b).length = 6 := (h.core.blk e he).2
  obtain ⟨q0, q1, q2, q3⟩ := h.core.dat e he
  refine h.entry (e := e) (e' := { e with kd := kd, ld := ld, h := true, l := l0 }) he rfl rfl ⟨?_, ?_, rfl⟩ ⟨rfl, rfl, rfl, rfl⟩ (fun g o hg => ?_) (fun g => ?_) ⟨?_, ?_, ?_, ?_⟩
  · exact (map_keep fun u hu => d1 u hu e (by simp)).symm
  · rw [hs, map_keep1 (nd_last d5)]
  · rw [HM.rd_other (by omega), HM.rd_other (by omega), HM.rd_other (by omega)]
  · rw [HM.len_wr, HM.len_wr, HM.len_wr]
  · rw [HM.rd_other (by show ¬ (e.b = e.b ∧ 0 = 3); omega), HM.rd_other (by show ¬ (e.b = e.b ∧ 0 = 2); omega), HM.rd_other (by show ¬ (e.b = e.b ∧ 0 = 1); omega)]; exact q0
  · rw [HM.rd_other (by show ¬ (e.b = e.b ∧ 1 = 3); omega), HM.rd_other (by show ¬ (e.b = e.b ∧ 1 = 2); omega), HM.rd_same (HM.rd_lt (by show 1 < (m e.b).length; omega))]
  · rw [HM.rd_other (by show ¬ (e.b = e.b ∧ 2 = 3); omega), HM.rd_same]
    rw [HM.rd_other (by show ¬ (e.b = e.b ∧ 2 = 1); omega)]; exact HM.rd_lt (by show 2 < (m e.b).length; omega)
  · rw [HM.rd_same]
    rw [HM.rd_other (by show ¬ (e.b = e.b ∧ 3 = 2); omega), HM.rd_other (by show ¬ (e.b = e.b ∧ 3 = 1); omega), q3]; rfl
def relS (S : CS) (k : Nat) : CS := { S with kp := S.kp.take k }
end
end Go.Proofs.YtopdhanbmnfeeaaDoor

/- The cache: a row's drop, last and start. -/
namespace Go.Proofs.YtopdhanbmnfeeaaDoor
set_option linter.unusedSectionVars false
open Go Go.RowKit
set_option maxRecDepth 100000
set_option maxHeartbeats 40000000
set_option linter.unusedVariables false
set_option linter.unusedSimpArgs false
theorem drop_any {ks : List (Nat × TypeId)} {m : HM} {e p n : NA} {c ro : Nat} {sz : Int} (hD : DropC ks m e p n c ro sz) {w : World} (hM : zM w [hmap ks m]) : zC 42 [zP c ro, .pointer (some ⟨e.1, e.2, none⟩)] w fun e' w' => e' = .returned (.tuple #[]) ∧ zD w [hmap ks m] w' [hmap ks (dropM m p n c ro (sz - 1))] := by
 have M := hM;clear hM;obtain ⟨Te, ke⟩ := hD.ke;obtain ⟨Tp, kp⟩ := hD.kp;obtain ⟨Tn, kn⟩ := hD.kn;obtain ⟨Tc, kc⟩ := hD.kc;go_enter Tryd.func42, Tryd.ntmps42;refine zin ?_;refine zk fun K1 hK1 => ?_;have M2 : zD w [hmap ks m] w.drew [hmap ks m] := M.drew;clear M;refine wp_region_tail 18 (by kernel_rfl) (by kernel_rfl) ?_;simp only [List.take_succ_cons, List.take_zero, List.drop_succ_cons, List.drop_zero];refine Zs 2 rfl (zq M2 (zf (e.2 + 4) zu103 rfl zz100) (zq M2 (y_hload (v := .pointer (some ⟨p.1, p.2, none⟩)) (zwn rfl) rfl (zev rfl) zg100 (fun W hW => hW.get 0 rfl) ke (hD.pv)) (Zs 2 rfl (zq M2 (zf (e.2 + 5) zu103 rfl zz100) (zq M2 (y_hload (v := .pointer (some ⟨n.1, n.2, none⟩)) (zwn rfl) rfl (zev rfl) zg100 (fun W hW => hW.get 0 rfl) ke (hD.nx)) ?_)))));refine Zs 2 rfl (zq M2 (zf (e.2 + 5) zu103 rfl zz100) (zq M2 (y_hload (v := .pointer (some ⟨n.1, n.2, none⟩)) (zwn rfl) rfl (zev rfl) zg100 (fun W hW => hW.get 0 rfl) ke (hD.nx)) (Zs 2 rfl (zq M2 (zf (e.2 + 4) zu103 rfl zz100) (zq M2 (y_hload (v := .pointer (some ⟨p.1, p.2, none⟩)) (zwn rfl) rfl (zev rfl) zg100 (fun W hW => hW.get 0 rfl) ke (hD.pv)) ?_)))));refine Zs 1 rfl (zq M2 (zf (p.2 + 5) zu103 rfl zz100) ?_);refine wpStill_nil ?_;refine pe (zwn rfl) fun K hK => e_hstore M2 0 (v := .pointer (some ⟨n.1, n.2, none⟩)) rfl rfl (zev rfl) (zev rfl) rfl rfl zz100 rfl kp hD.sp ?_;intro w3 (M3 : zD w [hmap ks m] w3 [hmap ks (m.wr p.1 (p.2 + 5) (.pointer (some ⟨n.1, n.2, none⟩)))]);refine hK.out _ _ (zpu ?_);refine zp 1 rfl (zo M3 (zf (n.2 + 4) zu103 rfl zz100) ?_);refine pe (zwn rfl) fun K hK => e_hstore M3 0 (v := .pointer (some ⟨p.1, p.2, none⟩)) rfl rfl (zev rfl) (zev rfl) rfl rfl zz100 rfl kn hD.sn ?_;intro w4 (M4 : zD w [hmap ks m] w4 [hmap ks ((m.wr p.1 (p.2 + 5) (.pointer (some ⟨n.1, n.2, none⟩))).wr n.1 (n.2 + 4) (.pointer (some ⟨p.1, p.2, none⟩)))]);refine hK.out _ _ (zpu ?_);refine zw (hK1 _ _ (zr ?_));refine zp 2 rfl (zo M4 (zf (ro + 6) zu105 rfl zz3) (zo M4 (y_hload (v := zI sz) (zwn rfl) rfl (zev rfl) zg3 (fun W hW => hW.get 0 rfl) kc (hD.hz)) (zo M4 (y_sub (r := sz - 1) (zwn rfl) rfl (zev rfl) (zev rfl) (rfl) (hD.si)) (zp 1 rfl (zo M4 (zf (ro + 6) zu105 rfl zz3) ?_)))));refine pe (zwn rfl) fun K hK => e_hstore M4 0 (v := zI (sz - 1)) rfl rfl (zev rfl) (zev rfl) rfl rfl zz3 rfl kc (by rw [hD.hz]; rfl) ?_;intro w5 (M5 : zD w [hmap ks m] w5 [hmap ks (((m.wr p.1 (p.2 + 5) (.pointer (some ⟨n.1, n.2, none⟩))).wr n.1 (n.2 + 4) (.pointer (some ⟨p.1, p.2, none⟩))).wr c (ro + 6) (zI (sz - 1)))]);refine hK.out _ _ (zpu ?_);refine zw ?_;try simp only [Exit.inBlock, Exit.then]
 refine bodyPost_end (v := .tuple #[]) (res0 rfl) (zdf _) ?_;exact ⟨rfl, M5⟩
theorem last_any {ks : List (Nat × TypeId)} {m : HM} {e q : NA} {c ro : Nat} {sz : Int} (hD : LastC ks m e q c ro sz) {w : World} (hM : zM w [hmap ks m]) : zC 41 [zP c ro, .pointer (some ⟨e.1, e.2, none⟩)] w fun e' w' => e' = .returned (.tuple #[]) ∧ zD w [hmap ks m] w' [hmap ks (lastM m e q c ro (sz + 1))] := by
 have M := hM;clear hM;obtain ⟨Te, ke⟩ := hD.ke;obtain ⟨Tq, kq⟩ := hD.kq;obtain ⟨Tc, kc⟩ := hD.kc;go_enter Tryd.func41, Tryd.ntmps41;refine zin ?_;refine zk fun K1 hK1 => ?_;have M2 : zD w [hmap ks m] w.drew [hmap ks m] := M.drew;clear M;refine held_begin (fun W => W.cell? ⟨c, ro + 4, none⟩ = some (pt q)) (by kernel_rfl) (hmap_cell M2 0 rfl kc hD.pv) (fun hS => ?_);refine zt 0 rfl (zy rfl) hS (zt 1 rfl (zy rfl) hS (zt 2 rfl (zy rfl) hS (zt 3 rfl (zy rfl) hS (zt 4 rfl (zf ro zu105 rfl zz103) hS (zt 5 rfl (zf (ro + 4) zu103 rfl zz100) hS ?_)))));refine zt 6 rfl (y_loadc (v := .pointer (some ⟨q.1, q.2, none⟩)) (zwn rfl) rfl (zev rfl) zg100 (fun W hW => hW)) hS (zt 7 rfl (zy rfl) hS (zt 8 rfl (zy rfl) hS (zt 9 rfl (zf ro zu105 rfl zz103) hS (zt 10 rfl (zy rfl) hS (zt 11 rfl (zf (e.2 + 4) zu103 rfl zz100) hS ?_)))));refine held_step 12 (by kernel_rfl) rfl (zwn rfl) (fun K hK => ?_);refine e_hstore M2 0 (v := .pointer (some ⟨q.1, q.2, none⟩)) rfl rfl (zev rfl) (zev rfl) rfl rfl zz100 rfl ke hD.s4 ?_;intro w3 (M3 : zD w [hmap ks m] w3 [hmap ks (m.wr e.1 (e.2 + 4) (.pointer (some ⟨q.1, q.2, none⟩)))]);refine hK.out _ _ (hmap_cell M3 0 rfl kc (by rw [HM.rd_other (fun h => hD.ne1 h.1.symm)]; exact hD.pv)) (fun hS => ?_);refine zt 13 rfl (zy rfl) hS (zt 14 rfl (zf (e.2 + 5) zu103 rfl zz100) hS ?_);refine held_step 15 (by kernel_rfl) rfl (zwn rfl) (fun K hK => ?_);refine e_hstore M3 0 (v := zP c ro) rfl rfl (zev rfl) (zev rfl) rfl rfl zz100 rfl ke hD.s5 ?_;intro w4 (M4 : zD w [hmap ks m] w4 [hmap ks ((m.wr e.1 (e.2 + 4) (.pointer (some ⟨q.1, q.2, none⟩))).wr e.1 (e.2 + 5) (zP c ro))]);refine hK.out _ _ (hmap_cell M4 0 rfl kc (by rw [HM.rd_other (fun h => hD.ne1 h.1.symm), HM.rd_other (fun h => hD.ne1 h.1.symm)]; exact hD.pv)) (fun hS => ?_);refine held_done (by kernel_rfl) (hK1 _ _ ?_) _;refine zk fun K5 hK5 => ?_;have M6 := M4.drew;refine held_begin (fun W => W.cell? ⟨e.1, e.2 + 4, none⟩ = some (pt q) ∧ W.cell? ⟨e.1, e.2 + 5, none⟩ = some (pt (c, ro))) (by kernel_rfl) ⟨(hmap_cell M6 0 rfl ke hD.r4), (hmap_cell M6 0 rfl ke hD.r5)⟩ (fun hS => ?_);refine zt 0 rfl (zy rfl) hS (zt 1 rfl (zy rfl) hS (zt 2 rfl (zf (e.2 + 4) zu103 rfl zz100) hS ?_));refine zt 3 rfl (y_loadc (v := .pointer (some ⟨q.1, q.2, none⟩)) (zwn rfl) rfl (zev rfl) zg100 (fun W hW => hW.1)) hS (zt 4 rfl (zy rfl) hS (zt 5 rfl (zy rfl) hS (zt 6 rfl (zf (e.2 + 5) zu103 rfl zz100) hS ?_)));refine zt 7 rfl (y_loadc (v := zP c ro) (zwn rfl) rfl (zev rfl) zg100 (fun W hW => hW.2)) hS (zt 8 rfl (zy rfl) hS (zt 9 rfl (zy rfl) hS (zt 10 rfl (zy rfl) hS (zt 11 rfl (zf (q.2 + 5) zu103 rfl zz100) hS ?_))));refine held_step 12 (by kernel_rfl) rfl (zwn rfl) (fun K hK => ?_);refine e_hstore M6 0 (v := .pointer (some ⟨e.1, e.2, none⟩)) rfl rfl (zev rfl) (zev rfl) rfl rfl zz100 rfl kq hD.sq ?_;intro w7 (M7 : zD w [hmap ks m] w7 [hmap ks (((m.wr e.1 (e.2 + 4) (.pointer (some ⟨q.1, q.2, none⟩))).wr e.1 (e.2 + 5) (zP c ro)).wr q.1 (q.2 + 5) (.pointer (some ⟨e.1, e.2, none⟩)))]);refine hK.out _ _ ⟨(hmap_cell M7 0 rfl ke (by rw [HM.rd_other (fun h => hD.ne2 h.1)]; exact hD.r4)), (hmap_cell M7 0 rfl ke (by rw [HM.rd_other (fun h => hD.ne2 h.1)]; exact hD.r5))⟩ (fun hS => ?_);refine zt 13 rfl (zy rfl) hS (zt 14 rfl (zf (ro + 4) zu103 rfl zz100) hS ?_);refine held_step 15 (by kernel_rfl) rfl (zwn rfl) (fun K hK => ?_);refine e_hstore M7 0 (v := .pointer (some ⟨e.1, e.2, none⟩)) rfl rfl (zev rfl) (zev rfl) rfl rfl zz100 rfl kc hD.sr ?_;intro w8 (M8 : zD w [hmap ks m] w8 [hmap ks ((((m.wr e.1 (e.2 + 4) (.pointer (some ⟨q.1, q.2, none⟩))).wr e.1 (e.2 + 5) (zP c ro)).wr q.1 (q.2 + 5) (.pointer (some ⟨e.1, e.2, none⟩))).wr c (ro + 4) (.pointer (some ⟨e.1, e.2, none⟩)))]);refine hK.out _ _ ⟨(hmap_cell M8 0 rfl ke (by rw [HM.rd_other (fun h => hD.ne1 h.1), HM.rd_other (fun h => hD.ne2 h.1)]; exact hD.r4)), (hmap_cell M8 0 rfl ke (by rw [HM.rd_other (fun h => hD.ne1 h.1), HM.rd_other (fun h => hD.ne2 h.1)]; exact hD.r5))⟩ (fun hS => ?_);refine held_done (by kernel_rfl) (hK5 _ _ ?_) _;refine zr ?_;refine zp 2 rfl (zo M8 (zf (ro + 6) zu105 rfl zz3) (zo M8 (y_hload (v := zI sz) (zwn rfl) rfl (zev rfl) zg3 (fun W hW => hW.get 0 rfl) kc (hD.hz)) (zo M8 (y_add (r := sz + 1) (zwn rfl) rfl (zev rfl) (zev rfl) (rfl) (hD.si)) (zp 1 rfl (zo M8 (zf (ro + 6) zu105 rfl zz3) ?_)))));refine pe (zwn rfl) fun K hK => e_hstore M8 0 (v := zI (sz + 1)) rfl rfl (zev rfl) (zev rfl) rfl rfl zz3 rfl kc (by rw [hD.hz]; rfl) ?_;intro w9 (M9 : zD w [hmap ks m] w9 [hmap ks (((((m.wr e.1 (e.2 + 4) (.pointer (some ⟨q.1, q.2, none⟩))).wr e.1 (e.2 + 5) (zP c ro)).wr q.1 (q.2 + 5) (.pointer (some ⟨e.1, e.2, none⟩))).wr c (ro + 4) (.pointer (some ⟨e.1, e.2, none⟩))).wr c (ro + 6) (zI (sz + 1)))]);refine hK.out _ _ (zpu ?_);refine zw ?_;try simp only [Exit.inBlock, Exit.then]
 refine bodyPost_end (v := .tuple #[]) (res0 rfl) (zdf _) ?_;exact ⟨rfl, M9⟩
theorem start_any {ks : List (Nat × TypeId)} {m : HM} {c ro : Nat} {Tc : TypeId} (kc : (c, Tc) ∈ ks) (h5 : (m.rd c (ro + 5)).isSome) (h4 : ((m.wr c (ro + 5) (pt (c, ro))).rd c (ro + 4)).isSome) {w : World} (hM : zM w [hmap ks m]) : zC 74 [zP c ro] w fun e' w' => e' = .returned (.tuple #[]) ∧ zD w [hmap ks m] w' [hmap ks ((m.wr c (ro + 5) (pt (c, ro))).wr c (ro + 4) (pt (c, ro)))] := by
 have M := hM;clear hM;go_enter Tryd.func74, Tryd.ntmps74;refine zin ?_;have M1 : zD w [hmap ks m] w.drew [hmap ks m] := M.drew;clear M;refine held_begin (fun _ => True) (by kernel_rfl) trivial (fun hS => ?_);refine zt 0 rfl (zy rfl) hS (zt 1 rfl (zy rfl) hS (zt 2 rfl (zy rfl) hS (zt 3 rfl (zy rfl) hS (zt 4 rfl (zf ro zu105 rfl zz103) hS (zt 5 rfl (zy rfl) hS (zt 6 rfl (zy rfl) hS (zt 7 rfl (zf ro zu105 rfl zz103) hS ?_)))))));refine zt 8 rfl (zy rfl) hS (zt 9 rfl (zf ro zu105 rfl zz103) hS (zt 10 rfl (zf (ro + 5) zu103 rfl zz100) hS ?_));refine held_step 11 (by kernel_rfl) rfl (zwn rfl) (fun K hK => ?_);refine e_hstore M1 0 (v := zP c ro) rfl rfl (zev rfl) (zev rfl) rfl rfl zz100 rfl kc h5 ?_;intro w2 (M2 : zD w [hmap ks m] w2 [hmap ks (m.wr c (ro + 5) (zP c ro))]);refine hK.out _ _ trivial (fun hS => zpa ?_);refine zt 12 rfl (zy rfl) hS (zt 13 rfl (zf ro zu105 rfl zz103) hS (zt 14 rfl (zf (ro + 4) zu103 rfl zz100) hS ?_));refine held_step 15 (by kernel_rfl) rfl (zwn rfl) (fun K hK => ?_);refine e_hstore M2 0 (v := zP c ro) rfl rfl (zev rfl) (zev rfl) rfl rfl zz100 rfl kc h4 ?_;intro w3 (M3 : zD w [hmap ks m] w3 [hmap ks ((m.wr c (ro + 5) (zP c ro)).wr c (ro + 4) (zP c ro))]);refine hK.out _ _ trivial (fun hS => zpa ?_);refine held_done (by kernel_rfl) ?_ _;try simp only [Exit.inBlock, Exit.then]
 refine bodyPost_end (v := .tuple #[]) (res0 rfl) (zdf _) ?_;exact ⟨rfl, M3⟩
end Go.Proofs.YtopdhanbmnfeeaaDoor

/- The cache: trim, Get. -/
namespace Go.Proofs.YtopdhanbmnfeeaaDoor
set_option linter.unusedSectionVars false
open Go Go.RowKit
set_option maxRecDepth 100000
set_option maxHeartbeats 40000000
set_option linter.unusedVariables false
set_option linter.unusedSimpArgs false
theorem trim_any {S : CS} {c mb : Nat} {x : CX} (hI : CInv S [] c mb x) (hl : S.cl.length ≤ 1099511627776) {w : World} (hM : zM w [hmap x.ks x.m, mapr Tryd.prog 3 mb x.n x.f]) : zC 79 [zP c 0] w fun e' w' => ∃ m2 f2, e' = .returned (.tuple #[]) ∧ CInv (trimS S) [] c mb ⟨x.ks, m2, x.n, f2⟩ ∧ zD w [hmap x.ks x.m, mapr Tryd.prog 3 mb x.n x.f] w' [hmap x.ks m2, mapr Tryd.prog 3 mb x.n f2] := by
 have M := hM;clear hM;go_enter Tryd.func79, Tryd.ntmps79;refine zin ?_;refine zbl ?_;refine zlp (fun n' a' w' => ∃ (i : Nat) (m9 : HM) (f9 : Int → Option Addr) (us1 : List Value), n' = (S.cl.length - i) ∧ a' = (⟨#[zP c 0, undef, (zU us1 0), (zU us1 1), (zU us1 2), (zU us1 3), (zU us1 4), (zU us1 5), (zU us1 6), (zU us1 7), (zU us1 8), (zU us1 9), (zU us1 10), (zU us1 11), (zU us1 12), (zU us1 13), (zU us1 14), (zU us1 15), (zU us1 16), (zU us1 17), (zU us1 18), (zU us1 19), (zU us1 20), (zU us1 21), (zU us1 22), (zU us1 23), (zU us1 24), (zU us1 25), (zU us1 26), (zU us1 27), (zU us1 28), (zU us1 29), (zU us1 30), (zU us1 31), (zU us1 32), (zU us1 33), (zU us1 34), (zU us1 35), (zU us1 36)], []⟩ : Act) ∧ (CInv (trimI S i) [] c mb ⟨x.ks, m9, x.n, f9⟩) ∧ (i ≤ S.cl.length - S.room.toNat) ∧ zD w [hmap x.ks x.m, mapr Tryd.prog 3 mb x.n x.f] w' [hmap x.ks m9, mapr Tryd.prog 3 mb x.n f9]) (S.cl.length - 0) ⟨0, x.m, x.f, [undef, undef, undef, undef, undef, undef, undef, undef, undef, undef, undef, undef, undef, undef, undef, undef, undef, undef, undef, undef, undef, undef, undef, undef, undef, undef, undef, undef, undef, undef, undef, undef, undef, undef, undef, undef, undef], rfl, (zmk (by kernel_rfl)), hI.trim0, Nat.zero_le _, (M.arr [0, 1] (by decide))⟩ ?_;clear M;rintro n' a' w2 ⟨i, m9, f9, us1, rfl, rfl, hJ, hi, M2⟩;refine zin ?_;refine zk fun K3 hK3 => zk fun K4 hK4 => ?_;have M5 := M2.drew;refine wp_region_tail 9 (by kernel_rfl) (by kernel_rfl) ?_;simp only [List.take_succ_cons, List.take_zero, List.drop_succ_cons, List.drop_zero];refine Zs 2 rfl (zq M5 (zf 2 zu107 rfl zz105) (zq M5 (zf 8 zu105 rfl zz3) (zq M5 (y_hload (v := zI (((trimI S i).cl.length : Nat) : Int)) (zwn rfl) rfl (zev rfl) zg3 (fun W hW => hW.get 0 rfl) hJ.cks (hJ.core.sA)) (Zs 2 rfl (zq M5 (zf 0 zu107 rfl zz3) ?_)))));refine zq M5 (y_hload (v := zI S.room) (zwn rfl) rfl (zev rfl) zg3 (fun W hW => hW.get 0 rfl) hJ.cks (hJ.c0)) ?_;refine wpStill_nil ?_;rcases zem (S.room < (((trimI S i).cl.length : Nat) : Int)) with h6 | h6
 ·obtain ⟨hle1, hlt1⟩ := trim_le hi h6 hI.rm.1;obtain ⟨e0, r0, he0⟩ := drop_some hI.rm.1 h6;obtain ⟨p0, n0, hD, hJ1⟩ := hJ.drop_cl (a := []) (b := r0) he0 (Nat.le_trans (trim_len i) hl);have hfst := first_rd hJ.core.rA he0;have hJ2 := hJ1.del;refine zo M5 (zgtr rfl (zT h6)) ?_;refine zw (hK4 _ _ (zct rfl (zsk (hK3 _ _ (zbl ?_)))));refine zk fun K7 hK7 => zr ?_;refine zp 2 rfl (zo M5 (zf 2 zu107 rfl zz105) (zo M5 (zf 2 zu105 rfl zz103) (zo M5 (zf 7 zu103 rfl zz100) (zo M5 (y_hload (v := .pointer (some ⟨e0.b, 0, none⟩)) (zwn rfl) rfl (zev rfl) zg100 (fun W hW => hW.get 0 rfl) hJ.cks (hfst)) (zp 1 rfl ?_)))));refine zw (hK7 _ _ (zk fun K8 hK8 => zr ?_));refine zp 2 rfl (zo M5 (zf 2 zu107 rfl zz105) (zp 1 rfl ?_));have hX9 : zD w [hmap x.ks x.m, mapr Tryd.prog 3 mb x.n x.f] w2.drew ([hmap x.ks m9] ++ [mapr Tryd.prog 3 mb x.n f9]) := M5.arr [0, 1] (by decide);refine zca 42 [zP c 2, .pointer (some ⟨e0.b, 0, none⟩)] rfl Tryd.call42 (drop_any hD (Mem.h1 hX9)) ?_;rintro e w9 ⟨rfl, H9⟩;have M9 : zD w [hmap x.ks x.m, mapr Tryd.prog 3 mb x.n x.f] w9 [hmap x.ks (dropM m9 p0 n0 c 2 ((((trimI S i).cl.length : Nat) : Int) - 1)), mapr Tryd.prog 3 mb x.n f9] := Mem.f1 hX9 H9;refine ⟨_, rfl, ?_⟩;refine zw (hK8 _ _ (zk fun K10 hK10 => ?_));have M11 := M9.drew;refine wp_region_tail 8 (by kernel_rfl) (by kernel_rfl) ?_;simp only [List.take_succ_cons, List.take_zero, List.drop_succ_cons, List.drop_zero];refine Zs 2 rfl (zq M11 (zf 1 zu107 rfl zz101) (zq M11 (y_hload (v := .map (some mb)) (zwn rfl) rfl (zev rfl) zg101 (fun W hW => hW.get 0 rfl) hJ1.cks (hJ1.c1)) (Zs 2 rfl (zq M11 (zf 0 zu103 rfl zz3) (zq M11 (y_hload (v := zI e0.k) (zwn rfl) rfl (zev rfl) zg3 (fun W hW => hW.get 0 rfl) (hJ1.eks e0 (by simp)) ((hJ1.core.dat e0 (by simp)).1)) ?_)))));refine wpStill_nil ?_;refine pe (zwn rfl) fun K hK => e_mdel M11 1 rfl zu3 zu101 rfl rfl (zev rfl) (zev rfl) (hJ1.kin e0 (by simp)) ?_;intro w12 (M12 : zD w [hmap x.ks x.m, mapr Tryd.prog 3 mb x.n x.f] w12 [hmap x.ks (dropM m9 p0 n0 c 2 ((((trimI S i).cl.length : Nat) : Int) - 1)), mapr Tryd.prog 3 mb x.n (fun j => if j = e0.k then none else f9 j)]);refine hK.out _ _ (zpu ?_);refine zw (hK10 _ _ (zr ?_));refine zp 2 rfl (zo M12 (zf 18 zu107 rfl zz3) (zo M12 (y_hload (v := zI (wrap64 (S.gone + (i : Int)))) (zwn rfl) rfl (zev rfl) zg3 (fun W hW => hW.get 0 rfl) hJ2.cks (hJ2.c18)) (zo M12 (y_addw (zwn rfl) rfl (zev rfl) (zev rfl)) (zp 1 rfl (zo M12 (zf 18 zu107 rfl zz3) ?_)))));refine pe (zwn rfl) fun K hK => e_hstore M12 0 (v := zI (wrap64 (wrap64 (S.gone + (i : Int)) + 1))) rfl rfl (zev rfl) (zev rfl) rfl rfl zz3 rfl hJ2.cks (by rw [hJ2.c18]; rfl) ?_;intro w13 (M13 : zD w [hmap x.ks x.m, mapr Tryd.prog 3 mb x.n x.f] w13 [hmap x.ks ((dropM m9 p0 n0 c 2 ((((trimI S i).cl.length : Nat) : Int) - 1)).wr c 18 (zI (wrap64 (wrap64 (S.gone + (i : Int)) + 1)))), mapr Tryd.prog 3 mb x.n (fun j => if j = e0.k then none else f9 j)]);refine hK.out _ _ (zpu ?_);refine zw ?_;refine ⟨_, ?_, i + 1, (dropM m9 p0 n0 c 2 ((((trimI S i).cl.length : Nat) : Int) - 1)).wr c 18 (zI (wrap64 (wrap64 (S.gone + (i : Int)) + 1))), fun j => if j = e0.k then none else f9 j, [.pointer (some ⟨e0.b, 0, none⟩), zP c 0, zP c 0, zP c 2, zP c 8, zI (((trimI S i).cl.length : Nat) : Int), zP c 0, zP c 0, zP c 0, zI S.room, .bool true, zP c 0, zP c 0, zP c 2, zP c 2, zP c 7, .pointer (some ⟨e0.b, 0, none⟩), zP c 0, zP c 0, zP c 2, .pointer (some ⟨e0.b, 0, none⟩), .tuple #[], zP c 0, zP c 0, zP c 1, .map (some mb), .pointer (some ⟨e0.b, 0, none⟩), .pointer (some ⟨e0.b, 0, none⟩), .pointer (some ⟨e0.b, 0, none⟩), zI e0.k, zP c 0, zP c 0, zP c 18, zI (wrap64 (S.gone + (i : Int))), zI (wrap64 (wrap64 (S.gone + (i : Int)) + 1)), zP c 0, zP c 18], rfl, (zmk (by kernel_rfl)), hJ2.trim_next he0, hle1, (M13.arr [0, 1] (by decide))⟩;omega
 ·refine zo M5 (zgtr rfl (zF h6)) ?_;refine zw (hK4 _ _ (zcf rfl (zx ?_)));try simp only [Exit.inBlock, Exit.then]
  simp only [if_true];refine bodyPost_end (v := .tuple #[]) (res0 rfl) (zdf _) ?_;rw [trim_end hi hI.rm.1 h6] at hJ;exact ⟨m9, f9, rfl, hJ, (M5.arr [0, 1] (by decide))⟩
theorem get_none {S : CS} {c mb : Nat} {x : CX} (hI : CInv S [] c mb x) {k : Int} (hk : KIn k) (hn : ∀ e ∈ S.cl ++ S.kp, e.k ≠ k) {w : World} (hM : zM w [hmap x.ks x.m, mapr Tryd.prog 3 mb x.n x.f]) : zC 64 [zP c 0, zI k] w fun e' w' => ∃ m2 f2, e' = .returned (.tuple #[.agg #[zI 0, zN], .bool false]) ∧ CInv ({ S with misses := wrap64 (S.misses + 1) }) [] c mb ⟨x.ks, m2, x.n, f2⟩ ∧ zD w [hmap x.ks x.m, mapr Tryd.prog 3 mb x.n x.f] w' [hmap x.ks m2, mapr Tryd.prog 3 mb x.n f2] := by
 have M := hM;clear hM;go_enter Tryd.func64, Tryd.ntmps64;refine zin ?_;refine zk fun K1 hK1 => zr ?_;refine zal M ([zI 0, zN]) rfl z052 fun g0 w2 M2 => ?_;clear M;refine zp 1 rfl ?_;refine zw (hK1 _ _ (zk fun K3 hK3 => zr ?_));refine zp 2 rfl (zo M2 (zf 1 zu107 rfl zz101) (zo M2 (y_hload (v := .map (some mb)) (zwn rfl) rfl (zev rfl) zg101 (fun W hW => hW.get 1 rfl) hI.cks (hI.c1)) (zp 1 rfl (zo M2 (y_mlook (q := none) (zwn rfl) (fun W hW => hW.get 2 rfl) zu3 zu101 z0100 rfl (zev rfl) (zev rfl) (hk) (hI.look_no hn)) (zp 1 rfl ?_)))));refine zw (hK3 _ _ (zk fun K4 hK4 => zk fun K5 hK5 => zr ?_));refine zp 1 rfl (zo M2 (y_eqnil (r := true) (zwn rfl) rfl (zev rfl) (zev rfl) zu100 rfl) ?_);refine zw (hK5 _ _ (zct rfl (zk fun K6 hK6 => zr ?_)));refine zp 2 rfl (zo M2 (zf 17 zu107 rfl zz3) (zo M2 (y_hload (v := zI S.misses) (zwn rfl) rfl (zev rfl) zg3 (fun W hW => hW.get 1 rfl) hI.cks (hI.c17)) (zo M2 (y_addw (zwn rfl) rfl (zev rfl) (zev rfl)) (zp 1 rfl (zo M2 (zf 17 zu107 rfl zz3) ?_)))));refine pe (zwn rfl) fun K hK => e_hstore M2 1 (v := zI (wrap64 (S.misses + 1))) rfl rfl (zev rfl) (zev rfl) rfl rfl zz3 rfl hI.cks (by rw [hI.c17]; rfl) ?_;intro w7 (M7 : zD w [hmap x.ks x.m, mapr Tryd.prog 3 mb x.n x.f] w7 [blk g0 52 ([zI 0, zN]), hmap x.ks (x.m.wr c 17 (zI (wrap64 (S.misses + 1)))), mapr Tryd.prog 3 mb x.n x.f]);have hJ := hI.cell (S' := { S with misses := wrap64 (S.misses + 1) }) (o := 17) (v := wrap64 (S.misses + 1)) (by decide) (by rw [hI.c17]; rfl) ⟨rfl, rfl, rfl⟩ (if_neg (by decide)).symm (if_pos rfl).symm (if_neg (by decide)).symm (kin_wrap _);refine hK.out _ _ (zpu ?_);refine zw (hK6 _ _ (zk fun K8 hK8 => zr ?_));refine zal M7 ([zI 0, zN]) rfl z052 fun g4 w9 M9 => ?_;refine zw (hK8 _ _ (zk fun K10 hK10 => zr ?_));refine zo M9 (zlb 0 rfl zu52 rfl (size_of_len (n := 2) _ rfl (by kernel_rfl))) ?_;refine zsw M9 1 rfl (size_of_len (n := 2) _ rfl (by kernel_rfl)) (list_all _ rfl) rfl fun w11 M11 => ?_;simp only[Zg,Zh]at M11;refine zp 1 rfl ?_;refine zw (hK10 _ _ (zrt ?_));(try simp only[zi,zj]);refine zR (resc2 _ rfl rfl (zgd rfl) (M11.get 1 rfl) zu52 (size_of_len (n := 2) _ rfl (by kernel_rfl)) (zgd rfl)) (zdf _) ?_;exact ⟨_, _, rfl, hJ, (M11.arr [2, 3] (by decide))⟩
theorem get_held {S : CS} {c mb : Nat} {x : CX} (hI : CInv S [] c mb x) {k : Int} (hk : KIn k) {e : En} (he : e ∈ S.kp) (hke : e.k = k) (hh : e.h = true) (hld : e.ld.oneCell' = true) {w : World} (hM : zM w [hmap x.ks x.m, mapr Tryd.prog 3 mb x.n x.f]) : zC 64 [zP c 0, zI k] w fun e' w' => ∃ m2 f2, e' = .returned (.tuple #[.agg #[zI e.kd, e.ld], .bool true]) ∧ CInv ({ S with hits := wrap64 (S.hits + 1) }) [] c mb ⟨x.ks, m2, x.n, f2⟩ ∧ zD w [hmap x.ks x.m, mapr Tryd.prog 3 mb x.n x.f] w' [hmap x.ks m2, mapr Tryd.prog 3 mb x.n f2] := by
 have M := hM;clear hM;go_enter Tryd.func64, Tryd.ntmps64;refine zin ?_;refine zk fun K1 hK1 => zr ?_;refine zal M ([zI 0, zN]) rfl z052 fun g0 w2 M2 => ?_;clear M;refine zp 1 rfl ?_;refine zw (hK1 _ _ (zk fun K3 hK3 => zr ?_));refine zp 2 rfl (zo M2 (zf 1 zu107 rfl zz101) (zo M2 (y_hload (v := .map (some mb)) (zwn rfl) rfl (zev rfl) zg101 (fun W hW => hW.get 1 rfl) hI.cks (hI.c1)) (zp 1 rfl (zo M2 (y_mlook (q := (some ⟨e.b, 0, none⟩)) (zwn rfl) (fun W hW => hW.get 2 rfl) zu3 zu101 z0100 rfl (zev rfl) (zev rfl) (hk) (hI.look_yes (by simp [he]) hke)) (zp 1 rfl ?_)))));refine zw (hK3 _ _ (zk fun K4 hK4 => zk fun K5 hK5 => zr ?_));refine zp 1 rfl (zo M2 (y_eqnil (r := false) (zwn rfl) rfl (zev rfl) (zev rfl) zu100 rfl) ?_);refine zw (hK5 _ _ (zcf rfl (zsk (hK4 _ _ (zk fun K6 hK6 => ?_)))));refine zr ?_;refine zp 2 rfl (zo M2 (zf 16 zu107 rfl zz3) (zo M2 (y_hload (v := zI S.hits) (zwn rfl) rfl (zev rfl) zg3 (fun W hW => hW.get 1 rfl) hI.cks (hI.c16)) (zo M2 (y_addw (zwn rfl) rfl (zev rfl) (zev rfl)) (zp 1 rfl (zo M2 (zf 16 zu107 rfl zz3) ?_)))));refine pe (zwn rfl) fun K hK => e_hstore M2 1 (v := zI (wrap64 (S.hits + 1))) rfl rfl (zev rfl) (zev rfl) rfl rfl zz3 rfl hI.cks (by rw [hI.c16]; rfl) ?_;intro w7 (M7 : zD w [hmap x.ks x.m, mapr Tryd.prog 3 mb x.n x.f] w7 [blk g0 52 ([zI 0, zN]), hmap x.ks (x.m.wr c 16 (zI (wrap64 (S.hits + 1)))), mapr Tryd.prog 3 mb x.n x.f]);have hJ := hI.cell (S' := { S with hits := wrap64 (S.hits + 1) }) (o := 16) (v := wrap64 (S.hits + 1)) (by decide) (by rw [hI.c16]; rfl) ⟨rfl, rfl, rfl⟩ (if_pos rfl).symm (if_neg (by decide)).symm (if_neg (by decide)).symm (kin_wrap _);refine hK.out _ _ (zpu ?_);refine zw (hK6 _ _ (zk fun K8 hK8 => zk fun K9 hK9 => zr ?_));refine zp 2 rfl (zo M7 (zf 3 zu103 rfl zz4) (zo M7 (y_hload (v := .bool true) (zwn rfl) rfl (zev rfl) zg4 (fun W hW => hW.get 1 rfl) (hJ.eks e (by simp [he])) ((hh ▸ (hJ.core.dat e (by simp [he])).2.2.2))) (zp 1 rfl ?_)));refine zw (hK9 _ _ (zcf rfl (zsk (hK8 _ _ (zk fun K10 hK10 => ?_)))));refine zr ?_;refine zp 2 rfl (zo M7 (zf 1 zu103 rfl zz52) (zo M7 (y_hloadb (cs := [zI e.kd, e.ld]) (zwn rfl) rfl (zev rfl) zu52 rfl (size_of_len (n := 2) _ rfl (by kernel_rfl)) (fun W hW => hW.get 1 rfl) (hJ.eks e (by simp [he])) (rd_two (hJ.core.dat e (by simp [he])).2.1 (hJ.core.dat e (by simp [he])).2.2.1)) ?_));refine zsw M7 0 rfl (size_of_len (n := 2) _ rfl (by kernel_rfl)) (list_all2 hld) rfl fun w11 M11 => ?_;simp only[Zg,Zh]at M11;refine zp 1 rfl ?_;refine zw (hK10 _ _ (zrt ?_));(try simp only[zi,zj]);refine zR (resc2 _ rfl rfl (zgd rfl) (M11.get 0 rfl) zu52 (size_of_len (n := 2) _ rfl (by kernel_rfl)) (zgd rfl)) (zdf _) ?_;exact ⟨_, _, rfl, hJ, (M11.arr [1, 2] (by decide))⟩
theorem get_clean {S : CS} {c mb : Nat} {x : CX} (hI : CInv S [] c mb x) {k : Int} (hk : KIn k) {e : En} {a b : List En} (hs : S.cl = a ++ e :: b) (hke : e.k = k) (hh : e.h = false) (hl : S.cl.length ≤ 1099511627776) (hld : e.ld.oneCell' = true) {w : World} (hM : zM w [hmap x.ks x.m, mapr Tryd.prog 3 mb x.n x.f]) : zC 64 [zP c 0, zI k] w fun e' w' => ∃ m2 f2, e' = .returned (.tuple #[.agg #[zI e.kd, e.ld], .bool true]) ∧ CInv ({ S with hits := wrap64 (S.hits + 1), cl := a ++ b ++ [e] }) [] c mb ⟨x.ks, m2, x.n, f2⟩ ∧ zD w [hmap x.ks x.m, mapr Tryd.prog 3 mb x.n x.f] w' [hmap x.ks m2, mapr Tryd.prog 3 mb x.n f2] := by
 have M := hM;clear hM;go_enter Tryd.func64, Tryd.ntmps64;refine zin ?_;refine zk fun K1 hK1 => zr ?_;refine zal M ([zI 0, zN]) rfl z052 fun g0 w2 M2 => ?_;clear M;refine zp 1 rfl ?_;refine zw (hK1 _ _ (zk fun K3 hK3 => zr ?_));refine zp 2 rfl (zo M2 (zf 1 zu107 rfl zz101) (zo M2 (y_hload (v := .map (some mb)) (zwn rfl) rfl (zev rfl) zg101 (fun W hW => hW.get 1 rfl) hI.cks (hI.c1)) (zp 1 rfl (zo M2 (y_mlook (q := (some ⟨e.b, 0, none⟩)) (zwn rfl) (fun W hW => hW.get 2 rfl) zu3 zu101 z0100 rfl (zev rfl) (zev rfl) (hk) (hI.look_yes (by simp [hs]) hke)) (zp 1 rfl ?_)))));refine zw (hK3 _ _ (zk fun K4 hK4 => zk fun K5 hK5 => zr ?_));refine zp 1 rfl (zo M2 (y_eqnil (r := false) (zwn rfl) rfl (zev rfl) (zev rfl) zu100 rfl) ?_);refine zw (hK5 _ _ (zcf rfl (zsk (hK4 _ _ (zk fun K6 hK6 => ?_)))));refine zr ?_;refine zp 2 rfl (zo M2 (zf 16 zu107 rfl zz3) (zo M2 (y_hload (v := zI S.hits) (zwn rfl) rfl (zev rfl) zg3 (fun W hW => hW.get 1 rfl) hI.cks (hI.c16)) (zo M2 (y_addw (zwn rfl) rfl (zev rfl) (zev rfl)) (zp 1 rfl (zo M2 (zf 16 zu107 rfl zz3) ?_)))));refine pe (zwn rfl) fun K hK => e_hstore M2 1 (v := zI (wrap64 (S.hits + 1))) rfl rfl (zev rfl) (zev rfl) rfl rfl zz3 rfl hI.cks (by rw [hI.c16]; rfl) ?_;intro w7 (M7 : zD w [hmap x.ks x.m, mapr Tryd.prog 3 mb x.n x.f] w7 [blk g0 52 ([zI 0, zN]), hmap x.ks (x.m.wr c 16 (zI (wrap64 (S.hits + 1)))), mapr Tryd.prog 3 mb x.n x.f]);have hJ := hI.cell (S' := { S with hits := wrap64 (S.hits + 1) }) (o := 16) (v := wrap64 (S.hits + 1)) (by decide) (by rw [hI.c16]; rfl) ⟨rfl, rfl, rfl⟩ (if_pos rfl).symm (if_neg (by decide)).symm (if_neg (by decide)).symm (kin_wrap _);obtain ⟨p0, n0, hD, hJ1⟩ := hJ.drop_cl (a := a) (b := b) (e := e) hs hl;obtain ⟨q0, hL, hJ2⟩ := hJ1.last_cl (by have := congrArg List.length hs; simp at this; show (a ++ b).length ≤ _; rw [List.length_append]; omega);refine hK.out _ _ (zpu ?_);refine zw (hK6 _ _ (zk fun K8 hK8 => zk fun K9 hK9 => zr ?_));refine zp 2 rfl (zo M7 (zf 3 zu103 rfl zz4) (zo M7 (y_hload (v := .bool false) (zwn rfl) rfl (zev rfl) zg4 (fun W hW => hW.get 1 rfl) (hJ.eks e (by simp [hs])) ((hh ▸ (hJ.core.dat e (by simp [hs])).2.2.2))) (zp 1 rfl ?_)));refine zw (hK9 _ _ (zct rfl (zk fun K10 hK10 => zr ?_)));refine zp 2 rfl (zo M7 (zf 2 zu107 rfl zz105) (zp 1 rfl ?_));have hX11 : zD w [hmap x.ks x.m, mapr Tryd.prog 3 mb x.n x.f] w7 ([hmap x.ks (x.m.wr c 16 (zI (wrap64 (S.hits + 1))))] ++ [blk g0 52 ([zI 0, zN]), mapr Tryd.prog 3 mb x.n x.f]) := M7.arr [1, 0, 2] (by decide);refine zca 42 [zP c 2, .pointer (some ⟨e.b, 0, none⟩)] rfl Tryd.call42 (drop_any hD (Mem.h1 hX11)) ?_;rintro e w11 ⟨rfl, H11⟩;have M11 : zD w [hmap x.ks x.m, mapr Tryd.prog 3 mb x.n x.f] w11 [hmap x.ks (dropM (x.m.wr c 16 (zI (wrap64 (S.hits + 1)))) p0 n0 c 2 ((S.cl.length : Int) - 1)), blk g0 52 ([zI 0, zN]), mapr Tryd.prog 3 mb x.n x.f] := Mem.f1 hX11 H11;refine ⟨_, rfl, ?_⟩;refine zw (hK10 _ _ (zr ?_));refine zp 2 rfl (zo M11 (zf 2 zu107 rfl zz105) (zp 1 rfl ?_));have hX12 : zD w [hmap x.ks x.m, mapr Tryd.prog 3 mb x.n x.f] w11 ([hmap x.ks (dropM (x.m.wr c 16 (zI (wrap64 (S.hits + 1)))) p0 n0 c 2 ((S.cl.length : Int) - 1))] ++ [blk g0 52 ([zI 0, zN]), mapr Tryd.prog 3 mb x.n x.f]) := M11.arr [0, 1, 2] (by decide);refine zca 41 [zP c 2, .pointer (some ⟨e.b, 0, none⟩)] rfl Tryd.call41 (last_any hL (Mem.h1 hX12)) ?_;rintro e w12 ⟨rfl, H12⟩;have M12 : zD w [hmap x.ks x.m, mapr Tryd.prog 3 mb x.n x.f] w12 [hmap x.ks (lastM (dropM (x.m.wr c 16 (zI (wrap64 (S.hits + 1)))) p0 n0 c 2 ((S.cl.length : Int) - 1)) e.nd q0 c 2 (((a ++ b).length : Int) + 1)), blk g0 52 ([zI 0, zN]), mapr Tryd.prog 3 mb x.n x.f] := Mem.f1 hX12 H12;refine ⟨_, rfl, ?_⟩;refine zw (hK8 _ _ (zk fun K13 hK13 => zr ?_));refine zp 2 rfl (zo M12 (zf 1 zu103 rfl zz52) (zo M12 (y_hloadb (cs := [zI e.kd, e.ld]) (zwn rfl) rfl (zev rfl) zu52 rfl (size_of_len (n := 2) _ rfl (by kernel_rfl)) (fun W hW => hW.get 0 rfl) (hJ2.eks e (by simp)) (rd_two (hJ2.core.dat e (by simp)).2.1 (hJ2.core.dat e (by simp)).2.2.1)) ?_));refine zsw M12 1 rfl (size_of_len (n := 2) _ rfl (by kernel_rfl)) (list_all2 hld) rfl fun w14 M14 => ?_;simp only[Zg,Zh]at M14;refine zp 1 rfl ?_;refine zw (hK13 _ _ (zrt ?_));(try simp only[zi,zj]);refine zR (resc2 _ rfl rfl (zgd rfl) (M14.get 1 rfl) zu52 (size_of_len (n := 2) _ rfl (by kernel_rfl)) (zgd rfl)) (zdf _) ?_;exact ⟨_, _, rfl, hJ2, (M14.arr [0, 2] (by decide))⟩
end Go.Proofs.YtopdhanbmnfeeaaDoor

/- The cache: Put, Hold, Settle, Release, Tally. -/
namespace Go.Proofs.YtopdhanbmnfeeaaDoor
set_option linter.unusedSectionVars false
open Go Go.RowKit
set_option maxRecDepth 100000
set_option maxHeartbeats 40000000
set_option linter.unusedVariables false
set_option linter.unusedSimpArgs false
theorem put_new {S : CS} {c mb : Nat} {x : CX} (hI : CInv S [] c mb x) (hl : S.cl.length ≤ 1000000000000) {k : Int} (hk : KIn k) (hn : ∀ e ∈ S.cl ++ S.kp, e.k ≠ k) (kd : Int) (ld : Value) (l0 : List UInt8) (hld : ld.oneCell' = true) (hx : x.n < 100000000000000) {w : World} (hM : zM w [hmap x.ks x.m, mapr Tryd.prog 3 mb x.n x.f]) : zC 65 [zP c 0, zI k, .agg ([zI kd, ld]).toArray] w fun e' w' => ∃ ge m2 f2, e' = .returned (.tuple #[]) ∧ CInv (trimS ({ S with cl := S.cl ++ [⟨ge, k, kd, ld, false, l0⟩] })) [] c mb ⟨(ge, 103) :: x.ks, m2, x.n + 1, f2⟩ ∧ zD w [hmap x.ks x.m, mapr Tryd.prog 3 mb x.n x.f] w' [hmap ((ge, 103) :: x.ks) m2, mapr Tryd.prog 3 mb (x.n + 1) f2] := by
 have M := hM;clear hM;have hl : S.cl.length ≤ 1099511627776 := Nat.le_trans hl (by decide);go_enter Tryd.func65, Tryd.ntmps65;refine zin ?_;refine zk fun K1 hK1 => zr ?_;refine zbx M ([zI kd, ld]) rfl fun g5 w2 M2 => ?_;clear M;refine zw (hK1 _ _ (zk fun K3 hK3 => zr ?_));refine zp 2 rfl (zo M2 (zf 1 zu107 rfl zz101) (zo M2 (y_hload (v := .map (some mb)) (zwn rfl) rfl (zev rfl) zg101 (fun W hW => hW.get 1 rfl) hI.cks (hI.c1)) (zp 1 rfl (zo M2 (y_mlook (q := none) (zwn rfl) (fun W hW => hW.get 2 rfl) zu3 zu101 z0100 rfl (zev rfl) (zev rfl) (hk) (hI.look_no hn)) (zp 1 rfl ?_)))));refine zw (hK3 _ _ (zk fun K4 hK4 => zbl (zk fun K5 hK5 => zr ?_)));refine zp 1 rfl (zo M2 (y_eqnil (r := true) (zwn rfl) rfl (zev rfl) (zev rfl) zu100 rfl) (zp 1 rfl ?_));refine zw (hK5 _ _ (zct rfl (zk fun K6 hK6 => zr ?_)));refine zp 1 rfl (zo M2 (y_build (ps := [(0, .tmp 16)]) (pv := [(0, zI k)]) (cs := [zI k, zI 0, zN, .bool false, .pointer none, .pointer none]) (zwn rfl) rfl (zep rfl) (by kernel_rfl)) ?_);refine zbx M2 ([zI k, zI 0, zN, .bool false, .pointer none, .pointer none]) rfl fun ge w7 M7 => ?_;obtain ⟨M8, hge⟩ : zD w [hmap x.ks x.m, mapr Tryd.prog 3 mb x.n x.f] w7 [hmap ((ge, 103) :: x.ks) (x.m.put ge ([zI k, zI 0, zN, .bool false, .pointer none, .pointer none])), blk g5 52 ([zI kd, ld]), mapr Tryd.prog 3 mb x.n x.f] ∧ _ := Mem.hjoin (M7.arr [0, 2, 1, 3] (by decide));have hJ := hI.new (g := ge) (C := [zI k, zI 0, zN, .bool false, .pointer none, .pointer none]) (e := (⟨ge, k, 0, zN, false, []⟩ : En)) hge rfl (fun e he => hn e (by simpa using he)) hk rfl ⟨rfl, rfl, rfl, rfl⟩;refine zp 1 rfl ?_;refine zw (hK6 _ _ (zk fun K9 hK9 => zr ?_));refine zp 2 rfl (zo M8 (zf 1 zu107 rfl zz101) (zo M8 (y_hload (v := .map (some mb)) (zwn rfl) rfl (zev rfl) zg101 (fun W hW => hW.get 0 rfl) hJ.cks (hJ.c1)) (zp 2 rfl ?_)));refine pe (zwn rfl) fun K hK => e_mset M8 2 (q := (zA ge)) rfl zu3 zu101 rfl rfl (zev rfl) (zev rfl) (zev rfl) (hk) (hx) ?_;intro w10 (M10 : zD w [hmap x.ks x.m, mapr Tryd.prog 3 mb x.n x.f] w10 [hmap ((ge, 103) :: x.ks) (x.m.put ge ([zI k, zI 0, zN, .bool false, .pointer none, .pointer none])), blk g5 52 ([zI kd, ld]), mapr Tryd.prog 3 mb (x.n + 1) (fun j => if j = k then (zA ge) else x.f j)]);obtain ⟨q0, hL, hJ2⟩ := hJ.last_cl hl;refine hK.out _ _ (zpu ?_);refine zw (hK9 _ _ (zr ?_));refine zp 2 rfl (zo M10 (zf 2 zu107 rfl zz105) (zp 1 rfl ?_));have hX11 : zD w [hmap x.ks x.m, mapr Tryd.prog 3 mb x.n x.f] w10 ([hmap ((ge, 103) :: x.ks) (x.m.put ge ([zI k, zI 0, zN, .bool false, .pointer none, .pointer none]))] ++ [blk g5 52 ([zI kd, ld]), mapr Tryd.prog 3 mb (x.n + 1) (fun j => if j = k then (zA ge) else x.f j)]) := M10.arr [0, 1, 2] (by decide);refine zca 41 [zP c 2, zP ge 0] rfl Tryd.call41 (last_any hL (Mem.h1 hX11)) ?_;rintro e w11 ⟨rfl, H11⟩;have M11 : zD w [hmap x.ks x.m, mapr Tryd.prog 3 mb x.n x.f] w11 [hmap ((ge, 103) :: x.ks) (lastM (x.m.put ge ([zI k, zI 0, zN, .bool false, .pointer none, .pointer none])) ((⟨ge, k, 0, zN, false, []⟩ : En)).nd q0 c 2 ((S.cl.length : Int) + 1)), blk g5 52 ([zI kd, ld]), mapr Tryd.prog 3 mb (x.n + 1) (fun j => if j = k then (zA ge) else x.f j)] := Mem.f1 hX11 H11;refine ⟨_, rfl, ?_⟩;refine zw (hK4 _ _ (zk fun K12 hK12 => zr ?_));refine zp 1 rfl (zo M11 (y_loadb (cs := [zI kd, ld]) (zwn rfl) rfl (zev rfl) zu52 rfl (size_of_len (n := 2) _ rfl (by kernel_rfl)) (fun W hW => hW.get 1 rfl) (rfl)) (zp 1 rfl (zo M11 (zf 1 zu103 rfl zz52) ?_)));refine pe (zwn rfl) fun K hK => e_hstore2 M11 0 (u := zI kd) (v := ld) rfl rfl (zev rfl) (zev rfl) ⟨by kernel_rfl⟩ (⟨rfl, hld⟩) rfl (hJ2.eks (⟨ge, k, 0, zN, false, []⟩ : En) (by simp)) ((by have h6 := (hJ2.core.blk (⟨ge, k, 0, zN, false, []⟩ : En) (by simp)).2; exact Nat.le_trans (by decide : 1 + 2 ≤ 6) (Nat.le_of_eq h6.symm))) ?_;intro w13 (M13 : zD w [hmap x.ks x.m, mapr Tryd.prog 3 mb x.n x.f] w13 [hmap ((ge, 103) :: x.ks) (((lastM (x.m.put ge ([zI k, zI 0, zN, .bool false, .pointer none, .pointer none])) ((⟨ge, k, 0, zN, false, []⟩ : En)).nd q0 c 2 ((S.cl.length : Int) + 1)).wr ge 1 (zI kd)).wr ge 2 ld), blk g5 52 ([zI kd, ld]), mapr Tryd.prog 3 mb (x.n + 1) (fun j => if j = k then (zA ge) else x.f j)]);have hJ3 := hJ2.val_cl (l := S.cl) (e := (⟨ge, k, 0, zN, false, []⟩ : En)) (kd := kd) (ld := ld) (l0 := l0) rfl;refine hK.out _ _ (zpu ?_);refine zw (hK12 _ _ (zr ?_));refine zp 1 rfl ?_;have hX14 : zD w [hmap x.ks x.m, mapr Tryd.prog 3 mb x.n x.f] w13 ([hmap ((ge, 103) :: x.ks) (((lastM (x.m.put ge ([zI k, zI 0, zN, .bool false, .pointer none, .pointer none])) ((⟨ge, k, 0, zN, false, []⟩ : En)).nd q0 c 2 ((S.cl.length : Int) + 1)).wr ge 1 (zI kd)).wr ge 2 ld), mapr Tryd.prog 3 mb (x.n + 1) (fun j => if j = k then (zA ge) else x.f j)] ++ [blk g5 52 ([zI kd, ld])]) := M13.arr [0, 2, 1] (by decide);have hCH14 := trim_any hJ3 (by show (S.cl ++ [_]).length ≤ _; rw [List.length_append]; show S.cl.length + 1 ≤ _; omega) (Mem.h2 hX14);refine zca 79 [zP c 0] rfl Tryd.call79 (hCH14) ?_;rintro e w14 ⟨m2, f2, rfl, hJ4, H14⟩;have M14 : zD w [hmap x.ks x.m, mapr Tryd.prog 3 mb x.n x.f] w14 [hmap ((ge, 103) :: x.ks) m2, mapr Tryd.prog 3 mb (x.n + 1) f2, blk g5 52 ([zI kd, ld])] := Mem.f2 hX14 H14;refine ⟨_, rfl, ?_⟩;refine zw ?_;try simp only [Exit.inBlock, Exit.then]
 refine bodyPost_end (v := .tuple #[]) (res0 rfl) (zdf _) ?_;exact ⟨ge, m2, f2, rfl, hJ4, (M14.arr [0, 1] (by decide))⟩
theorem hold_new {S : CS} {c mb : Nat} {x : CX} (hI : CInv S [] c mb x) (hl : S.kp.length ≤ 1000000000000) {k : Int} (hk : KIn k) (hn : ∀ e ∈ S.cl ++ S.kp, e.k ≠ k) (kd : Int) (ld : Value) (l0 : List UInt8) (hld : ld.oneCell' = true) (hx : x.n < 100000000000000) {w : World} (hM : zM w [hmap x.ks x.m, mapr Tryd.prog 3 mb x.n x.f]) : zC 21 [zP c 0, zI k, .agg ([zI kd, ld]).toArray] w fun e' w' => ∃ ge m2 f2, e' = .returned (.tuple #[]) ∧ CInv ({ S with kp := S.kp ++ [⟨ge, k, kd, ld, true, l0⟩] }) [] c mb ⟨(ge, 103) :: x.ks, m2, x.n + 1, f2⟩ ∧ zD w [hmap x.ks x.m, mapr Tryd.prog 3 mb x.n x.f] w' [hmap ((ge, 103) :: x.ks) m2, mapr Tryd.prog 3 mb (x.n + 1) f2] := by
 have M := hM;clear hM;have hl : S.kp.length ≤ 1099511627776 := Nat.le_trans hl (by decide);go_enter Tryd.func21, Tryd.ntmps21;refine zin ?_;refine zk fun K1 hK1 => zr ?_;refine zbx M ([zI kd, ld]) rfl fun g5 w2 M2 => ?_;clear M;refine zw (hK1 _ _ (zk fun K3 hK3 => zr ?_));refine zp 2 rfl (zo M2 (zf 1 zu107 rfl zz101) (zo M2 (y_hload (v := .map (some mb)) (zwn rfl) rfl (zev rfl) zg101 (fun W hW => hW.get 1 rfl) hI.cks (hI.c1)) (zp 1 rfl (zo M2 (y_mlook (q := none) (zwn rfl) (fun W hW => hW.get 2 rfl) zu3 zu101 z0100 rfl (zev rfl) (zev rfl) (hk) (hI.look_no hn)) (zp 1 rfl ?_)))));refine zw (hK3 _ _ (zk fun K4 hK4 => zbl (zk fun K5 hK5 => zr ?_)));refine zp 1 rfl (zo M2 (y_eqnil (r := true) (zwn rfl) rfl (zev rfl) (zev rfl) zu100 rfl) (zp 1 rfl ?_));refine zw (hK5 _ _ (zct rfl (zk fun K6 hK6 => zr ?_)));refine zp 1 rfl (zo M2 (y_build (ps := [(0, .tmp 16)]) (pv := [(0, zI k)]) (cs := [zI k, zI 0, zN, .bool false, .pointer none, .pointer none]) (zwn rfl) rfl (zep rfl) (by kernel_rfl)) ?_);refine zbx M2 ([zI k, zI 0, zN, .bool false, .pointer none, .pointer none]) rfl fun ge w7 M7 => ?_;obtain ⟨M8, hge⟩ : zD w [hmap x.ks x.m, mapr Tryd.prog 3 mb x.n x.f] w7 [hmap ((ge, 103) :: x.ks) (x.m.put ge ([zI k, zI 0, zN, .bool false, .pointer none, .pointer none])), blk g5 52 ([zI kd, ld]), mapr Tryd.prog 3 mb x.n x.f] ∧ _ := Mem.hjoin (M7.arr [0, 2, 1, 3] (by decide));have hJ := hI.new (g := ge) (C := [zI k, zI 0, zN, .bool false, .pointer none, .pointer none]) (e := (⟨ge, k, 0, zN, false, []⟩ : En)) hge rfl (fun e he => hn e (by simpa using he)) hk rfl ⟨rfl, rfl, rfl, rfl⟩;refine zp 1 rfl ?_;refine zw (hK6 _ _ (zk fun K9 hK9 => zr ?_));refine zp 2 rfl (zo M8 (zf 1 zu107 rfl zz101) (zo M8 (y_hload (v := .map (some mb)) (zwn rfl) rfl (zev rfl) zg101 (fun W hW => hW.get 0 rfl) hJ.cks (hJ.c1)) (zp 2 rfl ?_)));refine pe (zwn rfl) fun K hK => e_mset M8 2 (q := (zA ge)) rfl zu3 zu101 rfl rfl (zev rfl) (zev rfl) (zev rfl) (hk) (hx) ?_;intro w10 (M10 : zD w [hmap x.ks x.m, mapr Tryd.prog 3 mb x.n x.f] w10 [hmap ((ge, 103) :: x.ks) (x.m.put ge ([zI k, zI 0, zN, .bool false, .pointer none, .pointer none])), blk g5 52 ([zI kd, ld]), mapr Tryd.prog 3 mb (x.n + 1) (fun j => if j = k then (zA ge) else x.f j)]);obtain ⟨q0, hL, hJ2⟩ := hJ.last_kp hl;refine hK.out _ _ (zpu ?_);refine zw (hK9 _ _ (zr ?_));refine zp 2 rfl (zo M10 (zf 9 zu107 rfl zz105) (zp 1 rfl ?_));have hX11 : zD w [hmap x.ks x.m, mapr Tryd.prog 3 mb x.n x.f] w10 ([hmap ((ge, 103) :: x.ks) (x.m.put ge ([zI k, zI 0, zN, .bool false, .pointer none, .pointer none]))] ++ [blk g5 52 ([zI kd, ld]), mapr Tryd.prog 3 mb (x.n + 1) (fun j => if j = k then (zA ge) else x.f j)]) := M10.arr [0, 1, 2] (by decide);refine zca 41 [zP c 9, zP ge 0] rfl Tryd.call41 (last_any hL (Mem.h1 hX11)) ?_;rintro e w11 ⟨rfl, H11⟩;have M11 : zD w [hmap x.ks x.m, mapr Tryd.prog 3 mb x.n x.f] w11 [hmap ((ge, 103) :: x.ks) (lastM (x.m.put ge ([zI k, zI 0, zN, .bool false, .pointer none, .pointer none])) ((⟨ge, k, 0, zN, false, []⟩ : En)).nd q0 c 9 ((S.kp.length : Int) + 1)), blk g5 52 ([zI kd, ld]), mapr Tryd.prog 3 mb (x.n + 1) (fun j => if j = k then (zA ge) else x.f j)] := Mem.f1 hX11 H11;refine ⟨_, rfl, ?_⟩;refine zw (hK4 _ _ (zr ?_));refine zp 2 rfl (zo M11 (y_loadb (cs := [zI kd, ld]) (zwn rfl) rfl (zev rfl) zu52 rfl (size_of_len (n := 2) _ rfl (by kernel_rfl)) (fun W hW => hW.get 1 rfl) (rfl)) (zp 1 rfl (zo M11 (zf 1 zu103 rfl zz52) ?_)));refine pe (zwn rfl) fun K hK => e_hstore2 M11 0 (u := zI kd) (v := ld) rfl rfl (zev rfl) (zev rfl) ⟨by kernel_rfl⟩ (⟨rfl, hld⟩) rfl (hJ2.eks (⟨ge, k, 0, zN, false, []⟩ : En) (by simp)) ((by have h6 := (hJ2.core.blk (⟨ge, k, 0, zN, false, []⟩ : En) (by simp)).2; exact Nat.le_trans (by decide : 1 + 2 ≤ 6) (Nat.le_of_eq h6.symm))) ?_;intro w12 (M12 : zD w [hmap x.ks x.m, mapr Tryd.prog 3 mb x.n x.f] w12 [hmap ((ge, 103) :: x.ks) (((lastM (x.m.put ge ([zI k, zI 0, zN, .bool false, .pointer none, .pointer none])) ((⟨ge, k, 0, zN, false, []⟩ : En)).nd q0 c 9 ((S.kp.length : Int) + 1)).wr ge 1 (zI kd)).wr ge 2 ld), blk g5 52 ([zI kd, ld]), mapr Tryd.prog 3 mb (x.n + 1) (fun j => if j = k then (zA ge) else x.f j)]);refine hK.out _ _ (zpu ?_);refine zp 1 rfl (zo M12 (zf 3 zu103 rfl zz4) ?_);refine pe (zwn rfl) fun K hK => e_hstore M12 0 (v := .bool true) rfl rfl (zev rfl) (zev rfl) rfl rfl zz4 rfl (hJ2.eks (⟨ge, k, 0, zN, false, []⟩ : En) (by simp)) (by have h6 := (hJ2.core.blk (⟨ge, k, 0, zN, false, []⟩ : En) (by simp)).2; exact HM.rd_lt (by rw [HM.len_wr, HM.len_wr]; exact Nat.lt_of_lt_of_le (by decide : 3 < 6) (Nat.le_of_eq h6.symm))) ?_;intro w13 (M13 : zD w [hmap x.ks x.m, mapr Tryd.prog 3 mb x.n x.f] w13 [hmap ((ge, 103) :: x.ks) ((((lastM (x.m.put ge ([zI k, zI 0, zN, .bool false, .pointer none, .pointer none])) ((⟨ge, k, 0, zN, false, []⟩ : En)).nd q0 c 9 ((S.kp.length : Int) + 1)).wr ge 1 (zI kd)).wr ge 2 ld).wr ge 3 (.bool true)), blk g5 52 ([zI kd, ld]), mapr Tryd.prog 3 mb (x.n + 1) (fun j => if j = k then (zA ge) else x.f j)]);have hJ3 := hJ2.val_kp (l := S.kp) (e := (⟨ge, k, 0, zN, false, []⟩ : En)) (kd := kd) (ld := ld) (l0 := l0) rfl;refine hK.out _ _ (zpu ?_);refine zw ?_;try simp only [Exit.inBlock, Exit.then]
 refine bodyPost_end (v := .tuple #[]) (res0 rfl) (zdf _) ?_;exact ⟨ge, _, _, rfl, hJ3, (M13.arr [0, 2] (by decide))⟩
end Go.Proofs.YtopdhanbmnfeeaaDoor
