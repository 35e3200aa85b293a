/- Texts joined: File6, File7, Sto, Store1. -/
import Derived.Test.YtopdhanbmnfeeaaDoorIR14
import Derived.Test.YtopdhanbmnfeeaaDoorIR06
import Derived.Test.YtopdhanbmnfeeaaDoorIR07
import Derived.Test.YtopdhanbmnfeeaaDoorIR04
/- The file: Append. -/
namespace Go.Proofs.YtopdhanbmnfeeaaDoor
set_option linter.unusedSectionVars false
open Go Go.RowKit
set_option linter.unusedVariables false
set_option linter.unusedSimpArgs false
end Go.Proofs.YtopdhanbmnfeeaaDoor

/- The file: Publish. -/
namespace Go.Proofs.YtopdhanbmnfeeaaDoor
set_option linter.unusedSectionVars false
open Go Go.RowKit
set_option linter.unusedVariables false
set_option linter.unusedSimpArgs false
end Go.Proofs.YtopdhanbmnfeeaaDoor

/- A store over an open file as an assertion: its block, its cache, the staged list, the lists of bytes that both lead to. -/
namespace Go.Proofs.YtopdhanbmnfeeaaDoor
open Go Go.RowKit
set_option linter.unusedVariables false
set_option linter.unusedSimpArgs false
set_option linter.unusedSectionVars false
def CS.look (S : CS) (k : Int) : Option En := (S.cl ++ S.kp).find? (fun e => e.k == k)
def mv (l : List En) (e : En) : List En := l.filter (fun u => !(u.k == e.k)) ++ [e]
def CS.got (S : CS) (k : Int) : CS :=
  match S.look k with
  | none => { S with misses := wrap64 (S.misses + 1) }
  | some e => if e.h then { S with hits := wrap64 (S.hits + 1) } else { S with hits := wrap64 (S.hits + 1), cl := mv S.cl e }
theorem look_none {S : CS} {k : Int} (h : S.look k = none) : ∀ e ∈ S.cl ++ S.kp, e.k ≠ k := fun e he hk => by
  have := List.find?_eq_none.1 h e he
  simp [hk] at this
theorem look_some {S : CS} {k : Int} {e : En} (h : S.look k = some e) : e ∈ S.cl ++ S.kp ∧ e.k = k := ⟨List.mem_of_find?_eq_some h, by simpa using List.find?_some h⟩
theorem mv_eq {a b : List En} {e : En} (h : ((a ++ e :: b).map (·.k)).Nodup) : mv (a ++ e :: b) e = a ++ b ++ [e] := by
  unfold mv
  rw [List.map_append, List.map_cons] at h
  obtain ⟨_, h2, h3⟩ := List.nodup_append.1 h
  have ha : ∀ u ∈ a, u.k ≠ e.k := fun u hu hx => h3 _ (List.mem_map.2 ⟨u, hu, rfl⟩) _ (List.mem_cons_self ..) hx
  have hb : ∀ u ∈ b, u.k ≠ e.k := fun u hu hx => (List.nodup_cons.1 h2).1 (hx ▸ List.mem_map.2 ⟨u, hu, rfl⟩)
  rw [List.filter_append, List.filter_cons]
  simp only [beq_self_eq_true, Bool.not_true, Bool.false_eq_true, if_false]
  rw [List.filter_eq_self.2 fun u hu => by simp [ha u hu], List.filter_eq_self.2 fun u hu => by simp [hb u hu]]
theorem foots_cache (S : CS) (c mb : Nat) (x : CX) : foots [cache S c mb x] = foots (cacheL mb x) := by simp [foots, cache, star]
section
variable {S S' : CS} {c mb : Nat} {x x' : CX} {w w' : World}
theorem cache_down (h : Mem w (foots [cache S c mb x]) w [cache S c mb x]) : (CInv S [] c mb x ∧ CFlag S) ∧ Mem w (foots (cacheL mb x)) w (cacheL mb x) := by
  obtain ⟨h1, h2⟩ := cache_open h
  rw [foots_cache] at h2
  exact ⟨h1, h2⟩
theorem cache_up (hi : CInv S' [] c mb x' ∧ CFlag S') (h : Mem w (foots (cacheL mb x)) w' (cacheL mb x')) : Mem w (foots [cache S c mb x]) w' [cache S' c mb x'] := by
  rw [foots_cache]
  exact cache_close hi h
theorem CInv.ndk (h : CInv S [] c mb x) : (S.cl.map (·.k)).Nodup := by
  have := h.keys
  rw [List.map_append, List.map_append] at this
  exact (List.nodup_append.1 (List.nodup_append.1 this).1).1
theorem cget_none (hM : Mem w (foots [cache S c mb x]) w [cache S c mb x]) {k : Int} (hk : KIn k) (hn : S.look k = none) :
    Calls Tryd.prog 64 #[.pointer (some ⟨c, 0, none⟩), .int .i64 k] w fun e' w' => ∃ x', e' = .returned (.tuple #[.agg #[.int .i64 0, .slice none 0 0], .bool false]) ∧ x'.n = x.n ∧ Mem w (foots [cache S c mb x]) w' [cache (S.got k) c mb x'] := by
  obtain ⟨⟨hI, hF⟩, M⟩ := cache_down hM
  refine (get_none hI hk (look_none hn) M).mono ?_
  rintro e' w' ⟨m2, f2, rfl, hJ, hM'⟩
  refine ⟨⟨x.ks, m2, x.n, f2⟩, rfl, rfl, cache_up (x' := ⟨x.ks, m2, x.n, f2⟩) ?_ hM'⟩
  unfold CS.got
  rw [hn]
  exact ⟨hJ, hF⟩
theorem cget_some (hM : Mem w (foots [cache S c mb x]) w [cache S c mb x]) {k : Int} (hk : KIn k) {e : En} (hs : S.look k = some e) (hl : S.cl.length ≤ 1099511627776) (hld : e.ld.oneCell' = true) :
    Calls Tryd.prog 64 #[.pointer (some ⟨c, 0, none⟩), .int .i64 k] w fun e' w' => ∃ x', e' = .returned (.tuple #[.agg #[.int .i64 e.kd, e.ld], .bool true]) ∧ x'.n = x.n ∧ Mem w (foots [cache S c mb x]) w' [cache (S.got k) c mb x'] := by
  obtain ⟨⟨hI, hF⟩, M⟩ := cache_down hM
  obtain ⟨he, hke⟩ := look_some hs
  rcases List.mem_append.1 he with he | he
  · have hh := hF.1 e he
    obtain ⟨a, b, hab⟩ := List.append_of_mem he
    refine (get_clean hI hk hab hke hh hl hld M).mono ?_
    rintro e' w' ⟨m2, f2, rfl, hJ, hM'⟩
    refine ⟨⟨x.ks, m2, x.n, f2⟩, rfl, rfl, cache_up (x' := ⟨x.ks, m2, x.n, f2⟩) ?_ hM'⟩
    have hmv := hI.ndk
    rw [hab] at hmv
    unfold CS.got
    rw [hs]
    simp only [hh, Bool.false_eq_true, if_false]
    rw [show mv S.cl e = a ++ b ++ [e] by rw [hab]; exact mv_eq hmv]
    refine ⟨hJ, fun u hu => hF.1 u ?_, hF.2⟩
    have hu' : u ∈ a ++ b ++ [e] := hu
    rw [hab]
    simp at hu' ⊢
    rcases hu' with h | h | h <;> simp [h]
  · have hh := hF.2 e he
    refine (get_held hI hk he hke hh hld M).mono ?_
    rintro e' w' ⟨m2, f2, rfl, hJ, hM'⟩
    refine ⟨⟨x.ks, m2, x.n, f2⟩, rfl, rfl, cache_up (x' := ⟨x.ks, m2, x.n, f2⟩) ?_ hM'⟩
    unfold CS.got
    rw [hs]
    simp only [hh, if_true]
    exact ⟨hJ, hF⟩
theorem trim_flag (h : CFlag S) : CFlag (trimS S) := ⟨fun u hu => h.1 u ((List.drop_sublist _ _).subset hu), h.2⟩
theorem cput (hM : Mem w (foots [cache S c mb x]) w [cache S c mb x]) {k : Int} (hk : KIn k) (hn : S.look k = none) (hl : S.cl.length ≤ 1000000000000) (kd : Int) (ld : Value) (l0 : List UInt8) (hld : ld.oneCell' = true) (hx : x.n < 100000000000000) :
    Calls Tryd.prog 65 #[.pointer (some ⟨c, 0, none⟩), .int .i64 k, .agg ([.int .i64 kd, ld] : List Value).toArray] w fun e' w' => ∃ ge x', e' = .returned (.tuple #[]) ∧ x'.n = x.n + 1 ∧ Mem w (foots [cache S c mb x]) w' [cache (trimS { S with cl := S.cl ++ [⟨ge, k, kd, ld, false, l0⟩] }) c mb x'] := by
  obtain ⟨⟨hI, hF⟩, M⟩ := cache_down hM
  refine (put_new hI hl hk (look_none hn) kd ld l0 hld hx M).mono ?_
  rintro e' w' ⟨ge, m2, f2, rfl, hJ, hM'⟩
  refine ⟨ge, ⟨(ge, TE) :: x.ks, m2, x.n + 1, f2⟩, rfl, rfl, cache_up ⟨hJ, trim_flag ⟨fun u hu => ?_, hF.2⟩⟩ hM'⟩
  have hu' : u ∈ S.cl ++ [⟨ge, k, kd, ld, false, l0⟩] := hu
  rcases List.mem_append.1 hu' with h | h
  · exact hF.1 u h
  · obtain rfl : u = ⟨ge, k, kd, ld, false, l0⟩ := by simpa using h
    rfl
theorem chold (hM : Mem w (foots [cache S c mb x]) w [cache S c mb x]) {k : Int} (hk : KIn k) (hn : S.look k = none) (hl : S.kp.length ≤ 1000000000000) (kd : Int) (ld : Value) (l0 : List UInt8) (hld : ld.oneCell' = true) (hx : x.n < 100000000000000) :
    Calls Tryd.prog 21 #[.pointer (some ⟨c, 0, none⟩), .int .i64 k, .agg ([.int .i64 kd, ld] : List Value).toArray] w fun e' w' => ∃ ge x', e' = .returned (.tuple #[]) ∧ x'.n = x.n + 1 ∧ Mem w (foots [cache S c mb x]) w' [cache { S with kp := S.kp ++ [⟨ge, k, kd, ld, true, l0⟩] } c mb x'] := by
  obtain ⟨⟨hI, hF⟩, M⟩ := cache_down hM
  refine (hold_new hI hl hk (look_none hn) kd ld l0 hld hx M).mono ?_
  rintro e' w' ⟨ge, m2, f2, rfl, hJ, hM'⟩
  refine ⟨ge, ⟨(ge, TE) :: x.ks, m2, x.n + 1, f2⟩, rfl, rfl, cache_up ⟨hJ, hF.1, fun u hu => ?_⟩ hM'⟩
  have hu' : u ∈ S.kp ++ [⟨ge, k, kd, ld, true, l0⟩] := hu
  rcases List.mem_append.1 hu' with h | h
  · exact hF.2 u h
  · obtain rfl : u = ⟨ge, k, kd, ld, true, l0⟩ := by simpa using h
    rfl
end
structure SX where
  c : Nat
  mb : Nat
  x : CX
  sa : Option Addr
  sc : Nat
  V : List (Value × List UInt8)
def stC (l : List En) : List Value := l.flatMap fun e => [.int .i64 e.kd, e.ld]
def vault (V : List (Value × List UInt8)) : Asn := star True (V.map fun p => bytesL p.1 p.2)
structure SOk (C : CS) (mk : Int) (X : SX) : Prop where
  val : ∀ e ∈ C.cl ++ C.kp, (e.ld, e.l) ∈ X.V
  cl : ∀ e ∈ C.cl, 2 ≤ e.k ∧ e.k < mk
  kp : ∀ (i : Nat) (e : En), C.kp[i]? = some e → e.k = mk + (i : Int)
  room : C.cl.length ≤ C.room.toNat
  rm : 0 ≤ C.room ∧ C.room ≤ 4096
  kpl : C.kp.length ≤ 4096
  mk2 : 2 ≤ mk ∧ mk ≤ 4096
def stoL (C : CS) (s f : Nat) (X : SX) : List Asn := [blk s 58 [.pointer (some ⟨f, 0, none⟩), .func (.func 56) #[.pointer (some ⟨f, 0, none⟩)] #[], .pointer (some ⟨X.c, 0, none⟩), .slice X.sa C.kp.length X.sc], cache C X.c X.mb X.x, lst 52 2 (.slice X.sa C.kp.length X.sc) C.kp.length (stC C.kp), vault X.V]
def sto (C : CS) (mk : Int) (s f : Nat) (X : SX) : Asn := star (SOk C mk X) (stoL C s f X)
section
variable {w0 w : World} {F : List Nat} {R : List Asn} {C : CS} {mk : Int} {s f : Nat} {X : SX} {V : List (Value × List UInt8)}
theorem sto_open (h : Mem w0 F w (sto C mk s f X :: R)) : SOk C mk X ∧ Mem w0 F w (blk s 58 [.pointer (some ⟨f, 0, none⟩), .func (.func 56) #[.pointer (some ⟨f, 0, none⟩)] #[], .pointer (some ⟨X.c, 0, none⟩), .slice X.sa C.kp.length X.sc] :: cache C X.c X.mb X.x :: lst 52 2 (.slice X.sa C.kp.length X.sc) C.kp.length (stC C.kp) :: vault X.V :: R) := h.open
theorem sto_close (hi : SOk C mk X) (h : Mem w0 F w (blk s 58 [.pointer (some ⟨f, 0, none⟩), .func (.func 56) #[.pointer (some ⟨f, 0, none⟩)] #[], .pointer (some ⟨X.c, 0, none⟩), .slice X.sa C.kp.length X.sc] :: cache C X.c X.mb X.x :: lst 52 2 (.slice X.sa C.kp.length X.sc) C.kp.length (stC C.kp) :: vault X.V :: R)) : Mem w0 F w (sto C mk s f X :: R) := Mem.close (X := stoL C s f X) hi h
theorem sto_ok (h : (sto C mk s f X).holds w) : SOk C mk X := h.1
theorem sto_blk (h : (sto C mk s f X).holds w) : (blk s 58 [.pointer (some ⟨f, 0, none⟩), .func (.func 56) #[.pointer (some ⟨f, 0, none⟩)] #[], .pointer (some ⟨X.c, 0, none⟩), .slice X.sa C.kp.length X.sc]).holds w := h.2 _ (List.mem_cons_self ..)
theorem sto_c0 (h : (sto C mk s f X).holds w) : w.cell? ⟨s, 0, none⟩ = some (.pointer (some ⟨f, 0, none⟩)) := cell_of_blk (sto_blk h) rfl
theorem sto_c3 (h : (sto C mk s f X).holds w) : w.cell? ⟨s, 3, none⟩ = some (.slice X.sa C.kp.length X.sc) := cell_of_blk (sto_blk h) rfl
theorem vault_add {v : Value} {l : List UInt8} (h : Mem w0 F w (bytesL v l :: vault V :: R)) : Mem w0 F w (vault ((v, l) :: V) :: R) := by
  have h1 : Mem w0 F w ([vault V] ++ (bytesL v l :: R)) := h.perm (List.Perm.swap _ _ _)
  have h2 := (Mem.open (X := V.map fun p => bytesL p.1 p.2) (R := bytesL v l :: R) h1).2
  refine Mem.close (X := ((v, l) :: V).map fun p => bytesL p.1 p.2) trivial (h2.perm ?_)
  exact List.perm_middle
theorem vault_at (h : (vault V).holds w) {v : Value} {l : List UInt8} (hm : (v, l) ∈ V) : (bytesL v l).holds w := h.2 _ (List.mem_map.2 ⟨_, hm, rfl⟩)
theorem bytesL_nil {ao : Option Addr} {n c : Nat} {l : List UInt8} (h : (bytesL (.slice ao n c) l).holds w) : n = l.length ∧ l.length ≤ c ∧ c ≤ maxLen ∧ (ao = none → n = 0 ∧ c = 0) := by
  rcases lst_at h with ⟨e1, e2, _⟩ | ⟨g, c', e1, e2, e3⟩
  · cases e1
    exact ⟨e2.symm, by omega, by omega, fun _ => ⟨rfl, rfl⟩⟩
  · cases e1
    exact ⟨rfl, e2, e3, fun h => by cases h⟩
theorem contentT : ElemTy Tryd.prog 53 52 2 32 := elemTy_of (by kernel_rfl)
theorem stC_snoc (l : List En) (e : En) : stC l ++ [.int .i64 e.kd, e.ld] = stC (l ++ [e]) := by unfold stC; rw [List.flatMap_append]; simp
end
end Go.Proofs.YtopdhanbmnfeeaaDoor

/- The store: its small calls, copied. -/
namespace Go.Proofs.YtopdhanbmnfeeaaDoor
set_option linter.unusedSectionVars false
open Go Go.RowKit
set_option maxRecDepth 100000
set_option maxHeartbeats 40000000
set_option linter.unusedVariables false
set_option linter.unusedSimpArgs false
theorem slive_any {D : DV} {V : FV} {C : CS} {X : SX} {s f p pg mb : Nat} {qv : Value} {w : World} (hM : zM w [disk D p pg mb qv, blk f 99 (fC V p), sto C V.s.mark s f X])  : zC 18 [zP s 0] w fun e' w' => e' = .returned (zI (liveE D V)) ∧ zD w [disk D p pg mb qv, blk f 99 (fC V p), sto C V.s.mark s f X] w' [disk D p pg mb qv, blk f 99 (fC V p), sto C V.s.mark s f X] := by
 have M := hM;clear hM;go_enter Tryd.func18, Tryd.ntmps18;refine zin ?_;refine zk fun K1 hK1 => zr ?_;refine zp 1 rfl ?_;refine zw (hK1 _ _ (zk fun K2 hK2 => zr ?_));refine zp 2 rfl (zo M (zf 0 zu58 rfl Tryd.sizeOf54) (zo M (y_loadc (v := zP f 0) (zwn rfl) rfl (zev rfl) Tryd.isAgg54 (fun W hW => sto_c0 (hW.get 2 rfl))) ?_));have hX3 : zD w [disk D p pg mb qv, blk f 99 (fC V p), sto C V.s.mark s f X] w ([disk D p pg mb qv, blk f 99 (fC V p)] ++ [sto C V.s.mark s f X]) := M.arr [0, 1, 2] (by decide);refine zca 40 [zP f 0] rfl zc40 (live_any (Mem.h2 hX3)) ?_;rintro e w3 ⟨rfl, H3⟩;have M3 : zD w [disk D p pg mb qv, blk f 99 (fC V p), sto C V.s.mark s f X] w3 [disk D p pg mb qv, blk f 99 (fC V p), sto C V.s.mark s f X] := Mem.f2 hX3 H3;refine ⟨_, rfl, ?_⟩;refine zp 1 rfl ?_;refine zw (hK2 _ _ (zrt ?_));(try simp only[zi,zj]);refine zR (res1 rfl (zgd rfl)) (zdf _) ?_;exact ⟨rfl, (M3.arr [0, 1, 2] (by decide))⟩
theorem ssuper_any {D : DV} {V : FV} {C : CS} {X : SX} {s f p pg mb : Nat} {qv : Value} {w : World} (hM : zM w [disk D p pg mb qv, blk f 99 (fC V p), sto C V.s.mark s f X])  : zC 22 [zP s 0] w fun e' w' => e' = .returned (.agg (supC V.s).toArray) ∧ zD w [disk D p pg mb qv, blk f 99 (fC V p), sto C V.s.mark s f X] w' [disk D p pg mb qv, blk f 99 (fC V p), sto C V.s.mark s f X] := by
 have M := hM;clear hM;go_enter Tryd.func22, Tryd.ntmps22;refine zin ?_;refine zk fun K1 hK1 => zr ?_;refine zal M (supC noSup) rfl zero_sup fun gr w2 M2 => ?_;clear M;refine zw (hK1 _ _ (zk fun K3 hK3 => zr ?_));refine zp 2 rfl (zo M2 (zf 0 zu58 rfl Tryd.sizeOf54) (zo M2 (y_loadc (v := zP f 0) (zwn rfl) rfl (zev rfl) Tryd.isAgg54 (fun W hW => sto_c0 (hW.get 3 rfl))) ?_));have hX4 : zD w [disk D p pg mb qv, blk f 99 (fC V p), sto C V.s.mark s f X] w2 ([disk D p pg mb qv, blk f 99 (fC V p)] ++ [blk gr 61 (supC noSup), sto C V.s.mark s f X]) := M2.arr [1, 2, 0, 3] (by decide);refine zca 43 [zP f 0] rfl Tryd.call43 (super_any (Mem.h2 hX4)) ?_;rintro e w4 ⟨rfl, H4⟩;have M4 : zD w [disk D p pg mb qv, blk f 99 (fC V p), sto C V.s.mark s f X] w4 [disk D p pg mb qv, blk f 99 (fC V p), blk gr 61 (supC noSup), sto C V.s.mark s f X] := Mem.f2 hX4 H4;refine ⟨_, rfl, ?_⟩;refine zsw M4 2 rfl (size_sup _) (sup_all _) rfl fun w5 M5 => ?_;simp only[Zg,Zh]at M5;refine zw (hK3 _ _ (zrt ?_));(try simp only[zi,zj]);refine zR (resc1 _ rfl rfl (zgd rfl) (M5.get 2 rfl) zu61 (size_sup _)) (zdf _) ?_;exact ⟨rfl, (M5.arr [0, 1, 3] (by decide))⟩
theorem spages_any {D : DV} {V : FV} {C : CS} {X : SX} {s f p pg mb : Nat} {qv : Value} {w : World} (hM : zM w [disk D p pg mb qv, blk f 99 (fC V p), sto C V.s.mark s f X])  : zC 19 [zP s 0] w fun e' w' => e' = .returned (zI (D.pages.length : Int)) ∧ zD w [disk D p pg mb qv, blk f 99 (fC V p), sto C V.s.mark s f X] w' [disk D p pg mb qv, blk f 99 (fC V p), sto C V.s.mark s f X] := by
 have M := hM;clear hM;go_enter Tryd.func19, Tryd.ntmps19;refine zin ?_;refine zk fun K1 hK1 => zr ?_;refine zp 1 rfl ?_;refine zw (hK1 _ _ (zk fun K2 hK2 => zr ?_));refine zp 2 rfl (zo M (zf 0 zu58 rfl Tryd.sizeOf54) (zo M (y_loadc (v := zP f 0) (zwn rfl) rfl (zev rfl) Tryd.isAgg54 (fun W hW => sto_c0 (hW.get 2 rfl))) (zp 1 rfl (zo M (zf 0 zu99 rfl zz23) (zo M (zl 1 rfl zg23) ?_)))));have hX3 : zD w [disk D p pg mb qv, blk f 99 (fC V p), sto C V.s.mark s f X] w ([disk D p pg mb qv] ++ [blk f 99 (fC V p), sto C V.s.mark s f X]) := M.arr [0, 1, 2] (by decide);refine zca 32 [zP p 0] rfl Tryd.call32 (pages_any (Mem.h1 hX3)) ?_;rintro e w3 ⟨rfl, H3⟩;have M3 : zD w [disk D p pg mb qv, blk f 99 (fC V p), sto C V.s.mark s f X] w3 [disk D p pg mb qv, blk f 99 (fC V p), sto C V.s.mark s f X] := Mem.f1 hX3 H3;refine ⟨_, rfl, ?_⟩;refine zp 1 rfl ?_;refine zw (hK2 _ _ (zrt ?_));(try simp only[zi,zj]);refine zR (res1 rfl (zgd rfl)) (zdf _) ?_;exact ⟨rfl, (M3.arr [0, 1, 2] (by decide))⟩
theorem snext_any {D : DV} {V : FV} {C : CS} {X : SX} {s f p pg mb : Nat} {qv : Value} {w : World} (hM : zM w [disk D p pg mb qv, blk f 99 (fC V p), sto C V.s.mark s f X])  : zC 8 [zP s 0] w fun e' w' => e' = .returned (zI (V.s.mark + (C.kp.length : Int))) ∧ zD w [disk D p pg mb qv, blk f 99 (fC V p), sto C V.s.mark s f X] w' [disk D p pg mb qv, blk f 99 (fC V p), sto C V.s.mark s f X] := by
 have M := hM;clear hM;have hok := sto_ok (M.get 2 rfl);have hm2 := hok.mk2;have hkl := hok.kpl;go_enter Tryd.func8, Tryd.ntmps8;refine zin ?_;refine zk fun K1 hK1 => zr ?_;refine zp 1 rfl ?_;refine zw (hK1 _ _ (zk fun K2 hK2 => ?_));have M3 := M.drew;have hzM3 := M3.pk [2];simp only[Y3,Y4,Y1,Y2]at hzM3;refine zhb hzM3 (by kernel_rfl) fun hS => ?_;refine zt 0 rfl (zy rfl) hS (zt 3 rfl (zy rfl) hS (zt 4 rfl (zy rfl) hS (zt 5 rfl (zf 3 zu58 rfl zz53) hS ?_)));refine zt 6 rfl (y_loadc (v := .slice X.sa C.kp.length X.sc) (zwn rfl) rfl (zev rfl) zg53 (fun W hW => sto_c3 (hW.get 0 rfl))) hS ?_;refine zt 7 rfl (y_len (zwn rfl) rfl (zev rfl) zu53) hS ?_;have hX4 : zD w [disk D p pg mb qv, blk f 99 (fC V p), sto C V.s.mark s f X] w.drew ([disk D p pg mb qv, blk f 99 (fC V p), sto C V.s.mark s f X] ++ []) := M3.arr [0, 1, 2] (by decide);refine held_step 1 (by kernel_rfl) rfl (zwn rfl) (fun K hK => ?_);refine e_call 22 [zP s 0] rfl (zls_eval rfl) Tryd.call22 (ssuper_any (Mem.h3 hX4)) ?_;rintro e w4 ⟨rfl, H4⟩;have M4 : zD w [disk D p pg mb qv, blk f 99 (fC V p), sto C V.s.mark s f X] w4 [disk D p pg mb qv, blk f 99 (fC V p), sto C V.s.mark s f X] := Mem.f3 hX4 H4;refine ⟨_, rfl, ?_⟩;refine hK.out _ _ (M4.arr [2] (by decide)) (fun hS => zpa ?_);refine zt 2 rfl (y_field1 (v := zI V.s.mark) (zwn rfl) rfl (zev rfl) zu61 rfl zg3 rfl) hS ?_;refine zt 8 rfl (y_add (r := V.s.mark + (C.kp.length : Int)) (zwn rfl) rfl (zev rfl) (zev rfl) (rfl) (by omega)) hS (zt 9 rfl (zy rfl) hS ?_);refine held_done (by kernel_rfl) (hK2 _ _ ?_) _;refine zrt ?_;(try simp only[zi,zj]);refine zR (res1 rfl (zgd rfl)) (zdf _) ?_;exact ⟨rfl, (M4.arr [0, 1, 2] (by decide))⟩
theorem copied_any (ao : Option Addr) (n c : Nat) (l : List UInt8) {w : World} (hr : Row w ao n l) (hnil : ao = none → n = 0 ∧ c = 0) (hn : n ≤ 1099511627776) : zC 20 [.slice ao n c] w fun e w' => ∃ a' c', e = .returned (.slice a' l.length c') ∧ Mem w [] w' [bytesL (.slice a' l.length c') l] := by
 have M := Mem.nil w;go_enter Tryd.func20, Tryd.ntmps20;refine zin ?_;refine zk fun K1 hK1 => zr ?_;refine zp 1 rfl ?_;refine zw (hK1 _ _ (zk fun K2 hK2 => zr ?_));refine zp 1 rfl ?_;have M3 := M.nilst 5 1;refine pe (zwn rfl) fun K hK => e_append M3 0 bytesT (by decide) (news := bvs l) rfl rfl (zev rfl) (zev rfl) (by rw [length_bvs, hr.1, Nat.mul_one]) (hnil) ((M3.row hr (by simp)).news) (bvs_oneCell _) (⟨by unfold maxLen; omega, by omega⟩) ?_;intro v4 w4 M4;replace M4 : Mem w [] w4 [lst 5 1 v4 n (bvs l)] := (by have h := M4; rw [Nat.zero_add] at h; exact h);obtain ⟨a4, c4, rfl⟩ := qv_at (M4.get 0 rfl);refine hK.out _ _ (zpu ?_);refine zp 1 rfl ?_;refine zw (hK2 _ _ (zrt ?_));(try simp only[zi,zj]);refine zR (v := .slice a4 n c4) (res1 rfl (zgd rfl)) (zdf _) ?_;have hmm : n = l.length := hr.1.symm;subst hmm;exact ⟨_, _, rfl, M4⟩
end Go.Proofs.YtopdhanbmnfeeaaDoor
