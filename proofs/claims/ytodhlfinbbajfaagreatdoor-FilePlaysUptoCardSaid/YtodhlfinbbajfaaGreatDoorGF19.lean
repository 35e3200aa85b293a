/- Texts joined. -/
import Derived.Test.YtodhlfinbbajfaaGreatDoorGF18
import Derived.Test.YtodhlfinbbajfaaGreatDoorGF03
namespace Go.Proofs.YtodhlfinbbajfaaGreatDoor
open Go Go.RowKit
set_option linter.unusedVariables false
set_option linter.unusedSimpArgs false
set_option linter.unusedSectionVars false
set_option maxRecDepth 100000
set_option maxHeartbeats 40000000
section
variable {gT0 : TypeId}
theorem Jfb {P L : List Asn} (h : ∀ A ∈ P, A ∈ L) : ∀ b ∈ Jag P, b ∈ Jag L := fun b hb => by
  obtain ⟨A, hA, hb⟩ := Jde.1 hb
  exact Jde.2 ⟨A, h A hA, hb⟩
theorem rfin {w0 w : World} {F : List Nat} {rw n : Nat} {S : RW} {sd : Ds} {bs : Fs} {A : Asn} (hI : RInv S sd bs n) (M : Mem w0 F w ([A] ++ (rH gT0 rw S ++ rT S))) : Mem w0 F w [Jcy gT0 rw S sd bs n, A] :=
  Mem.close (X := rH gT0 rw S ++ rT S) hI (M.perm List.perm_append_comm)
theorem Jyo {w0 w : World} {F : List Nat} {rw : Nat} {S : RW} {o : OpV} (ho : OpZ w0 F o) (M : Mem w0 F w (rH gT0 rw S ++ rT S)) {Q : List Asn} (hQ : ∀ A ∈ Q, A ∈ rT S) : OpZ w (Jag (rH gT0 rw S ++ Q)) o :=
  ho.sub M (M.all (blk 0 gT0 (bvs Jaa)) (List.mem_append_left _ (show _ ∈ rH gT0 rw S from List.mem_cons_self ..))) (Jfb fun A hA => by
    rcases List.mem_append.1 hA with h | h
    · exact List.mem_append_left _ h
    · exact List.mem_append_right _ (hQ A h))
set_option maxHeartbeats 4000000 in
theorem Juw {rw n m : Nat} {S : RW} {sd : Ds} {bs : Fs} {w : World} (hM : Mem w (Jag [Jcy gT0 rw S sd bs n]) w [Jcy gT0 rw S sd bs n]) (hA : AInv sd bs m) (o : OpV) (ho : OpZ w (Jag [Jcy gT0 rw S sd bs n]) o) (hn : n ≤ 1099511600000) : Calls Tryz.prog 14 #[.pointer (some ⟨rw, 0, none⟩), .agg ((opC o)).toArray] w fun e w' => ∃ S' rv, e = .returned (.agg (ansC (Jas sd bs o).2.2 rv).toArray) ∧ Mem w (Jag [Jcy gT0 rw S sd bs n]) w' [Jcy gT0 rw S' (Jas sd bs o).1 (Jas sd bs o).2.1 (n + 4), lst 5 1 rv (Jas sd bs o).2.2.raw.length (bvs (Jas sd bs o).2.2.raw)] := by
 obtain ⟨hI, M⟩ := Mem.open hM;rw [List.append_nil] at M;obtain ⟨hk2, hkd⟩ := Jzp o;obtain ⟨hj3, hja⟩ := Jyq o;obtain ⟨x, hx⟩ : ∃ x, S.ds[kdOf o]? = some x := ⟨_, List.getElem?_eq_getElem (by rw [hI.dl]; exact hk2)⟩;obtain ⟨y, hy⟩ : ∃ y, S.fs[jaOf o]? = some y := ⟨_, List.getElem?_eq_getElem (by rw [hI.fl]; exact hj3)⟩;have hsx : sd[kdOf o]? = some (x.map RDs.D) := by rw [← hI.dm, List.getElem?_map, hx]; rfl
 have hby : bs[jaOf o]? = some (y.map fun t => (t.V, t.d)) := by rw [← hI.fm, List.getElem?_map, hy]; rfl
 have hcD := Juv hI hx;have hcF := Jxl hI hy;by_cases h1 : o.k = 1
 ·cases x with
  | none =>
    have e1 : Jas sd bs o = (sd, bs, { Jay with e := 1 }) := by unfold Jas onDisk; rw [if_pos h1, hsx]; rfl
    rw [e1];have P := M.focus0;refine (Jbn.2.2.2.2.2.2.2.2.2.2.2.2.2.2 P.1 o (kdOf o) (jaOf o) hkd hja (rfP y) hcD hcF h1).mono ?_;rintro e w' ⟨rv, rfl, h⟩;exact ⟨S, rv, rfl, rfin (hI.more (by omega)) (P.2 (H' := rH gT0 rw S) (N := [_]) h)⟩
  | some s =>
    have e1 : Jas sd bs o = (sd.set (kdOf o) (some (Jat s.D o.n).1), bs, { Jay with e := (Jat s.D o.n).2 }) := by
      unfold Jas onDisk; rw [if_pos h1, hsx]; rfl
    rw [e1];have P := M.focus1 (kdOf o) (rT_d hI hx);refine (Jbn.2.2.2.2.2.2.2.2.2.2.2.2.2.1 P.1 o (kdOf o) (jaOf o) hkd hja (rfP y) hcD hcF h1 (by have := hI.ln s (List.mem_of_getElem? hx); omega)).mono ?_;rintro e w' ⟨X', rv, rfl, h, hl⟩;have N := P.2 (H' := rH gT0 rw S) (B := rdA (some { s with D := (Jat s.D o.n).1, X := X' })) (N := [_]) h;rw [Ji3 hI hk2, ← Ji4 (s' := { s with D := (Jat s.D o.n).1, X := X' }) hx rfl] at N;exact ⟨_, rv, rfl, rfin (hI.setD (s' := { s with D := (Jat s.D o.n).1, X := X' }) hx rfl (by show X'.log.length ≤ s.X.log.length + 4; omega)) N⟩
 by_cases h2 : o.k = 2
 ·cases x with
  | none =>
    have e1 : Jas sd bs o = (sd, bs, { Jay with e := 1 }) := by unfold Jas; rw [if_neg h1, if_pos h2, hsx]; rfl
    rw [e1];have P := M.focus0;refine (Jbn.2.2.2.2.2.2.2.2.2.2.2.2.1 P.1 o (kdOf o) (jaOf o) hkd hja (rfP y) hcD hcF h2).mono ?_;rintro e w' ⟨rv, rfl, h⟩;exact ⟨S, rv, rfl, rfin (hI.more (by omega)) (P.2 (H' := rH gT0 rw S) (N := [_]) h)⟩
  | some s =>
    by_cases hO : Jbx s.D = 0
    ·have e1 : Jas sd bs o = (sd.set (kdOf o) (some (Jce s.D)), bs.set (jaOf o) (some (Jd5 s.D, kdOf o)), { Jay with e := 0 }) := by
       unfold Jas; rw [if_neg h1, if_pos h2, hsx];show (_, (if Jbx s.D = 0 then _ else _), { Jay with e := Jbx s.D }) = _;rw [if_pos hO, hO]
     rw [e1];have P := M.focus1 (kdOf o) (rT_d hI hx);refine (Jbn.2.2.2.2.2.2.2.2.2.2.1 P.1 o (kdOf o) (jaOf o) hkd hja (rfP y) hcD hcF h2 hO (by have := hI.ln s (List.mem_of_getElem? hx); omega)).mono ?_;rintro e w' ⟨f, rv, rfl, h⟩
     have N := P.2 (H' := rH gT0 rw { S with fs := S.fs.set (jaOf o) (some ⟨Jd5 s.D, f, kdOf o, s.r⟩) }) (B := rdA (some { s with D := Jce s.D })) (N := [blk f 67 (fC (Jd5 s.D) s.r), _]) (by
       have h9 : (S.fs.map rfP ++ S.eF).set (jaOf o) (.pointer (some ⟨f, 0, none⟩)) = (S.fs.set (jaOf o) (some ⟨Jd5 s.D, f, kdOf o, s.r⟩)).map rfP ++ S.eF := by
         rw [List.set_append_left _ _ (by rw [List.length_map, hI.fl]; exact hj3), List.map_set]; rfl
       rw [h9] at h;exact h)
     rw [Ji3 hI hk2] at N;have hI2 := hI.setD (s' := { s with D := Jce s.D }) hx rfl (by show s.X.log.length ≤ s.X.log.length + 4; omega);have hI3 := hI2.setF (j := jaOf o) (t := ⟨Jd5 s.D, f, kdOf o, s.r⟩) ⟨_, List.getElem?_set_self (by rw [hI.dl]; exact hk2), rfl⟩;have N2 := Mem.instead (B := rfA (some ⟨Jd5 s.D, f, kdOf o, s.r⟩)) (N := [_]) N (2 + jaOf o) (rT_f hI2 (x := y) hy);rw [Jql hI2] at N2;have e5 := Ji4 (gT0 := gT0) (rw := rw) (S := { S with fs := S.fs.set (jaOf o) (some ⟨Jd5 s.D, f, kdOf o, s.r⟩) }) (s' := { s with D := Jce s.D }) hx rfl;rw [← e5] at N2;exact ⟨_, rv, rfl, rfin hI3 N2⟩
    ·
      have e1 : Jas sd bs o = (sd.set (kdOf o) (some (Jce s.D)), bs, { Jay with e := Jbx s.D }) := by
        unfold Jas; rw [if_neg h1, if_pos h2, hsx];show (_, (if Jbx s.D = 0 then _ else _), _) = _;rw [if_neg hO]
      rw [e1];have P := M.focus1 (kdOf o) (rT_d hI hx);refine (Jbn.2.2.2.2.2.2.2.2.2.2.2.1 P.1 o (kdOf o) (jaOf o) hkd hja (rfP y) hcD hcF h2 hO (by have := hI.ln s (List.mem_of_getElem? hx); omega)).mono ?_;rintro e w' ⟨rv, rfl, h⟩;have N := P.2 (H' := rH gT0 rw S) (B := rdA (some { s with D := Jce s.D })) (N := [_]) h;rw [Ji3 hI hk2, ← Ji4 (s' := { s with D := Jce s.D }) hx rfl] at N;exact ⟨_, rv, rfl, rfin (hI.setD (s' := { s with D := Jce s.D }) hx rfl (by show s.X.log.length ≤ s.X.log.length + 4; omega)) N⟩
 by_cases h3 : 3 ≤ o.k ∧ o.k ≤ 9
 ·cases y with
  | none =>
    have e1 : Jas sd bs o = (sd, bs, Jay) := by unfold Jas; rw [if_neg h1, if_neg h2, if_pos h3, hby]; rfl
    rw [e1];have P := M.focus0;refine (Jbn.2.2.2.2.2.2.2.2.2.1 P.1 o (kdOf o) (jaOf o) hkd hja (rdP x) hcD hcF h3).mono ?_;rintro e w' ⟨rv, rfl, h⟩;exact ⟨S, rv, rfl, rfin (hI.more (by omega)) (P.2 (H' := rH gT0 rw S) (N := [_]) h)⟩
  | some t =>
    obtain ⟨s, hs, hsr⟩ := hI.pt t (List.mem_of_getElem? hy);have hss : sd[t.d]? = some (some s.D) := by rw [← hI.dm, List.getElem?_map, hs]; rfl
    obtain ⟨D0, hD0, hFV⟩ := hA.fl t.V t.d (List.mem_of_getElem? hby);rw [hss] at hD0;obtain rfl : s.D = D0 := by simpa using hD0
    have hd2 : t.d < 2 := by rw [← hI.dl]; exact (List.getElem?_eq_some_iff.1 hs).1
    have e1 : Jas sd bs o = (sd.set t.d (some (fileOp s.D t.V o).1), bs.set (jaOf o) (some ((fileOp s.D t.V o).2.1, t.d)), (fileOp s.D t.V o).2.2) := by
      unfold Jas; rw [if_neg h1, if_neg h2, if_pos h3, hby];show (match sd[t.d]? with | some (some D) => _ | _ => _) = _;rw [hss]
    rw [e1];have hy2 : (rT S)[2 + jaOf o]? = some (blk t.f 67 (fC t.V s.r)) := by rw [rT_f hI hy]; show some (blk t.f _ (fC t.V t.r)) = _; rw [hsr]
    have P := M.focus2 t.d (2 + jaOf o) (by omega) (rT_d hI hs) hy2
    have ho2 : OpZ w (Jag (rH gT0 rw S ++ [rdA (some s), blk t.f 67 (fC t.V s.r)])) o := Jyo ho M (fun A hA => by
      simp only [List.mem_cons, List.not_mem_nil, or_false] at hA;rcases hA with rfl | rfl
      ·exact List.mem_of_getElem? (rT_d hI hs)
      ·exact List.mem_of_getElem? hy2)
    refine (Jbn.2.2.2.2.2.2.2.2.1 P.1 o (kdOf o) (jaOf o) hkd hja (rdP x) hcD hcF h3 ho2 hFV (by have := hI.ln s (List.mem_of_getElem? hs); omega)).mono ?_;rintro e w' ⟨X', rv, rfl, h, hl⟩;have N := P.2 (H' := rH gT0 rw S) (B := rdA (some { s with D := (fileOp s.D t.V o).1, X := X' })) (B2 := blk t.f 67 (fC (fileOp s.D t.V o).2.1 s.r)) (N := [_]) h;rw [show blk t.f 67 (fC (fileOp s.D t.V o).2.1 s.r) = rfA (some { t with V := (fileOp s.D t.V o).2.1 }) from by show _ = blk t.f _ (fC _ t.r); rw [hsr]] at N;have hI0 : RInv S sd bs n := hI;have hI2 := hI0.setD (s' := { s with D := (fileOp s.D t.V o).1, X := X' }) hs rfl (by show X'.log.length ≤ s.X.log.length + 4; omega);have hI3 := hI2.setF (j := jaOf o) (t := { t with V := (fileOp s.D t.V o).2.1 }) ⟨_, List.getElem?_set_self (by rw [hI.dl]; exact hd2), hsr⟩;rw [Ji3 hI0 hd2, Jql hI2] at N;have e5 := Ji4 (gT0 := gT0) (rw := rw) (S := S) (s' := { s with D := (fileOp s.D t.V o).1, X := X' }) hs rfl;have e6 := Jym (gT0 := gT0) (rw := rw) (S := { S with ds := S.ds.set t.d (some { s with D := (fileOp s.D t.V o).1, X := X' }) }) (j := jaOf o) (t' := { t with V := (fileOp s.D t.V o).2.1 }) hy rfl;rw [← e5, ← e6] at N;exact ⟨_, rv, rfl, rfin hI3 N⟩
 by_cases h4 : 10 ≤ o.k ∧ o.k ≤ 21
 ·by_cases h5 : o.own = false ∧ o.k < 21
  ·cases y with
   | none =>
     have e1 : Jas sd bs o = (sd, bs, Jay) := by unfold Jas; rw [if_neg h1, if_neg h2, if_neg h3, if_pos h4, if_pos h5, hby]; rfl
     rw [e1];have P := M.focus0;refine (Jbn.2.2.2.2.2.1 P.1 o (kdOf o) (jaOf o) hkd hja (rdP x) hcD hcF ⟨h4.1, h5.2⟩ h5.1).mono ?_;rintro e w' ⟨rv, rfl, h⟩;exact ⟨S, rv, rfl, rfin (hI.more (by omega)) (P.2 (H' := rH gT0 rw S) (N := [_]) h)⟩
   | some t =>
     obtain ⟨s, hs, hsr⟩ := hI.pt t (List.mem_of_getElem? hy);have hss : sd[t.d]? = some (some s.D) := by rw [← hI.dm, List.getElem?_map, hs]; rfl
     obtain ⟨D0, hD0, hFV⟩ := hA.fl t.V t.d (List.mem_of_getElem? hby);rw [hss] at hD0;obtain rfl : s.D = D0 := by simpa using hD0
     have hd2 : t.d < 2 := by rw [← hI.dl]; exact (List.getElem?_eq_some_iff.1 hs).1
     have e1 : Jas sd bs o = (sd.set t.d (some (diskOp s.D o).1), bs, (diskOp s.D o).2) := by
       unfold Jas; rw [if_neg h1, if_neg h2, if_neg h3, if_pos h4, if_pos h5, hby];show onDisk sd bs t.d _ _ = _;unfold onDisk; rw [hss]
     rw [e1];have hy2 : (rT S)[2 + jaOf o]? = some (blk t.f 67 (fC t.V s.r)) := by rw [rT_f hI hy]; show some (blk t.f _ (fC t.V t.r)) = _; rw [hsr]
     have P := M.focus2 t.d (2 + jaOf o) (by omega) (rT_d hI hs) hy2
     have ho2 : OpZ w (Jag (rH gT0 rw S ++ [rdA (some s), blk t.f 67 (fC t.V s.r)])) o := Jyo ho M (fun A hA => by
       simp only [List.mem_cons, List.not_mem_nil, or_false] at hA;rcases hA with rfl | rfl
       ·exact List.mem_of_getElem? (rT_d hI hs)
       ·exact List.mem_of_getElem? hy2)
     refine (Jbn.2.2.2.2.1 P.1 o (kdOf o) (jaOf o) hkd hja (rdP x) hcD hcF ⟨h4.1, h5.2⟩ h5.1 ho2 (by have := hI.ln s (List.mem_of_getElem? hs); omega)).mono ?_;rintro e w' ⟨X', rv, rfl, h, hl⟩;have N := P.2 (H' := rH gT0 rw S) (B := rdA (some { s with D := (diskOp s.D o).1, X := X' })) (B2 := blk t.f 67 (fC t.V s.r)) (N := [_]) h;rw [show blk t.f 67 (fC t.V s.r) = rfA (some t) from by show _ = blk t.f _ (fC _ t.r); rw [hsr]] at N;have hI2 := hI.setD (s' := { s with D := (diskOp s.D o).1, X := X' }) hs rfl (by show X'.log.length ≤ s.X.log.length + 4; omega);rw [Ji3 hI hd2, Jql hI2, ← Ji4 (s' := { s with D := (diskOp s.D o).1, X := X' }) hs rfl] at N
     have e7 : S.fs.set (jaOf o) (some t) = S.fs := by
       obtain ⟨q1, q2⟩ := List.getElem?_eq_some_iff.1 hy;rw [← q2]; exact List.set_getElem_self q1
     simp only [e7] at N;exact ⟨_, rv, rfl, rfin hI2 N⟩
  ·cases x with
   | none =>
     cases ho9 : o.own with
     | true =>
       have e1 : Jas sd bs o = (sd, bs, Jay) := by unfold Jas onDisk; rw [if_neg h1, if_neg h2, if_neg h3, if_pos h4, if_neg h5, hsx]; rfl
       rw [e1];have P := M.focus0;refine (Jbn.2.2.2.2.2.2.2.1 P.1 o (kdOf o) (jaOf o) hkd hja (rfP y) hcD hcF h4 ho9).mono ?_;rintro e w' ⟨rv, rfl, h⟩;exact ⟨S, rv, rfl, rfin (hI.more (by omega)) (P.2 (H' := rH gT0 rw S) (N := [_]) h)⟩
     | false =>
       have hk21 : o.k = 21 := Decidable.byContradiction fun hne => h5 ⟨ho9, by omega⟩;have e1 : Jas sd bs o = (sd, bs, Jay) := by unfold Jas onDisk; rw [if_neg h1, if_neg h2, if_neg h3, if_pos h4, if_neg h5, hsx]; rfl
       rw [e1];have P := M.focus0;refine (Jbn.2.2.2.1 P.1 o (kdOf o) (jaOf o) hkd hja (rfP y) hcD hcF hk21 ho9).mono ?_;rintro e w' ⟨rv, rfl, h⟩;exact ⟨S, rv, rfl, rfin (hI.more (by omega)) (P.2 (H' := rH gT0 rw S) (N := [_]) h)⟩
   | some s =>
     have ho2 : OpZ w (Jag (rH gT0 rw S ++ [rdA (some s)])) o := Jyo ho M (fun A hA => by
       simp only [List.mem_cons, List.not_mem_nil, or_false] at hA;rw [hA];exact List.mem_of_getElem? (rT_d hI hx))
     cases ho9 : o.own with
     | true =>
       have e1 : Jas sd bs o = (sd.set (kdOf o) (some (diskOp s.D o).1), bs, (diskOp s.D o).2) := by
         unfold Jas onDisk; rw [if_neg h1, if_neg h2, if_neg h3, if_pos h4, if_neg h5, hsx]; rfl
       rw [e1];have P := M.focus1 (kdOf o) (rT_d hI hx);refine (Jbn.2.2.2.2.2.2.1 P.1 o (kdOf o) (jaOf o) hkd hja (rfP y) hcD hcF h4 ho9 ho2 (by have := hI.ln s (List.mem_of_getElem? hx); omega)).mono ?_;rintro e w' ⟨X', rv, rfl, h, hl⟩;have N := P.2 (H' := rH gT0 rw S) (B := rdA (some { s with D := (diskOp s.D o).1, X := X' })) (N := [_]) h;rw [Ji3 hI hk2, ← Ji4 (s' := { s with D := (diskOp s.D o).1, X := X' }) hx rfl] at N;exact ⟨_, rv, rfl, rfin (hI.setD (s' := { s with D := (diskOp s.D o).1, X := X' }) hx rfl (by show X'.log.length ≤ s.X.log.length + 4; omega)) N⟩
     | false =>
       have hk21 : o.k = 21 := Decidable.byContradiction fun hne => h5 ⟨ho9, by omega⟩
       have e1 : Jas sd bs o = (sd.set (kdOf o) (some (diskOp s.D o).1), bs, (diskOp s.D o).2) := by
         unfold Jas onDisk; rw [if_neg h1, if_neg h2, if_neg h3, if_pos h4, if_neg h5, hsx]; rfl
       rw [e1];have P := M.focus1 (kdOf o) (rT_d hI hx);refine (Jbn.2.2.1 P.1 o (kdOf o) (jaOf o) hkd hja (rfP y) hcD hcF hk21 ho9 ho2 (by have := hI.ln s (List.mem_of_getElem? hx); omega)).mono ?_;rintro e w' ⟨X', rv, rfl, h, hl⟩;have N := P.2 (H' := rH gT0 rw S) (B := rdA (some { s with D := (diskOp s.D o).1, X := X' })) (N := [_]) h;rw [Ji3 hI hk2, ← Ji4 (s' := { s with D := (diskOp s.D o).1, X := X' }) hx rfl] at N;exact ⟨_, rv, rfl, rfin (hI.setD (s' := { s with D := (diskOp s.D o).1, X := X' }) hx rfl (by show X'.log.length ≤ s.X.log.length + 4; omega)) N⟩
 have e0 : Jas sd bs o = (sd, bs, Jay) := by unfold Jas; rw [if_neg h1, if_neg h2, if_neg h3, if_neg h4]
 rcases Int.lt_or_le o.k 1 with h6 | h6
 ·
   have e1 : Jas sd bs o = (sd, bs, Jay) := by exact e0
   rw [e1];have P := M.focus0;refine (Jbn.1 P.1 o (kdOf o) (jaOf o) hkd hja (rdP x) (rfP y) hcD hcF h6).mono ?_;rintro e w' ⟨rv, rfl, h⟩;exact ⟨S, rv, rfl, rfin (hI.more (by omega)) (P.2 (H' := rH gT0 rw S) (N := [_]) h)⟩
 ·
   have e1 : Jas sd bs o = (sd, bs, Jay) := by exact e0
   rw [e1];have P := M.focus0;refine (Jbn.2.1 P.1 o (kdOf o) (jaOf o) hkd hja (rdP x) (rfP y) hcD hcF (by omega)).mono ?_;rintro e w' ⟨rv, rfl, h⟩;exact ⟨S, rv, rfl, rfin (hI.more (by omega)) (P.2 (H' := rH gT0 rw S) (N := [_]) h)⟩
end
section
theorem pfin {w0 w : World} {F : List Nat} {rw n : Nat} {S : PW} {sd : Ds} {bs : Fs} {A : Asn} (hI : PInv S sd bs n) (M : Mem w0 F w ([A] ++ (pH rw S ++ pT S))) : Mem w0 F w [Jdy rw S sd bs n, A] :=
  Mem.close (X := pH rw S ++ pT S) hI (M.perm List.perm_append_comm)
theorem Jyp {w0 w : World} {F : List Nat} {rw : Nat} {S : PW} {o : OpV} (ho : OpOk w0 F o) (M : Mem w0 F w (pH rw S ++ pT S)) {Q : List Asn} (hQ : ∀ A ∈ Q, A ∈ pT S) : OpOk w (Jag (pH rw S ++ Q)) o :=
  ho.sub M (Jfb fun A hA => by
    rcases List.mem_append.1 hA with h | h
    · exact List.mem_append_left _ h
    · exact List.mem_append_right _ (hQ A h))
set_option maxHeartbeats 4000000 in
theorem Jux {rw n m : Nat} {S : PW} {sd : Ds} {bs : Fs} {w : World} (hM : Mem w (Jag [Jdy rw S sd bs n]) w [Jdy rw S sd bs n]) (hA : AInv sd bs m) (o : OpV) (ho : OpOk w (Jag [Jdy rw S sd bs n]) o) (hq : m ≤ 400000000000) : Calls Tryz.prog 15 #[.pointer (some ⟨rw, 0, none⟩), .agg ((opC o)).toArray, .bool ((Jas sd bs o).2.1[jaOf o]?.join).isSome] w fun e w' => ∃ S' rv, e = .returned (.tuple #[.agg (ansC (Jas sd bs o).2.2 rv).toArray, .bool true]) ∧ Mem w (Jag [Jdy rw S sd bs n]) w' [Jdy rw S' (Jas sd bs o).1 (Jas sd bs o).2.1 (n + 4), lst 5 1 rv (Jas sd bs o).2.2.raw.length (bvs (Jas sd bs o).2.2.raw)] := by
 obtain ⟨hI, M⟩ := Mem.open hM;rw [List.append_nil] at M;obtain ⟨hk2, hkd⟩ := Jzp o;obtain ⟨hj3, hja⟩ := Jyq o;obtain ⟨x, hx⟩ : ∃ x, S.ds[kdOf o]? = some x := ⟨_, List.getElem?_eq_getElem (by rw [hI.dl]; exact hk2)⟩;obtain ⟨y, hy⟩ : ∃ y, S.fs[jaOf o]? = some y := ⟨_, List.getElem?_eq_getElem (by rw [hI.fl]; exact hj3)⟩;have hsx : sd[kdOf o]? = some (x.map PDs.D) := by rw [← hI.dm, List.getElem?_map, hx]; rfl
 have hby : bs[jaOf o]? = some (y.map fun t => (t.V, t.d)) := by rw [← hI.fm, List.getElem?_map, hy]; rfl
 have hcD := Jzn hI hx;have hcF := Jzo hI hy;have hjb : jaOf o < bs.length := by rw [hA.bl]; exact hj3
 by_cases h1 : o.k = 1
 ·cases x with
  | none =>
    have e1 : Jas sd bs o = (sd, bs, { Jay with e := 1 }) := by unfold Jas onDisk; rw [if_pos h1, hsx]; rfl
    rw [e1];have P := M.focus0;refine (Jbi.2.2.2.2.2.2.2.2.2.2.2.2.2.2.2.2 P.1 o (kdOf o) (jaOf o) hkd hja (pfP y) _ hcD hcF h1).mono ?_;rintro e w' ⟨rv, rfl, h⟩;exact ⟨S, rv, rfl, pfin (hI.more (by omega)) (P.2 (H' := pH rw S) (N := [_]) h)⟩
  | some s =>
    have e1 : Jas sd bs o = (sd.set (kdOf o) (some (Jat s.D o.n).1), bs, { Jay with e := (Jat s.D o.n).2 }) := by
      unfold Jas onDisk; rw [if_pos h1, hsx]; rfl
    rw [e1];have P := M.focus1 (kdOf o) (pT_d hI hx);refine (Jbi.2.2.2.2.2.2.2.2.2.2.2.2.2.2.2.1 P.1 o (kdOf o) (jaOf o) hkd hja (pfP y) _ hcD hcF h1 (by have := (hA.dk s.D (List.mem_of_getElem? hsx)).2; omega)).mono ?_;rintro e w' ⟨qv', rv, rfl, h⟩;have N := P.2 (H' := pH rw S) (B := pdA (some { s with D := (Jat s.D o.n).1, qv := qv' })) (N := [_]) h;rw [Jh0 hI hk2, ← Jh1 (s' := { s with D := (Jat s.D o.n).1, qv := qv' }) hx rfl] at N;exact ⟨_, rv, rfl, pfin (hI.setD (s' := { s with D := (Jat s.D o.n).1, qv := qv' }) hx rfl) N⟩
 by_cases h2 : o.k = 2
 ·cases x with
  | none =>
    cases y with
    | none =>
      have e1 : Jas sd bs o = (sd, bs, { Jay with e := 1 }) := by unfold Jas; rw [if_neg h1, if_pos h2, hsx]; rfl
      rw [e1];have eh : ((sd, bs, { Jay with e := 1 }).2.1[jaOf o]?.join).isSome = false := by show (bs[jaOf o]?.join).isSome = _; rw [hby]; rfl
      have P := M.focus0;have hc := (Jbi.2.2.2.2.2.2.2.2.2.2.2.2.2.1 P.1 o (kdOf o) (jaOf o) hkd hja hcD hcF h2);rw [eh];refine hc.mono ?_;rintro e w' ⟨rv, rfl, h⟩;exact ⟨S, rv, rfl, pfin (hI.more (by omega)) (P.2 (H' := pH rw S) (N := [_]) h)⟩
    | some t =>
      have e1 : Jas sd bs o = (sd, bs, { Jay with e := 1 }) := by unfold Jas; rw [if_neg h1, if_pos h2, hsx]; rfl
      rw [e1];have eh : ((sd, bs, { Jay with e := 1 }).2.1[jaOf o]?.join).isSome = true := by show (bs[jaOf o]?.join).isSome = _; rw [hby]; rfl
      have P := M.focus0;have hc := (Jbi.2.2.2.2.2.2.2.2.2.2.2.2.2.2.1 P.1 o (kdOf o) (jaOf o) hkd hja t.f hcD hcF h2);rw [eh];refine hc.mono ?_;rintro e w' ⟨rv, rfl, h⟩;exact ⟨S, rv, rfl, pfin (hI.more (by omega)) (P.2 (H' := pH rw S) (N := [_]) h)⟩
  | some s =>
    by_cases hO : Jbx s.D = 0
    ·have e1 : Jas sd bs o = (sd.set (kdOf o) (some (Jce s.D)), bs.set (jaOf o) (some (Jd5 s.D, kdOf o)), { Jay with e := 0 }) := by
       unfold Jas; rw [if_neg h1, if_pos h2, hsx];show (_, (if Jbx s.D = 0 then _ else _), { Jay with e := Jbx s.D }) = _;rw [if_pos hO, hO]
     rw [e1];have eh : ((sd.set (kdOf o) (some (Jce s.D)), bs.set (jaOf o) (some (Jd5 s.D, kdOf o)), { Jay with e := 0 }).2.1[jaOf o]?.join).isSome = true := by show ((bs.set (jaOf o) (some (Jd5 s.D, kdOf o)))[jaOf o]?.join).isSome = true; rw [List.getElem?_set_self hjb]; rfl
     have P := M.focus1 (kdOf o) (pT_d hI hx);have hc := Jbi.2.2.2.2.2.2.2.2.2.2.1 P.1 o (kdOf o) (jaOf o) hkd hja (pfP y) hcD hcF h2 hO;rw [eh];refine hc.mono ?_;rintro e w' ⟨f, rv, rfl, h⟩
     have N := P.2 (H' := pH rw { S with fs := S.fs.set (jaOf o) (some ⟨Jd5 s.D, f, kdOf o, s.p⟩) }) (B := pdA (some { s with D := Jce s.D })) (N := [blk f 113 (fC (Jd5 s.D) s.p), _]) (by
       have h9 : (S.fs.map pfP ++ S.eF).set (jaOf o) (.pointer (some ⟨f, 0, none⟩)) = (S.fs.set (jaOf o) (some ⟨Jd5 s.D, f, kdOf o, s.p⟩)).map pfP ++ S.eF := by
         rw [List.set_append_left _ _ (by rw [List.length_map, hI.fl]; exact hj3), List.map_set]; rfl
       rw [h9] at h;exact h)
     rw [Jh0 hI hk2] at N;have hI2 := hI.setD (s' := { s with D := Jce s.D }) hx rfl;have hI3 := hI2.setF (j := jaOf o) (t := ⟨Jd5 s.D, f, kdOf o, s.p⟩) ⟨_, List.getElem?_set_self (by rw [hI.dl]; exact hk2), rfl⟩;have N2 := Mem.instead (B := pfA (some ⟨Jd5 s.D, f, kdOf o, s.p⟩)) (N := [_]) N (2 + jaOf o) (pT_f hI2 (x := y) hy);rw [Jqm hI2] at N2;have e5 := Jh1 (rw := rw) (S := { S with fs := S.fs.set (jaOf o) (some ⟨Jd5 s.D, f, kdOf o, s.p⟩) }) (s' := { s with D := Jce s.D }) hx rfl;rw [← e5] at N2;exact ⟨_, rv, rfl, pfin hI3 N2⟩
    ·cases y with
     | none =>
       have e1 : Jas sd bs o = (sd.set (kdOf o) (some (Jce s.D)), bs, { Jay with e := Jbx s.D }) := by
         unfold Jas; rw [if_neg h1, if_pos h2, hsx];show (_, (if Jbx s.D = 0 then _ else _), _) = _;rw [if_neg hO]
       rw [e1];have eh : ((sd.set (kdOf o) (some (Jce s.D)), bs, { Jay with e := Jbx s.D }).2.1[jaOf o]?.join).isSome = false := by show (bs[jaOf o]?.join).isSome = _; rw [hby]; rfl
       have P := M.focus1 (kdOf o) (pT_d hI hx);have hc := Jbi.2.2.2.2.2.2.2.2.2.2.2.1 P.1 o (kdOf o) (jaOf o) hkd hja hcD hcF h2 hO;rw [eh];refine hc.mono ?_;rintro e w' ⟨rv, rfl, h⟩;have N := P.2 (H' := pH rw S) (B := pdA (some { s with D := Jce s.D })) (N := [_]) h;rw [Jh0 hI hk2, ← Jh1 (s' := { s with D := Jce s.D }) hx rfl] at N;exact ⟨_, rv, rfl, pfin (hI.setD (s' := { s with D := Jce s.D }) hx rfl) N⟩
     | some t =>
       have e1 : Jas sd bs o = (sd.set (kdOf o) (some (Jce s.D)), bs, { Jay with e := Jbx s.D }) := by
         unfold Jas; rw [if_neg h1, if_pos h2, hsx];show (_, (if Jbx s.D = 0 then _ else _), _) = _;rw [if_neg hO]
       rw [e1];have eh : ((sd.set (kdOf o) (some (Jce s.D)), bs, { Jay with e := Jbx s.D }).2.1[jaOf o]?.join).isSome = true := by show (bs[jaOf o]?.join).isSome = _; rw [hby]; rfl
       have P := M.focus1 (kdOf o) (pT_d hI hx);have hc := Jbi.2.2.2.2.2.2.2.2.2.2.2.2.1 P.1 o (kdOf o) (jaOf o) hkd hja t.f hcD hcF h2 hO;rw [eh];refine hc.mono ?_;rintro e w' ⟨rv, rfl, h⟩;have N := P.2 (H' := pH rw S) (B := pdA (some { s with D := Jce s.D })) (N := [_]) h;rw [Jh0 hI hk2, ← Jh1 (s' := { s with D := Jce s.D }) hx rfl] at N;exact ⟨_, rv, rfl, pfin (hI.setD (s' := { s with D := Jce s.D }) hx rfl) N⟩
 by_cases h3 : 3 ≤ o.k ∧ o.k ≤ 9
 ·cases y with
  | none =>
    have e1 : Jas sd bs o = (sd, bs, Jay) := by unfold Jas; rw [if_neg h1, if_neg h2, if_pos h3, hby]; rfl
    rw [e1];have P := M.focus0;refine (Jbi.2.2.2.2.2.2.2.2.2.1 P.1 o (kdOf o) (jaOf o) hkd hja (pdP x) _ hcD hcF h3).mono ?_;rintro e w' ⟨rv, rfl, h⟩;exact ⟨S, rv, rfl, pfin (hI.more (by omega)) (P.2 (H' := pH rw S) (N := [_]) h)⟩
  | some t =>
    obtain ⟨s, hs, hsr⟩ := hI.pt t (List.mem_of_getElem? hy);have hss : sd[t.d]? = some (some s.D) := by rw [← hI.dm, List.getElem?_map, hs]; rfl
    obtain ⟨D0, hD0, hFV⟩ := hA.fl t.V t.d (List.mem_of_getElem? hby);rw [hss] at hD0;obtain rfl : s.D = D0 := by simpa using hD0
    have hd2 : t.d < 2 := by rw [← hI.dl]; exact (List.getElem?_eq_some_iff.1 hs).1
    have e1 : Jas sd bs o = (sd.set t.d (some (fileOp s.D t.V o).1), bs.set (jaOf o) (some ((fileOp s.D t.V o).2.1, t.d)), (fileOp s.D t.V o).2.2) := by
      unfold Jas; rw [if_neg h1, if_neg h2, if_pos h3, hby];show (match sd[t.d]? with | some (some D) => _ | _ => _) = _;rw [hss]
    rw [e1];have hy2 : (pT S)[2 + jaOf o]? = some (blk t.f 113 (fC t.V s.p)) := by rw [pT_f hI hy]; show some (blk t.f _ (fC t.V t.r)) = _; rw [hsr]
    have P := M.focus2 t.d (2 + jaOf o) (by omega) (pT_d hI hs) hy2
    have ho2 : OpOk w (Jag (pH rw S ++ [pdA (some s), blk t.f 113 (fC t.V s.p)])) o := Jyp ho M (fun A hA => by
      simp only [List.mem_cons, List.not_mem_nil, or_false] at hA;rcases hA with rfl | rfl
      ·exact List.mem_of_getElem? (pT_d hI hs)
      ·exact List.mem_of_getElem? hy2)
    refine (Jbi.2.2.2.2.2.2.2.2.1 P.1 o (kdOf o) (jaOf o) hkd hja (pdP x) _ hcD hcF h3 ho2 hFV (by have := (hA.dk s.D (List.mem_of_getElem? hss)).2; omega) hI.ln).mono ?_;rintro e w' ⟨qv', rm', R', rv, rfl, h, hR'⟩;have N := P.2 (H' := pH rw { S with rm := rm', R := R' }) (B := pdA (some { s with D := (fileOp s.D t.V o).1, qv := qv' })) (B2 := blk t.f 113 (fC (fileOp s.D t.V o).2.1 s.p)) (N := [_]) h;rw [show blk t.f 113 (fC (fileOp s.D t.V o).2.1 s.p) = pfA (some { t with V := (fileOp s.D t.V o).2.1 }) from by show _ = blk t.f _ (fC _ t.r); rw [hsr]] at N;have hI0 : PInv ({ S with rm := rm', R := R' } : PW) sd bs n := ⟨hI.dl, hI.fl, hI.dm, hI.fm, hR', hI.pt⟩;have eT : pT S = pT { S with rm := rm', R := R' } := rfl;rw [eT] at N;have hI2 := hI0.setD (s' := { s with D := (fileOp s.D t.V o).1, qv := qv' }) hs rfl;have hI3 := hI2.setF (j := jaOf o) (t := { t with V := (fileOp s.D t.V o).2.1 }) ⟨_, List.getElem?_set_self (by rw [hI.dl]; exact hd2), hsr⟩;rw [Jh0 hI0 hd2, Jqm hI2] at N;have e5 := Jh1 (rw := rw) (S := ({ S with rm := rm', R := R' } : PW)) (s' := { s with D := (fileOp s.D t.V o).1, qv := qv' }) hs rfl;have e6 := Jyn (rw := rw) (S := { ({ S with rm := rm', R := R' } : PW) with ds := S.ds.set t.d (some { s with D := (fileOp s.D t.V o).1, qv := qv' }) }) (j := jaOf o) (t' := { t with V := (fileOp s.D t.V o).2.1 }) hy rfl;rw [← e5, ← e6] at N;exact ⟨_, rv, rfl, pfin hI3 N⟩
 by_cases h4 : 10 ≤ o.k ∧ o.k ≤ 21
 ·by_cases h5 : o.own = false ∧ o.k < 21
  ·cases y with
   | none =>
     have e1 : Jas sd bs o = (sd, bs, Jay) := by unfold Jas; rw [if_neg h1, if_neg h2, if_neg h3, if_pos h4, if_pos h5, hby]; rfl
     rw [e1];have P := M.focus0;refine (Jbi.2.2.2.2.2.1 P.1 o (kdOf o) (jaOf o) hkd hja (pdP x) _ hcD hcF ⟨h4.1, h5.2⟩ h5.1).mono ?_;rintro e w' ⟨rv, rfl, h⟩;exact ⟨S, rv, rfl, pfin (hI.more (by omega)) (P.2 (H' := pH rw S) (N := [_]) h)⟩
   | some t =>
     obtain ⟨s, hs, hsr⟩ := hI.pt t (List.mem_of_getElem? hy);have hss : sd[t.d]? = some (some s.D) := by rw [← hI.dm, List.getElem?_map, hs]; rfl
     obtain ⟨D0, hD0, hFV⟩ := hA.fl t.V t.d (List.mem_of_getElem? hby);rw [hss] at hD0;obtain rfl : s.D = D0 := by simpa using hD0
     have hd2 : t.d < 2 := by rw [← hI.dl]; exact (List.getElem?_eq_some_iff.1 hs).1
     have e1 : Jas sd bs o = (sd.set t.d (some (diskOp s.D o).1), bs, (diskOp s.D o).2) := by
       unfold Jas; rw [if_neg h1, if_neg h2, if_neg h3, if_pos h4, if_pos h5, hby];show onDisk sd bs t.d _ _ = _;unfold onDisk; rw [hss]
     rw [e1];have hy2 : (pT S)[2 + jaOf o]? = some (blk t.f 113 (fC t.V s.p)) := by rw [pT_f hI hy]; show some (blk t.f _ (fC t.V t.r)) = _; rw [hsr]
     have P := M.focus2 t.d (2 + jaOf o) (by omega) (pT_d hI hs) hy2
     have ho2 : OpOk w (Jag (pH rw S ++ [pdA (some s), blk t.f 113 (fC t.V s.p)])) o := Jyp ho M (fun A hA => by
       simp only [List.mem_cons, List.not_mem_nil, or_false] at hA;rcases hA with rfl | rfl
       ·exact List.mem_of_getElem? (pT_d hI hs)
       ·exact List.mem_of_getElem? hy2)
     refine (Jbi.2.2.2.2.1 P.1 o (kdOf o) (jaOf o) hkd hja (pdP x) _ hcD hcF ⟨h4.1, h5.2⟩ h5.1 ho2 (by have := (hA.dk s.D (List.mem_of_getElem? hss)).2; omega)).mono ?_;rintro e w' ⟨qv', rv, rfl, h⟩;have N := P.2 (H' := pH rw S) (B := pdA (some { s with D := (diskOp s.D o).1, qv := qv' })) (B2 := blk t.f 113 (fC t.V s.p)) (N := [_]) h;rw [show blk t.f 113 (fC t.V s.p) = pfA (some t) from by show _ = blk t.f _ (fC _ t.r); rw [hsr]] at N;have hI2 := hI.setD (s' := { s with D := (diskOp s.D o).1, qv := qv' }) hs rfl;rw [Jh0 hI hd2, Jqm hI2, ← Jh1 (s' := { s with D := (diskOp s.D o).1, qv := qv' }) hs rfl] at N
     have e7 : S.fs.set (jaOf o) (some t) = S.fs := by
       obtain ⟨q1, q2⟩ := List.getElem?_eq_some_iff.1 hy;rw [← q2]; exact List.set_getElem_self q1
     simp only [e7] at N;exact ⟨_, rv, rfl, pfin hI2 N⟩
  ·cases x with
   | none =>
     cases ho9 : o.own with
     | true =>
       have e1 : Jas sd bs o = (sd, bs, Jay) := by unfold Jas onDisk; rw [if_neg h1, if_neg h2, if_neg h3, if_pos h4, if_neg h5, hsx]; rfl
       rw [e1];have P := M.focus0;refine (Jbi.2.2.2.2.2.2.2.1 P.1 o (kdOf o) (jaOf o) hkd hja (pfP y) _ hcD hcF h4 ho9).mono ?_;rintro e w' ⟨rv, rfl, h⟩;exact ⟨S, rv, rfl, pfin (hI.more (by omega)) (P.2 (H' := pH rw S) (N := [_]) h)⟩
     | false =>
       have hk21 : o.k = 21 := Decidable.byContradiction fun hne => h5 ⟨ho9, by omega⟩;have e1 : Jas sd bs o = (sd, bs, Jay) := by unfold Jas onDisk; rw [if_neg h1, if_neg h2, if_neg h3, if_pos h4, if_neg h5, hsx]; rfl
       rw [e1];have P := M.focus0;refine (Jbi.2.2.2.1 P.1 o (kdOf o) (jaOf o) hkd hja (pfP y) _ hcD hcF hk21 ho9).mono ?_;rintro e w' ⟨rv, rfl, h⟩;exact ⟨S, rv, rfl, pfin (hI.more (by omega)) (P.2 (H' := pH rw S) (N := [_]) h)⟩
   | some s =>
     have ho2 : OpOk w (Jag (pH rw S ++ [pdA (some s)])) o := Jyp ho M (fun A hA => by
       simp only [List.mem_cons, List.not_mem_nil, or_false] at hA;rw [hA];exact List.mem_of_getElem? (pT_d hI hx))
     cases ho9 : o.own with
     | true =>
       have e1 : Jas sd bs o = (sd.set (kdOf o) (some (diskOp s.D o).1), bs, (diskOp s.D o).2) := by
         unfold Jas onDisk; rw [if_neg h1, if_neg h2, if_neg h3, if_pos h4, if_neg h5, hsx]; rfl
       rw [e1];have P := M.focus1 (kdOf o) (pT_d hI hx);refine (Jbi.2.2.2.2.2.2.1 P.1 o (kdOf o) (jaOf o) hkd hja (pfP y) _ hcD hcF h4 ho9 ho2 (by have := (hA.dk s.D (List.mem_of_getElem? hsx)).2; omega)).mono ?_;rintro e w' ⟨qv', rv, rfl, h⟩;have N := P.2 (H' := pH rw S) (B := pdA (some { s with D := (diskOp s.D o).1, qv := qv' })) (N := [_]) h;rw [Jh0 hI hk2, ← Jh1 (s' := { s with D := (diskOp s.D o).1, qv := qv' }) hx rfl] at N;exact ⟨_, rv, rfl, pfin (hI.setD (s' := { s with D := (diskOp s.D o).1, qv := qv' }) hx rfl) N⟩
     | false =>
       have hk21 : o.k = 21 := Decidable.byContradiction fun hne => h5 ⟨ho9, by omega⟩
       have e1 : Jas sd bs o = (sd.set (kdOf o) (some (diskOp s.D o).1), bs, (diskOp s.D o).2) := by
         unfold Jas onDisk; rw [if_neg h1, if_neg h2, if_neg h3, if_pos h4, if_neg h5, hsx]; rfl
       rw [e1];have P := M.focus1 (kdOf o) (pT_d hI hx);refine (Jbi.2.2.1 P.1 o (kdOf o) (jaOf o) hkd hja (pfP y) _ hcD hcF hk21 ho9 ho2 (by have := (hA.dk s.D (List.mem_of_getElem? hsx)).2; omega)).mono ?_;rintro e w' ⟨qv', rv, rfl, h⟩;have N := P.2 (H' := pH rw S) (B := pdA (some { s with D := (diskOp s.D o).1, qv := qv' })) (N := [_]) h;rw [Jh0 hI hk2, ← Jh1 (s' := { s with D := (diskOp s.D o).1, qv := qv' }) hx rfl] at N;exact ⟨_, rv, rfl, pfin (hI.setD (s' := { s with D := (diskOp s.D o).1, qv := qv' }) hx rfl) N⟩
 have e0 : Jas sd bs o = (sd, bs, Jay) := by unfold Jas; rw [if_neg h1, if_neg h2, if_neg h3, if_neg h4]
 rcases Int.lt_or_le o.k 1 with h6 | h6
 ·
   have e1 : Jas sd bs o = (sd, bs, Jay) := by exact e0
   rw [e1];have P := M.focus0;refine (Jbi.1 P.1 o (kdOf o) (jaOf o) hkd hja (pdP x) (pfP y) _ hcD hcF h6).mono ?_;rintro e w' ⟨rv, rfl, h⟩;exact ⟨S, rv, rfl, pfin (hI.more (by omega)) (P.2 (H' := pH rw S) (N := [_]) h)⟩
 ·
   have e1 : Jas sd bs o = (sd, bs, Jay) := by exact e0
   rw [e1];have P := M.focus0;refine (Jbi.2.1 P.1 o (kdOf o) (jaOf o) hkd hja (pdP x) (pfP y) _ hcD hcF (by omega)).mono ?_;rintro e w' ⟨rv, rfl, h⟩;exact ⟨S, rv, rfl, pfin (hI.more (by omega)) (P.2 (H' := pH rw S) (N := [_]) h)⟩
end
structure StV where
  n : Int
  ao : Option Addr
  rn : Nat
  rc : Nat
  l : List UInt8
def stC (s : StV) : List Value := [.int .i64 s.n, .slice s.ao s.rn s.rc]
structure StOk (w : World) (s : StV) : Prop where
  row : Row w s.ao s.rn s.l
  nil : s.ao = none → s.rn = 0 ∧ s.rc = 0
  len : s.rn ≤ 1099511627776
theorem Jlv {a b : Value} : Box ((Tryz.prog.info? 24).map (·.size) = some [a, b].length) := Jcn (n := 2) _ rfl (by kernel_rfl)
theorem StOk.in {w0 w : World} {L : List Asn} {s : StV} (h : StOk w0 s) (M : Mem w0 [] w L) : StOk w s := ⟨M.row h.row (fun _ _ _ _ => List.not_mem_nil), h.nil, h.len⟩
def Jkp (l : List UInt8) : Option DV := if l.length % 256 ≠ 0 then none else if 3 ≤ l.length / 256 ∧ l.length / 256 ≤ 4096 then some (Jkl l) else none
def newS (n : Int) : Option DV := if 3 ≤ n ∧ n ≤ 4096 then some (newD n.toNat) else none
def mkS (s : StV) : Option DV := if 0 < s.l.length then Jkp s.l else newS s.n
theorem Jzs {e : TypeId} {k n c : Nat} {ao : Option Addr} {xs : List Value} {w : World} (hl : (lst e k (.slice ao n c) n xs).holds w) : n ≤ c := by
 obtain ⟨h1, ⟨h2, h3⟩ | ⟨g, cap, cur, h2, h3, h4, h5, h6, h7, h8⟩⟩ := hl
 ·cases h2; omega
 ·cases h2; omega
theorem Mem.rd0 {w0 w : World} {F : List Nat} (h : Mem w0 F w []) : Mem w0 F w [rdA none] := Mem.close (X := []) trivial h
theorem Mem.pd0 {w0 w : World} {F : List Nat} (h : Mem w0 F w []) : Mem w0 F w [pdA none] := Mem.close (X := []) trivial h
theorem Jw3 (s : StV) {w : World} (h : StOk w s) : Calls Tryz.prog 31 #[.slice s.ao s.rn s.rc] w fun e w' => ∃ x en, e = .returned (.tuple #[rdP x, .int .i64 en]) ∧ Mem w [] w' [rdA x] ∧ x.map RDs.D = Jkp s.l ∧ ∀ t, x = some t → t.X.log.length = 0 := by
 refine (Jud s.ao s.rn s.rc s.l h.row h.nil h.len).mono ?_;rintro e w' (⟨h1, rfl, m⟩ | ⟨h1, h2, rfl, m⟩ | ⟨h1, h2, h3, r, X, rfl, m, hX⟩)
 ·exact ⟨none, _, rfl, m.rd0, by unfold Jkp; rw [if_pos h1]; rfl, fun t e => by cases e⟩
 ·exact ⟨none, _, rfl, m.rd0, by unfold Jkp; rw [if_neg (by omega), if_neg h2]; rfl, fun t e => by cases e⟩
 ·exact ⟨some ⟨_, r, X⟩, _, rfl, m, by unfold Jkp; rw [if_neg (by omega), if_pos ⟨h2, h3⟩]; rfl, fun t e => by cases e; exact hX⟩
theorem Jyt (n : Int) (w : World) : Calls Tryz.prog 32 #[.int .i64 n] w fun e w' => ∃ x en, e = .returned (.tuple #[rdP x, .int .i64 en]) ∧ Mem w [] w' [rdA x] ∧ x.map RDs.D = newS n ∧ ∀ t, x = some t → t.X.log.length = 0 := by
 refine (Jwj n w).mono ?_;rintro e w' (⟨h1, rfl, m⟩ | ⟨h1, r, X, rfl, m, hX⟩)
 ·exact ⟨none, _, rfl, m.rd0, by unfold newS; rw [if_neg h1]; rfl, fun t e => by cases e⟩
 ·exact ⟨some ⟨_, r, X⟩, _, rfl, m, by unfold newS; rw [if_pos h1]; rfl, fun t e => by cases e; exact hX⟩
theorem Jw4 (ao : Option Addr) (n c : Nat) (l : List UInt8) (w : World) (hr : Row w ao n l) (hn : n ≤ 140737488355328) (hc : n ≤ c) : Calls Tryz.prog 33 #[.slice ao n c] w fun e w' => ∃ x en, e = .returned (.tuple #[pdP x, .int .i64 en]) ∧ Mem w [] w' [pdA x] ∧ x.map PDs.D = Jkp l := by
 refine (Jvo ao n c l w hr hn hc).mono ?_;rintro e w' (⟨h1, rfl, m⟩ | ⟨h1, h2, rfl, m⟩ | ⟨h1, h2, h3, p, pg, mb, rfl, m⟩)
 ·exact ⟨none, _, rfl, m.pd0, by unfold Jkp; rw [if_pos h1]; rfl⟩
 ·exact ⟨none, _, rfl, m.pd0, by unfold Jkp; rw [if_neg (by omega), if_neg h2]; rfl⟩
 ·exact ⟨some ⟨_, p, pg, mb, _⟩, _, rfl, m, by unfold Jkp; rw [if_neg (by omega), if_pos ⟨h2, h3⟩]; rfl⟩
theorem Jyu (n : Int) (w : World) : Calls Tryz.prog 35 #[.int .i64 n] w fun e w' => ∃ x en, e = .returned (.tuple #[pdP x, .int .i64 en]) ∧ Mem w [] w' [pdA x] ∧ x.map PDs.D = newS n := by
 refine (Jtg n w).mono ?_;rintro e w' (⟨h1, rfl, m⟩ | ⟨h1, h2, p, pg, mb, rfl, m⟩)
 ·exact ⟨none, _, rfl, m.pd0, by unfold newS; rw [if_neg h1]; rfl⟩
 ·exact ⟨some ⟨_, p, pg, mb, _⟩, _, rfl, m, by unfold newS; rw [if_pos ⟨h1, h2⟩]; rfl⟩
theorem Jo9 (s : StV) (w : World) (hs : StOk w s) : zC 18 [.agg ((stC s)).toArray] w fun e w' => ∃ x, e = .returned (rdP x) ∧ Mem w [] w' [rdA x] ∧ x.map RDs.D = mkS s ∧ ∀ t, x = some t → t.X.log.length = 0 := by
 have M := Mem.nil w;go_enter Tryz.func18, Tryz.ntmps18;refine zk fun _ hK1 => zr ?_;refine zbx M (stC s) rfl ?_;intro gs w2 (M2 : Mem w [] w2 [blk gs 24 (stC s)]);clear M;simp only[Za,Zb,Zc];refine zp 1 rfl (zw (hK1 _ _ (zk fun _ hK3 => zk fun _ hK4 => zr (zfl M2 1 zu24 rfl zz22 0 rfl zg22 (zo M2 (Jbp rfl rfl rfl zu22) ?_)))));simp only[Za,Zb,Zc];rcases zem ((0 : Int) < (s.rn : Int)) with h5 | h5
 ·refine zo M2 (zgtr rfl (zT h5)) (zw (hK4 _ _ (zct rfl (zk fun _ hK6 => zr (zfl M2 1 zu24 rfl zz22 0 rfl zg22 ?_)))));simp only[Za,Zb,Zc];refine zca 31 _ rfl Tryz.call31 (Jw3 s (hs.in M2)) ?_;rintro e w7 ⟨x, en, rfl, H7, hx⟩;have M7 : Mem w [] w7 [rdA x, blk gs 24 (stC s)] := M2.step H7;refine ⟨_, rfl, ?_⟩;simp only[Za,Zb,Zc];refine zp 5 rfl (zw (hK6 _ _ (zk fun _ hK8 => zr (zp 2 rfl ?_))));simp only[Za,Zb,Zc];refine zw (hK8 _ _ (zrt ?_));(try simp only[zi,zj]);refine zR (v := (rdP x)) (res1 rfl rfl) rfl ?_;have hl := hs.row.1;have e1 : mkS s = Jkp s.l := by unfold mkS; rw [if_pos (by omega)]
  rw [e1];exact ⟨x, rfl, M7.arr [0] (by decide), hx⟩
 ·refine zo M2 (zgtr rfl (zF h5)) ?_;simp only[Za,Zb,Zc];refine zw (hK4 _ _ (zcf rfl (zsk (hK3 _ _ (zk fun _ hK9 => ?_)))));refine zr ?_;refine zfl M2 0 zu24 rfl zz3 0 rfl zg3 ?_;simp only[Za,Zb,Zc];refine zca 32 _ rfl Tryz.call32 (Jyt s.n _) ?_;rintro e w10 ⟨x, en, rfl, H10, hx⟩;have M10 : Mem w [] w10 [rdA x, blk gs 24 (stC s)] := M2.step H10;refine ⟨_, rfl, ?_⟩;simp only[Za,Zb,Zc];refine zp 5 rfl (zw (hK9 _ _ (zk fun _ hK11 => zr (zp 2 rfl ?_))));simp only[Za,Zb,Zc];refine zw (hK11 _ _ (zrt ?_));(try simp only[zi,zj]);refine zR (v := (rdP x)) (res1 rfl rfl) rfl ?_;have hl := hs.row.1;have e1 : mkS s = newS s.n := by unfold mkS; rw [if_neg (by omega)]
  rw [e1];exact ⟨x, rfl, M10.arr [0] (by decide), hx⟩
theorem Jpa (s : StV) (w : World) (hs : StOk w s) : zC 19 [.agg ((stC s)).toArray] w fun e w' => ∃ x, e = .returned (pdP x) ∧ Mem w [] w' [pdA x] ∧ x.map PDs.D = mkS s := by
 have M := Mem.nil w;go_enter Tryz.func19, Tryz.ntmps19;refine zk fun _ hK1 => zr ?_;refine zbx M (stC s) rfl ?_;intro gs w2 (M2 : Mem w [] w2 [blk gs 24 (stC s)]);clear M;simp only[Za,Zb,Zc];refine zp 1 rfl (zw (hK1 _ _ (zk fun _ hK3 => zk fun _ hK4 => zr (zfl M2 1 zu24 rfl zz22 0 rfl zg22 (zo M2 (Jbp rfl rfl rfl zu22) ?_)))));simp only[Za,Zb,Zc];rcases zem ((0 : Int) < (s.rn : Int)) with h5 | h5
 ·refine zo M2 (zgtr rfl (zT h5)) (zw (hK4 _ _ (zct rfl (zk fun _ hK6 => zr (zfl M2 1 zu24 rfl zz22 0 rfl zg22 ?_)))));simp only[Za,Zb,Zc];refine zca 34 _ rfl zc34 (Jhx s.ao s.rn s.rc s.l _ (hs.in M2).row (by have := hs.len; omega)) ?_;rintro e w7 ⟨za, zc, rfl, H7⟩;have M7 := M2.step H7;simp only[Y1,Y2]at M7;refine ⟨_, rfl, ?_⟩;simp only[Za,Zb,Zc];refine zca 33 _ rfl Tryz.call33 (Jw4 za s.l.length zc s.l _ (Ja2 (M7.get 0 rfl)) (by have := hs.len; have := hs.row.1; omega) (Jzs (M7.get 0 rfl))) ?_;rintro e w8 ⟨x, en, rfl, H8, hx⟩;have M8 := M7.step H8;simp only[Y1,Y2]at M8;refine ⟨_, rfl, ?_⟩;simp only[Za,Zb,Zc];refine zp 5 rfl (zw (hK6 _ _ (zk fun _ hK9 => zr (zp 2 rfl ?_))));simp only[Za,Zb,Zc];refine zw (hK9 _ _ (zrt ?_));(try simp only[zi,zj]);refine zR (v := (pdP x)) (res1 rfl rfl) rfl ?_;have hl := hs.row.1;have e1 : mkS s = Jkp s.l := by unfold mkS; rw [if_pos (by omega)]
  rw [e1];exact ⟨x, rfl, M8.arr [0] (by decide), hx⟩
 ·refine zo M2 (zgtr rfl (zF h5)) ?_;simp only[Za,Zb,Zc];refine zw (hK4 _ _ (zcf rfl (zsk (hK3 _ _ (zk fun _ hK10 => ?_)))));refine zr ?_;refine zfl M2 0 zu24 rfl zz3 0 rfl zg3 ?_;simp only[Za,Zb,Zc];refine zca 35 _ rfl Tryz.call35 (Jyu s.n _) ?_;rintro e w11 ⟨x, en, rfl, H11, hx⟩;have M11 : Mem w [] w11 [pdA x, blk gs 24 (stC s)] := M2.step H11;refine ⟨_, rfl, ?_⟩;simp only[Za,Zb,Zc];refine zp 5 rfl (zw (hK10 _ _ (zk fun _ hK12 => zr (zp 2 rfl ?_))));simp only[Za,Zb,Zc];refine zw (hK12 _ _ (zrt ?_));(try simp only[zi,zj]);refine zR (v := (pdP x)) (res1 rfl rfl) rfl ?_;have hl := hs.row.1;have e1 : mkS s = newS s.n := by unfold mkS; rw [if_neg (by omega)]
  rw [e1];exact ⟨x, rfl, M11.arr [0] (by decide), hx⟩
section
variable {gT0 : TypeId}
def scC (a b : StV) (oo : Option Addr) (on oc : Nat) : List Value := [.int .i64 a.n, .slice a.ao a.rn a.rc, .int .i64 b.n, .slice b.ao b.rn b.rc, .slice oo on oc]
theorem Jlw {a b c d e : Value} : Box ((Tryz.prog.info? 27).map (·.size) = some [a, b, c, d, e].length) := Jcn (n := 5) _ rfl (by kernel_rfl)
theorem StOk.on {w0 w : World} {F : List Nat} {L : List Asn} {s : StV} (h : StOk w0 s) (ho : ∀ b x, s.ao = some ⟨b, x, none⟩ → 0 < s.rn → b ∉ F) (M : Mem w0 F w L) : StOk w s := ⟨M.row h.row ho, h.nil, h.len⟩
theorem StOk.onz {w0 w : World} {F : List Nat} {L : List Asn} {T : TypeId} {s : StV} (h : StOk w0 s) (hz : OffZ F s.ao s.rn s.l) (M : Mem w0 F w L) (hg : (blk 0 T (bvs Jaa)).holds w) : StOk w s := ⟨M.rowg h.row hz hg, h.nil, h.len⟩
theorem StOk.offz {w0 w : World} {F : List Nat} {L R : List Asn} {s : StV} (h : StOk w0 s) (hz : OffZ F s.ao s.rn s.l) (M : Mem w0 F w (L ++ R)) : OffZ (Jag L) s.ao s.rn s.l := fun b x e hn hb => by
  rcases M.new b (Jfb (fun A hA => List.mem_append_left _ hA) b hb) with h1 | h1
  · exact hz b x e hn h1
  · have := h.row.blk_lt2 hn b x e; omega
theorem rpDT : Jgc Tryz.prog 48 54 1 8 := Jd8 (by kernel_rfl)
theorem rpFT : Jgc Tryz.prog 49 47 1 8 := Jd8 (by kernel_rfl)
theorem ppDT : Jgc Tryz.prog 56 60 1 8 := Jd8 (by kernel_rfl)
theorem ppFT : Jgc Tryz.prog 57 69 1 8 := Jd8 (by kernel_rfl)
theorem Ju3 (x : Option RDs) : (rdP x).oneCell' = true := by cases x <;> rfl
theorem Jh2 (x : Option PDs) : (pdP x).oneCell' = true := by cases x <;> rfl
theorem Ju4 {u a b : Value} (ha : a.oneCell' = true) (hb : b.oneCell' = true) (hu : u ∈ [a, b]) : u.oneCell' = true := by
 cases hu with
 | head => exact ha
 | tail _ h => cases h with
   | head => exact hb;| tail _ h => cases h
theorem Ju5 {u : Value} (hu : u ∈ [Value.pointer none, Value.pointer none, Value.pointer none]) : u.oneCell' = true := by
 cases hu with
 | head => rfl
 | tail _ h => cases h with
   | head => rfl
   | tail _ h => cases h with
     | head => rfl;| tail _ h => cases h
theorem Jeo {w0 w : World} {F : List Nat} {R : List Asn} {e : TypeId} {k n c : Nat} {ao : Option Addr} {xs : List Value} (h : Mem w0 F w (lst e k (.slice ao n c) n xs :: R)) (hn : 0 < n) : ∃ g, ao = some ⟨g, 0, none⟩ := by
 have h0 : (lst e k (.slice ao n c) n xs).holds w := h.all _ (List.mem_cons_self ..);obtain ⟨hl, ⟨h1, _⟩ | ⟨g', cap, cur, hv, hb, hg, hc, hm, hs, ht⟩⟩ := h0
 ·cases h1; omega
 ·cases hv; exact ⟨_, rfl⟩
theorem Mem.stars {w0 w : World} {F : List Nat} {L : List Asn} (h : Mem w0 F w L) : Mem w0 F w (L ++ [star True [], star True [], star True []]) := by
 have h1 : Mem w0 F w ([] ++ L) := h;have h2 := Mem.close (X := []) trivial h1;have h3 := Mem.close (X := []) trivial (show Mem w0 F w ([] ++ _) from h2);have h4 := Mem.close (X := []) trivial (show Mem w0 F w ([] ++ _) from h3);exact h4.perm (List.perm_append_comm (l₁ := [star True [], star True [], star True []]) (l₂ := L))
theorem Jm1 (a b : StV) (oo : Option Addr) (on oc : Nat) {w : World} (hM : zM w [blk 0 gT0 (bvs Jaa)]) (ha : StOk w a) (hb : StOk w b) (hao : OffZ (Jag [blk 0 gT0 (bvs Jaa)]) a.ao a.rn a.l) (hbo : OffZ (Jag [blk 0 gT0 (bvs Jaa)]) b.ao b.rn b.l) : zC 12 [.agg ((scC a b oo on oc)).toArray] w fun e w' => ∃ rw S, e = .returned (zP rw 0) ∧ zD w [blk 0 gT0 (bvs Jaa)] w' [Jcy gT0 rw S [mkS a, mkS b] [none, none, none] 0] := by
 have M := hM;clear hM;go_enter Tryz.func12, Tryz.ntmps12;refine zk fun _ hK1 => zr ?_;refine zbx M (scC a b oo on oc) rfl fun gsc w2 M2 => ?_;clear M;simp only[Za,Zb,Zc];refine zp 1 rfl (zw (hK1 _ _ (zk fun _ hK3 => zr (zo M2 (Jaf (ps := []) (pv := []) (cs := [zN, zN]) rfl rfl rfl (by kernel_rfl)) ?_))));simp only[Za,Zb,Zc];refine zbx M2 ([zN, zN]) rfl fun rw w4 M4 => ?_;simp only[Za,Zb,Zc];refine zp 1 rfl (zw (hK3 _ _ (zk fun _ hK5 => zr (zo M4 (zf 0 zu27 rfl zz24) (zo M4 (Jdo (cs := (stC a)) rfl rfl rfl zu24 rfl Jlv (fun W hW => hW.get 1 rfl) (rfl)) ?_)))));simp only[Za,Zb,Zc];refine zca 18 _ rfl Tryz.call18 (Jo9 a _ (ha.onz hao M4 (M4.all (blk 0 gT0 (bvs Jaa)) (by simp)))) ?_;rintro e w6 ⟨x, rfl, H6, hx⟩;have M6 := M4.step H6;simp only[Y1,Y2]at M6;refine ⟨_, rfl, ?_⟩;simp only[Za,Zb,Zc];refine zp 1 rfl (zw (hK5 _ _ (zk fun _ hK7 => zr (zo M6 (zf 2 zu27 rfl zz24) (zo M6 (Jdo (cs := (stC b)) rfl rfl rfl zu24 rfl Jlv (fun W hW => hW.get 2 rfl) (rfl)) ?_)))));simp only[Za,Zb,Zc];refine zca 18 _ rfl Tryz.call18 (Jo9 b _ (hb.onz hbo M6 (M6.all (blk 0 gT0 (bvs Jaa)) (by simp)))) ?_;rintro e w8 ⟨y, rfl, H8, hy⟩;have M8 := M6.step H8;simp only[Y1,Y2]at M8;refine ⟨_, rfl, ?_⟩;simp only[Za,Zb,Zc];refine zp 1 rfl (zw (hK7 _ _ (zk fun _ hK9 => zr (zp 3 rfl (zfl M8 0 zu51 rfl zz48 2 rfl zg48 (zp 2 rfl ?_))))));simp only[Za,Zb,Zc];refine pe rfl fun K hK => Ja8 M8 ([(rdP x), (rdP y)]) (pv := [(0, (rdP x)), (1, (rdP y))]) rfl rfl zu48 zz54 Tryz.zeroValue54 (by decide) (by cases x <;> cases y <;> kernel_rfl) ?_;intro g10 w11 M11;refine hK.out _ _ ?_;simp only[Ze,Zb,Zc,Zd];have M12 := M11.nilst 54 1;refine pe rfl fun K hK => Ja5 M12 0 rpDT (by decide) (news := [rdP x, rdP y]) rfl rfl rfl rfl (rfl) (by intro h; cases h) (fun ad e j u hj => by cases e; match j with | 0 => cases hj; exact Jaj (M12.get 1 rfl) rfl | 1 => cases hj; exact Jaj (M12.get 1 rfl) rfl | j + 2 => cases hj) (fun u hu => Ju4 (Ju3 x) (Ju3 y) hu) (⟨by unfold maxLen; omega, by omega⟩) ?_;intro v13 w13 (M13 : Mem w _ w13 [lst 54 1 v13 2 ([rdP x, rdP y]), blk g10 54 ([(rdP x), (rdP y)]), rdA y, rdA x, blk rw 51 ([zN, zN]), blk gsc 27 (scC a b oo on oc), blk 0 gT0 (bvs Jaa)]);obtain ⟨a13, c13, rfl⟩ := Jcj (M13.get 0 rfl);refine hK.out _ _ ?_;simp only[Ze,Zb,Zc,Zd];refine zp 1 rfl (zo M13 (zf 0 zu51 rfl zz48) ?_);simp only[Za,Zb,Zc];refine zso M13 4 (v := .slice a13 2 c13) rfl rfl zz48 (show (0 : Nat) < 2 by decide) ?_;intro w14 (M14 : Mem w _ w14 [lst 54 1 (.slice a13 2 c13) 2 ([rdP x, rdP y]), blk g10 54 ([(rdP x), (rdP y)]), rdA y, rdA x, blk rw 51 ([.slice a13 2 c13, zN]), blk gsc 27 (scC a b oo on oc), blk 0 gT0 (bvs Jaa)]);simp only[Zv];refine zw (hK9 _ _ (zk fun _ hK15 => zr ?_));refine zp 3 rfl (zfl M14 1 zu51 rfl zz49 4 rfl zg49 ?_);simp only[Za,Zb,Zc];refine pe rfl fun K hK => Ja8 M14 ([.pointer none, .pointer none, .pointer none]) (pv := [(0, .pointer none), (1, .pointer none), (2, .pointer none)]) rfl rfl zu49 zz47 Tryz.zeroValue47 (by decide) (by kernel_rfl) ?_;intro g16 w17 M17;refine hK.out _ _ ?_;simp only[Ze,Zb,Zc,Zd];have M18 := M17.nilst 47 1;refine pe rfl fun K hK => Ja5 M18 0 rpFT (by decide) (news := [Value.pointer none, Value.pointer none, Value.pointer none]) rfl rfl rfl rfl (rfl) (by intro h; cases h) (fun ad e j u hj => by cases e; match j with | 0 => cases hj; exact Jaj (M18.get 1 rfl) rfl | 1 => cases hj; exact Jaj (M18.get 1 rfl) rfl | 2 => cases hj; exact Jaj (M18.get 1 rfl) rfl | j + 3 => cases hj) (fun u hu => Ju5 hu) (⟨by unfold maxLen; omega, by omega⟩) ?_;intro v19 w19 (M19 : Mem w _ w19 [lst 47 1 v19 3 ([Value.pointer none, Value.pointer none, Value.pointer none]), blk g16 47 ([.pointer none, .pointer none, .pointer none]), lst 54 1 (.slice a13 2 c13) 2 ([rdP x, rdP y]), blk g10 54 ([(rdP x), (rdP y)]), rdA y, rdA x, blk rw 51 ([.slice a13 2 c13, zN]), blk gsc 27 (scC a b oo on oc), blk 0 gT0 (bvs Jaa)]);obtain ⟨a19, c19, rfl⟩ := Jcj (M19.get 0 rfl);refine hK.out _ _ ?_;simp only[Ze,Zb,Zc,Zd];refine zp 1 rfl (zo M19 (zf 1 zu51 rfl zz49) ?_);simp only[Za,Zb,Zc];refine zso M19 6 (v := .slice a19 3 c19) rfl rfl zz49 (show (1 : Nat) < 2 by decide) ?_;intro w20 (M20 : Mem w _ w20 [lst 47 1 (.slice a19 3 c19) 3 ([Value.pointer none, Value.pointer none, Value.pointer none]), blk g16 47 ([.pointer none, .pointer none, .pointer none]), lst 54 1 (.slice a13 2 c13) 2 ([rdP x, rdP y]), blk g10 54 ([(rdP x), (rdP y)]), rdA y, rdA x, blk rw 51 ([.slice a13 2 c13, .slice a19 3 c19]), blk gsc 27 (scC a b oo on oc), blk 0 gT0 (bvs Jaa)]);simp only[Zv];refine zw (hK15 _ _ (zk fun _ hK21 => zr ?_));refine zp 2 rfl ?_;simp only[Za,Zb,Zc];refine zw (hK21 _ _ (zrt ?_));(try simp only[zi,zj]);refine zR (v := zP rw 0) (res1 rfl rfl) rfl ?_;have N := M20.arr [2, 0, 8, 6, 5, 4] (by decide);obtain ⟨bd, rfl⟩ := Jeo N (by decide);obtain ⟨rest, q1, q2, q3, q4, N⟩ := Mem.lstblk N;have N := N.arr [1, 0, 2, 3, 4, 5] (by decide);obtain ⟨bf, rfl⟩ := Jeo N (by decide);obtain ⟨rest2, q5, q6, q7, q8, N⟩ := Mem.lstblk N;have N := N.arr [2, 3, 1, 0, 4, 5] (by decide);have N : Mem w _ _ (rH gT0 rw ⟨bd, bf, c13, c19, rest, rest2, [x, y], [none, none, none]⟩ ++ [rdA x, rdA y]) := N
 have hI : RInv ⟨bd, bf, c13, c19, rest, rest2, [x, y], [none, none, none]⟩ [mkS a, mkS b] [none, none, none] 0 := by
   refine ⟨rfl, rfl, by show [x.map RDs.D, y.map RDs.D] = _; rw [hx.1, hy.1], rfl, fun t ht => ?_, fun t ht => by rcases List.mem_cons.1 ht with h | ht; cases h; rcases List.mem_cons.1 ht with h | ht; cases h; rcases List.mem_cons.1 ht with h | ht; cases h; cases ht⟩;rcases List.mem_cons.1 ht with h | ht
   ·exact Nat.le_of_eq (hx.2 t h.symm)
   ·rcases List.mem_cons.1 ht with h | ht
    ·exact Nat.le_of_eq (hy.2 t h.symm)
    ·cases ht
 refine ⟨rw, _, rfl, Mem.close (X := rH gT0 rw _ ++ rT _) hI ?_⟩;have e9 : rT (⟨bd, bf, c13, c19, rest, rest2, [x, y], [none, none, none]⟩ : RW) = [rdA x, rdA y] ++ [rfA none, rfA none, rfA none] := rfl;rw [e9, ← List.append_assoc, List.append_nil];exact N.stars
end
end Go.Proofs.YtodhlfinbbajfaaGreatDoor
