/- Texts joined: Page4, Page5, Disk10, File1. -/
import Derived.Test.YtmmkgkbjneebkaaSF05
import Derived.Test.YtmmkgkbjneebkaaSF13
import Derived.Laws.IdiomStrings
import Derived.Test.YtmmkgkbjneebkaaSF12
/- Superblocks as bytes: UnpackSuper. -/
namespace Go.Proofs.Ytmmkgkbjneebkaa
set_option linter.unusedSectionVars false
open Go Go.RowKit
set_option maxRecDepth 100000
set_option maxHeartbeats 40000000
set_option linter.unusedVariables false
set_option linter.unusedSimpArgs false
theorem zero_sup : ∀ w : World, (zeroValue 40).run Try.prog w = .ok (.agg (supC noSup).toArray) w := fun w => by kernel_rfl
theorem zero_sec : ∀ w : World, (zeroValue 184).run Try.prog w = .ok (.agg (bvs (zerosB 64)).toArray) w := fun w => by kernel_rfl
theorem size_sec (l : List UInt8) (h : l.length = 64) : Box ((Try.prog.info? 184).map (·.size) = some (bvs l).length) := size_of_len (n := 64) _ (by rw [length_bvs, h]) (by kernel_rfl)
theorem bvs_at {l : List UInt8} {i : Nat} (h : i < l.length) : (bvs l)[i]? = some (.int .u8 ((l.getD i 0).toNat : Int)) := by
  rw [bvs_getElem?, List.getElem?_eq_getElem h, List.getD_eq_getElem?_getD, List.getElem?_eq_getElem h]; rfl
theorem sec_row {g : Nat} {T : TypeId} {t : List UInt8} (ht : t.length = 64) {w : World} (h : (blk g T (bvs t)).holds w) : Row w (some ⟨g, 0, none⟩) 64 t := by
  have := blk_row h
  rwa [ht] at this
theorem sec_part {g : Nat} {T : TypeId} {t : List UInt8} (ht : t.length = 64) {w : World} (h : (blk g T (bvs t)).holds w) (o n : Nat) (hn : o + n ≤ 64) : Row w (some ⟨g, o, none⟩) n ((t.drop o).take n) := by
  have := ((sec_row ht h).drop o (by omega)).take n (by omega)
  rwa [Nat.zero_add] at this
theorem sec_text {g : Nat} {T : TypeId} {t : List UInt8} (ht : t.length = 64) {w : World} (h : (blk g T (bvs t)).holds w) : (convert 44 9 (.slice (some ⟨g, 0, none⟩) 4 64)).run Try.prog w = .ok (.string ⟨(t.take 4).toArray⟩) w := by
  have h4 : (t.take 4).length = 4 := by rw [List.length_take, ht]; rfl
  have := run_convert_bytes_back (P := Try.prog) w 44 9 5 ⟨g, 0, none⟩ 64 (t.take 4) Try.underlying44 Try.underlying5 Try.underlying9 (fun j hj => by
    rw [Addr.add_mid]
    exact ((sec_row ht h).take 4 (by omega)).cell j hj)
  rwa [h4] at this
theorem unp_cases {l : List UInt8} (h : l.length = 256) :
    (wholeB (l.take 64) = false → unpE l = 52 ∧ unpS l = noSup) ∧
    (wholeB (l.take 64) = true → formS (l.take 64) = false → unpE l = 53 ∧ unpS l = noSup) ∧
    (wholeB (l.take 64) = true → formS (l.take 64) = true → validS (supOf (l.take 64)) = false → unpE l = 53 ∧ unpS l = noSup) ∧
    (wholeB (l.take 64) = true → formS (l.take 64) = true → validS (supOf (l.take 64)) = true → unpE l = 0 ∧ unpS l = supOf (l.take 64)) := by
  have hh : ¬ (l.length ≠ 256) := fun h' => h' h
  refine ⟨fun h1 => ?_, fun h1 h2 => ?_, fun h1 h2 h3 => ?_, fun h1 h2 h3 => ?_⟩
  · have e : unpE l = 52 := by unfold unpE; rw [if_neg hh, if_pos h1]
    exact ⟨e, if_neg (by rw [e]; decide)⟩
  · have e : unpE l = 53 := by unfold unpE; rw [if_neg hh, if_neg (by rw [h1]; decide), if_pos h2]
    exact ⟨e, if_neg (by rw [e]; decide)⟩
  · have e : unpE l = 53 := by unfold unpE; rw [if_neg hh, if_neg (by rw [h1]; decide), if_neg (by rw [h2]; decide), if_pos h3]
    exact ⟨e, if_neg (by rw [e]; decide)⟩
  · have e : unpE l = 0 := by unfold unpE; rw [if_neg hh, if_neg (by rw [h1]; decide), if_neg (by rw [h2]; decide), if_neg (by rw [h3]; decide)]
    exact ⟨e, if_pos e⟩
theorem unp_valid {l : List UInt8} (h : unpE l = 0) : ValidS (unpS l) := by
  have h0 := h
  unfold unpE at h0
  split at h0
  · cases h0
  · split at h0
    · cases h0
    · split at h0
      · cases h0
      · split at h0
        · cases h0
        · rename_i hv
          have e : unpS l = supOf (l.take 64) := if_pos h
          rw [e]
          have hv' : validS (supOf (l.take 64)) = true := by simpa using hv
          exact of_decide_eq_true hv'
theorem unpackSuper_ok (rb ro c : Nat) (l : List UInt8) (w : World) (hr : Row w (some ⟨rb, ro, none⟩) 256 l) (hc : 256 ≤ c) (hcm : c ≤ 9223372036854775807) : zC 97 [.slice (some ⟨rb, ro, none⟩) 256 c] w fun e w' => e = .returned (.tuple #[.agg (supC (unpS l)).toArray, zI (unpE l)]) ∧ Mem w [] w' [] := by
 have M := Mem.nil w;have UC := unp_cases hr.1;have hrt := hr.take 64 (by omega);generalize l.take 64 = t at *;have ht := hrt.1;go_enter Try.func97, Try.ntmps97;refine zin ?_;refine zk fun K1 hK1 => zr ?_;refine zal M (supC noSup) rfl zero_sup ?_;intro gr w2 (M2 : Mem w [] w2 [blk gr 40 (supC noSup)]);clear M;refine zp 1 rfl ?_;refine zw (hK1 _ _ (zk fun K3 hK3 => zk fun K4 hK4 => zr ?_));refine zp 1 rfl (zo M2 (y_len (zwn rfl) rfl (zev rfl) zu44) (zo M2 (zneq (b := false) rfl (by rw [decide_eq_true (by omega)]; rfl)) ?_));refine zw (hK4 _ _ (zcf rfl (zsk (hK3 _ _ (zk fun K5 hK5 => ?_)))));refine zk fun K6 hK6 => zr ?_;refine zp 1 rfl (zo M2 (y_sls (l := 0) (h := 64) (r := ro) (n' := 64) (c' := c) (zwn rfl) rfl (zev rfl) (zeo rfl) (zeo rfl) zu44 zz5 (by exact ⟨⟨_, _, rfl, by omega, by omega⟩, rfl⟩) (by split <;> omega) (by omega) (by omega)) ?_);refine pe (zwn rfl) fun K hK => e_call 101 [.slice (some ⟨rb, ro, none⟩) 64 c] rfl (zls_eval rfl) Try.call101 (whole_any (some ⟨rb, ro, none⟩) 64 c t _ (M2.row hrt (by simp)) (by unfold maxLen; omega) (by omega) (by unfold maxLen; omega)) ?_;rintro e w7 ⟨rfl, H7⟩;have M7 := M2.low H7;rcases Bool.eq_false_or_eq_true (wholeB t) with h8 | h8
 ·rw [h8];refine ⟨_, rfl, hK.out _ _ (zpu ?_)⟩;refine zp 1 rfl ?_;refine zw (hK6 _ _ (zcf rfl (zsk (hK5 _ _ (zk fun K9 hK9 => ?_)))));refine zr ?_;refine zp 1 rfl (zo M7 (y_sls (l := 0) (h := 64) (r := ro) (n' := 64) (c' := c) (zwn rfl) rfl (zev rfl) (zeo rfl) (zeo rfl) zu44 zz5 (by exact ⟨⟨_, _, rfl, by omega, by omega⟩, rfl⟩) (by split <;> omega) (by omega) (by omega)) (zo M7 (y_toarr (p := ⟨rb, ro, none⟩) (zwn rfl) rfl (zev rfl) zu184 (by decide)) (zo M7 (y_loadr (cs := (bvs t)) (zwn rfl) rfl (zev rfl) zu184 rfl (size_sec _ ht) (fun W hW => (hW.row hrt (by simp)).range)) ?_)));refine zal M7 (bvs (zerosB 64)) rfl zero_sec fun gt w10 M10 => ?_;refine zsw M10 0 rfl (size_sec _ ht) (bvs_all _) (by rw [length_bvs, length_bvs, ht, zerosB, List.length_replicate]) fun w11 M11 => ?_;simp only[Zg,Zh]at M11;refine zw (hK9 _ _ (zk fun K12 hK12 => zk fun K13 hK13 => zr ?_));refine zo M11 (y_sla (l := 0) (h := 4) (r := 0) (n' := 4) (c' := 64) (zwn rfl) rfl (zev rfl) (zeo rfl) (zeo rfl) zu184 zz5 (by exact ⟨⟨_, _, rfl, by omega, by omega⟩, rfl⟩) (rfl) (by omega) (by omega)) (zo M11 (y_convw (u := zS gt 4 64) (r := .string ⟨(t.take 4).toArray⟩) (zwn rfl) rfl (zev rfl) (fun W hW => sec_text ht (hW.get 0 rfl))) ?_);rcases Bool.eq_false_or_eq_true (eqB (t.take 4) lettersB) with h14 | h14
  ·refine zo M11 (y_strne (l := t.take 4) (m := lettersB) (b := false) (zwn rfl) rfl (zev rfl) (zev rfl) (by rw [h14]; rfl)) (zp 1 rfl (zo M11 (y_sla (l := 5) (h := 8) (r := 5) (n' := 3) (c' := 59) (zwn rfl) rfl (zev rfl) (zeo rfl) (zeo rfl) zu184 zz5 (by exact ⟨⟨_, _, rfl, by omega, by omega⟩, ⟨_, _, rfl, by omega, by omega⟩⟩) (rfl) (by omega) (by omega)) ?_));refine pe (zwn rfl) fun K hK => e_call 104 [.slice (some ⟨gt, 5, none⟩) 3 59] rfl (zls_eval rfl) Try.call104 (allZero_any (some ⟨gt, 5, none⟩) 3 59 ((t.drop 5).take 3) _ (sec_part ht (M11.get 0 rfl) 5 3 (by decide)) (by unfold maxLen; omega)) ?_;rintro e w15 ⟨rfl, H⟩;have M15 := M11.same H;rcases Bool.eq_false_or_eq_true (allZ ((t.drop 5).take 3)) with h16 | h16
   ·rw [h16];refine ⟨_, rfl, hK.out _ _ (zpu ?_)⟩;refine zp 3 rfl (zo M15 (y_sla (l := 28) (h := 60) (r := 28) (n' := 32) (c' := 36) (zwn rfl) rfl (zev rfl) (zeo rfl) (zeo rfl) zu184 zz5 (by exact ⟨⟨_, _, rfl, by omega, by omega⟩, ⟨_, _, rfl, by omega, by omega⟩⟩) (rfl) (by omega) (by omega)) ?_);refine pe (zwn rfl) fun K hK => e_call 104 [.slice (some ⟨gt, 28, none⟩) 32 36] rfl (zls_eval rfl) Try.call104 (allZero_any (some ⟨gt, 28, none⟩) 32 36 ((t.drop 28).take 32) _ (sec_part ht (M15.get 0 rfl) 28 32 (by decide)) (by unfold maxLen; omega)) ?_;rintro e w17 ⟨rfl, H⟩;have M17 := M15.same H;rcases Bool.eq_false_or_eq_true (allZ ((t.drop 28).take 32)) with h18 | h18
    ·rw [h18];refine ⟨_, rfl, hK.out _ _ (zpu ?_)⟩;refine zp 3 rfl (zo M17 (y_sla (l := 15) (h := 16) (r := 15) (n' := 1) (c' := 49) (zwn rfl) rfl (zev rfl) (zeo rfl) (zeo rfl) zu184 zz5 (by exact ⟨⟨_, _, rfl, by omega, by omega⟩, ⟨_, _, rfl, by omega, by omega⟩⟩) (rfl) (by omega) (by omega)) ?_);refine pe (zwn rfl) fun K hK => e_call 104 [.slice (some ⟨gt, 15, none⟩) 1 49] rfl (zls_eval rfl) Try.call104 (allZero_any (some ⟨gt, 15, none⟩) 1 49 ((t.drop 15).take 1) _ (sec_part ht (M17.get 0 rfl) 15 1 (by decide)) (by unfold maxLen; omega)) ?_;rintro e w19 ⟨rfl, H⟩;have M19 := M17.same H;rcases Bool.eq_false_or_eq_true (allZ ((t.drop 15).take 1)) with h20 | h20
     ·rw [h20];refine ⟨_, rfl, hK.out _ _ (zpu ?_)⟩;refine zp 2 rfl ?_;refine zw (hK13 _ _ (zcf rfl (zsk (hK12 _ _ (zk fun K21 hK21 => ?_)))));have M22 := M19.drew;refine zhb M22 (by kernel_rfl) fun hS => ?_;refine zt 0 rfl (y_iaa (r := 4) (zwn rfl) rfl (zev rfl) (zev rfl) zu184 zz5 (by first | omega | (dsimp only; omega)) (by first | omega | (dsimp only; omega))) hS (zt 1 rfl (zm (v := .int .u8 ((t.getD 4 0).toNat : Int)) 0 rfl Try.isAgg5 (bvs_at (by rw [ht]; decide))) hS ?_);refine zt 2 rfl (y_conv (r := ((t.getD 4 0).toNat : Int)) (zwn rfl) rfl (zev rfl) zu5 zu3 (wrap64_of (by have := (t.getD 4 0).toNat_lt; omega))) hS ?_;refine zt 3 rfl (y_sla (l := 8) (h := 64) (r := 8) (n' := 56) (c' := 56) (zwn rfl) rfl (zev rfl) (zeo rfl) (zeo rfl) zu184 zz5 (by exact ⟨rfl, ⟨_, _, rfl, by omega, by omega⟩⟩) (rfl) (by omega) (by omega)) hS ?_;refine zt 5 rfl (y_sla (l := 16) (h := 64) (r := 16) (n' := 48) (c' := 48) (zwn rfl) rfl (zev rfl) (zeo rfl) (zeo rfl) zu184 zz5 (by exact ⟨rfl, ⟨_, _, rfl, by omega, by omega⟩⟩) (rfl) (by omega) (by omega)) hS ?_;refine zt 7 rfl (y_sla (l := 20) (h := 64) (r := 20) (n' := 44) (c' := 44) (zwn rfl) rfl (zev rfl) (zeo rfl) (zeo rfl) zu184 zz5 (by exact ⟨rfl, ⟨_, _, rfl, by omega, by omega⟩⟩) (rfl) (by omega) (by omega)) hS ?_;refine zt 9 rfl (y_sla (l := 24) (h := 64) (r := 24) (n' := 40) (c' := 40) (zwn rfl) rfl (zev rfl) (zeo rfl) (zeo rfl) zu184 zz5 (by exact ⟨rfl, ⟨_, _, rfl, by omega, by omega⟩⟩) (rfl) (by omega) (by omega)) hS ?_;refine held_step2 4 12 (by kernel_rfl) rfl rfl (by rfl) (by rfl) (fun K hK => ?_) (fun K hK => ?_)
      ·refine e_call 103 [.slice (some ⟨gt, 8, none⟩) 56 56, zI 7] rfl (zls_eval rfl) zc103 (get_any (some ⟨gt, 8, none⟩) 56 56 (t.drop 8) 7 _ (by have := (sec_row ht (M22.get 0 rfl)).drop 8 (by decide); rwa [Nat.zero_add] at this) (by decide) (by decide) (by unfold maxLen; omega)) ?_;rintro e w23 ⟨rfl, H⟩;have M23 := M22.same H;refine ⟨_, rfl, ?_⟩;refine hK.out _ _ M23 (fun hS => zpa ?_);refine held_step2 6 12 (by kernel_rfl) rfl rfl (by rfl) (by rfl) (fun K hK => ?_) (fun K hK => ?_)
       ·refine e_call 103 [.slice (some ⟨gt, 16, none⟩) 48 48, zI 4] rfl (zls_eval rfl) zc103 (get_any (some ⟨gt, 16, none⟩) 48 48 (t.drop 16) 4 _ (by have := (sec_row ht (M23.get 0 rfl)).drop 16 (by decide); rwa [Nat.zero_add] at this) (by decide) (by decide) (by unfold maxLen; omega)) ?_;rintro e w24 ⟨rfl, H⟩;have M24 := M23.same H;refine ⟨_, rfl, ?_⟩;refine hK.out _ _ M24 (fun hS => zpa ?_);refine held_step2 8 12 (by kernel_rfl) rfl rfl (by rfl) (by rfl) (fun K hK => ?_) (fun K hK => ?_)
        ·refine e_call 103 [.slice (some ⟨gt, 20, none⟩) 44 44, zI 4] rfl (zls_eval rfl) zc103 (get_any (some ⟨gt, 20, none⟩) 44 44 (t.drop 20) 4 _ (by have := (sec_row ht (M24.get 0 rfl)).drop 20 (by decide); rwa [Nat.zero_add] at this) (by decide) (by decide) (by unfold maxLen; omega)) ?_;rintro e w25 ⟨rfl, H⟩;have M25 := M24.same H;refine ⟨_, rfl, ?_⟩;refine hK.out _ _ M25 (fun hS => zpa ?_);refine held_step2 10 12 (by kernel_rfl) rfl rfl (by rfl) (by rfl) (fun K hK => ?_) (fun K hK => ?_)
         ·refine e_call 103 [.slice (some ⟨gt, 24, none⟩) 40 40, zI 4] rfl (zls_eval rfl) zc103 (get_any (some ⟨gt, 24, none⟩) 40 40 (t.drop 24) 4 _ (by have := (sec_row ht (M25.get 0 rfl)).drop 24 (by decide); rwa [Nat.zero_add] at this) (by decide) (by decide) (by unfold maxLen; omega)) ?_;rintro e w26 ⟨rfl, H⟩;have M26 := M25.same H;refine ⟨_, rfl, ?_⟩;refine hK.out _ _ M26 (fun hS => zpa ?_);refine zt 11 rfl (y_build (ps := [(0, .tmp 40), (1, .tmp 42), (2, .tmp 44), (3, .tmp 46), (4, .tmp 48)]) (pv := [(0, zI ((t.getD 4 0).toNat : Int)), (1, zI ((decN ((t.drop 8).take 7) : Nat) : Int)), (2, zI ((decN ((t.drop 16).take 4) : Nat) : Int)), (3, zI ((decN ((t.drop 20).take 4) : Nat) : Int)), (4, zI ((decN ((t.drop 24).take 4) : Nat) : Int))]) (cs := (supC (supOf t))) (zwn rfl) rfl (zep rfl) (by kernel_rfl)) hS ?_;refine held_step 12 (by kernel_rfl) rfl (by rfl) (fun K hK => ?_);refine e_alloc M26 (supC noSup) rfl zero_sup ?_;intro gs w27 M27;refine hK.out _ _ (M27.arr [1, 2] (by decide)) (fun hS => zpa ?_);refine held_step 13 (by kernel_rfl) rfl (by rfl) (fun K hK => ?_);refine e_storew M27 0 rfl rfl (zev rfl) (zev rfl) (size_sup _) (sup_all _) rfl (rfl) ?_;intro w28 M28;simp only[Zg,Zh]at M28;refine hK.out _ _ (M28.arr [1, 2] (by decide)) (fun hS => zpa ?_);refine held_done (by kernel_rfl) (hK21 _ _ ?_) _;refine zk fun K29 hK29 => zk fun K30 hK30 => zr ?_;refine zo M28 (zlb 0 rfl zu40 rfl (size_sup _)) ?_;refine pe (zwn rfl) fun K hK => e_call 110 [.agg ((supC (supOf t))).toArray] rfl (zls_eval rfl) zc110 (valid_any (supOf t) _) ?_;rintro e w31 ⟨rfl, H31⟩;have M31 := M28.low H31;rcases Bool.eq_false_or_eq_true (validS (supOf t)) with h32 | h32
          ·rw [h32];refine ⟨_, rfl, hK.out _ _ (zpu ?_)⟩;refine zp 1 rfl ?_;refine zw (hK30 _ _ (zcf rfl (zsk (hK29 _ _ (zk fun K33 hK33 => ?_)))));refine zr ?_;refine zo M31 (zlb 0 rfl zu40 rfl (size_sup _)) ?_;refine zsw M31 2 rfl (size_sup _) (sup_all _) rfl fun w34 M34 => ?_;simp only[Zg,Zh]at M34;refine zp 1 rfl ?_;refine zw (hK33 _ _ (zrt ?_));(try simp only[zi,zj]);refine zR (v := .tuple #[.agg ((supC (supOf t))).toArray, zI 0]) (resc2 _ rfl rfl (zgd rfl) (M34.get 2 rfl) zu40 (size_sup _) (zgd rfl)) (zdf _) ?_;obtain ⟨e1, e2⟩ := UC.2.2.2 h8 (by unfold formS; simp [h14, h16, h18, h20]) h32;exact ⟨by rw [e1, e2], M34.arr [] (by decide)⟩
          ·rw [h32];refine ⟨_, rfl, hK.out _ _ (zpu ?_)⟩;refine zp 1 rfl ?_;refine zw (hK30 _ _ (zct rfl (zk fun K35 hK35 => zr ?_)));refine zo M31 (y_build (ps := []) (pv := []) (cs := (supC noSup)) (zwn rfl) rfl (zep rfl) (by kernel_rfl)) ?_;refine zsw M31 2 rfl (size_sup _) (sup_all _) rfl fun w36 M36 => ?_;simp only[Zg,Zh]at M36;refine zp 1 rfl ?_;refine zw (hK35 _ _ (zrt ?_));(try simp only[zi,zj]);refine zR (v := .tuple #[.agg ((supC noSup)).toArray, zI 53]) (resc2 _ rfl rfl (zgd rfl) (M36.get 2 rfl) zu40 (size_sup _) (zgd rfl)) (zdf _) ?_;obtain ⟨e1, e2⟩ := UC.2.2.1 h8 (by unfold formS; simp [h14, h16, h18, h20]) h32;exact ⟨by rw [e1, e2], M36.arr [] (by decide)⟩
         ·refine e_alloc M25 (supC noSup) rfl zero_sup ?_;intro gs w37 M37;refine hK.out _ _ (M37.arr [1, 2] (by decide)) (fun hS => zpa ?_);refine held_step 10 (by kernel_rfl) rfl (by rfl) (fun K hK => ?_);refine e_call 103 [.slice (some ⟨gt, 24, none⟩) 40 40, zI 4] rfl (zls_eval rfl) zc103 (get_any (some ⟨gt, 24, none⟩) 40 40 (t.drop 24) 4 _ (by have := (sec_row ht (M37.get 1 rfl)).drop 24 (by decide); rwa [Nat.zero_add] at this) (by decide) (by decide) (by unfold maxLen; omega)) ?_;rintro e w38 ⟨rfl, H⟩;have M38 := M37.same H;refine ⟨_, rfl, ?_⟩;refine hK.out _ _ (M38.arr [1, 2] (by decide)) (fun hS => zpa ?_);refine zt 11 rfl (y_build (ps := [(0, .tmp 40), (1, .tmp 42), (2, .tmp 44), (3, .tmp 46), (4, .tmp 48)]) (pv := [(0, zI ((t.getD 4 0).toNat : Int)), (1, zI ((decN ((t.drop 8).take 7) : Nat) : Int)), (2, zI ((decN ((t.drop 16).take 4) : Nat) : Int)), (3, zI ((decN ((t.drop 20).take 4) : Nat) : Int)), (4, zI ((decN ((t.drop 24).take 4) : Nat) : Int))]) (cs := (supC (supOf t))) (zwn rfl) rfl (zep rfl) (by kernel_rfl)) hS ?_;refine held_step 13 (by kernel_rfl) rfl (by rfl) (fun K hK => ?_);refine e_storew M38 0 rfl rfl (zev rfl) (zev rfl) (size_sup _) (sup_all _) rfl (rfl) ?_;intro w39 M39;simp only[Zg,Zh]at M39;refine hK.out _ _ (M39.arr [1, 2] (by decide)) (fun hS => zpa ?_);refine held_done (by kernel_rfl) (hK21 _ _ ?_) _;refine zk fun K40 hK40 => zk fun K41 hK41 => zr ?_;refine zo M39 (zlb 0 rfl zu40 rfl (size_sup _)) ?_;refine pe (zwn rfl) fun K hK => e_call 110 [.agg ((supC (supOf t))).toArray] rfl (zls_eval rfl) zc110 (valid_any (supOf t) _) ?_;rintro e w42 ⟨rfl, H42⟩;have M42 := M39.low H42;rcases Bool.eq_false_or_eq_true (validS (supOf t)) with h43 | h43
          ·rw [h43];refine ⟨_, rfl, hK.out _ _ (zpu ?_)⟩;refine zp 1 rfl ?_;refine zw (hK41 _ _ (zcf rfl (zsk (hK40 _ _ (zk fun K44 hK44 => ?_)))));refine zr ?_;refine zo M42 (zlb 0 rfl zu40 rfl (size_sup _)) ?_;refine zsw M42 2 rfl (size_sup _) (sup_all _) rfl fun w45 M45 => ?_;simp only[Zg,Zh]at M45;refine zp 1 rfl ?_;refine zw (hK44 _ _ (zrt ?_));(try simp only[zi,zj]);refine zR (v := .tuple #[.agg ((supC (supOf t))).toArray, zI 0]) (resc2 _ rfl rfl (zgd rfl) (M45.get 2 rfl) zu40 (size_sup _) (zgd rfl)) (zdf _) ?_;obtain ⟨e1, e2⟩ := UC.2.2.2 h8 (by unfold formS; simp [h14, h16, h18, h20]) h43;exact ⟨by rw [e1, e2], M45.arr [] (by decide)⟩
          ·rw [h43];refine ⟨_, rfl, hK.out _ _ (zpu ?_)⟩;refine zp 1 rfl ?_;refine zw (hK41 _ _ (zct rfl (zk fun K46 hK46 => zr ?_)));refine zo M42 (y_build (ps := []) (pv := []) (cs := (supC noSup)) (zwn rfl) rfl (zep rfl) (by kernel_rfl)) ?_;refine zsw M42 2 rfl (size_sup _) (sup_all _) rfl fun w47 M47 => ?_;simp only[Zg,Zh]at M47;refine zp 1 rfl ?_;refine zw (hK46 _ _ (zrt ?_));(try simp only[zi,zj]);refine zR (v := .tuple #[.agg ((supC noSup)).toArray, zI 53]) (resc2 _ rfl rfl (zgd rfl) (M47.get 2 rfl) zu40 (size_sup _) (zgd rfl)) (zdf _) ?_;obtain ⟨e1, e2⟩ := UC.2.2.1 h8 (by unfold formS; simp [h14, h16, h18, h20]) h43;exact ⟨by rw [e1, e2], M47.arr [] (by decide)⟩
        ·refine e_alloc M24 (supC noSup) rfl zero_sup ?_;intro gs w48 M48;refine hK.out _ _ (M48.arr [1, 2] (by decide)) (fun hS => zpa ?_);refine held_step 8 (by kernel_rfl) rfl (by rfl) (fun K hK => ?_);refine e_call 103 [.slice (some ⟨gt, 20, none⟩) 44 44, zI 4] rfl (zls_eval rfl) zc103 (get_any (some ⟨gt, 20, none⟩) 44 44 (t.drop 20) 4 _ (by have := (sec_row ht (M48.get 1 rfl)).drop 20 (by decide); rwa [Nat.zero_add] at this) (by decide) (by decide) (by unfold maxLen; omega)) ?_;rintro e w49 ⟨rfl, H⟩;have M49 := M48.same H;refine ⟨_, rfl, ?_⟩;refine hK.out _ _ (M49.arr [1, 2] (by decide)) (fun hS => zpa ?_);refine held_step 10 (by kernel_rfl) rfl (by rfl) (fun K hK => ?_);refine e_call 103 [.slice (some ⟨gt, 24, none⟩) 40 40, zI 4] rfl (zls_eval rfl) zc103 (get_any (some ⟨gt, 24, none⟩) 40 40 (t.drop 24) 4 _ (by have := (sec_row ht (M49.get 1 rfl)).drop 24 (by decide); rwa [Nat.zero_add] at this) (by decide) (by decide) (by unfold maxLen; omega)) ?_;rintro e w50 ⟨rfl, H⟩;have M50 := M49.same H;refine ⟨_, rfl, ?_⟩;refine hK.out _ _ (M50.arr [1, 2] (by decide)) (fun hS => zpa ?_);refine zt 11 rfl (y_build (ps := [(0, .tmp 40), (1, .tmp 42), (2, .tmp 44), (3, .tmp 46), (4, .tmp 48)]) (pv := [(0, zI ((t.getD 4 0).toNat : Int)), (1, zI ((decN ((t.drop 8).take 7) : Nat) : Int)), (2, zI ((decN ((t.drop 16).take 4) : Nat) : Int)), (3, zI ((decN ((t.drop 20).take 4) : Nat) : Int)), (4, zI ((decN ((t.drop 24).take 4) : Nat) : Int))]) (cs := (supC (supOf t))) (zwn rfl) rfl (zep rfl) (by kernel_rfl)) hS ?_;refine held_step 13 (by kernel_rfl) rfl (by rfl) (fun K hK => ?_);refine e_storew M50 0 rfl rfl (zev rfl) (zev rfl) (size_sup _) (sup_all _) rfl (rfl) ?_;intro w51 M51;simp only[Zg,Zh]at M51;refine hK.out _ _ (M51.arr [1, 2] (by decide)) (fun hS => zpa ?_);refine held_done (by kernel_rfl) (hK21 _ _ ?_) _;refine zk fun K52 hK52 => zk fun K53 hK53 => zr ?_;refine zo M51 (zlb 0 rfl zu40 rfl (size_sup _)) ?_;refine pe (zwn rfl) fun K hK => e_call 110 [.agg ((supC (supOf t))).toArray] rfl (zls_eval rfl) zc110 (valid_any (supOf t) _) ?_;rintro e w54 ⟨rfl, H54⟩;have M54 := M51.low H54;rcases Bool.eq_false_or_eq_true (validS (supOf t)) with h55 | h55
         ·rw [h55];refine ⟨_, rfl, hK.out _ _ (zpu ?_)⟩;refine zp 1 rfl ?_;refine zw (hK53 _ _ (zcf rfl (zsk (hK52 _ _ (zk fun K56 hK56 => ?_)))));refine zr ?_;refine zo M54 (zlb 0 rfl zu40 rfl (size_sup _)) ?_;refine zsw M54 2 rfl (size_sup _) (sup_all _) rfl fun w57 M57 => ?_;simp only[Zg,Zh]at M57;refine zp 1 rfl ?_;refine zw (hK56 _ _ (zrt ?_));(try simp only[zi,zj]);refine zR (v := .tuple #[.agg ((supC (supOf t))).toArray, zI 0]) (resc2 _ rfl rfl (zgd rfl) (M57.get 2 rfl) zu40 (size_sup _) (zgd rfl)) (zdf _) ?_;obtain ⟨e1, e2⟩ := UC.2.2.2 h8 (by unfold formS; simp [h14, h16, h18, h20]) h55;exact ⟨by rw [e1, e2], M57.arr [] (by decide)⟩
         ·rw [h55];refine ⟨_, rfl, hK.out _ _ (zpu ?_)⟩;refine zp 1 rfl ?_;refine zw (hK53 _ _ (zct rfl (zk fun K58 hK58 => zr ?_)));refine zo M54 (y_build (ps := []) (pv := []) (cs := (supC noSup)) (zwn rfl) rfl (zep rfl) (by kernel_rfl)) ?_;refine zsw M54 2 rfl (size_sup _) (sup_all _) rfl fun w59 M59 => ?_;simp only[Zg,Zh]at M59;refine zp 1 rfl ?_;refine zw (hK58 _ _ (zrt ?_));(try simp only[zi,zj]);refine zR (v := .tuple #[.agg ((supC noSup)).toArray, zI 53]) (resc2 _ rfl rfl (zgd rfl) (M59.get 2 rfl) zu40 (size_sup _) (zgd rfl)) (zdf _) ?_;obtain ⟨e1, e2⟩ := UC.2.2.1 h8 (by unfold formS; simp [h14, h16, h18, h20]) h55;exact ⟨by rw [e1, e2], M59.arr [] (by decide)⟩
       ·refine e_alloc M23 (supC noSup) rfl zero_sup ?_;intro gs w60 M60;refine hK.out _ _ (M60.arr [1, 2] (by decide)) (fun hS => zpa ?_);refine held_step 6 (by kernel_rfl) rfl (by rfl) (fun K hK => ?_);refine e_call 103 [.slice (some ⟨gt, 16, none⟩) 48 48, zI 4] rfl (zls_eval rfl) zc103 (get_any (some ⟨gt, 16, none⟩) 48 48 (t.drop 16) 4 _ (by have := (sec_row ht (M60.get 1 rfl)).drop 16 (by decide); rwa [Nat.zero_add] at this) (by decide) (by decide) (by unfold maxLen; omega)) ?_;rintro e w61 ⟨rfl, H⟩;have M61 := M60.same H;refine ⟨_, rfl, ?_⟩;refine hK.out _ _ (M61.arr [1, 2] (by decide)) (fun hS => zpa ?_);refine held_step 8 (by kernel_rfl) rfl (by rfl) (fun K hK => ?_);refine e_call 103 [.slice (some ⟨gt, 20, none⟩) 44 44, zI 4] rfl (zls_eval rfl) zc103 (get_any (some ⟨gt, 20, none⟩) 44 44 (t.drop 20) 4 _ (by have := (sec_row ht (M61.get 1 rfl)).drop 20 (by decide); rwa [Nat.zero_add] at this) (by decide) (by decide) (by unfold maxLen; omega)) ?_;rintro e w62 ⟨rfl, H⟩;have M62 := M61.same H;refine ⟨_, rfl, ?_⟩;refine hK.out _ _ (M62.arr [1, 2] (by decide)) (fun hS => zpa ?_);refine held_step 10 (by kernel_rfl) rfl (by rfl) (fun K hK => ?_);refine e_call 103 [.slice (some ⟨gt, 24, none⟩) 40 40, zI 4] rfl (zls_eval rfl) zc103 (get_any (some ⟨gt, 24, none⟩) 40 40 (t.drop 24) 4 _ (by have := (sec_row ht (M62.get 1 rfl)).drop 24 (by decide); rwa [Nat.zero_add] at this) (by decide) (by decide) (by unfold maxLen; omega)) ?_;rintro e w63 ⟨rfl, H⟩;have M63 := M62.same H;refine ⟨_, rfl, ?_⟩;refine hK.out _ _ (M63.arr [1, 2] (by decide)) (fun hS => zpa ?_);refine zt 11 rfl (y_build (ps := [(0, .tmp 40), (1, .tmp 42), (2, .tmp 44), (3, .tmp 46), (4, .tmp 48)]) (pv := [(0, zI ((t.getD 4 0).toNat : Int)), (1, zI ((decN ((t.drop 8).take 7) : Nat) : Int)), (2, zI ((decN ((t.drop 16).take 4) : Nat) : Int)), (3, zI ((decN ((t.drop 20).take 4) : Nat) : Int)), (4, zI ((decN ((t.drop 24).take 4) : Nat) : Int))]) (cs := (supC (supOf t))) (zwn rfl) rfl (zep rfl) (by kernel_rfl)) hS ?_;refine held_step 13 (by kernel_rfl) rfl (by rfl) (fun K hK => ?_);refine e_storew M63 0 rfl rfl (zev rfl) (zev rfl) (size_sup _) (sup_all _) rfl (rfl) ?_;intro w64 M64;simp only[Zg,Zh]at M64;refine hK.out _ _ (M64.arr [1, 2] (by decide)) (fun hS => zpa ?_);refine held_done (by kernel_rfl) (hK21 _ _ ?_) _;refine zk fun K65 hK65 => zk fun K66 hK66 => zr ?_;refine zo M64 (zlb 0 rfl zu40 rfl (size_sup _)) ?_;refine pe (zwn rfl) fun K hK => e_call 110 [.agg ((supC (supOf t))).toArray] rfl (zls_eval rfl) zc110 (valid_any (supOf t) _) ?_;rintro e w67 ⟨rfl, H67⟩;have M67 := M64.low H67;rcases Bool.eq_false_or_eq_true (validS (supOf t)) with h68 | h68
        ·rw [h68];refine ⟨_, rfl, hK.out _ _ (zpu ?_)⟩;refine zp 1 rfl ?_;refine zw (hK66 _ _ (zcf rfl (zsk (hK65 _ _ (zk fun K69 hK69 => ?_)))));refine zr ?_;refine zo M67 (zlb 0 rfl zu40 rfl (size_sup _)) ?_;refine zsw M67 2 rfl (size_sup _) (sup_all _) rfl fun w70 M70 => ?_;simp only[Zg,Zh]at M70;refine zp 1 rfl ?_;refine zw (hK69 _ _ (zrt ?_));(try simp only[zi,zj]);refine zR (v := .tuple #[.agg ((supC (supOf t))).toArray, zI 0]) (resc2 _ rfl rfl (zgd rfl) (M70.get 2 rfl) zu40 (size_sup _) (zgd rfl)) (zdf _) ?_;obtain ⟨e1, e2⟩ := UC.2.2.2 h8 (by unfold formS; simp [h14, h16, h18, h20]) h68;exact ⟨by rw [e1, e2], M70.arr [] (by decide)⟩
        ·rw [h68];refine ⟨_, rfl, hK.out _ _ (zpu ?_)⟩;refine zp 1 rfl ?_;refine zw (hK66 _ _ (zct rfl (zk fun K71 hK71 => zr ?_)));refine zo M67 (y_build (ps := []) (pv := []) (cs := (supC noSup)) (zwn rfl) rfl (zep rfl) (by kernel_rfl)) ?_;refine zsw M67 2 rfl (size_sup _) (sup_all _) rfl fun w72 M72 => ?_;simp only[Zg,Zh]at M72;refine zp 1 rfl ?_;refine zw (hK71 _ _ (zrt ?_));(try simp only[zi,zj]);refine zR (v := .tuple #[.agg ((supC noSup)).toArray, zI 53]) (resc2 _ rfl rfl (zgd rfl) (M72.get 2 rfl) zu40 (size_sup _) (zgd rfl)) (zdf _) ?_;obtain ⟨e1, e2⟩ := UC.2.2.1 h8 (by unfold formS; simp [h14, h16, h18, h20]) h68;exact ⟨by rw [e1, e2], M72.arr [] (by decide)⟩
      ·refine e_alloc M22 (supC noSup) rfl zero_sup ?_;intro gs w73 M73;refine hK.out _ _ (M73.arr [1, 2] (by decide)) (fun hS => zpa ?_);refine held_step 4 (by kernel_rfl) rfl (by rfl) (fun K hK => ?_);refine e_call 103 [.slice (some ⟨gt, 8, none⟩) 56 56, zI 7] rfl (zls_eval rfl) zc103 (get_any (some ⟨gt, 8, none⟩) 56 56 (t.drop 8) 7 _ (by have := (sec_row ht (M73.get 1 rfl)).drop 8 (by decide); rwa [Nat.zero_add] at this) (by decide) (by decide) (by unfold maxLen; omega)) ?_;rintro e w74 ⟨rfl, H⟩;have M74 := M73.same H;refine ⟨_, rfl, ?_⟩;refine hK.out _ _ (M74.arr [1, 2] (by decide)) (fun hS => zpa ?_);refine held_step 6 (by kernel_rfl) rfl (by rfl) (fun K hK => ?_);refine e_call 103 [.slice (some ⟨gt, 16, none⟩) 48 48, zI 4] rfl (zls_eval rfl) zc103 (get_any (some ⟨gt, 16, none⟩) 48 48 (t.drop 16) 4 _ (by have := (sec_row ht (M74.get 1 rfl)).drop 16 (by decide); rwa [Nat.zero_add] at this) (by decide) (by decide) (by unfold maxLen; omega)) ?_;rintro e w75 ⟨rfl, H⟩;have M75 := M74.same H;refine ⟨_, rfl, ?_⟩;refine hK.out _ _ (M75.arr [1, 2] (by decide)) (fun hS => zpa ?_);refine held_step 8 (by kernel_rfl) rfl (by rfl) (fun K hK => ?_);refine e_call 103 [.slice (some ⟨gt, 20, none⟩) 44 44, zI 4] rfl (zls_eval rfl) zc103 (get_any (some ⟨gt, 20, none⟩) 44 44 (t.drop 20) 4 _ (by have := (sec_row ht (M75.get 1 rfl)).drop 20 (by decide); rwa [Nat.zero_add] at this) (by decide) (by decide) (by unfold maxLen; omega)) ?_;rintro e w76 ⟨rfl, H⟩;have M76 := M75.same H;refine ⟨_, rfl, ?_⟩;refine hK.out _ _ (M76.arr [1, 2] (by decide)) (fun hS => zpa ?_);refine held_step 10 (by kernel_rfl) rfl (by rfl) (fun K hK => ?_);refine e_call 103 [.slice (some ⟨gt, 24, none⟩) 40 40, zI 4] rfl (zls_eval rfl) zc103 (get_any (some ⟨gt, 24, none⟩) 40 40 (t.drop 24) 4 _ (by have := (sec_row ht (M76.get 1 rfl)).drop 24 (by decide); rwa [Nat.zero_add] at this) (by decide) (by decide) (by unfold maxLen; omega)) ?_;rintro e w77 ⟨rfl, H⟩;have M77 := M76.same H;refine ⟨_, rfl, ?_⟩;refine hK.out _ _ (M77.arr [1, 2] (by decide)) (fun hS => zpa ?_);refine zt 11 rfl (y_build (ps := [(0, .tmp 40), (1, .tmp 42), (2, .tmp 44), (3, .tmp 46), (4, .tmp 48)]) (pv := [(0, zI ((t.getD 4 0).toNat : Int)), (1, zI ((decN ((t.drop 8).take 7) : Nat) : Int)), (2, zI ((decN ((t.drop 16).take 4) : Nat) : Int)), (3, zI ((decN ((t.drop 20).take 4) : Nat) : Int)), (4, zI ((decN ((t.drop 24).take 4) : Nat) : Int))]) (cs := (supC (supOf t))) (zwn rfl) rfl (zep rfl) (by kernel_rfl)) hS ?_;refine held_step 13 (by kernel_rfl) rfl (by rfl) (fun K hK => ?_);refine e_storew M77 0 rfl rfl (zev rfl) (zev rfl) (size_sup _) (sup_all _) rfl (rfl) ?_;intro w78 M78;simp only[Zg,Zh]at M78;refine hK.out _ _ (M78.arr [1, 2] (by decide)) (fun hS => zpa ?_);refine held_done (by kernel_rfl) (hK21 _ _ ?_) _;refine zk fun K79 hK79 => zk fun K80 hK80 => zr ?_;refine zo M78 (zlb 0 rfl zu40 rfl (size_sup _)) ?_;refine pe (zwn rfl) fun K hK => e_call 110 [.agg ((supC (supOf t))).toArray] rfl (zls_eval rfl) zc110 (valid_any (supOf t) _) ?_;rintro e w81 ⟨rfl, H81⟩;have M81 := M78.low H81;rcases Bool.eq_false_or_eq_true (validS (supOf t)) with h82 | h82
       ·rw [h82];refine ⟨_, rfl, hK.out _ _ (zpu ?_)⟩;refine zp 1 rfl ?_;refine zw (hK80 _ _ (zcf rfl (zsk (hK79 _ _ (zk fun K83 hK83 => ?_)))));refine zr ?_;refine zo M81 (zlb 0 rfl zu40 rfl (size_sup _)) ?_;refine zsw M81 2 rfl (size_sup _) (sup_all _) rfl fun w84 M84 => ?_;simp only[Zg,Zh]at M84;refine zp 1 rfl ?_;refine zw (hK83 _ _ (zrt ?_));(try simp only[zi,zj]);refine zR (v := .tuple #[.agg ((supC (supOf t))).toArray, zI 0]) (resc2 _ rfl rfl (zgd rfl) (M84.get 2 rfl) zu40 (size_sup _) (zgd rfl)) (zdf _) ?_;obtain ⟨e1, e2⟩ := UC.2.2.2 h8 (by unfold formS; simp [h14, h16, h18, h20]) h82;exact ⟨by rw [e1, e2], M84.arr [] (by decide)⟩
       ·rw [h82];refine ⟨_, rfl, hK.out _ _ (zpu ?_)⟩;refine zp 1 rfl ?_;refine zw (hK80 _ _ (zct rfl (zk fun K85 hK85 => zr ?_)));refine zo M81 (y_build (ps := []) (pv := []) (cs := (supC noSup)) (zwn rfl) rfl (zep rfl) (by kernel_rfl)) ?_;refine zsw M81 2 rfl (size_sup _) (sup_all _) rfl fun w86 M86 => ?_;simp only[Zg,Zh]at M86;refine zp 1 rfl ?_;refine zw (hK85 _ _ (zrt ?_));(try simp only[zi,zj]);refine zR (v := .tuple #[.agg ((supC noSup)).toArray, zI 53]) (resc2 _ rfl rfl (zgd rfl) (M86.get 2 rfl) zu40 (size_sup _) (zgd rfl)) (zdf _) ?_;obtain ⟨e1, e2⟩ := UC.2.2.1 h8 (by unfold formS; simp [h14, h16, h18, h20]) h82;exact ⟨by rw [e1, e2], M86.arr [] (by decide)⟩
     ·rw [h20];refine ⟨_, rfl, hK.out _ _ (zpu ?_)⟩;refine zp 2 rfl ?_;refine zw (hK13 _ _ (zct rfl (zk fun K87 hK87 => zr ?_)));refine zo M19 (y_build (ps := []) (pv := []) (cs := (supC noSup)) (zwn rfl) rfl (zep rfl) (by kernel_rfl)) ?_;refine zsw M19 1 rfl (size_sup _) (sup_all _) rfl fun w88 M88 => ?_;simp only[Zg,Zh]at M88;refine zp 1 rfl ?_;refine zw (hK87 _ _ (zrt ?_));(try simp only[zi,zj]);refine zR (v := .tuple #[.agg ((supC noSup)).toArray, zI 53]) (resc2 _ rfl rfl (zgd rfl) (M88.get 1 rfl) zu40 (size_sup _) (zgd rfl)) (zdf _) ?_;obtain ⟨e1, e2⟩ := UC.2.1 h8 (by unfold formS; simp [h14, h16, h18, h20]);exact ⟨by rw [e1, e2], M88.arr [] (by decide)⟩
    ·rw [h18];refine ⟨_, rfl, hK.out _ _ (zpu ?_)⟩;refine zp 4 rfl ?_;refine zp 1 rfl ?_;refine zp 2 rfl ?_;refine zw (hK13 _ _ (zct rfl (zk fun K89 hK89 => zr ?_)));refine zo M17 (y_build (ps := []) (pv := []) (cs := (supC noSup)) (zwn rfl) rfl (zep rfl) (by kernel_rfl)) ?_;refine zsw M17 1 rfl (size_sup _) (sup_all _) rfl fun w90 M90 => ?_;simp only[Zg,Zh]at M90;refine zp 1 rfl ?_;refine zw (hK89 _ _ (zrt ?_));(try simp only[zi,zj]);refine zR (v := .tuple #[.agg ((supC noSup)).toArray, zI 53]) (resc2 _ rfl rfl (zgd rfl) (M90.get 1 rfl) zu40 (size_sup _) (zgd rfl)) (zdf _) ?_;obtain ⟨e1, e2⟩ := UC.2.1 h8 (by unfold formS; simp [h14, h16, h18]);exact ⟨by rw [e1, e2], M90.arr [] (by decide)⟩
   ·rw [h16];refine ⟨_, rfl, hK.out _ _ (zpu ?_)⟩;refine zp 4 rfl ?_;refine zp 1 rfl ?_;refine zp 4 rfl ?_;refine zp 1 rfl ?_;refine zp 2 rfl ?_;refine zw (hK13 _ _ (zct rfl (zk fun K91 hK91 => zr ?_)));refine zo M15 (y_build (ps := []) (pv := []) (cs := (supC noSup)) (zwn rfl) rfl (zep rfl) (by kernel_rfl)) ?_;refine zsw M15 1 rfl (size_sup _) (sup_all _) rfl fun w92 M92 => ?_;simp only[Zg,Zh]at M92;refine zp 1 rfl ?_;refine zw (hK91 _ _ (zrt ?_));(try simp only[zi,zj]);refine zR (v := .tuple #[.agg ((supC noSup)).toArray, zI 53]) (resc2 _ rfl rfl (zgd rfl) (M92.get 1 rfl) zu40 (size_sup _) (zgd rfl)) (zdf _) ?_;obtain ⟨e1, e2⟩ := UC.2.1 h8 (by unfold formS; simp [h14, h16]);exact ⟨by rw [e1, e2], M92.arr [] (by decide)⟩
  ·refine zo M11 (y_strne (l := t.take 4) (m := lettersB) (b := true) (zwn rfl) rfl (zev rfl) (zev rfl) (by rw [h14]; rfl)) (zp 2 rfl ?_);refine zp 1 rfl ?_;refine zp 4 rfl ?_;refine zp 1 rfl ?_;refine zp 4 rfl ?_;refine zp 1 rfl ?_;refine zp 2 rfl ?_;refine zw (hK13 _ _ (zct rfl (zk fun K93 hK93 => zr ?_)));refine zo M11 (y_build (ps := []) (pv := []) (cs := (supC noSup)) (zwn rfl) rfl (zep rfl) (by kernel_rfl)) ?_;refine zsw M11 1 rfl (size_sup _) (sup_all _) rfl fun w94 M94 => ?_;simp only[Zg,Zh]at M94;refine zp 1 rfl ?_;refine zw (hK93 _ _ (zrt ?_));(try simp only[zi,zj]);refine zR (v := .tuple #[.agg ((supC noSup)).toArray, zI 53]) (resc2 _ rfl rfl (zgd rfl) (M94.get 1 rfl) zu40 (size_sup _) (zgd rfl)) (zdf _) ?_;obtain ⟨e1, e2⟩ := UC.2.1 h8 (by unfold formS; simp [h14]);exact ⟨by rw [e1, e2], M94.arr [] (by decide)⟩
 ·rw [h8];refine ⟨_, rfl, hK.out _ _ (zpu ?_)⟩;refine zp 1 rfl ?_;refine zw (hK6 _ _ (zct rfl (zk fun K95 hK95 => zr ?_)));refine zo M7 (y_build (ps := []) (pv := []) (cs := (supC noSup)) (zwn rfl) rfl (zep rfl) (by kernel_rfl)) ?_;refine zsw M7 0 rfl (size_sup _) (sup_all _) rfl fun w96 M96 => ?_;simp only[Zg,Zh]at M96;refine zp 1 rfl ?_;refine zw (hK95 _ _ (zrt ?_));(try simp only[zi,zj]);refine zR (v := .tuple #[.agg ((supC noSup)).toArray, zI 52]) (resc2 _ rfl rfl (zgd rfl) (M96.get 0 rfl) zu40 (size_sup _) (zgd rfl)) (zdf _) ?_;obtain ⟨e1, e2⟩ := UC.1 h8;exact ⟨by rw [e1, e2], M96.arr [] (by decide)⟩
end Go.Proofs.Ytmmkgkbjneebkaa

/- Superblocks: Choose. -/
namespace Go.Proofs.Ytmmkgkbjneebkaa
set_option linter.unusedSectionVars false
open Go Go.RowKit
set_option linter.unusedVariables false
set_option linter.unusedSimpArgs false
theorem choose_bound {s : SupV} (h : ValidS s) : 0 ≤ s.gen ∧ s.gen ≤ 1099511627776 := ⟨h.2.2.1, h.2.2.2.1⟩
set_option maxRecDepth 100000 in
set_option maxHeartbeats 4000000 in
theorem choose_any (ra oa ca rb ob cb : Nat) (la lb : List UInt8) (w : World) (hra : Row w (some ⟨ra, oa, none⟩) 256 la) (hrb : Row w (some ⟨rb, ob, none⟩) 256 lb) (ha : 256 ≤ ca) (ma : ca ≤ 9223372036854775807) (hb : 256 ≤ cb) (mb : cb ≤ 9223372036854775807) : Calls Try.prog 78 #[.slice (some ⟨ra, oa, none⟩) 256 ca, .slice (some ⟨rb, ob, none⟩) 256 cb] w fun e w' => e = .returned (.tuple #[.agg (supC (chooseS la lb)).toArray, .int .i64 (chooseE la lb)]) ∧ Mem w [] w' [] := by
  have M := Mem.nil w
  go_enter Try.func78, Try.ntmps78
  refine wp_seq_k (fun K1 hK1 => ?_)
  refine wp_region_lit ?_
  refine pe rfl (fun K hK => ?_)
  refine e_alloc M (supC noSup) rfl zero_sup ?_
  intro gr w2 (M2 : Mem w [] w2 [blk gr 40 (supC noSup)])
  clear M
  refine hK.out _ _ ?_
  clear hK K
  simp only [Act.put, zq1, zq2, zq3]
  refine pl M2 (y_assign (v := .int .i64 0) rfl rfl rfl) ?_
  simp only [Act.put, zq1, zq2, zq3]
  refine wpList_nil ?_
  refine hK1 _ _ ?_
  clear hK1
  refine wp_seq_k (fun K3 hK3 => ?_)
  refine wp_region_lit ?_
  refine pl M2 (y_move (v := .slice (some ⟨ra, oa, none⟩) 256 ca) rfl rfl rfl) ?_
  simp only [Act.put, zq1, zq2, zq3]
  refine pe rfl (fun K hK => ?_)
  refine e_call 97 [.slice (some ⟨ra, oa, none⟩) 256 ca] rfl rfl Try.call97 (unpackSuper_ok ra oa ca la _ (M2.row hra (by simp)) ha ma) ?_
  rintro e w4 ⟨rfl, H4⟩
  have M4 : Mem w [] w4 [blk gr 40 (supC noSup)] := M2.step H4
  refine ⟨_, rfl, ?_⟩
  refine hK.out _ _ ?_
  clear hK K
  simp only [Act.put, zq1, zq2, zq3]
  refine pl M4 (y_move (v := .tuple #[.agg ((supC (unpS la))).toArray, .int .i64 (unpE la)]) rfl rfl rfl) ?_
  simp only [Act.put, zq1, zq2, zq3]
  refine pl M4 (y_ext (v := .agg ((supC (unpS la))).toArray) rfl rfl rfl rfl) ?_
  simp only [Act.put, zq1, zq2, zq3]
  refine pl M4 (y_ext (v := .int .i64 (unpE la)) rfl rfl rfl rfl) ?_
  simp only [Act.put, zq1, zq2, zq3]
  refine pe rfl (fun K hK => ?_)
  refine e_alloc M4 (supC noSup) rfl zero_sup ?_
  intro gx w5 (M5 : Mem w [] w5 [blk gx 40 (supC noSup), blk gr 40 (supC noSup)])
  clear M4
  refine hK.out _ _ ?_
  clear hK K
  simp only [Act.put, zq1, zq2, zq3]
  refine pe rfl (fun K hK => ?_)
  refine e_storew M5 0 (cs := (supC (unpS la))) rfl rfl rfl rfl (size_sup _) (sup_all _) rfl (rfl) ?_
  intro w6 (M6 : Mem w [] w6 [blk gx 40 (supC (unpS la)), blk gr 40 (supC noSup)])
  clear M5
  refine hK.out _ _ ?_
  clear hK K
  simp only [Act.put, zq1, zq2, zq3]
  refine pl M6 (y_assign (v := .int .i64 (unpE la)) rfl rfl rfl) ?_
  simp only [Act.put, zq1, zq2, zq3]
  refine wpList_nil ?_
  refine hK3 _ _ ?_
  clear hK3
  refine wp_seq_k (fun K7 hK7 => ?_)
  refine wp_region_lit ?_
  refine pl M6 (y_move (v := .slice (some ⟨rb, ob, none⟩) 256 cb) rfl rfl rfl) ?_
  simp only [Act.put, zq1, zq2, zq3]
  refine pe rfl (fun K hK => ?_)
  refine e_call 97 [.slice (some ⟨rb, ob, none⟩) 256 cb] rfl rfl Try.call97 (unpackSuper_ok rb ob cb lb _ (M6.row hrb (by simp)) hb mb) ?_
  rintro e w8 ⟨rfl, H8⟩
  have M8 : Mem w [] w8 [blk gx 40 (supC (unpS la)), blk gr 40 (supC noSup)] := M6.step H8
  refine ⟨_, rfl, ?_⟩
  refine hK.out _ _ ?_
  clear hK K
  simp only [Act.put, zq1, zq2, zq3]
  refine pl M8 (y_move (v := .tuple #[.agg ((supC (unpS lb))).toArray, .int .i64 (unpE lb)]) rfl rfl rfl) ?_
  simp only [Act.put, zq1, zq2, zq3]
  refine pl M8 (y_ext (v := .agg ((supC (unpS lb))).toArray) rfl rfl rfl rfl) ?_
  simp only [Act.put, zq1, zq2, zq3]
  refine pl M8 (y_ext (v := .int .i64 (unpE lb)) rfl rfl rfl rfl) ?_
  simp only [Act.put, zq1, zq2, zq3]
  refine pe rfl (fun K hK => ?_)
  refine e_alloc M8 (supC noSup) rfl zero_sup ?_
  intro gy w9 (M9 : Mem w [] w9 [blk gy 40 (supC noSup), blk gx 40 (supC (unpS la)), blk gr 40 (supC noSup)])
  clear M8
  refine hK.out _ _ ?_
  clear hK K
  simp only [Act.put, zq1, zq2, zq3]
  refine pe rfl (fun K hK => ?_)
  refine e_storew M9 0 (cs := (supC (unpS lb))) rfl rfl rfl rfl (size_sup _) (sup_all _) rfl (rfl) ?_
  intro w10 (M10 : Mem w [] w10 [blk gy 40 (supC (unpS lb)), blk gx 40 (supC (unpS la)), blk gr 40 (supC noSup)])
  clear M9
  refine hK.out _ _ ?_
  clear hK K
  simp only [Act.put, zq1, zq2, zq3]
  refine pl M10 (y_assign (v := .int .i64 (unpE lb)) rfl rfl rfl) ?_
  simp only [Act.put, zq1, zq2, zq3]
  refine wpList_nil ?_
  refine hK7 _ _ ?_
  clear hK7
  refine wp_seq_k (fun K11 hK11 => ?_)
  refine wp_block ?_
  refine wp_seq_k (fun K12 hK12 => ?_)
  refine wp_block ?_
  refine wp_block ?_
  refine wp_seq_k (fun K13 hK13 => ?_)
  refine wp_block ?_
  refine wp_seq_k (fun K14 hK14 => ?_)
  refine wp_block ?_
  refine wp_seq_k (fun K15 hK15 => ?_)
  refine wp_seq_k (fun K16 hK16 => ?_)
  refine wp_seq_k (fun K17 hK17 => ?_)
  refine wp_region_lit ?_
  refine pl M10 (y_move (v := .int .i64 (unpE la)) rfl rfl rfl) ?_
  simp only [Act.put, zq1, zq2, zq3]
  rcases Decidable.em (unpE la = 0) with h18 | h18
  · refine pl M10 (y_eql (b := true) rfl rfl rfl rfl (decide_eq_true h18)) ?_
    simp only [Act.put, zq1, zq2, zq3]
    refine pl M10 (y_move (v := .bool true) rfl rfl rfl) ?_
    simp only [Act.put, zq1, zq2, zq3]
    refine pl M10 (y_move (v := .int .i64 (unpE lb)) rfl rfl rfl) ?_
    simp only [Act.put, zq1, zq2, zq3]
    rcases Decidable.em (unpE lb = 0) with h19 | h19
    · refine pl M10 (y_eql (b := true) rfl rfl rfl rfl (decide_eq_true h19)) ?_
      simp only [Act.put, zq1, zq2, zq3]
      refine pl M10 (y_pickT (v := .bool true) rfl rfl rfl rfl) ?_
      simp only [Act.put, zq1, zq2, zq3]
      refine pl M10 (y_assign (v := .bool true) rfl rfl rfl) ?_
      simp only [Act.put, zq1, zq2, zq3]
      refine wpList_nil ?_
      refine hK17 _ _ ?_
      clear hK17
      refine wp_cond_true rfl ?_
      refine wp_exit ?_
      refine hK14 _ _ ?_
      clear hK14
      refine wp_seq_k (fun K20 hK20 => ?_)
      refine wp_seq_k (fun K21 hK21 => ?_)
      refine wp_region_lit ?_
      refine pl M10 (y_loadb (cs := (supC (unpS la))) rfl rfl rfl Try.underlying40 rfl (size_sup _) (fun W hW => hW.get 1 rfl) (List.take_of_length_le (Nat.le_refl _))) ?_
      simp only [Act.put, zq1, zq2, zq3]
      refine pl M10 (y_loadb (cs := (supC (unpS lb))) rfl rfl rfl Try.underlying40 rfl (size_sup _) (fun W hW => hW.get 0 rfl) (List.take_of_length_le (Nat.le_refl _))) ?_
      simp only [Act.put, zq1, zq2, zq3]
      refine pe rfl (fun K hK => ?_)
      refine e_call 98 [.agg ((supC (unpS la))).toArray, .agg ((supC (unpS lb))).toArray] rfl rfl Try.call98 (newer_any (unpS la) (unpS lb) _ (choose_bound (unp_valid h18)) (choose_bound (unp_valid h19))) ?_
      rintro e w22 ⟨rfl, H22⟩
      have M22 : Mem w [] w22 [blk gy 40 (supC (unpS lb)), blk gx 40 (supC (unpS la)), blk gr 40 (supC noSup)] := M10.low H22
      refine ⟨_, rfl, ?_⟩
      refine hK.out _ _ ?_
      clear hK K
      simp only [Act.put, zq1, zq2, zq3]
      refine pl M22 (y_ext (v := .agg ((supC (newerS (unpS la) (unpS lb)))).toArray) rfl rfl rfl rfl) ?_
      simp only [Act.put, zq1, zq2, zq3]
      refine pl M22 (y_ext (v := .int .i64 (newerE (unpS la) (unpS lb))) rfl rfl rfl rfl) ?_
      simp only [Act.put, zq1, zq2, zq3]
      refine pe rfl (fun K hK => ?_)
      refine e_storew M22 2 (cs := (supC (newerS (unpS la) (unpS lb)))) rfl rfl rfl rfl (size_sup _) (sup_all _) rfl (rfl) ?_
      intro w23 (M23 : Mem w [] w23 [blk gy 40 (supC (unpS lb)), blk gx 40 (supC (unpS la)), blk gr 40 (supC (newerS (unpS la) (unpS lb)))])
      clear M22
      refine hK.out _ _ ?_
      clear hK K
      simp only [Act.put, zq1, zq2, zq3]
      refine pl M23 (y_assign (v := .int .i64 (newerE (unpS la) (unpS lb))) rfl rfl rfl) ?_
      simp only [Act.put, zq1, zq2, zq3]
      refine wpList_nil ?_
      refine hK21 _ _ ?_
      clear hK21
      refine wp_ret ?_
      try simp only [Exit.inBlock, Exit.then]
      refine bodyPost_ret (v := .tuple #[.agg ((supC (newerS (unpS la) (unpS lb)))).toArray, .int .i64 (newerE (unpS la) (unpS lb))]) (resc2 _ rfl rfl rfl (M23.get 2 rfl) Try.underlying40 (size_sup _) rfl) rfl ?_
      have e1 : chooseE la lb = newerE (unpS la) (unpS lb) := if_pos ⟨h18, h19⟩
      have e2 : chooseS la lb = newerS (unpS la) (unpS lb) := if_pos ⟨h18, h19⟩
      rw [e1, e2]
      exact ⟨rfl, M23.arr [] (by decide)⟩
    · refine pl M10 (y_eql (b := false) rfl rfl rfl rfl (decide_eq_false h19)) ?_
      simp only [Act.put, zq1, zq2, zq3]
      refine pl M10 (y_pickT (v := .bool false) rfl rfl rfl rfl) ?_
      simp only [Act.put, zq1, zq2, zq3]
      refine pl M10 (y_assign (v := .bool false) rfl rfl rfl) ?_
      simp only [Act.put, zq1, zq2, zq3]
      refine wpList_nil ?_
      refine hK17 _ _ ?_
      clear hK17
      refine wp_cond_false rfl ?_
      refine wp_skip ?_
      refine hK16 _ _ ?_
      clear hK16
      refine wp_seq_k (fun K24 hK24 => ?_)
      refine wp_seq_k (fun K25 hK25 => ?_)
      refine wp_region_lit ?_
      refine pl M10 (y_move (v := .slice (some ⟨rb, ob, none⟩) 256 cb) rfl rfl rfl) ?_
      simp only [Act.put, zq1, zq2, zq3]
      refine pe rfl (fun K hK => ?_)
      refine e_call 99 [.slice (some ⟨rb, ob, none⟩) 256 cb] rfl rfl Try.call99 (empty_any (some ⟨rb, ob, none⟩) 256 cb lb _ (M10.row hrb (by simp)) hb (by unfold maxLen; omega)) ?_
      rintro e w26 ⟨rfl, H26⟩
      have M26 : Mem w [] w26 [blk gy 40 (supC (unpS lb)), blk gx 40 (supC (unpS la)), blk gr 40 (supC noSup)] := M10.same H26
      rcases Bool.eq_false_or_eq_true (emptyB lb) with h27 | h27
      · rw [h27]
        refine ⟨_, rfl, ?_⟩
        refine hK.out _ _ ?_
        clear hK K
        simp only [Act.put, zq1, zq2, zq3]
        refine pl M26 (y_not rfl rfl rfl rfl) ?_
        simp only [Act.put, zq1, zq2, zq3]
        refine pl M26 (y_assign (v := .bool false) rfl rfl rfl) ?_
        simp only [Act.put, zq1, zq2, zq3]
        refine wpList_nil ?_
        refine hK25 _ _ ?_
        clear hK25
        refine wp_cond_false rfl ?_
        refine wp_skip ?_
        refine hK24 _ _ ?_
        clear hK24
        refine wp_seq_k (fun K28 hK28 => ?_)
        refine wp_seq_k (fun K29 hK29 => ?_)
        refine wp_region_lit ?_
        refine pl M26 (y_move (v := .int .i64 (unpE la)) rfl rfl rfl) ?_
        simp only [Act.put, zq1, zq2, zq3]
        refine pl M26 (y_eql (b := true) rfl rfl rfl rfl (decide_eq_true h18)) ?_
        simp only [Act.put, zq1, zq2, zq3]
        refine pl M26 (y_move (v := .bool true) rfl rfl rfl) ?_
        simp only [Act.put, zq1, zq2, zq3]
        refine pl M26 (y_fa (r := 1) rfl rfl rfl Try.underlying40 rfl Try.sizeOf3 rfl) ?_
        simp only [Act.put, zq1, zq2, zq3]
        refine pl M26 (y_load (v := .int .i64 ((unpS la).gen)) rfl rfl rfl Try.isAgg3 (fun W hW => hW.get 1 rfl) (rfl)) ?_
        simp only [Act.put, zq1, zq2, zq3]
        rcases Decidable.em ((unpS la).gen = 0) with h30 | h30
        · refine pl M26 (y_eql (b := true) rfl rfl rfl rfl (decide_eq_true h30)) ?_
          simp only [Act.put, zq1, zq2, zq3]
          refine pl M26 (y_pickT (v := .bool true) rfl rfl rfl rfl) ?_
          simp only [Act.put, zq1, zq2, zq3]
          refine pl M26 (y_assign (v := .bool true) rfl rfl rfl) ?_
          simp only [Act.put, zq1, zq2, zq3]
          refine wpList_nil ?_
          refine hK29 _ _ ?_
          clear hK29
          refine wp_cond_true rfl ?_
          refine wp_exit ?_
          refine hK12 _ _ ?_
          clear hK12
          refine wp_seq_k (fun K31 hK31 => ?_)
          refine wp_seq_k (fun K32 hK32 => ?_)
          refine wp_region_lit ?_
          refine pl M26 (y_build (ps := []) (pv := []) (cs := (supC noSup)) rfl rfl rfl (by kernel_rfl)) ?_
          simp only [Act.put, zq1, zq2, zq3]
          refine pe rfl (fun K hK => ?_)
          refine e_storew M26 2 (cs := (supC noSup)) rfl rfl rfl rfl (size_sup _) (sup_all _) rfl (rfl) ?_
          intro w33 (M33 : Mem w [] w33 [blk gy 40 (supC (unpS lb)), blk gx 40 (supC (unpS la)), blk gr 40 (supC noSup)])
          clear M26
          refine hK.out _ _ ?_
          clear hK K
          simp only [Act.put, zq1, zq2, zq3]
          refine pl M33 (y_assign (v := .int .i64 55) rfl rfl rfl) ?_
          simp only [Act.put, zq1, zq2, zq3]
          refine wpList_nil ?_
          refine hK32 _ _ ?_
          clear hK32
          refine wp_ret ?_
          try simp only [Exit.inBlock, Exit.then]
          refine bodyPost_ret (v := .tuple #[.agg ((supC noSup)).toArray, .int .i64 55]) (resc2 _ rfl rfl rfl (M33.get 2 rfl) Try.underlying40 (size_sup _) rfl) rfl ?_
          have e1 : chooseE la lb = 55 := by unfold chooseE; rw [if_neg (fun h => h19 h.2), if_neg (by rw [h27]; decide), if_pos (Or.inl ⟨h18, h30⟩)]
          have e2 : chooseS la lb = noSup := if_neg (fun h => h19 h.2)
          rw [e1, e2]
          exact ⟨rfl, M33.arr [] (by decide)⟩
        · refine pl M26 (y_eql (b := false) rfl rfl rfl rfl (decide_eq_false h30)) ?_
          simp only [Act.put, zq1, zq2, zq3]
          refine pl M26 (y_pickT (v := .bool false) rfl rfl rfl rfl) ?_
          simp only [Act.put, zq1, zq2, zq3]
          refine pl M26 (y_assign (v := .bool false) rfl rfl rfl) ?_
          simp only [Act.put, zq1, zq2, zq3]
          refine wpList_nil ?_
          refine hK29 _ _ ?_
          clear hK29
          refine wp_cond_false rfl ?_
          refine wp_skip ?_
          refine hK28 _ _ ?_
          clear hK28
          refine wp_seq_k (fun K34 hK34 => ?_)
          refine wp_region_lit ?_
          refine pl M26 (y_move (v := .slice (some ⟨ra, oa, none⟩) 256 ca) rfl rfl rfl) ?_
          simp only [Act.put, zq1, zq2, zq3]
          refine pe rfl (fun K hK => ?_)
          refine e_call 99 [.slice (some ⟨ra, oa, none⟩) 256 ca] rfl rfl Try.call99 (empty_any (some ⟨ra, oa, none⟩) 256 ca la _ (M26.row hra (by simp)) ha (by unfold maxLen; omega)) ?_
          rintro e w35 ⟨rfl, H35⟩
          have M35 : Mem w [] w35 [blk gy 40 (supC (unpS lb)), blk gx 40 (supC (unpS la)), blk gr 40 (supC noSup)] := M26.same H35
          rcases Bool.eq_false_or_eq_true (emptyB la) with h36 | h36
          · rw [h36]
            refine ⟨_, rfl, ?_⟩
            refine hK.out _ _ ?_
            clear hK K
            simp only [Act.put, zq1, zq2, zq3]
            refine pl M35 (y_assign (v := .bool true) rfl rfl rfl) ?_
            simp only [Act.put, zq1, zq2, zq3]
            refine wpList_nil ?_
            refine hK34 _ _ ?_
            clear hK34
            refine wp_cond_true rfl ?_
            refine wp_exit ?_
            refine hK12 _ _ ?_
            clear hK12
            refine wp_seq_k (fun K37 hK37 => ?_)
            refine wp_seq_k (fun K38 hK38 => ?_)
            refine wp_region_lit ?_
            refine pl M35 (y_build (ps := []) (pv := []) (cs := (supC noSup)) rfl rfl rfl (by kernel_rfl)) ?_
            simp only [Act.put, zq1, zq2, zq3]
            refine pe rfl (fun K hK => ?_)
            refine e_storew M35 2 (cs := (supC noSup)) rfl rfl rfl rfl (size_sup _) (sup_all _) rfl (rfl) ?_
            intro w39 (M39 : Mem w [] w39 [blk gy 40 (supC (unpS lb)), blk gx 40 (supC (unpS la)), blk gr 40 (supC noSup)])
            clear M35
            refine hK.out _ _ ?_
            clear hK K
            simp only [Act.put, zq1, zq2, zq3]
            refine pl M39 (y_assign (v := .int .i64 55) rfl rfl rfl) ?_
            simp only [Act.put, zq1, zq2, zq3]
            refine wpList_nil ?_
            refine hK38 _ _ ?_
            clear hK38
            refine wp_ret ?_
            try simp only [Exit.inBlock, Exit.then]
            refine bodyPost_ret (v := .tuple #[.agg ((supC noSup)).toArray, .int .i64 55]) (resc2 _ rfl rfl rfl (M39.get 2 rfl) Try.underlying40 (size_sup _) rfl) rfl ?_
            have e1 : chooseE la lb = 55 := by unfold chooseE; rw [if_neg (fun h => h19 h.2), if_neg (by rw [h27]; decide), if_pos (Or.inr h36)]
            have e2 : chooseS la lb = noSup := if_neg (fun h => h19 h.2)
            rw [e1, e2]
            exact ⟨rfl, M39.arr [] (by decide)⟩
          · rw [h36]
            refine ⟨_, rfl, ?_⟩
            refine hK.out _ _ ?_
            clear hK K
            simp only [Act.put, zq1, zq2, zq3]
            refine pl M35 (y_assign (v := .bool false) rfl rfl rfl) ?_
            simp only [Act.put, zq1, zq2, zq3]
            refine wpList_nil ?_
            refine hK34 _ _ ?_
            clear hK34
            refine wp_cond_false rfl ?_
            refine wp_skip ?_
            refine hK15 _ _ ?_
            clear hK15
            refine wp_exit ?_
            refine hK11 _ _ ?_
            clear hK11
            refine wp_seq_k (fun K40 hK40 => ?_)
            refine wp_region_lit ?_
            refine pl M35 (y_build (ps := []) (pv := []) (cs := (supC noSup)) rfl rfl rfl (by kernel_rfl)) ?_
            simp only [Act.put, zq1, zq2, zq3]
            refine pe rfl (fun K hK => ?_)
            refine e_storew M35 2 (cs := (supC noSup)) rfl rfl rfl rfl (size_sup _) (sup_all _) rfl (rfl) ?_
            intro w41 (M41 : Mem w [] w41 [blk gy 40 (supC (unpS lb)), blk gx 40 (supC (unpS la)), blk gr 40 (supC noSup)])
            clear M35
            refine hK.out _ _ ?_
            clear hK K
            simp only [Act.put, zq1, zq2, zq3]
            refine pl M41 (y_assign (v := .int .i64 4) rfl rfl rfl) ?_
            simp only [Act.put, zq1, zq2, zq3]
            refine wpList_nil ?_
            refine hK40 _ _ ?_
            clear hK40
            refine wp_ret ?_
            try simp only [Exit.inBlock, Exit.then]
            refine bodyPost_ret (v := .tuple #[.agg ((supC noSup)).toArray, .int .i64 4]) (resc2 _ rfl rfl rfl (M41.get 2 rfl) Try.underlying40 (size_sup _) rfl) rfl ?_
            have e1 : chooseE la lb = 4 := by unfold chooseE; rw [if_neg (fun h => h19 h.2), if_neg (by rw [h27]; decide), if_neg (fun h => h.elim (fun h => h30 h.2) (fun h => by rw [h36] at h; cases h))]
            have e2 : chooseS la lb = noSup := if_neg (fun h => h19 h.2)
            rw [e1, e2]
            exact ⟨rfl, M41.arr [] (by decide)⟩
      · rw [h27]
        refine ⟨_, rfl, ?_⟩
        refine hK.out _ _ ?_
        clear hK K
        simp only [Act.put, zq1, zq2, zq3]
        refine pl M26 (y_not rfl rfl rfl rfl) ?_
        simp only [Act.put, zq1, zq2, zq3]
        refine pl M26 (y_assign (v := .bool true) rfl rfl rfl) ?_
        simp only [Act.put, zq1, zq2, zq3]
        refine wpList_nil ?_
        refine hK25 _ _ ?_
        clear hK25
        refine wp_cond_true rfl ?_
        refine wp_exit ?_
        refine hK13 _ _ ?_
        clear hK13
        refine wp_seq_k (fun K42 hK42 => ?_)
        refine wp_seq_k (fun K43 hK43 => ?_)
        refine wp_region_lit ?_
        refine pl M26 (y_build (ps := []) (pv := []) (cs := (supC noSup)) rfl rfl rfl (by kernel_rfl)) ?_
        simp only [Act.put, zq1, zq2, zq3]
        refine pe rfl (fun K hK => ?_)
        refine e_storew M26 2 (cs := (supC noSup)) rfl rfl rfl rfl (size_sup _) (sup_all _) rfl (rfl) ?_
        intro w44 (M44 : Mem w [] w44 [blk gy 40 (supC (unpS lb)), blk gx 40 (supC (unpS la)), blk gr 40 (supC noSup)])
        clear M26
        refine hK.out _ _ ?_
        clear hK K
        simp only [Act.put, zq1, zq2, zq3]
        refine pl M44 (y_assign (v := .int .i64 4) rfl rfl rfl) ?_
        simp only [Act.put, zq1, zq2, zq3]
        refine wpList_nil ?_
        refine hK43 _ _ ?_
        clear hK43
        refine wp_ret ?_
        try simp only [Exit.inBlock, Exit.then]
        refine bodyPost_ret (v := .tuple #[.agg ((supC noSup)).toArray, .int .i64 4]) (resc2 _ rfl rfl rfl (M44.get 2 rfl) Try.underlying40 (size_sup _) rfl) rfl ?_
        have e1 : chooseE la lb = 4 := by unfold chooseE; rw [if_neg (fun h => h19 h.2), if_pos h27]
        have e2 : chooseS la lb = noSup := if_neg (fun h => h19 h.2)
        rw [e1, e2]
        exact ⟨rfl, M44.arr [] (by decide)⟩
  · refine pl M10 (y_eql (b := false) rfl rfl rfl rfl (decide_eq_false h18)) ?_
    simp only [Act.put, zq1, zq2, zq3]
    refine pl M10 (y_move (v := .bool false) rfl rfl rfl) ?_
    simp only [Act.put, zq1, zq2, zq3]
    with_reducible refine pskip ?_ ?_
    · rfl
    simp only [Act.put, zq1, zq2, zq3]
    with_reducible refine pskip ?_ ?_
    · rfl
    simp only [Act.put, zq1, zq2, zq3]
    refine pl M10 (y_pickF (v := .bool false) rfl rfl rfl rfl) ?_
    simp only [Act.put, zq1, zq2, zq3]
    refine pl M10 (y_assign (v := .bool false) rfl rfl rfl) ?_
    simp only [Act.put, zq1, zq2, zq3]
    refine wpList_nil ?_
    refine hK17 _ _ ?_
    clear hK17
    refine wp_cond_false rfl ?_
    refine wp_skip ?_
    refine hK16 _ _ ?_
    clear hK16
    refine wp_seq_k (fun K45 hK45 => ?_)
    refine wp_seq_k (fun K46 hK46 => ?_)
    refine wp_region_lit ?_
    refine pl M10 (y_move (v := .slice (some ⟨rb, ob, none⟩) 256 cb) rfl rfl rfl) ?_
    simp only [Act.put, zq1, zq2, zq3]
    refine pe rfl (fun K hK => ?_)
    refine e_call 99 [.slice (some ⟨rb, ob, none⟩) 256 cb] rfl rfl Try.call99 (empty_any (some ⟨rb, ob, none⟩) 256 cb lb _ (M10.row hrb (by simp)) hb (by unfold maxLen; omega)) ?_
    rintro e w47 ⟨rfl, H47⟩
    have M47 : Mem w [] w47 [blk gy 40 (supC (unpS lb)), blk gx 40 (supC (unpS la)), blk gr 40 (supC noSup)] := M10.same H47
    rcases Bool.eq_false_or_eq_true (emptyB lb) with h48 | h48
    · rw [h48]
      refine ⟨_, rfl, ?_⟩
      refine hK.out _ _ ?_
      clear hK K
      simp only [Act.put, zq1, zq2, zq3]
      refine pl M47 (y_not rfl rfl rfl rfl) ?_
      simp only [Act.put, zq1, zq2, zq3]
      refine pl M47 (y_assign (v := .bool false) rfl rfl rfl) ?_
      simp only [Act.put, zq1, zq2, zq3]
      refine wpList_nil ?_
      refine hK46 _ _ ?_
      clear hK46
      refine wp_cond_false rfl ?_
      refine wp_skip ?_
      refine hK45 _ _ ?_
      clear hK45
      refine wp_seq_k (fun K49 hK49 => ?_)
      refine wp_seq_k (fun K50 hK50 => ?_)
      refine wp_region_lit ?_
      refine pl M47 (y_move (v := .int .i64 (unpE la)) rfl rfl rfl) ?_
      simp only [Act.put, zq1, zq2, zq3]
      refine pl M47 (y_eql (b := false) rfl rfl rfl rfl (decide_eq_false h18)) ?_
      simp only [Act.put, zq1, zq2, zq3]
      refine pl M47 (y_move (v := .bool false) rfl rfl rfl) ?_
      simp only [Act.put, zq1, zq2, zq3]
      with_reducible refine pskip ?_ ?_
      · rfl
      simp only [Act.put, zq1, zq2, zq3]
      with_reducible refine pskip ?_ ?_
      · rfl
      simp only [Act.put, zq1, zq2, zq3]
      with_reducible refine pskip ?_ ?_
      · rfl
      simp only [Act.put, zq1, zq2, zq3]
      refine pl M47 (y_pickF (v := .bool false) rfl rfl rfl rfl) ?_
      simp only [Act.put, zq1, zq2, zq3]
      refine pl M47 (y_assign (v := .bool false) rfl rfl rfl) ?_
      simp only [Act.put, zq1, zq2, zq3]
      refine wpList_nil ?_
      refine hK50 _ _ ?_
      clear hK50
      refine wp_cond_false rfl ?_
      refine wp_skip ?_
      refine hK49 _ _ ?_
      clear hK49
      refine wp_seq_k (fun K51 hK51 => ?_)
      refine wp_region_lit ?_
      refine pl M47 (y_move (v := .slice (some ⟨ra, oa, none⟩) 256 ca) rfl rfl rfl) ?_
      simp only [Act.put, zq1, zq2, zq3]
      refine pe rfl (fun K hK => ?_)
      refine e_call 99 [.slice (some ⟨ra, oa, none⟩) 256 ca] rfl rfl Try.call99 (empty_any (some ⟨ra, oa, none⟩) 256 ca la _ (M47.row hra (by simp)) ha (by unfold maxLen; omega)) ?_
      rintro e w52 ⟨rfl, H52⟩
      have M52 : Mem w [] w52 [blk gy 40 (supC (unpS lb)), blk gx 40 (supC (unpS la)), blk gr 40 (supC noSup)] := M47.same H52
      rcases Bool.eq_false_or_eq_true (emptyB la) with h53 | h53
      · rw [h53]
        refine ⟨_, rfl, ?_⟩
        refine hK.out _ _ ?_
        clear hK K
        simp only [Act.put, zq1, zq2, zq3]
        refine pl M52 (y_assign (v := .bool true) rfl rfl rfl) ?_
        simp only [Act.put, zq1, zq2, zq3]
        refine wpList_nil ?_
        refine hK51 _ _ ?_
        clear hK51
        refine wp_cond_true rfl ?_
        refine wp_exit ?_
        refine hK12 _ _ ?_
        clear hK12
        refine wp_seq_k (fun K54 hK54 => ?_)
        refine wp_seq_k (fun K55 hK55 => ?_)
        refine wp_region_lit ?_
        refine pl M52 (y_build (ps := []) (pv := []) (cs := (supC noSup)) rfl rfl rfl (by kernel_rfl)) ?_
        simp only [Act.put, zq1, zq2, zq3]
        refine pe rfl (fun K hK => ?_)
        refine e_storew M52 2 (cs := (supC noSup)) rfl rfl rfl rfl (size_sup _) (sup_all _) rfl (rfl) ?_
        intro w56 (M56 : Mem w [] w56 [blk gy 40 (supC (unpS lb)), blk gx 40 (supC (unpS la)), blk gr 40 (supC noSup)])
        clear M52
        refine hK.out _ _ ?_
        clear hK K
        simp only [Act.put, zq1, zq2, zq3]
        refine pl M56 (y_assign (v := .int .i64 55) rfl rfl rfl) ?_
        simp only [Act.put, zq1, zq2, zq3]
        refine wpList_nil ?_
        refine hK55 _ _ ?_
        clear hK55
        refine wp_ret ?_
        try simp only [Exit.inBlock, Exit.then]
        refine bodyPost_ret (v := .tuple #[.agg ((supC noSup)).toArray, .int .i64 55]) (resc2 _ rfl rfl rfl (M56.get 2 rfl) Try.underlying40 (size_sup _) rfl) rfl ?_
        have e1 : chooseE la lb = 55 := by unfold chooseE; rw [if_neg (fun h => h18 h.1), if_neg (by rw [h48]; decide), if_pos (Or.inr h53)]
        have e2 : chooseS la lb = noSup := if_neg (fun h => h18 h.1)
        rw [e1, e2]
        exact ⟨rfl, M56.arr [] (by decide)⟩
      · rw [h53]
        refine ⟨_, rfl, ?_⟩
        refine hK.out _ _ ?_
        clear hK K
        simp only [Act.put, zq1, zq2, zq3]
        refine pl M52 (y_assign (v := .bool false) rfl rfl rfl) ?_
        simp only [Act.put, zq1, zq2, zq3]
        refine wpList_nil ?_
        refine hK51 _ _ ?_
        clear hK51
        refine wp_cond_false rfl ?_
        refine wp_skip ?_
        refine hK15 _ _ ?_
        clear hK15
        refine wp_exit ?_
        refine hK11 _ _ ?_
        clear hK11
        refine wp_seq_k (fun K57 hK57 => ?_)
        refine wp_region_lit ?_
        refine pl M52 (y_build (ps := []) (pv := []) (cs := (supC noSup)) rfl rfl rfl (by kernel_rfl)) ?_
        simp only [Act.put, zq1, zq2, zq3]
        refine pe rfl (fun K hK => ?_)
        refine e_storew M52 2 (cs := (supC noSup)) rfl rfl rfl rfl (size_sup _) (sup_all _) rfl (rfl) ?_
        intro w58 (M58 : Mem w [] w58 [blk gy 40 (supC (unpS lb)), blk gx 40 (supC (unpS la)), blk gr 40 (supC noSup)])
        clear M52
        refine hK.out _ _ ?_
        clear hK K
        simp only [Act.put, zq1, zq2, zq3]
        refine pl M58 (y_assign (v := .int .i64 4) rfl rfl rfl) ?_
        simp only [Act.put, zq1, zq2, zq3]
        refine wpList_nil ?_
        refine hK57 _ _ ?_
        clear hK57
        refine wp_ret ?_
        try simp only [Exit.inBlock, Exit.then]
        refine bodyPost_ret (v := .tuple #[.agg ((supC noSup)).toArray, .int .i64 4]) (resc2 _ rfl rfl rfl (M58.get 2 rfl) Try.underlying40 (size_sup _) rfl) rfl ?_
        have e1 : chooseE la lb = 4 := by unfold chooseE; rw [if_neg (fun h => h18 h.1), if_neg (by rw [h48]; decide), if_neg (fun h => h.elim (fun h => h18 h.1) (fun h => by rw [h53] at h; cases h))]
        have e2 : chooseS la lb = noSup := if_neg (fun h => h18 h.1)
        rw [e1, e2]
        exact ⟨rfl, M58.arr [] (by decide)⟩
    · rw [h48]
      refine ⟨_, rfl, ?_⟩
      refine hK.out _ _ ?_
      clear hK K
      simp only [Act.put, zq1, zq2, zq3]
      refine pl M47 (y_not rfl rfl rfl rfl) ?_
      simp only [Act.put, zq1, zq2, zq3]
      refine pl M47 (y_assign (v := .bool true) rfl rfl rfl) ?_
      simp only [Act.put, zq1, zq2, zq3]
      refine wpList_nil ?_
      refine hK46 _ _ ?_
      clear hK46
      refine wp_cond_true rfl ?_
      refine wp_exit ?_
      refine hK13 _ _ ?_
      clear hK13
      refine wp_seq_k (fun K59 hK59 => ?_)
      refine wp_seq_k (fun K60 hK60 => ?_)
      refine wp_region_lit ?_
      refine pl M47 (y_build (ps := []) (pv := []) (cs := (supC noSup)) rfl rfl rfl (by kernel_rfl)) ?_
      simp only [Act.put, zq1, zq2, zq3]
      refine pe rfl (fun K hK => ?_)
      refine e_storew M47 2 (cs := (supC noSup)) rfl rfl rfl rfl (size_sup _) (sup_all _) rfl (rfl) ?_
      intro w61 (M61 : Mem w [] w61 [blk gy 40 (supC (unpS lb)), blk gx 40 (supC (unpS la)), blk gr 40 (supC noSup)])
      clear M47
      refine hK.out _ _ ?_
      clear hK K
      simp only [Act.put, zq1, zq2, zq3]
      refine pl M61 (y_assign (v := .int .i64 4) rfl rfl rfl) ?_
      simp only [Act.put, zq1, zq2, zq3]
      refine wpList_nil ?_
      refine hK60 _ _ ?_
      clear hK60
      refine wp_ret ?_
      try simp only [Exit.inBlock, Exit.then]
      refine bodyPost_ret (v := .tuple #[.agg ((supC noSup)).toArray, .int .i64 4]) (resc2 _ rfl rfl rfl (M61.get 2 rfl) Try.underlying40 (size_sup _) rfl) rfl ?_
      have e1 : chooseE la lb = 4 := by unfold chooseE; rw [if_neg (fun h => h18 h.1), if_pos h48]
      have e2 : chooseS la lb = noSup := if_neg (fun h => h18 h.1)
      rw [e1, e2]
      exact ⟨rfl, M61.arr [] (by decide)⟩
end Go.Proofs.Ytmmkgkbjneebkaa

/- The program's disk: Load. -/
namespace Go.Proofs.Ytmmkgkbjneebkaa
set_option linter.unusedSectionVars false
open Go Go.RowKit
set_option linter.unusedVariables false
set_option linter.unusedSimpArgs false
end Go.Proofs.Ytmmkgkbjneebkaa

/- The file: slots. -/
namespace Go.Proofs.Ytmmkgkbjneebkaa
set_option linter.unusedSectionVars false
open Go Go.RowKit
set_option linter.unusedVariables false
set_option linter.unusedSimpArgs false
theorem readD_ok {D : DV} (h : DOk D) (p : Int) : DOk (readD D p) := by
  unfold readD
  split
  · exact h
  · split
    · exact ⟨h.lo, h.hi, h.len, h.qs, h.arm, h.ep⟩
    · exact h
def slotsD (D : DV) : DV := if D.dead then D else readD (readD D 0) 1
def slotsE (D : DV) : Int := if D.dead then 2 else chooseE (D.cur 0) (D.cur 1)
def slotsS (D : DV) : SupV := if D.dead then noSup else chooseS (D.cur 0) (D.cur 1)
theorem read_alive {D : DV} (hd : D.dead = false) {n : Nat} (hn : n < D.pages.length) : readE D n = 0 ∧ readL D n = D.cur n ∧ (readD D n).dead = false ∧ (readD D n).pages = D.pages ∧ (readD D n).q = D.q := by
  have hd' : ¬ D.dead = true := by rw [hd]; decide
  have hh : D.has n := ⟨by omega, by omega⟩
  refine ⟨by unfold readE; rw [if_neg hd', if_pos hh], by unfold readL; rw [if_neg hd', if_pos hh]; rfl, ?_, ?_, ?_⟩ <;> unfold readD <;> rw [if_neg hd', if_pos hh]
  exact hd
theorem lst_slice {e : TypeId} {v : Value} {n : Nat} {xs : List Value} {w : World} (h : (lst e 1 v n xs).holds w) (hn : 0 < n) : ∃ g c, v = .slice (some ⟨g, 0, none⟩) n c ∧ n ≤ c ∧ c ≤ 9223372036854775807 := by
  rcases lst_at h with ⟨_, h0, _⟩ | ⟨g, c, rfl, h1, h2⟩
  · omega
  · exact ⟨g, c, rfl, h1, by unfold maxLen at h2; omega⟩
set_option maxRecDepth 100000 in
set_option maxHeartbeats 4000000 in
theorem slots_dead {D : DV} {p pg mb : Nat} {qv : Value} {w : World} (hM : Mem w (foots [disk D p pg mb qv]) w [disk D p pg mb qv]) (hd : D.dead = true) : Calls Try.prog 46 #[.pointer (some ⟨p, 0, none⟩)] w fun e w' => e = .returned (.tuple #[.agg (supC (slotsS D)).toArray, .int .i64 (slotsE D)]) ∧ Mem w (foots [disk D p pg mb qv]) w' [disk (slotsD D) p pg mb qv] := by
  obtain ⟨hok, M⟩ := disk_open hM
  clear hM
  go_enter Try.func46, Try.ntmps46
  refine wp_seq_k (fun K1 hK1 => ?_)
  refine wp_region_lit ?_
  refine pe rfl (fun K hK => ?_)
  refine e_alloc M (supC noSup) rfl zero_sup ?_
  intro gr w2 (M2 : Mem w _ w2 [blk gr 40 (supC noSup), blk p 76 (dC D pg mb qv), blk pg 127 (pagesC D.pages), lst 129 257 qv D.q.length (qC D.q), mapq mb D.q])
  clear M
  refine hK.out _ _ ?_
  clear hK K
  simp only [Act.put, zq1, zq2, zq3]
  refine pl M2 (y_assign (v := .int .i64 0) rfl rfl rfl) ?_
  simp only [Act.put, zq1, zq2, zq3]
  refine wpList_nil ?_
  refine hK1 _ _ ?_
  clear hK1
  refine wp_seq_k (fun K3 hK3 => ?_)
  refine wp_seq_k (fun K4 hK4 => ?_)
  refine wp_region_lit ?_
  refine pl M2 (y_move (v := .pointer (some ⟨p, 0, none⟩)) rfl rfl rfl) ?_
  simp only [Act.put, zq1, zq2, zq3]
  have M5 : Mem w _ w2 [blk p 76 (dC D pg mb qv), blk pg 127 (pagesC D.pages), lst 129 257 qv D.q.length (qC D.q), mapq mb D.q, blk gr 40 (supC noSup)] := M2.arr [1, 2, 3, 4, 0] (by decide)
  clear M2
  refine pe rfl (fun K hK => ?_)
  refine e_call 72 [.pointer (some ⟨p, 0, none⟩)] rfl rfl Try.call72 (power_any (Mem.here (L := [disk (D) p pg mb (qv)]) (R := [blk gr 40 (supC noSup)]) (disk_close (D := D) (R := [blk gr 40 (supC noSup)]) hok M5)) ) ?_
  rintro e w6 ⟨rfl, H6⟩
  have M6 : Mem w _ w6 [blk p 76 (dC D pg mb qv), blk pg 127 (pagesC D.pages), lst 129 257 qv D.q.length (qC D.q), mapq mb D.q, blk gr 40 (supC noSup)] := (disk_open (Mem.frame (Pre := [disk (D) p pg mb (qv)]) (Post := [disk (D) p pg mb (qv)]) (R := [blk gr 40 (supC noSup)]) (disk_close (D := D) (R := [blk gr 40 (supC noSup)]) hok M5) H6)).2
  rw [(show (!D.dead) = false by rw [hd]; rfl)]
  refine ⟨_, rfl, ?_⟩
  refine hK.out _ _ ?_
  clear hK K
  simp only [Act.put, zq1, zq2, zq3]
  refine pl M6 (y_not rfl rfl rfl rfl) ?_
  simp only [Act.put, zq1, zq2, zq3]
  refine wpList_nil ?_
  refine hK4 _ _ ?_
  clear hK4
  refine wp_cond_true rfl ?_
  refine wp_seq_k (fun K7 hK7 => ?_)
  refine wp_region_lit ?_
  refine pl M6 (y_build (ps := []) (pv := []) (cs := (supC noSup)) rfl rfl rfl (by kernel_rfl)) ?_
  simp only [Act.put, zq1, zq2, zq3]
  refine pe rfl (fun K hK => ?_)
  refine e_storew M6 4 (cs := (supC noSup)) rfl rfl rfl rfl (size_sup _) (sup_all _) rfl (rfl) ?_
  intro w8 (M8 : Mem w _ w8 [blk p 76 (dC D pg mb qv), blk pg 127 (pagesC D.pages), lst 129 257 qv D.q.length (qC D.q), mapq mb D.q, blk gr 40 (supC noSup)])
  clear M6
  refine hK.out _ _ ?_
  clear hK K
  simp only [Act.put, zq1, zq2, zq3]
  refine pl M8 (y_assign (v := .int .i64 2) rfl rfl rfl) ?_
  simp only [Act.put, zq1, zq2, zq3]
  refine wpList_nil ?_
  refine hK7 _ _ ?_
  clear hK7
  refine wp_ret ?_
  try simp only [Exit.inBlock, Exit.then]
  refine bodyPost_ret (v := .tuple #[.agg ((supC noSup)).toArray, .int .i64 2]) (resc2 _ rfl rfl rfl (M8.get 4 rfl) Try.underlying40 (size_sup _) rfl) rfl ?_
  have e1 : slotsE D = 2 := if_pos hd
  have e2 : slotsD D = D := if_pos hd
  have e3 : slotsS D = noSup := if_pos hd
  rw [e1, e2, e3]
  exact ⟨rfl, disk_close hok (M8.arr [0, 1, 2, 3] (by decide))⟩
set_option maxRecDepth 100000 in
set_option maxHeartbeats 4000000 in
theorem slots_ok {D : DV} {p pg mb : Nat} {qv : Value} {w : World} (hM : Mem w (foots [disk D p pg mb qv]) w [disk D p pg mb qv]) (hd : D.dead = false) : Calls Try.prog 46 #[.pointer (some ⟨p, 0, none⟩)] w fun e w' => e = .returned (.tuple #[.agg (supC (slotsS D)).toArray, .int .i64 (slotsE D)]) ∧ Mem w (foots [disk D p pg mb qv]) w' [disk (slotsD D) p pg mb qv] := by
  obtain ⟨hok, M⟩ := disk_open hM
  clear hM
  have hlo := hok.lo
  have r0 := read_alive hd (n := 0) (by omega)
  have r1 := read_alive (D := readD D 0) r0.2.2.1 (n := 1) (by rw [show readD D 0 = readD D ((0 : Nat) : Int) from rfl, r0.2.2.2.1]; omega)
  have hcur : (readD D 0).cur 1 = D.cur 1 := by
    unfold DV.cur DV.pg
    rw [show readD D 0 = readD D ((0 : Nat) : Int) from rfl, r0.2.2.2.1, r0.2.2.2.2]
  have l0 : (D.cur 0).length = 256 := cur_len hok (by omega)
  have l1 : (D.cur 1).length = 256 := cur_len hok (by omega)
  have r0 : readE D 0 = 0 ∧ readL D 0 = D.cur 0 := ⟨r0.1, r0.2.1⟩
  have r1 : readE (readD D 0) 1 = 0 ∧ readL (readD D 0) 1 = (readD D 0).cur 1 := ⟨r1.1, r1.2.1⟩
  go_enter Try.func46, Try.ntmps46
  refine wp_seq_k (fun K1 hK1 => ?_)
  refine wp_region_lit ?_
  refine pe rfl (fun K hK => ?_)
  refine e_alloc M (supC noSup) rfl zero_sup ?_
  intro gr w2 (M2 : Mem w _ w2 [blk gr 40 (supC noSup), blk p 76 (dC D pg mb qv), blk pg 127 (pagesC D.pages), lst 129 257 qv D.q.length (qC D.q), mapq mb D.q])
  clear M
  refine hK.out _ _ ?_
  clear hK K
  simp only [Act.put, zq1, zq2, zq3]
  refine pl M2 (y_assign (v := .int .i64 0) rfl rfl rfl) ?_
  simp only [Act.put, zq1, zq2, zq3]
  refine wpList_nil ?_
  refine hK1 _ _ ?_
  clear hK1
  refine wp_seq_k (fun K3 hK3 => ?_)
  refine wp_seq_k (fun K4 hK4 => ?_)
  refine wp_region_lit ?_
  refine pl M2 (y_move (v := .pointer (some ⟨p, 0, none⟩)) rfl rfl rfl) ?_
  simp only [Act.put, zq1, zq2, zq3]
  have M5 : Mem w _ w2 [blk p 76 (dC D pg mb qv), blk pg 127 (pagesC D.pages), lst 129 257 qv D.q.length (qC D.q), mapq mb D.q, blk gr 40 (supC noSup)] := M2.arr [1, 2, 3, 4, 0] (by decide)
  clear M2
  refine pe rfl (fun K hK => ?_)
  refine e_call 72 [.pointer (some ⟨p, 0, none⟩)] rfl rfl Try.call72 (power_any (Mem.here (L := [disk (D) p pg mb (qv)]) (R := [blk gr 40 (supC noSup)]) (disk_close (D := D) (R := [blk gr 40 (supC noSup)]) hok M5)) ) ?_
  rintro e w6 ⟨rfl, H6⟩
  have M6 : Mem w _ w6 [blk p 76 (dC D pg mb qv), blk pg 127 (pagesC D.pages), lst 129 257 qv D.q.length (qC D.q), mapq mb D.q, blk gr 40 (supC noSup)] := (disk_open (Mem.frame (Pre := [disk (D) p pg mb (qv)]) (Post := [disk (D) p pg mb (qv)]) (R := [blk gr 40 (supC noSup)]) (disk_close (D := D) (R := [blk gr 40 (supC noSup)]) hok M5) H6)).2
  rw [(show (!D.dead) = true by rw [hd]; rfl)]
  refine ⟨_, rfl, ?_⟩
  refine hK.out _ _ ?_
  clear hK K
  simp only [Act.put, zq1, zq2, zq3]
  refine pl M6 (y_not rfl rfl rfl rfl) ?_
  simp only [Act.put, zq1, zq2, zq3]
  refine wpList_nil ?_
  refine hK4 _ _ ?_
  clear hK4
  refine wp_cond_false rfl ?_
  refine wp_skip ?_
  refine hK3 _ _ ?_
  clear hK3
  refine wp_seq_k (fun K7 hK7 => ?_)
  refine wp_region_lit ?_
  refine pl M6 (y_move (v := .pointer (some ⟨p, 0, none⟩)) rfl rfl rfl) ?_
  simp only [Act.put, zq1, zq2, zq3]
  refine pe rfl (fun K hK => ?_)
  refine e_call 77 [.pointer (some ⟨p, 0, none⟩), .int .i64 0] rfl rfl Try.call77 (read_any (Mem.here (L := [disk (D) p pg mb (qv)]) (R := [blk gr 40 (supC noSup)]) (disk_close (D := D) (R := [blk gr 40 (supC noSup)]) hok M6)) 0) ?_
  rintro e w8 ⟨v, rfl, H8⟩
  rw [r0.2] at H8
  rw [r0.1]
  obtain ⟨ga, ca, rfl, hca, hca2⟩ := lst_slice (H8.get 1 rfl) (by rw [l0]; decide)
  rw [l0] at H8
  rw [l0] at hca
  rw [l0]
  have M80 := Mem.frame (Pre := [disk (D) p pg mb (qv)]) (Post := [disk (readD D 0) p pg mb (qv), lst 5 1 (.slice (some ⟨ga, 0, none⟩) 256 ca) 256 (bvs (D.cur 0))]) (R := [blk gr 40 (supC noSup)]) (disk_close (D := D) (R := [blk gr 40 (supC noSup)]) hok M6) H8
  have M8 : Mem w _ w8 [blk p 76 (dC (readD D 0) pg mb qv), blk pg 127 (pagesC (readD D 0).pages), lst 129 257 qv ((readD D 0).q.length) (qC (readD D 0).q), mapq mb ((readD D 0).q), lst 5 1 (.slice (some ⟨ga, 0, none⟩) 256 ca) 256 (bvs (D.cur 0)), blk gr 40 (supC noSup)] := (disk_open (R := [lst 5 1 (.slice (some ⟨ga, 0, none⟩) 256 ca) 256 (bvs (D.cur 0)), blk gr 40 (supC noSup)]) M80).2
  clear H8 M80 M6
  refine ⟨_, rfl, ?_⟩
  refine hK.out _ _ ?_
  clear hK K
  simp only [Act.put, zq1, zq2, zq3]
  refine pl M8 (y_move (v := .tuple #[.slice (some ⟨ga, 0, none⟩) 256 ca, .int .i64 0]) rfl rfl rfl) ?_
  simp only [Act.put, zq1, zq2, zq3]
  refine pl M8 (y_ext (v := .slice (some ⟨ga, 0, none⟩) 256 ca) rfl rfl rfl rfl) ?_
  simp only [Act.put, zq1, zq2, zq3]
  refine pl M8 (y_ext (v := .int .i64 0) rfl rfl rfl rfl) ?_
  simp only [Act.put, zq1, zq2, zq3]
  refine pl M8 (y_assign (v := .slice (some ⟨ga, 0, none⟩) 256 ca) rfl rfl rfl) ?_
  simp only [Act.put, zq1, zq2, zq3]
  refine pl M8 (y_assign (v := .int .i64 0) rfl rfl rfl) ?_
  simp only [Act.put, zq1, zq2, zq3]
  refine wpList_nil ?_
  refine hK7 _ _ ?_
  clear hK7
  refine wp_seq_k (fun K9 hK9 => ?_)
  refine wp_seq_k (fun K10 hK10 => ?_)
  refine wp_region_lit ?_
  refine pl M8 (y_move (v := .int .i64 0) rfl rfl rfl) ?_
  simp only [Act.put, zq1, zq2, zq3]
  refine pl M8 (y_neq (b := false) rfl rfl rfl rfl (by rw [decide_eq_true rfl]; rfl)) ?_
  simp only [Act.put, zq1, zq2, zq3]
  refine wpList_nil ?_
  refine hK10 _ _ ?_
  clear hK10
  refine wp_cond_false rfl ?_
  refine wp_skip ?_
  refine hK9 _ _ ?_
  clear hK9
  refine wp_seq_k (fun K11 hK11 => ?_)
  refine wp_region_lit ?_
  refine pl M8 (y_move (v := .pointer (some ⟨p, 0, none⟩)) rfl rfl rfl) ?_
  simp only [Act.put, zq1, zq2, zq3]
  refine pe rfl (fun K hK => ?_)
  refine e_call 77 [.pointer (some ⟨p, 0, none⟩), .int .i64 1] rfl rfl Try.call77 (read_any (Mem.here (L := [disk (readD D 0) p pg mb (qv)]) (R := [lst 5 1 (.slice (some ⟨ga, 0, none⟩) 256 ca) 256 (bvs (D.cur 0)), blk gr 40 (supC noSup)]) (disk_close (D := readD D 0) (R := [lst 5 1 (.slice (some ⟨ga, 0, none⟩) 256 ca) 256 (bvs (D.cur 0)), blk gr 40 (supC noSup)]) (readD_ok hok 0) M8)) 1) ?_
  rintro e w12 ⟨v, rfl, H12⟩
  rw [r1.2, hcur] at H12
  rw [r1.1]
  obtain ⟨gb, cb, rfl, hcb, hcb2⟩ := lst_slice (H12.get 1 rfl) (by rw [l1]; decide)
  rw [l1] at H12
  rw [l1] at hcb
  rw [l1]
  have M120 := Mem.frame (Pre := [disk (readD D 0) p pg mb (qv)]) (Post := [disk (readD (readD D 0) 1) p pg mb (qv), lst 5 1 (.slice (some ⟨gb, 0, none⟩) 256 cb) 256 (bvs (D.cur 1))]) (R := [lst 5 1 (.slice (some ⟨ga, 0, none⟩) 256 ca) 256 (bvs (D.cur 0)), blk gr 40 (supC noSup)]) (disk_close (D := readD D 0) (R := [lst 5 1 (.slice (some ⟨ga, 0, none⟩) 256 ca) 256 (bvs (D.cur 0)), blk gr 40 (supC noSup)]) (readD_ok hok 0) M8) H12
  have M12 : Mem w _ w12 [blk p 76 (dC (readD (readD D 0) 1) pg mb qv), blk pg 127 (pagesC (readD (readD D 0) 1).pages), lst 129 257 qv ((readD (readD D 0) 1).q.length) (qC (readD (readD D 0) 1).q), mapq mb ((readD (readD D 0) 1).q), lst 5 1 (.slice (some ⟨gb, 0, none⟩) 256 cb) 256 (bvs (D.cur 1)), lst 5 1 (.slice (some ⟨ga, 0, none⟩) 256 ca) 256 (bvs (D.cur 0)), blk gr 40 (supC noSup)] := (disk_open (R := [lst 5 1 (.slice (some ⟨gb, 0, none⟩) 256 cb) 256 (bvs (D.cur 1)), lst 5 1 (.slice (some ⟨ga, 0, none⟩) 256 ca) 256 (bvs (D.cur 0)), blk gr 40 (supC noSup)]) M120).2
  clear H12 M120 M8
  refine ⟨_, rfl, ?_⟩
  refine hK.out _ _ ?_
  clear hK K
  simp only [Act.put, zq1, zq2, zq3]
  refine pl M12 (y_move (v := .tuple #[.slice (some ⟨gb, 0, none⟩) 256 cb, .int .i64 0]) rfl rfl rfl) ?_
  simp only [Act.put, zq1, zq2, zq3]
  refine pl M12 (y_ext (v := .slice (some ⟨gb, 0, none⟩) 256 cb) rfl rfl rfl rfl) ?_
  simp only [Act.put, zq1, zq2, zq3]
  refine pl M12 (y_ext (v := .int .i64 0) rfl rfl rfl rfl) ?_
  simp only [Act.put, zq1, zq2, zq3]
  refine pl M12 (y_assign (v := .slice (some ⟨gb, 0, none⟩) 256 cb) rfl rfl rfl) ?_
  simp only [Act.put, zq1, zq2, zq3]
  refine pl M12 (y_assign (v := .int .i64 0) rfl rfl rfl) ?_
  simp only [Act.put, zq1, zq2, zq3]
  refine wpList_nil ?_
  refine hK11 _ _ ?_
  clear hK11
  refine wp_seq_k (fun K13 hK13 => ?_)
  refine wp_seq_k (fun K14 hK14 => ?_)
  refine wp_region_lit ?_
  refine pl M12 (y_move (v := .int .i64 0) rfl rfl rfl) ?_
  simp only [Act.put, zq1, zq2, zq3]
  refine pl M12 (y_neq (b := false) rfl rfl rfl rfl (by rw [decide_eq_true rfl]; rfl)) ?_
  simp only [Act.put, zq1, zq2, zq3]
  refine wpList_nil ?_
  refine hK14 _ _ ?_
  clear hK14
  refine wp_cond_false rfl ?_
  refine wp_skip ?_
  refine hK13 _ _ ?_
  clear hK13
  refine wp_seq_k (fun K15 hK15 => ?_)
  refine wp_region_lit ?_
  refine pl M12 (y_move (v := .slice (some ⟨ga, 0, none⟩) 256 ca) rfl rfl rfl) ?_
  simp only [Act.put, zq1, zq2, zq3]
  refine pl M12 (y_move (v := .slice (some ⟨gb, 0, none⟩) 256 cb) rfl rfl rfl) ?_
  simp only [Act.put, zq1, zq2, zq3]
  refine pe rfl (fun K hK => ?_)
  refine e_call 78 [.slice (some ⟨ga, 0, none⟩) 256 ca, .slice (some ⟨gb, 0, none⟩) 256 cb] rfl rfl Try.call78 (choose_any ga 0 ca gb 0 cb (D.cur 0) (D.cur 1) _ (lst_row (M12.get 5 rfl)) (lst_row (M12.get 4 rfl)) hca hca2 hcb hcb2) ?_
  rintro e w16 ⟨rfl, H⟩
  have M16 : Mem w _ w16 [blk p 76 (dC (readD (readD D 0) 1) pg mb qv), blk pg 127 (pagesC (readD (readD D 0) 1).pages), lst 129 257 qv ((readD (readD D 0) 1).q.length) (qC (readD (readD D 0) 1).q), mapq mb ((readD (readD D 0) 1).q), lst 5 1 (.slice (some ⟨gb, 0, none⟩) 256 cb) 256 (bvs (D.cur 1)), lst 5 1 (.slice (some ⟨ga, 0, none⟩) 256 ca) 256 (bvs (D.cur 0)), blk gr 40 (supC noSup)] := M12.step H
  refine ⟨_, rfl, ?_⟩
  refine hK.out _ _ ?_
  clear hK K
  simp only [Act.put, zq1, zq2, zq3]
  refine pl M16 (y_ext (v := .agg ((supC (chooseS (D.cur 0) (D.cur 1)))).toArray) rfl rfl rfl rfl) ?_
  simp only [Act.put, zq1, zq2, zq3]
  refine pl M16 (y_ext (v := .int .i64 (chooseE (D.cur 0) (D.cur 1))) rfl rfl rfl rfl) ?_
  simp only [Act.put, zq1, zq2, zq3]
  refine pe rfl (fun K hK => ?_)
  refine e_storew M16 6 (cs := (supC (chooseS (D.cur 0) (D.cur 1)))) rfl rfl rfl rfl (size_sup _) (sup_all _) rfl (rfl) ?_
  intro w17 (M17 : Mem w _ w17 [blk p 76 (dC (readD (readD D 0) 1) pg mb qv), blk pg 127 (pagesC (readD (readD D 0) 1).pages), lst 129 257 qv ((readD (readD D 0) 1).q.length) (qC (readD (readD D 0) 1).q), mapq mb ((readD (readD D 0) 1).q), lst 5 1 (.slice (some ⟨gb, 0, none⟩) 256 cb) 256 (bvs (D.cur 1)), lst 5 1 (.slice (some ⟨ga, 0, none⟩) 256 ca) 256 (bvs (D.cur 0)), blk gr 40 (supC (chooseS (D.cur 0) (D.cur 1)))])
  clear M16
  refine hK.out _ _ ?_
  clear hK K
  simp only [Act.put, zq1, zq2, zq3]
  refine pl M17 (y_assign (v := .int .i64 (chooseE (D.cur 0) (D.cur 1))) rfl rfl rfl) ?_
  simp only [Act.put, zq1, zq2, zq3]
  refine wpList_nil ?_
  refine hK15 _ _ ?_
  clear hK15
  refine wp_ret ?_
  try simp only [Exit.inBlock, Exit.then]
  refine bodyPost_ret (v := .tuple #[.agg ((supC (chooseS (D.cur 0) (D.cur 1)))).toArray, .int .i64 (chooseE (D.cur 0) (D.cur 1))]) (resc2 _ rfl rfl rfl (M17.get 6 rfl) Try.underlying40 (size_sup _) rfl) rfl ?_
  have hd' : ¬ D.dead = true := by rw [hd]; decide
  have e1 : slotsE D = chooseE (D.cur 0) (D.cur 1) := if_neg hd'
  have e2 : slotsD D = readD (readD D 0) 1 := if_neg hd'
  have e3 : slotsS D = chooseS (D.cur 0) (D.cur 1) := if_neg hd'
  rw [e1, e2, e3]
  exact ⟨rfl, disk_close (readD_ok (readD_ok hok 0) 1) (M17.arr [0, 1, 2, 3] (by decide))⟩
theorem slots_any {D : DV} {p pg mb : Nat} {qv : Value} {w : World} (hM : Mem w (foots [disk D p pg mb qv]) w [disk D p pg mb qv]) : Calls Try.prog 46 #[.pointer (some ⟨p, 0, none⟩)] w fun e w' => e = .returned (.tuple #[.agg (supC (slotsS D)).toArray, .int .i64 (slotsE D)]) ∧ Mem w (foots [disk D p pg mb qv]) w' [disk (slotsD D) p pg mb qv] := by
  cases hd : D.dead with
  | true => exact slots_dead hM hd
  | false => exact slots_ok hM hd
end Go.Proofs.Ytmmkgkbjneebkaa
