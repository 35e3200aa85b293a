/- Texts joined: Page2, SupEq, FrameC, Page3. -/
import Derived.Test.YtopdhanbmnfeeaaDoorIR04
import Derived.Test.YtopdhanbmnfeeaaDoorIR09
import Derived.Test.YtopdhanbmnfeeaaDoorIR11
import Derived.Test.YtopdhanbmnfeeaaDoorRows
import Derived.ChangeKeysEq
import Derived.Test.YtopdhanbmnfeeaaDoorIR02
/- Pages as bytes: Unpack. -/
namespace Go.Proofs.YtopdhanbmnfeeaaDoor
set_option linter.unusedSectionVars false
open Go Go.RowKit
set_option maxRecDepth 100000
set_option maxHeartbeats 40000000
set_option linter.unusedVariables false
set_option linter.unusedSimpArgs false
theorem unpg_cases {page : Nat} {l : List UInt8} (hp : 2 ≤ page ∧ page < 4096) (hl : l.length = 256) :
    (wholeB l = false → unpgE page l = 52) ∧ (wholeB l = true → ¬ KindOk ((l.getD 0 0).toNat : Int) → unpgE page l = 50) ∧
    (wholeB l = true → KindOk ((l.getD 0 0).toNat : Int) → 246 < (l.getD 1 0).toNat → unpgE page l = 51) ∧
    (wholeB l = true → KindOk ((l.getD 0 0).toNat : Int) → ¬ 246 < (l.getD 1 0).toNat → ((decN ((l.drop 2).take 4) : Nat) : Int) ≠ page → unpgE page l = 54) ∧
    (wholeB l = true → KindOk ((l.getD 0 0).toNat : Int) → ¬ 246 < (l.getD 1 0).toNat → ((decN ((l.drop 2).take 4) : Nat) : Int) = page → allZ ((l.drop (6 + (l.getD 1 0).toNat)).take (246 - (l.getD 1 0).toNat)) = false → unpgE page l = 53) ∧
    (wholeB l = true → KindOk ((l.getD 0 0).toNat : Int) → ¬ 246 < (l.getD 1 0).toNat → ((decN ((l.drop 2).take 4) : Nat) : Int) = page → allZ ((l.drop (6 + (l.getD 1 0).toNat)).take (246 - (l.getD 1 0).toNat)) = true → unpgE page l = 0) := by
  have h1 : ¬ ¬ PlaceOk (page : Int) := fun h => h ⟨by omega, by omega⟩
  have h2 : ¬ (l.length ≠ 256) := fun h => h hl
  refine ⟨fun a => ?_, fun a b => ?_, fun a b c => ?_, fun a b c d => ?_, fun a b c d e => ?_, fun a b c d e => ?_⟩ <;> unfold unpgE <;> rw [if_neg h1, if_neg h2]
  · rw [if_pos a]
  · rw [if_neg (by rw [a]; decide), if_pos b]
  · rw [if_neg (by rw [a]; decide), if_neg (fun h => h b), if_pos c]
  · rw [if_neg (by rw [a]; decide), if_neg (fun h => h b), if_neg c, if_pos d]
  · rw [if_neg (by rw [a]; decide), if_neg (fun h => h b), if_neg c, if_neg (fun h => h d), if_pos e]
  · rw [if_neg (by rw [a]; decide), if_neg (fun h => h b), if_neg c, if_neg (fun h => h d), if_neg (by rw [e]; decide)]
theorem unpack_ok (page rb ro c : Nat) (l : List UInt8) (w : World) (hr : Row w (some ⟨rb, ro, none⟩) 256 l) (hp : 2 ≤ page ∧ page < 4096) (hc : 256 ≤ c) (hcm : c ≤ 9223372036854775807) : zC 73 [zI (page : Int), .slice (some ⟨rb, ro, none⟩) 256 c] w fun e w' => ∃ v, e = .returned (.tuple #[zI (unpgK page l), v, zI (unpgE page l)]) ∧ Mem w [] w' [lst 5 1 v (unpgL page l).length (bvs (unpgL page l))] := by
 have M := Mem.nil w;have hl := hr.1;have hp1 := hp.1;have hp2 := hp.2;have hb1 := (l.getD 1 0).toNat_lt;have hb0 := (l.getD 0 0).toNat_lt;have hpl : 246 < (l.getD 1 0).toNat ∨ ((l.drop 6).take (l.getD 1 0).toNat).length = (l.getD 1 0).toNat := by rw [List.length_take, List.length_drop]; omega
 go_enter Tryd.func73, Tryd.ntmps73;refine zin ?_;refine zk fun K1 hK1 => zr ?_;refine zp 3 rfl ?_;refine zw (hK1 _ _ (zk fun K2 hK2 => zk fun K3 hK3 => zr ?_));refine zp 1 rfl ?_;refine zca 84 [zI (page : Int)] rfl Tryd.call84 (place_any (page : Int) _) ?_;rintro e w4 ⟨rfl, H4⟩;have M4 : Mem w [] w4 [] := M.step H4;rw [(decide_eq_true (show PlaceOk page from ⟨by omega, by omega⟩))];refine ⟨_, rfl, ?_⟩;refine zp 1 rfl ?_;refine zw (hK3 _ _ (zcf rfl (zsk (hK2 _ _ (zk fun K5 hK5 => ?_)))));refine zk fun K6 hK6 => zr ?_;refine zp 1 rfl (zo M4 (y_len (zwn rfl) rfl (zev rfl) zu31) (zo M4 (zneq (b := false) rfl (by rw [decide_eq_true (by omega)]; rfl)) ?_));refine zw (hK6 _ _ (zcf rfl (zsk (hK5 _ _ (zk fun K7 hK7 => ?_)))));refine zk fun K8 hK8 => zr ?_;refine zp 1 rfl ?_;refine pe (zwn rfl) fun K hK => e_call 80 [.slice (some ⟨rb, ro, none⟩) 256 c] rfl (zls_eval rfl) Tryd.call80 (whole_any (some ⟨rb, ro, none⟩) 256 c l _ (M4.row hr (by simp)) (by unfold maxLen; omega) hc (by unfold maxLen; omega)) ?_;rintro e w9 ⟨rfl, H9⟩;have M9 := M4.low H9;rcases Bool.eq_false_or_eq_true (wholeB l) with h10 | h10
 ·rw [h10];refine ⟨_, rfl, hK.out _ _ (zpu ?_)⟩;refine zp 1 rfl ?_;refine zw (hK8 _ _ (zcf rfl (zsk (hK7 _ _ (zk fun K11 hK11 => ?_)))));have M12 := M9.drew;refine wp_region_tail 9 (by kernel_rfl) (by kernel_rfl) ?_;simp only [List.take_succ_cons, List.take_zero, List.drop_succ_cons, List.drop_zero];refine Zs 1 rfl (zq M12 (y_ias (r := ro) (zwn rfl) rfl (zev rfl) (zev rfl) zu31 zz5 (by first | omega | (dsimp only; omega)) (by first | omega | (dsimp only; omega))) (zq M12 (y_loadc (v := .int .u8 ((l.getD 0 0).toNat : Int)) (zwn rfl) rfl (zev rfl) zg5 (fun W hW => (hW.row hr (by simp)).getD 0 (by omega))) (zq M12 (y_conv (r := ((l.getD 0 0).toNat : Int)) (zwn rfl) rfl (zev rfl) zu5 zu3 (wrap64_of (by omega))) (Zs 1 rfl (zq M12 (y_ias (r := ro + 1) (zwn rfl) rfl (zev rfl) (zev rfl) zu31 zz5 (by first | omega | (dsimp only; omega)) (by first | omega | (dsimp only; omega))) (zq M12 (y_loadc (v := .int .u8 ((l.getD 1 0).toNat : Int)) (zwn rfl) rfl (zev rfl) zg5 (fun W hW => (hW.row hr (by simp)).getD 1 (by omega))) (zq M12 (y_conv (r := ((l.getD 1 0).toNat : Int)) (zwn rfl) rfl (zev rfl) zu5 zu3 (wrap64_of (by omega))) ?_)))))));refine Zs 1 rfl ?_;refine wpStill_nil ?_;refine zp 1 rfl ?_;refine zw (hK11 _ _ (zk fun K13 hK13 => zbl (zk fun K14 hK14 => zr ?_)));refine zp 1 rfl ?_;refine pe (zwn rfl) fun K hK => e_call 85 [zI ((l.getD 0 0).toNat : Int)] rfl (zls_eval rfl) Tryd.call85 (kindOf_any ((l.getD 0 0).toNat : Int) _) ?_;rintro e w15 ⟨rfl, H15⟩;have M15 : Mem w [] w15 [] := M12.step H15;rcases Bool.eq_false_or_eq_true (decide (KindOk ((l.getD 0 0).toNat : Int))) with h16 | h16
  ·rw [h16];refine ⟨_, rfl, hK.out _ _ (zpu ?_)⟩;refine zp 2 rfl ?_;refine zw (hK14 _ _ (zcf rfl (zk fun K17 hK17 => zr ?_)));refine zp 1 rfl ?_;rcases zem ((246 : Int) < ((l.getD 1 0).toNat : Int)) with h18 | h18
   ·refine zo M15 (zgtr rfl (zT h18)) (zp 1 rfl ?_);refine zw (hK17 _ _ (zct rfl (zk fun K19 hK19 => zr ?_)));refine zp 3 rfl ?_;refine zw (hK19 _ _ (zrt ?_));(try simp only[zi,zj]);refine zR (v := .tuple #[zI 0, zN, zI 51]) (res3 rfl (zgd rfl) (zgd rfl) (zgd rfl)) (zdf _) ?_;have N := (M15.nilst 5 1);have e1 : unpgE (page : Int) l = 51 := (unpg_cases hp hl).2.2.1 h10 (of_decide_eq_true h16) (by omega);obtain ⟨e2, e3⟩ := unpg_no e1 (by decide);rw [e1, e2, e3];exact ⟨_, rfl, N⟩
   ·refine zo M15 (zgtr rfl (zF h18)) (zp 1 rfl ?_);refine zw (hK17 _ _ (zcf rfl (zk fun K20 hK20 => zr ?_)));refine zp 1 rfl (zo M15 (y_sls (l := 2) (h := 256) (r := ro + 2) (n' := 254) (c' := c - 2) (zwn rfl) rfl (zev rfl) (zeo rfl) (zeo rfl) zu31 zz5 (by exact ⟨rfl, ⟨_, _, rfl, by omega, by omega⟩⟩) (by split <;> omega) (by omega) (by omega)) ?_);refine zca 82 [.slice (some ⟨rb, ro + 2, none⟩) 254 (c - 2), zI 4] rfl zc82 (get_any (some ⟨rb, ro + 2, none⟩) 254 (c - 2) (l.drop 2) 4 _ ((M15.row hr (by simp)).drop 2 (by omega)) (by omega) (by omega) (by unfold maxLen; omega)) ?_;rintro e w21 ⟨rfl, H21⟩;have M21 := M15.same H21;refine ⟨_, rfl, ?_⟩;refine zp 1 rfl ?_;rcases zem (((decN ((l.drop 2).take 4) : Nat) : Int) = (page : Int)) with h22 | h22
    ·refine zo M21 (zneq (b := false) rfl (by rw [decide_eq_true h22]; rfl)) (zp 1 rfl ?_);refine zw (hK20 _ _ (zcf rfl (zk fun K23 hK23 => zr ?_)));refine zp 2 rfl (zo M21 (y_add (r := ((6 + (l.getD 1 0).toNat : Nat) : Int)) (zwn rfl) rfl (zev rfl) (zev rfl) (by omega) (by omega)) (zo M21 (y_sls (l := 6 + (l.getD 1 0).toNat) (h := 252) (r := ro + (6 + (l.getD 1 0).toNat)) (n' := 246 - (l.getD 1 0).toNat) (c' := c - (6 + (l.getD 1 0).toNat)) (zwn rfl) rfl (zev rfl) (zeo rfl) (zeo rfl) zu31 zz5 (by exact ⟨⟨_, _, rfl, by omega, by omega⟩, ⟨_, _, rfl, by omega, by omega⟩⟩) (by split <;> omega) (by omega) (by omega)) ?_));refine pe (zwn rfl) fun K hK => e_call 81 [.slice (some ⟨rb, ro + (6 + (l.getD 1 0).toNat), none⟩) (246 - (l.getD 1 0).toNat) (c - (6 + (l.getD 1 0).toNat))] rfl (zls_eval rfl) Tryd.call81 (allZero_any (some ⟨rb, ro + (6 + (l.getD 1 0).toNat), none⟩) (246 - (l.getD 1 0).toNat) (c - (6 + (l.getD 1 0).toNat)) ((l.drop (6 + (l.getD 1 0).toNat)).take (246 - (l.getD 1 0).toNat)) _ (((M21.row hr (by simp)).drop (6 + (l.getD 1 0).toNat) (by omega)).take (246 - (l.getD 1 0).toNat) (by omega)) (by unfold maxLen; omega)) ?_;rintro e w24 ⟨rfl, H24⟩;have M24 := M21.same H24;rcases Bool.eq_false_or_eq_true (allZ ((l.drop (6 + (l.getD 1 0).toNat)).take (246 - (l.getD 1 0).toNat))) with h25 | h25
     ·rw [h25];refine ⟨_, rfl, hK.out _ _ (zpu ?_)⟩;refine zp 2 rfl ?_;refine zw (hK23 _ _ (zcf rfl (zsk (hK13 _ _ (zk fun K26 hK26 => ?_)))));refine zr ?_;refine zp 3 rfl (zo M24 (y_add (r := ((6 + (l.getD 1 0).toNat : Nat) : Int)) (zwn rfl) rfl (zev rfl) (zev rfl) (by omega) (by omega)) (zo M24 (y_sls (l := 6) (h := 6 + (l.getD 1 0).toNat) (r := ro + 6) (n' := (l.getD 1 0).toNat) (c' := c - 6) (zwn rfl) rfl (zev rfl) (zeo rfl) (zeo rfl) zu31 zz5 (by exact ⟨⟨_, _, rfl, by omega, by omega⟩, ⟨_, _, rfl, by omega, by omega⟩⟩) (by split <;> omega) (by omega) (by omega)) ?_));have M27 := M24.nilst 5 1;refine pe (zwn rfl) fun K hK => e_append M27 0 bytesT (by decide) (news := bvs ((l.drop 6).take (l.getD 1 0).toNat)) rfl rfl (zev rfl) (zev rfl) (by rw [length_bvs, hpl.resolve_left (by omega), Nat.mul_one]) (by intro h; cases h) ((((M27.row hr (by simp)).drop 6 (by omega)).take (l.getD 1 0).toNat (by omega)).news) (bvs_oneCell _) (⟨by unfold maxLen; omega, by omega⟩) ?_;intro v28 w28 M28;replace M28 : Mem w [] w28 [lst 5 1 v28 ((l.getD 1 0).toNat) (bvs ((l.drop 6).take (l.getD 1 0).toNat))] := (by have h := M28; rw [Nat.zero_add] at h; exact h);obtain ⟨a28, c28, rfl⟩ := qv_at (M28.get 0 rfl);refine hK.out _ _ (zpu ?_);refine zp 3 rfl ?_;refine zw (hK26 _ _ (zrt ?_));(try simp only[zi,zj]);refine zR (v := .tuple #[zI ((l.getD 0 0).toNat : Int), .slice a28 ((l.getD 1 0).toNat) c28, zI 0]) (res3 rfl (zgd rfl) (zgd rfl) (zgd rfl)) (zdf _) ?_;have e1 : unpgE (page : Int) l = 0 := (unpg_cases hp hl).2.2.2.2.2 h10 (of_decide_eq_true h16) (by omega) h22 h25;obtain ⟨e2, e3⟩ := unpg_yes e1;rw [e1, e2, e3, hpl.resolve_left (by omega)];exact ⟨_, rfl, M28⟩
     ·rw [h25];refine ⟨_, rfl, hK.out _ _ (zpu ?_)⟩;refine zp 2 rfl ?_;refine zw (hK23 _ _ (zct rfl (zk fun K29 hK29 => zr ?_)));refine zp 3 rfl ?_;refine zw (hK29 _ _ (zrt ?_));(try simp only[zi,zj]);refine zR (v := .tuple #[zI 0, zN, zI 53]) (res3 rfl (zgd rfl) (zgd rfl) (zgd rfl)) (zdf _) ?_;have N := (M24.nilst 5 1);have e1 : unpgE (page : Int) l = 53 := (unpg_cases hp hl).2.2.2.2.1 h10 (of_decide_eq_true h16) (by omega) h22 h25;obtain ⟨e2, e3⟩ := unpg_no e1 (by decide);rw [e1, e2, e3];exact ⟨_, rfl, N⟩
    ·refine zo M21 (zneq (b := true) rfl (by rw [decide_eq_false h22]; rfl)) (zp 1 rfl ?_);refine zw (hK20 _ _ (zct rfl (zk fun K30 hK30 => zr ?_)));refine zp 3 rfl ?_;refine zw (hK30 _ _ (zrt ?_));(try simp only[zi,zj]);refine zR (v := .tuple #[zI 0, zN, zI 54]) (res3 rfl (zgd rfl) (zgd rfl) (zgd rfl)) (zdf _) ?_;have N := (M21.nilst 5 1);have e1 : unpgE (page : Int) l = 54 := (unpg_cases hp hl).2.2.2.1 h10 (of_decide_eq_true h16) (by omega) h22;obtain ⟨e2, e3⟩ := unpg_no e1 (by decide);rw [e1, e2, e3];exact ⟨_, rfl, N⟩
  ·rw [h16];refine ⟨_, rfl, hK.out _ _ (zpu ?_)⟩;refine zp 2 rfl ?_;refine zw (hK14 _ _ (zct rfl (zk fun K31 hK31 => zr ?_)));refine zp 3 rfl ?_;refine zw (hK31 _ _ (zrt ?_));(try simp only[zi,zj]);refine zR (v := .tuple #[zI 0, zN, zI 50]) (res3 rfl (zgd rfl) (zgd rfl) (zgd rfl)) (zdf _) ?_;have N := (M15.nilst 5 1);have e1 : unpgE (page : Int) l = 50 := (unpg_cases hp hl).2.1 h10 (of_decide_eq_false h16);obtain ⟨e2, e3⟩ := unpg_no e1 (by decide);rw [e1, e2, e3];exact ⟨_, rfl, N⟩
 ·rw [h10];refine ⟨_, rfl, hK.out _ _ (zpu ?_)⟩;refine zp 1 rfl ?_;refine zw (hK8 _ _ (zct rfl (zk fun K32 hK32 => zr ?_)));refine zp 3 rfl ?_;refine zw (hK32 _ _ (zrt ?_));(try simp only[zi,zj]);refine zR (v := .tuple #[zI 0, zN, zI 52]) (res3 rfl (zgd rfl) (zgd rfl) (zgd rfl)) (zdf _) ?_;have N := (M9.nilst 5 1);have e1 : unpgE (page : Int) l = 52 := (unpg_cases hp hl).1 h10;obtain ⟨e2, e3⟩ := unpg_no e1 (by decide);rw [e1, e2, e3];exact ⟨_, rfl, N⟩
end Go.Proofs.YtopdhanbmnfeeaaDoor

/- Superblocks by ==. -/
namespace Go.Proofs.YtopdhanbmnfeeaaDoor.E
set_option linter.unusedSectionVars false
set_option linter.unusedSimpArgs false
open Go Go.RowKit
set_option linter.unusedVariables false
section
variable {P : Program}
def eqF (d : Nat) (xs ys : Array Value) : List (Bool × TypeId × Nat) → Sem Bool
  | [] => pure true
  | (u, t, o) :: fs =>
    if u = true then eqF d xs ys fs
    else do
      let a ← part t xs o
      let b ← part t ys o
      let r ← Op.equalIn d t a b
      if (!r) = true then pure false else eqF d xs ys fs
def fieldTr (f : Field) : Bool × TypeId × Nat := (decide (f.name = "_"), f.type, f.offset)
theorem eqFields_tr (d : Nat) (xs ys : Array Value) : ∀ (fs : List Field), Op.eqFields d xs ys fs = eqF d xs ys (fs.map fieldTr)
  | [] => rfl
  | f :: fs => by
    have ih := eqFields_tr d xs ys fs
    unfold Op.eqFields
    simp only [List.map_cons, fieldTr, eqF]
    rw [ih]
    by_cases h : f.name = "_"
    · rw [if_neg (by simpa using h), if_pos (by simpa using h)]
    · rw [if_pos h, if_neg (by simpa using h)]
theorem run_eqF_cons (W : World) {d : Nat} {xs ys : Array Value} {t o : Nat} {fs : List (Bool × TypeId × Nat)} {a b : Value} {r : Bool} (h1 : (part t xs o).run P W = .ok a W) (h2 : (part t ys o).run P W = .ok b W) (h3 : (Op.equalIn d t a b).run P W = .ok r W)
    {q : Bool} (h4 : (eqF d xs ys fs).run P W = .ok q W) : (eqF d xs ys ((false, t, o) :: fs)).run P W = .ok (r && q) W := by
  simp only [eqF, Bool.false_eq_true, if_false, Sem.run_bind, h1, h2, h3, Result.andThen_ok]
  cases r
  · simp
  · simpa using h4
end
end Go.Proofs.YtopdhanbmnfeeaaDoor.E
namespace Go.Proofs.YtopdhanbmnfeeaaDoor
open Go Go.RowKit
def eqS (x y : SupV) : Bool := (x.width == y.width) && ((x.gen == y.gen) && ((x.mark == y.mark) && ((x.head == y.head) && ((x.pages == y.pages) && true))))
theorem eqS_iff (x y : SupV) : eqS x y = true ↔ x = y := by
  constructor
  · intro h
    unfold eqS at h
    simp only [Bool.and_eq_true, beq_iff_eq, and_true] at h
    obtain ⟨h0, h1, h2, h3, h4⟩ := h
    cases x; cases y
    simp only at h0 h1 h2 h3 h4
    subst h0; subst h1; subst h2; subst h3; subst h4
    rfl
  · rintro rfl
    unfold eqS; simp
theorem sup_equal (x y : SupV) (W : World) : (Op.equalIn 10000 61 (.agg (supC x).toArray) (.agg (supC y).toArray)).run Tryd.prog W = .ok (eqS x y) W := by
  have hu : Tryd.prog.underlying 61 = some (.struct (Tryd.prog.fieldsOf 61)) := by kernel_rfl
  rw [run_equalIn_agg W 9999 _ _ _ hu (by kernel_rfl), E.eqFields_tr,
    show ((Tryd.prog.fieldsOf 61).toList.map E.fieldTr) = [(false, 3, 0), (false, 3, 1), (false, 3, 2), (false, 3, 3), (false, 3, 4)] by kernel_rfl]
  have pl : Tryd.prog.plainKey 3 = true := by kernel_rfl
  have I : ∀ (a b : Int), (Op.equalIn 9999 3 (.int .i64 a) (.int .i64 b)).run Tryd.prog W = .ok (a == b) W := fun a b => run_equalIn_int W 9998 3 .i64 .i64 a b Tryd.underlying3
  refine E.run_eqF_cons W (run_part_plain W pl (v := .int .i64 x.width) rfl) (run_part_plain W pl (v := .int .i64 y.width) rfl) (I _ _) ?_
  refine E.run_eqF_cons W (run_part_plain W pl (v := .int .i64 x.gen) rfl) (run_part_plain W pl (v := .int .i64 y.gen) rfl) (I _ _) ?_
  refine E.run_eqF_cons W (run_part_plain W pl (v := .int .i64 x.mark) rfl) (run_part_plain W pl (v := .int .i64 y.mark) rfl) (I _ _) ?_
  refine E.run_eqF_cons W (run_part_plain W pl (v := .int .i64 x.head) rfl) (run_part_plain W pl (v := .int .i64 y.head) rfl) (I _ _) ?_
  refine E.run_eqF_cons W (run_part_plain W pl (v := .int .i64 x.pages) rfl) (run_part_plain W pl (v := .int .i64 y.pages) rfl) (I _ _) ?_
  rfl
theorem equalIn_bytes {P : Program} {t e n : TypeId} {i : TypeInfo} (hu : P.underlying t = some (.array n e)) (hi : P.info? e = some i) (he : P.underlying e = some (.int .u8)) (hc : P.cellsOf e = 1) (d : Nat) (x y : List UInt8) (hx : x.length = n) (hy : y.length = n) (w : World) :
    (Op.equalIn (d + 2) t (.agg (bvs x).toArray) (.agg (bvs y).toArray)).run P w = .ok (eqB x y) w := by
  rw [run_equalIn_array w (d + 1) _ _ hu hi]
  unfold eqB
  rw [eqItems_bytes he hc d x y w _ (fun j hj => by rw [hx, hy]; simpa using hj)]
  congr 1
  rw [Bool.eq_iff_iff, List.all_eq_true]
  simp only [List.mem_range, decide_eq_true_eq]
  constructor
  · intro h
    refine List.ext_getElem? fun j => ?_
    rcases Nat.lt_or_ge j n with hj | hj
    · exact h j hj
    · rw [List.getElem?_eq_none (by omega), List.getElem?_eq_none (by omega)]
  · rintro rfl j _; rfl
end Go.Proofs.YtopdhanbmnfeeaaDoor

/- frame.empty, frame.newer: the walks. -/
namespace Go.Proofs.YtopdhanbmnfeeaaDoor
set_option linter.unusedSectionVars false
open Go Go.RowKit
set_option linter.unusedVariables false
set_option linter.unusedSimpArgs false
theorem emptyB_eq (l : List UInt8) (h : l.length = 256) : emptyB l = eqB (l.take 64) (zerosB 64) := by
  unfold emptyB eqB
  rw [Bool.eq_iff_iff, decide_eq_true_iff, decide_eq_true_iff]
  exact ⟨fun h => h.2, fun h' => ⟨h, h'⟩⟩
set_option maxRecDepth 100000 in
set_option maxHeartbeats 2000000 in
theorem empty_any (ao : Option Addr) (n c : Nat) (l : List UInt8) (w : World) (h0 : Row w ao n l) (hnc : n ≤ c) (hcm : c ≤ maxLen) :
    Calls Tryd.prog 69 #[.slice ao n c] w fun e w' => e = .returned (.bool (emptyB l)) ∧ w' = w := by
  unfold maxLen at hcm
  by_cases hn : n = 256
  · subst hn
    obtain ⟨b, o, rfl⟩ := h0.at0 (by omega)
    have hr := Box.mk (h0.take 64 (by omega)).range
    have hl := Box.mk (h0.take 64 (by omega)).1
    have HE := Box.mk (emptyB_eq l h0.1)
    have hb := Box.mk (show Tryd.prog.built 152 [] = some (bvs (zerosB 64)).toArray by kernel_rfl)
    have hi : Box ((Tryd.prog.info? 152).map (·.size) = some (bvs (l.take 64)).length) := ⟨by
      rw [length_bvs, hl.out]; kernel_rfl⟩
    have hg : Box (Tryd.prog.eqGuardType Tryd.prog.depth 152 = false) := ⟨by kernel_rfl⟩
    have hi5 : Tryd.prog.info? 5 = some (Tryd.prog.info? 5).get! := by kernel_rfl
    have heq := Box.mk (fun W => equalIn_bytes (P := Tryd.prog) (d := 9998) Tryd.underlying152 hi5 Tryd.underlying5 (by kernel_rfl) (l.take 64) (zerosB 64) hl.out (length_zerosB 64) W)
    have hat : ∀ W, (Instr.arrayAt 152 (.slice (some ⟨b, o, none⟩) 64 c)).run Tryd.prog W = .ok (.pointer (some ⟨b, o, none⟩)) W := fun W => run_arrayAt W _ _ 64 _ 64 c Tryd.underlying152 (by omega)
    clear h0 hi5
    generalize eqB (l.take 64) (zerosB 64) = r at *
    generalize bvs (l.take 64) = xs at *
    generalize (bvs (zerosB 64)).toArray = zs at *
    go_enter Tryd.func69, Tryd.ntmps69
    go_wp2_with (first
      | ((with_reducible refine arm_midr 152 (.tmp 9) ?_ ?_ b o ?_ xs _ hr.out Tryd.underlying152 rfl hi.out ?_); rfl; rfl; rfl)
      | ((with_reducible refine arm_built 152 [] ?_ ?_ [] ?_ zs hb.out ?_); rfl; rfl; rfl)
      | ((with_reducible refine arm_eql 152 152 (.tmp 10) (.tmp 11) ?_ ?_ xs.toArray zs r ?_ ?_ hg.out heq.out ?_); rfl; rfl; rfl; rfl))
    go_ret
    exact ⟨by rw [HE.out]; rfl, rfl⟩
  · have hf : ((n : Int) == 256) = false := by rw [beq_eq_false_iff_ne]; omega
    have HE := Box.mk (show emptyB l = false by
      have := h0.1
      unfold emptyB
      rw [decide_eq_false_iff_not]; rintro ⟨h, _⟩; omega)
    clear h0
    go_enter Tryd.func69, Tryd.ntmps69
    go_wp2
    go_ret
    exact ⟨by rw [HE.out]; rfl, rfl⟩
theorem supSize (s : SupV) : Box ((Tryd.prog.info? 61).map (·.size) = some (supC s).toArray.size) := ⟨by
  have h : (Tryd.prog.info? 61).map (·.size) = some 5 := by kernel_rfl
  rw [h]; rfl⟩
theorem supAll (s : SupV) : Box ((supC s).toArray.all (·.oneCell') = true) := ⟨by rw [Array.all_eq_true_iff_forall_mem]; intro v hv; simp [supC] at hv; rcases hv with h | h | h | h | h <;> rw [h] <;> rfl⟩
theorem supZero : Box (Tryd.prog.built 61 [] = some (supC noSup).toArray) := ⟨by kernel_rfl⟩
set_option maxRecDepth 100000 in
set_option maxHeartbeats 4000000 in
theorem newer_any (a b : SupV) (w : World) (ha : 0 ≤ a.gen ∧ a.gen ≤ 1099511627776) (hb : 0 ≤ b.gen ∧ b.gen ≤ 1099511627776) :
    Calls Tryd.prog 68 #[.agg (supC a).toArray, .agg (supC b).toArray] w fun e w' => e = .returned (.tuple #[.agg (supC (newerS a b)).toArray, .int .i64 (newerE a b)]) ∧ Below w.heap.size w w' := by
  have F0 : SupAt (((w.alloc (.cells (supC a).toArray 61)).alloc (.cells (supC b).toArray 61)).alloc (.cells (supC noSup).toArray 61)) w.heap.size a := heap_old (heap_old (heap_new rfl))
  have F1 : SupAt (((w.alloc (.cells (supC a).toArray 61)).alloc (.cells (supC b).toArray 61)).alloc (.cells (supC noSup).toArray 61)) (w.heap.size + 1) b := heap_old (heap_new (by simp))
  have F2 : SupAt (((w.alloc (.cells (supC a).toArray 61)).alloc (.cells (supC b).toArray 61)).alloc (.cells (supC noSup).toArray 61)) (w.heap.size + 2) noSup := heap_new (by simp)
  have B0 := ((Below.refl_alloc w (.cells (supC a).toArray 61)).alloc (by simp) (.cells (supC b).toArray 61)).alloc (by simp; omega) (.cells (supC noSup).toArray 61)
  go_enter Tryd.func68, Tryd.ntmps68
  go_upto_region 1 with fail
  refine wp_anyWorld (fun W => SupAt W w.heap.size a ∧ SupAt W (w.heap.size + 1) b ∧ SupAt W (w.heap.size + 1 + 1) noSup ∧ Below w.heap.size w W) ⟨F0, F1, F2, B0⟩ (fun w1 h1 => ?_)
  clear F0 F1 F2 B0
  obtain ⟨F0, F1, F2, B0⟩ := h1
  obtain ⟨g2, hg2⟩ : ∃ z, w.heap.size = z := ⟨_, rfl⟩
  have HW2 := Box.mk hg2
  rw [hg2] at F0 F1 F2 ⊢
  obtain ⟨g3, hg3⟩ : ∃ z, g2 + 1 = z := ⟨_, rfl⟩
  rw [hg3] at F1 F2 ⊢
  obtain ⟨g4, hg4'⟩ : ∃ z, g3 + 1 = z := ⟨_, rfl⟩
  rw [hg4'] at F2 ⊢
  have hne := Box.mk (show g2 ≠ g3 ∧ g2 ≠ g4 ∧ g3 ≠ g4 by omega)
  have hg4 := Box.mk (show g2 ≤ g4 by omega)
  have hg3B := Box.mk (show g2 ≤ g3 by omega)
  have HB := Box.mk (show Below g2 w w1 by rw [← hg2]; exact B0)
  have HG4 := Box.mk (show g2 ≤ w1.heap.size by have := heap_lt F2; omega)
  have hzn := supZero
  have hsn := supSize noSup
  have han := supAll noSup
  have H2 := Box.mk F0
  have H3 := Box.mk F1
  have H4 := Box.mk (show w1.heap[g4]? = some (.cells (supC noSup).toArray 61 (0, 0)) from F2)
  have C2 := F0.cells
  have C3 := F1.cells
  have HR := Box.mk (show ¬ NewerOk a b → newerS a b = noSup ∧ newerE a b = 4 from fun h => ⟨if_neg h, if_neg h⟩)
  clear hg2 hg3 hg4' F0 F1 F2 B0
  generalize hzz : (supC noSup).toArray = zn at *
  have HZ := Box.mk hzz
  obtain ⟨c20, c21, c22, c23, c24⟩ := C2
  obtain ⟨c30, c31, c32, c33, c34⟩ := C3
  clear hzz
  rcases Int.emod_two_eq a.gen with pa | pa
  case inr =>
    have ta : Int.tmod a.gen 2 = 1 := by rw [Int.tmod_eq_emod_of_nonneg ha.1]; exact pa
    have hno := Box.mk (show ¬ NewerOk a b from fun h => by have := h.1; omega)
    clear pa
    go_wp2_with (first
      | ((with_reducible refine arm_built 61 [] ?_ ?_ [] ?_ zn hzn.out ?_); rfl; rfl; rfl)
      | ((with_reducible refine arm_storer 61 (.tmp 4) (.tmp 17) ?_ rfl g4 zn zn 61 ?_ ?_ H4.out rfl hsn.out han.out ?_); rfl; rfl; rfl))
    intro wx gx Gx
    have bx := Box.mk (HB.out.grown Gx HG4.out (fun k hk => by cases hk; exact hg4.out))
    have hr := HR.out hno.out
    clear Gx
    go_wp2
    exact bodyPost_ret (v := .tuple #[.agg zn, .int .i64 4]) (results_rowt (p := 4) (u := 5) (ty := 61) rfl _ _ g4 61 _ (0, 0) _ rfl gx.out Tryd.underlying61 rfl hsn.out _ rfl) rfl ⟨by rw [hr.1, hr.2, HZ.out], by rw [HW2.out]; exact bx.out⟩
  have ta : Int.tmod a.gen 2 = 0 := by rw [Int.tmod_eq_emod_of_nonneg ha.1]; exact pa
  have PA := Box.mk pa
  clear pa
  rcases Int.emod_two_eq b.gen with pb | pb
  case inl =>
    have tb : Int.tmod b.gen 2 = 0 := by rw [Int.tmod_eq_emod_of_nonneg hb.1]; exact pb
    have hno := Box.mk (show ¬ NewerOk a b from fun h => by have := h.2.1; omega)
    clear pb
    go_wp2_with (first
      | ((with_reducible refine arm_built 61 [] ?_ ?_ [] ?_ zn hzn.out ?_); rfl; rfl; rfl)
      | ((with_reducible refine arm_storer 61 (.tmp 4) (.tmp 17) ?_ rfl g4 zn zn 61 ?_ ?_ H4.out rfl hsn.out han.out ?_); rfl; rfl; rfl))
    intro wx gx Gx
    have bx := Box.mk (HB.out.grown Gx HG4.out (fun k hk => by cases hk; exact hg4.out))
    have hr := HR.out hno.out
    clear Gx
    go_wp2
    exact bodyPost_ret (v := .tuple #[.agg zn, .int .i64 4]) (results_rowt (p := 4) (u := 5) (ty := 61) rfl _ _ g4 61 _ (0, 0) _ rfl gx.out Tryd.underlying61 rfl hsn.out _ rfl) rfl ⟨by rw [hr.1, hr.2, HZ.out], by rw [HW2.out]; exact bx.out⟩
  have tb : Int.tmod b.gen 2 = 1 := by rw [Int.tmod_eq_emod_of_nonneg hb.1]; exact pb
  have PB := Box.mk pb
  clear pb
  have hsz := fun s => supSize s
  have hal := fun s => supAll s
  go_upto_if 22 with fail
  go_cut [] (fun W => SupAt W g2 (overS a b) ∧ SupAt W g3 (underS a b) ∧ SupAt W g4 noSup ∧ Below g2 w W)
  case first =>
    rcases Int.lt_or_le a.gen b.gen with hlt | hle
    · have HO := Box.mk (show overS a b = b from if_pos hlt)
      have HU := Box.mk (show underS a b = a from if_pos hlt)
      have hsA := hsz a
      have hsB := hsz b
      have haA := hal a
      have haB := hal b
      have hss := Box.mk (show (supC a).toArray.size = (supC b).toArray.size from rfl)
      have H2' := Box.mk (show w1.heap[g2]? = some (.cells (supC a).toArray 61 (0, 0)) from H2.out)
      have H3' := Box.mk (show w1.heap[g3]? = some (.cells (supC b).toArray 61 (0, 0)) from H3.out)
      generalize hca : (supC a).toArray = ca at *
      generalize hcb : (supC b).toArray = cb at *
      have HCA := Box.mk hca
      have HCB := Box.mk hcb
      clear hca hcb
      go_wp2_with (first
        | ((with_reducible refine arm_row 61 (.tmp 3) ?_ ?_ g3 ?_ 61 cb (0, 0) _ H3'.out Tryd.underlying61 rfl hsB.out ?_); rfl; rfl; rfl)
        | ((with_reducible refine arm_row 61 (.tmp 2) ?_ ?_ g2 ?_ 61 ca (0, 0) _ H2'.out Tryd.underlying61 rfl hsA.out ?_); rfl; rfl; rfl)
        | ((with_reducible refine arm_storer 61 (.tmp 2) (.tmp 23) ?_ rfl g2 ca cb 61 ?_ ?_ H2'.out hss.out hsB.out haB.out ?_); rfl; rfl; rfl))
      intro w2 x2 X2
      have H32 := Box.mk ((X2.block g3 (heap_lt H3'.out) (by intro e; exact hne.out.1 (Option.some.inj e).symm)).trans H3'.out)
      have H42 := Box.mk ((X2.block g4 (heap_lt H4.out) (by intro e; exact hne.out.2.1 (Option.some.inj e).symm)).trans H4.out)
      have hss2 := Box.mk hss.out.symm
      go_wp2_with ((with_reducible refine arm_storer 61 (.tmp 3) (.tmp 24) ?_ rfl g3 cb ca 61 ?_ ?_ H32.out hss2.out hsA.out haA.out ?_); rfl; rfl; rfl)
      intro w3 x3 X3
      have R2 := Box.mk ((X3.block g2 (heap_lt x2.out) (by intro e; exact hne.out.1 (Option.some.inj e))).trans x2.out)
      have R4 := Box.mk ((X3.block g4 (heap_lt H42.out) (by intro e; exact hne.out.2.2 (Option.some.inj e).symm)).trans H42.out)
      have RB := Box.mk ((HB.out.grown X2 HG4.out (fun k hk => by cases hk; exact Nat.le_refl _)).grown X3 (by have := X2.size; have := HG4.out; omega) (fun k hk => by cases hk; exact hg3B.out))
      clear X2 X3
      go_wp2
      go_meet
      refine ⟨?_, ?_, ?_, RB.out⟩
      · rw [HO.out]; show _ = some (Obj.cells (supC b).toArray _ _); rw [HCB.out]; exact R2.out
      · rw [HU.out]; show _ = some (Obj.cells (supC a).toArray _ _); rw [HCA.out]; exact x3.out
      · show _ = some (Obj.cells (supC noSup).toArray _ _); rw [HZ.out]; exact R4.out
    · have HO := Box.mk (show overS a b = a from if_neg (by omega))
      have HU := Box.mk (show underS a b = b from if_neg (by omega))
      go_wp2
      go_meet
      exact ⟨by rw [HO.out]; exact H2.out, by rw [HU.out]; exact H3.out, by show _ = some (Obj.cells (supC noSup).toArray _ _); rw [HZ.out]; exact H4.out, HB.out⟩
  case rest =>
    obtain ⟨S2, S3, S4, Bc⟩ := hcut
    have HN := Box.mk (show (NewerOk a b ↔ overS a b = { underS a b with gen := (underS a b).gen + 1, mark := (overS a b).mark, head := (overS a b).head } ∧ (underS a b).mark ≤ (overS a b).mark) from ⟨fun h => h.2.2, fun h => ⟨PA.out, PB.out, h⟩⟩)
    have HY := Box.mk (show NewerOk a b → newerS a b = overS a b ∧ newerE a b = 0 from fun h => ⟨if_pos h, if_pos h⟩)
    have hU : 0 ≤ (underS a b).gen ∧ (underS a b).gen ≤ 1099511627776 := by
      unfold underS
      split
      · exact ha
      · exact hb
    clear c20 c21 c22 c23 c24 c30 c31 c32 c33 c34 ta tb PA PB H2 H3 H4 HB ha hb
    generalize overS a b = A at *
    generalize underS a b = U at *
    have H2 := Box.mk S2
    have H3 := Box.mk S3
    have H4 := Box.mk S4
    have HB := Box.mk Bc
    have hcU := hsz U
    have haU := hal U
    have hsNU := Box.mk (show zn.size = (supC U).toArray.size by rw [← HZ.out]; rfl)
    have H3' := Box.mk (show wc.heap[g3]? = some (.cells (supC U).toArray 61 (0, 0)) from S3)
    have hzc := Box.mk (show (wc.alloc (.cells zn 61)).heap[wc.heap.size]? = some (.cells zn 61 (0, 0)) from heap_new rfl)
    have hza : wc.alloc (.cells #[.int .i64 0, .int .i64 0, .int .i64 0, .int .i64 0, .int .i64 0] 61) = wc.alloc (.cells zn 61) := by rw [← HZ.out]; rfl
    clear S2 S3 S4 Bc
    generalize hcu : (supC U).toArray = cu at *
    have HCU := Box.mk hcu
    clear hcu
    go_upto_region 6 with (first
      | ((with_reducible refine arm_row 61 (.tmp 3) ?_ ?_ g3 ?_ 61 cu (0, 0) _ H3'.out Tryd.underlying61 rfl hcU.out ?_); rfl; rfl; rfl)
      | ((with_reducible refine arm_storer 61 (.tmp 6) (.tmp 25) ?_ rfl wc.heap.size zn cu 61 ?_ ?_ hzc.out hsNU.out hcU.out haU.out ?_); rfl; rfl; rfl))
    intro w5 x5 G5
    have hB5 := (Below.refl_alloc wc (.cells zn 61)).grown G5 (by simp) (fun k hk => by cases hk; exact Nat.le_refl _)
    have H6 := Box.mk (show w5.heap[wc.heap.size]? = some (.cells (supC U).toArray 61 (0, 0)) by rw [HCU.out]; exact x5.out)
    have h62 := Box.mk (show g2 < wc.heap.size ∧ g3 < wc.heap.size ∧ g4 < wc.heap.size from ⟨heap_lt H2.out, heap_lt H3.out, heap_lt H4.out⟩)
    have H25 := Box.mk (show SupAt w5 g2 A from (hB5.block g2 h62.out.1).trans H2.out)
    have H35 := Box.mk (show SupAt w5 g3 U from (hB5.block g3 h62.out.2.1).trans H3.out)
    have H45 := Box.mk (show SupAt w5 g4 noSup from (hB5.block g4 h62.out.2.2).trans H4.out)
    have HB5 := Box.mk (HB.out.trans (hB5.mono (by have := h62.out.1; omega)))
    clear hB5 H2 H3 H4 HB H3' hzc hza x5 G5 hsNU hcU haU HCU
    obtain ⟨g6, hg6⟩ : ∃ z, wc.heap.size = z := ⟨_, rfl⟩
    rw [hg6] at H6 h62 ⊢
    clear hg6
    have hi3 : Box ((Tryd.prog.info? 3).map (·.size) = some 1) := ⟨by kernel_rfl⟩
    have hwr : wrap64 (U.gen + 1) = U.gen + 1 := by unfold wrap64; omega
    go_upto_region 6 with fail
    go_cut [] (fun W => SupAt W g2 A ∧ SupAt W g3 U ∧ SupAt W g4 noSup ∧ SupAt W g6 { U with gen := U.gen + 1, mark := A.mark, head := A.head } ∧ Below g2 w W)
    case first =>
      refine held_begin (fun W => SupAt W g2 A ∧ SupAt W g3 U ∧ SupAt W g4 noSup ∧ Below g2 w W) (by kernel_rfl) (⟨H25.out, H35.out, H45.out, HB5.out.drew⟩) (fun hH0 => ?_)
      refine held_take 0 (.pointer (some ⟨g3, 1, none⟩)) rfl (by kernel_rfl) (by kernel_rfl) (by kernel_rfl) (held_pure (by rfl) (fun W => by go_simp)) (by assumption) ?_
      try simp only [Act.put, zq1, zq2, zq3]
      refine held_take 1 (.int .i64 U.gen) rfl (by kernel_rfl) (by kernel_rfl) (by kernel_rfl) (held_load1 (by rfl) 3 (.tmp 26) rfl g3 1 rfl .i64 (.int .i64 U.gen) (fun W hS => hS.2.1.cells.2.1) Tryd.underlying3) (by assumption) ?_
      try simp only [Act.put, zq1, zq2, zq3]
      refine held_take 2 (.int .i64 (U.gen + 1)) rfl (by kernel_rfl) (by kernel_rfl) (by kernel_rfl) (held_pure (by rfl) (fun W => by go_simp; exact wrap_i64 (by omega))) (by assumption) ?_
      try simp only [Act.put, zq1, zq2, zq3]
      refine held_take 3 (.pointer (some ⟨g2, 2, none⟩)) rfl (by kernel_rfl) (by kernel_rfl) (by kernel_rfl) (held_pure (by rfl) (fun W => by go_simp)) (by assumption) ?_
      try simp only [Act.put, zq1, zq2, zq3]
      refine held_take 4 (.int .i64 A.mark) rfl (by kernel_rfl) (by kernel_rfl) (by kernel_rfl) (held_load1 (by rfl) 3 (.tmp 29) rfl g2 2 rfl .i64 (.int .i64 A.mark) (fun W hS => hS.1.cells.2.2.1) Tryd.underlying3) (by assumption) ?_
      try simp only [Act.put, zq1, zq2, zq3]
      refine held_take 5 (.pointer (some ⟨g2, 3, none⟩)) rfl (by kernel_rfl) (by kernel_rfl) (by kernel_rfl) (held_pure (by rfl) (fun W => by go_simp)) (by assumption) ?_
      try simp only [Act.put, zq1, zq2, zq3]
      refine held_take 6 (.int .i64 A.head) rfl (by kernel_rfl) (by kernel_rfl) (by kernel_rfl) (held_load1 (by rfl) 3 (.tmp 31) rfl g2 3 rfl .i64 (.int .i64 A.head) (fun W hS => hS.1.cells.2.2.2.1) Tryd.underlying3) (by assumption) ?_
      try simp only [Act.put, zq1, zq2, zq3]
      refine held_take 7 (.pointer (some ⟨g6, 1, none⟩)) rfl (by kernel_rfl) (by kernel_rfl) (by kernel_rfl) (held_pure (by rfl) (fun W => by go_simp)) (by assumption) ?_
      try simp only [Act.put, zq1, zq2, zq3]
      refine held_step 8 (by kernel_rfl) rfl (by rfl) (fun K hK => ?_)
      refine oper_list rfl ?_
      refine arm_store_v 3 (.tmp 33) (.tmp 28) rfl rfl g6 1 rfl (.int .i64 (U.gen + 1)) rfl rfl rfl hi3.out (supC U) 61 H6.out (by simp [supC]) ?_
      intro w6 g6' G6
      refine ⟨rfl, ?_⟩
      have h2' := (G6.block g2 (heap_lt hH0.1) (by intro e; have := Option.some.inj e; have := h62.out; omega)).trans hH0.1
      have h3' := (G6.block g3 (heap_lt hH0.2.1) (by intro e; have := Option.some.inj e; have := h62.out; omega)).trans hH0.2.1
      have h4' := (G6.block g4 (heap_lt hH0.2.2.1) (by intro e; have := Option.some.inj e; have := h62.out; omega)).trans hH0.2.2.1
      have hB' := hH0.2.2.2.grown G6 (by have := heap_lt hH0.1; omega) (fun k hk => by cases hk; have := h62.out; omega)
      clear hH0 G6
      refine hK.out _ _ ⟨h2', h3', h4', hB'⟩ (fun hH0 => ?_)
      clear hK K
      try simp only [Act.put, zq1, zq2, zq3]
      refine held_take 9 (.pointer (some ⟨g6, 2, none⟩)) rfl (by kernel_rfl) (by kernel_rfl) (by kernel_rfl) (held_pure (by rfl) (fun W => by go_simp)) (by assumption) ?_
      try simp only [Act.put, zq1, zq2, zq3]
      refine held_step 10 (by kernel_rfl) rfl (by rfl) (fun K hK => ?_)
      refine oper_list rfl ?_
      refine arm_store_v 3 (.tmp 34) (.tmp 30) rfl rfl g6 2 rfl (.int .i64 A.mark) rfl rfl rfl hi3.out ((supC U).set 1 (.int .i64 (U.gen + 1))) 61 g6'.out (by simp [supC]) ?_
      intro w7 g7' G7
      refine ⟨rfl, ?_⟩
      have h2' := (G7.block g2 (heap_lt hH0.1) (by intro e; have := Option.some.inj e; have := h62.out; omega)).trans hH0.1
      have h3' := (G7.block g3 (heap_lt hH0.2.1) (by intro e; have := Option.some.inj e; have := h62.out; omega)).trans hH0.2.1
      have h4' := (G7.block g4 (heap_lt hH0.2.2.1) (by intro e; have := Option.some.inj e; have := h62.out; omega)).trans hH0.2.2.1
      have hB' := hH0.2.2.2.grown G7 (by have := heap_lt hH0.1; omega) (fun k hk => by cases hk; have := h62.out; omega)
      clear hH0 G7
      refine hK.out _ _ ⟨h2', h3', h4', hB'⟩ (fun hH0 => ?_)
      clear hK K
      try simp only [Act.put, zq1, zq2, zq3]
      refine held_take 11 (.pointer (some ⟨g6, 3, none⟩)) rfl (by kernel_rfl) (by kernel_rfl) (by kernel_rfl) (held_pure (by rfl) (fun W => by go_simp)) (by assumption) ?_
      try simp only [Act.put, zq1, zq2, zq3]
      refine held_step 12 (by kernel_rfl) rfl (by rfl) (fun K hK => ?_)
      refine oper_list rfl ?_
      refine arm_store_v 3 (.tmp 35) (.tmp 32) rfl rfl g6 3 rfl (.int .i64 A.head) rfl rfl rfl hi3.out (((supC U).set 1 (.int .i64 (U.gen + 1))).set 2 (.int .i64 A.mark)) 61 g7'.out (by simp [supC]) ?_
      intro w8 g8' G8
      refine ⟨rfl, ?_⟩
      have h2' := (G8.block g2 (heap_lt hH0.1) (by intro e; have := Option.some.inj e; have := h62.out; omega)).trans hH0.1
      have h3' := (G8.block g3 (heap_lt hH0.2.1) (by intro e; have := Option.some.inj e; have := h62.out; omega)).trans hH0.2.1
      have h4' := (G8.block g4 (heap_lt hH0.2.2.1) (by intro e; have := Option.some.inj e; have := h62.out; omega)).trans hH0.2.2.1
      have hB' := hH0.2.2.2.grown G8 (by have := heap_lt hH0.1; omega) (fun k hk => by cases hk; have := h62.out; omega)
      clear hH0 G8
      refine hK.out _ _ ⟨h2', h3', h4', hB'⟩ (fun hH0 => ?_)
      clear hK K
      try simp only [Act.put, zq1, zq2, zq3]
      try simp only [Act.put]
      refine held_done (by kernel_rfl) ?_ _
      go_wp2
      go_meet
      exact ⟨hH0.1, hH0.2.1, hH0.2.2.1, g8'.out, hH0.2.2.2⟩
    case rest =>
      obtain ⟨S2, S3, S4, S6, Bc⟩ := hcut
      obtain ⟨T, hT⟩ : ∃ T : SupV, ({ U with gen := U.gen + 1, mark := A.mark, head := A.head } : SupV) = T := ⟨_, rfl⟩
      rw [hT] at S6 HN
      clear hT
      have HB := Box.mk Bc
      have c22 := S2.cells.2.2.1
      have c32 := S3.cells.2.2.1
      have H2 := Box.mk (show _ = some (Obj.cells (supC A).toArray 61 (0, 0)) from S2)
      have H6T := Box.mk (show _ = some (Obj.cells (supC T).toArray 61 (0, 0)) from S6)
      have H4 := Box.mk (show _ = some (Obj.cells (supC noSup).toArray 61 (0, 0)) from S4)
      have hsA := hsz A
      have hsT := hsz T
      have haA := hal A
      have hss := Box.mk (show (supC noSup).toArray.size = (supC A).toArray.size from rfl)
      have hgd : Box (Tryd.prog.eqGuardType Tryd.prog.depth 61 = false) := ⟨by kernel_rfl⟩
      have HE := Box.mk (fun W => sup_equal T A W)
      have HI := Box.mk (eqS_iff T A)
      clear S2 S3 S4 S6 Bc H45 H25 H35 HB5
      rw [HZ.out] at H4 hss
      generalize hca : (supC A).toArray = ca at *
      generalize (supC T).toArray = ct at *
      have HCA := Box.mk hca
      clear hca
      generalize hq : eqS T A = q at *
      cases q with
      | false =>
        have hno := Box.mk (show ¬ NewerOk a b from fun h => by
          have h1 := HI.out.2 (HN.out.1 h).1.symm
          cases h1)
        have heq := Box.mk (fun W => show (Op.equalIn 10000 61 (.agg ct) (.agg ca)).run Tryd.prog W = .ok (!true) W from HE.out W)
        clear HE HI hq
        go_wp2_with (first
          | ((with_reducible refine arm_row 61 (.tmp 6) ?_ ?_ g6 ?_ 61 ct (0, 0) _ H6T.out Tryd.underlying61 rfl hsT.out ?_); rfl; rfl; rfl)
          | ((with_reducible refine arm_row 61 (.tmp 2) ?_ ?_ g2 ?_ 61 ca (0, 0) _ H2.out Tryd.underlying61 rfl hsA.out ?_); rfl; rfl; rfl)
          | ((with_reducible refine arm_neq 61 61 (.tmp 36) (.tmp 37) ?_ ?_ ct ca true ?_ ?_ hgd.out heq.out ?_); rfl; rfl; rfl; rfl)
          | ((with_reducible refine arm_built 61 [] ?_ ?_ [] ?_ zn hzn.out ?_); rfl; rfl; rfl)
          | ((with_reducible refine arm_storer 61 (.tmp 4) (.tmp 46) ?_ rfl g4 zn zn 61 ?_ ?_ H4.out rfl hsn.out han.out ?_); rfl; rfl; rfl))
        intro wx gx Gx
        have bx := Box.mk (HB.out.grown Gx (by have := heap_lt H4.out; have := hg4.out; omega) (fun k hk => by cases hk; exact hg4.out))
        clear Gx
        go_wp2
        exact bodyPost_ret (v := .tuple #[.agg zn, .int .i64 4]) (results_rowt (p := 4) (u := 5) (ty := 61) rfl _ _ g4 61 _ (0, 0) _ rfl gx.out Tryd.underlying61 rfl hsn.out _ rfl) rfl ⟨by rw [(HR.out hno.out).1, (HR.out hno.out).2, HZ.out], by rw [HW2.out]; exact bx.out⟩
      | true =>
        have hTA := Box.mk (HI.out.1 rfl)
        have heq := Box.mk (fun W => show (Op.equalIn 10000 61 (.agg ct) (.agg ca)).run Tryd.prog W = .ok (!false) W from HE.out W)
        clear HE HI hq
        rcases Int.lt_or_le A.mark U.mark with hlt | hle
        · have hno := Box.mk (show ¬ NewerOk a b from fun h => by have := (HN.out.1 h).2; omega)
          go_wp2_with (first
            | ((with_reducible refine arm_row 61 (.tmp 6) ?_ ?_ g6 ?_ 61 ct (0, 0) _ H6T.out Tryd.underlying61 rfl hsT.out ?_); rfl; rfl; rfl)
            | ((with_reducible refine arm_row 61 (.tmp 2) ?_ ?_ g2 ?_ 61 ca (0, 0) _ H2.out Tryd.underlying61 rfl hsA.out ?_); rfl; rfl; rfl)
            | ((with_reducible refine arm_neq 61 61 (.tmp 36) (.tmp 37) ?_ ?_ ct ca false ?_ ?_ hgd.out heq.out ?_); rfl; rfl; rfl; rfl)
            | ((with_reducible refine arm_built 61 [] ?_ ?_ [] ?_ zn hzn.out ?_); rfl; rfl; rfl)
            | ((with_reducible refine arm_storer 61 (.tmp 4) (.tmp 46) ?_ rfl g4 zn zn 61 ?_ ?_ H4.out rfl hsn.out han.out ?_); rfl; rfl; rfl))
          intro wx gx Gx
          have bx := Box.mk (HB.out.grown Gx (by have := heap_lt H4.out; have := hg4.out; omega) (fun k hk => by cases hk; exact hg4.out))
          clear Gx
          go_wp2
          exact bodyPost_ret (v := .tuple #[.agg zn, .int .i64 4]) (results_rowt (p := 4) (u := 5) (ty := 61) rfl _ _ g4 61 _ (0, 0) _ rfl gx.out Tryd.underlying61 rfl hsn.out _ rfl) rfl ⟨by rw [(HR.out hno.out).1, (HR.out hno.out).2, HZ.out], by rw [HW2.out]; exact bx.out⟩
        · have hyes := Box.mk (show NewerOk a b from HN.out.2 ⟨hTA.out.symm, hle⟩)
          go_wp2_with (first
            | ((with_reducible refine arm_row 61 (.tmp 6) ?_ ?_ g6 ?_ 61 ct (0, 0) _ H6T.out Tryd.underlying61 rfl hsT.out ?_); rfl; rfl; rfl)
            | ((with_reducible refine arm_row 61 (.tmp 2) ?_ ?_ g2 ?_ 61 ca (0, 0) _ H2.out Tryd.underlying61 rfl hsA.out ?_); rfl; rfl; rfl)
            | ((with_reducible refine arm_neq 61 61 (.tmp 36) (.tmp 37) ?_ ?_ ct ca false ?_ ?_ hgd.out heq.out ?_); rfl; rfl; rfl; rfl)
            | ((with_reducible refine arm_built 61 [] ?_ ?_ [] ?_ zn hzn.out ?_); rfl; rfl; rfl)
            | ((with_reducible refine arm_storer 61 (.tmp 4) (.tmp 47) ?_ rfl g4 zn ca 61 ?_ ?_ H4.out hss.out hsA.out haA.out ?_); rfl; rfl; rfl))
          intro wx gx Gx
          have bx := Box.mk (HB.out.grown Gx (by have := heap_lt H4.out; have := hg4.out; omega) (fun k hk => by cases hk; exact hg4.out))
          clear Gx
          go_wp2
          exact bodyPost_ret (v := .tuple #[.agg ca, .int .i64 0]) (results_rowt (p := 4) (u := 5) (ty := 61) rfl _ _ g4 61 _ (0, 0) _ rfl gx.out Tryd.underlying61 rfl hsA.out _ rfl) rfl ⟨by rw [(HY.out hyes.out).1, (HY.out hyes.out).2, HCA.out], by rw [HW2.out]; exact bx.out⟩
end Go.Proofs.YtopdhanbmnfeeaaDoor

/- Superblocks as bytes: PackSuper. -/
namespace Go.Proofs.YtopdhanbmnfeeaaDoor
set_option linter.unusedSectionVars false
open Go Go.RowKit
set_option maxRecDepth 100000
set_option maxHeartbeats 40000000
set_option linter.unusedVariables false
set_option linter.unusedSimpArgs false
theorem size_sup (s : SupV) : Box ((Tryd.prog.info? 61).map (·.size) = some (supC s).length) := size_of_len (n := 5) _ rfl (by kernel_rfl)
theorem sup_all (s : SupV) : (supC s).toArray.all (·.oneCell') = true := list_all _ rfl
theorem zero_60 : ∀ w : World, (zeroValue 140).run Tryd.prog w = .ok (.agg (bvs (zerosB 60)).toArray) w := fun w => by kernel_rfl
theorem first_letters : Builtin.firstCells 1 (Nat.min (ByteArray.mk #[76, 68, 71, 49]).size 60) (.string (ByteArray.mk #[76, 68, 71, 49])) = pure (bvs lettersB).toArray := by
  unfold Builtin.firstCells
  show (pure (Array.map (fun b : UInt8 => Value.int .u8 (b.toNat : Int)) ((ByteArray.mk #[76, 68, 71, 49]).extract 0 4).data) : Sem (Array Value)) = _
  congr 1
  apply Array.ext'
  rw [Array.toList_map]
  rfl
theorem splice_zeros (A L : List UInt8) (off n : Nat) (hA : A.length = off) (hL : L.length ≤ n) : splice (A ++ zerosB n) off L = (A ++ L) ++ zerosB (n - L.length) := by
  unfold splice
  rw [List.take_left' hA, ← List.drop_drop, List.drop_left' hA]
  unfold zerosB
  rw [List.drop_replicate, List.append_assoc]
theorem byteWrapI (v : Int) (h : 0 ≤ v ∧ v < 256) : IntKind.u8.wrap v = ((UInt8.ofNat v.toNat).toNat : Int) := by
  obtain ⟨n, rfl⟩ := Int.eq_ofNat_of_zero_le h.1
  exact wrap_u8 n
theorem put_anyI (g off m c : Nat) (v : Int) (n : Nat) (cs : List Value) (T : TypeId) (w : World) (hv : 0 ≤ v) (h0 : w.heap[g]? = some (.cells cs.toArray T (0, 0))) (hn : n ≤ 8) (hm : n ≤ m) (hlen : off + n ≤ cs.length) (hmx : m ≤ maxLen) :
    Calls Tryd.prog 71 #[.slice (some ⟨g, off, none⟩) m c, .int .i64 v, .int .i64 (n : Int)] w fun e w' => e = .returned (.tuple #[]) ∧ w'.heap[g]? = some (.cells (splice cs off (bvs (leN v.toNat n))).toArray T (0, 0)) ∧ Grew w w' [g] := by
  obtain ⟨k, rfl⟩ := Int.eq_ofNat_of_zero_le hv
  exact put_any g off m c k n cs T w h0 hn hm hlen hmx
theorem made_page (z : Value) (hz : (Tryd.prog.info? 5).bind (·.zero) = some z) : madeCells z.cells (256 * 1) = (bvs (zerosB 256)).toArray := by
  have h2 : (Tryd.prog.info? 5).bind (·.zero) = some (.int .u8 0) := by kernel_rfl
  rw [h2] at hz
  obtain rfl := (Option.some.inj hz).symm
  exact made_zeros 256
theorem packSuper_ok (s : SupV) (w : World) (hv : ValidS s) : zC 52 [.agg ((supC s)).toArray] w fun e w' => ∃ g, e = .returned (.tuple #[zS g 256 256, zI 0]) ∧ Mem w [] w' [blk g 5 (bvs (superB s))] := by
 have M := Mem.nil w;have hv0 := hv;obtain ⟨v1, v2, v3, v4, v5, v6, v7, v8, v9⟩ := hv0;go_enter Tryd.func52, Tryd.ntmps52;refine zin ?_;refine zk fun K1 hK1 => zr ?_;refine zbx M (supC s) rfl ?_;intro gS w2 (M2 : Mem w [] w2 [blk gS 61 (supC s)]);clear M;refine zp 2 rfl ?_;refine zw (hK1 _ _ (zk fun K3 hK3 => zk fun K4 hK4 => zr ?_));refine zo M2 (zlb 0 rfl zu61 rfl (size_sup s)) ?_;refine zca 70 [.agg ((supC s)).toArray] rfl zc70 (valid_any s _) ?_;rintro e w5 ⟨rfl, H5⟩;have M5 := M2.low H5;rw [(valid_yes hv)];refine ⟨_, rfl, ?_⟩;refine zp 1 rfl ?_;refine zw (hK4 _ _ (zcf rfl (zsk (hK3 _ _ (zk fun K6 hK6 => ?_)))));refine zr ?_;refine zal M5 (bvs (zerosB 60)) rfl zero_60 fun gb w7 M7 => ?_;refine zw (hK6 _ _ (zk fun K8 hK8 => zr ?_));refine zo M7 (y_sla (l := 0) (h := 60) (r := 0) (n' := 60) (c' := 60) (zwn rfl) rfl (zev rfl) (zeo rfl) (zeo rfl) zu140 zz5 (by exact ⟨rfl, rfl⟩) (rfl) (by omega) (by omega)) ?_;refine pe (zwn rfl) fun K hK => e_copys M7 0 lettersB rfl zu31 zz5 (zev rfl) (zev rfl) rfl rfl first_letters (show 4 ≤ 60 by decide) ?_;intro w9 M9;replace M9 : Mem w [] w9 [blk gb 140 (bvs (lettersB ++ zerosB 56)), blk gS 61 (supC s)] := M9;refine hK.out _ _ (zpu ?_);refine zw (hK8 _ _ (zk fun K10 hK10 => zr ?_));refine zo M9 (zf 0 zu61 rfl zz3) (zo M9 (zl 1 rfl zg3) (zo M9 (y_conv (r := ((UInt8.ofNat s.width.toNat).toNat : Int)) (zwn rfl) rfl (zev rfl) zu3 zu5 (byteWrapI _ (by omega))) (zo M9 (y_iaa (r := 4) (zwn rfl) rfl (zev rfl) (zev rfl) zu140 zz5 (by first | omega | (dsimp only; omega)) (by first | omega | (dsimp only; omega))) ?_)));refine zso M9 0 (v := .int .u8 ((UInt8.ofNat s.width.toNat).toNat : Int)) rfl rfl zz5 (show (4 : Nat) < 60 by decide) ?_;intro w11 (M11 : Mem w [] w11 [blk gb 140 ((bvs (lettersB ++ zerosB 56)).set 4 (.int .u8 ((UInt8.ofNat s.width.toNat).toNat : Int))), blk gS 61 (supC s)]);have M12 : Mem w [] w11 [blk gb 140 (bvs (((lettersB ++ [UInt8.ofNat s.width.toNat]) ++ zerosB 3) ++ zerosB 52)), blk gS 61 (supC s)] := M11;refine zw (hK10 _ _ (zk fun K13 hK13 => ?_));have M14 := M12.drew;refine wp_region_tail 3 (by kernel_rfl) (by kernel_rfl) ?_;simp only [List.take_succ_cons, List.take_zero, List.drop_succ_cons, List.drop_zero];refine zq M14 (y_sla (l := 8) (h := 60) (r := 8) (n' := 52) (c' := 52) (zwn rfl) rfl (zev rfl) (zeo rfl) (zeo rfl) zu140 zz5 (by exact ⟨rfl, ⟨_, _, rfl, by omega, by omega⟩⟩) (rfl) (by omega) (by omega)) (zq M14 (zf 1 zu61 rfl zz3) (zq M14 (zl 1 rfl zg3) ?_));refine wpStill_nil ?_;refine zca 71 [.slice (some ⟨gb, 8, none⟩) 52 52, zI s.gen, zI 8] rfl Tryd.call71 (put_anyI gb 8 52 52 s.gen 8 (bvs (((lettersB ++ [UInt8.ofNat s.width.toNat]) ++ zerosB 3) ++ zerosB 52)) 140 _ (by omega) (M14.get 0 rfl) (by decide) (by decide) (by rw [length_bvs]; simp [lettersB, zerosB, length_leN]) (by unfold maxLen; omega)) ?_;rintro e w15 ⟨rfl, H, G⟩;have M15 : Mem w [] w15 [blk gb 140 (bvs ((((lettersB ++ [UInt8.ofNat s.width.toNat]) ++ zerosB 3) ++ leN s.gen.toNat 8) ++ zerosB 44)), blk gS 61 (supC s)] := (by have h := M14.setBlk2 0 _ rfl G H; rw [splice_bvs, splice_zeros _ _ 8 52 (by simp [lettersB, zerosB, length_leN]) (by simp [length_leN])] at h; simpa [length_leN] using h);refine ⟨_, rfl, ?_⟩;refine zw (hK13 _ _ (zk fun K16 hK16 => ?_));have M17 := M15.drew;refine wp_region_tail 3 (by kernel_rfl) (by kernel_rfl) ?_;simp only [List.take_succ_cons, List.take_zero, List.drop_succ_cons, List.drop_zero];refine zq M17 (y_sla (l := 16) (h := 60) (r := 16) (n' := 44) (c' := 44) (zwn rfl) rfl (zev rfl) (zeo rfl) (zeo rfl) zu140 zz5 (by exact ⟨rfl, ⟨_, _, rfl, by omega, by omega⟩⟩) (rfl) (by omega) (by omega)) (zq M17 (zf 2 zu61 rfl zz3) (zq M17 (zl 1 rfl zg3) ?_));refine wpStill_nil ?_;refine zca 71 [.slice (some ⟨gb, 16, none⟩) 44 44, zI s.mark, zI 4] rfl Tryd.call71 (put_anyI gb 16 44 44 s.mark 4 (bvs ((((lettersB ++ [UInt8.ofNat s.width.toNat]) ++ zerosB 3) ++ leN s.gen.toNat 8) ++ zerosB 44)) 140 _ (by omega) (M17.get 0 rfl) (by decide) (by decide) (by rw [length_bvs]; simp [lettersB, zerosB, length_leN]) (by unfold maxLen; omega)) ?_;rintro e w18 ⟨rfl, H, G⟩;have M18 : Mem w [] w18 [blk gb 140 (bvs (((((lettersB ++ [UInt8.ofNat s.width.toNat]) ++ zerosB 3) ++ leN s.gen.toNat 8) ++ leN s.mark.toNat 4) ++ zerosB 40)), blk gS 61 (supC s)] := (by have h := M17.setBlk2 0 _ rfl G H; rw [splice_bvs, splice_zeros _ _ 16 44 (by simp [lettersB, zerosB, length_leN]) (by simp [length_leN])] at h; simpa [length_leN] using h);refine ⟨_, rfl, ?_⟩;refine zw (hK16 _ _ (zk fun K19 hK19 => ?_));have M20 := M18.drew;refine wp_region_tail 3 (by kernel_rfl) (by kernel_rfl) ?_;simp only [List.take_succ_cons, List.take_zero, List.drop_succ_cons, List.drop_zero];refine zq M20 (y_sla (l := 20) (h := 60) (r := 20) (n' := 40) (c' := 40) (zwn rfl) rfl (zev rfl) (zeo rfl) (zeo rfl) zu140 zz5 (by exact ⟨rfl, ⟨_, _, rfl, by omega, by omega⟩⟩) (rfl) (by omega) (by omega)) (zq M20 (zf 3 zu61 rfl zz3) (zq M20 (zl 1 rfl zg3) ?_));refine wpStill_nil ?_;refine zca 71 [.slice (some ⟨gb, 20, none⟩) 40 40, zI s.head, zI 4] rfl Tryd.call71 (put_anyI gb 20 40 40 s.head 4 (bvs (((((lettersB ++ [UInt8.ofNat s.width.toNat]) ++ zerosB 3) ++ leN s.gen.toNat 8) ++ leN s.mark.toNat 4) ++ zerosB 40)) 140 _ (by omega) (M20.get 0 rfl) (by decide) (by decide) (by rw [length_bvs]; simp [lettersB, zerosB, length_leN]) (by unfold maxLen; omega)) ?_;rintro e w21 ⟨rfl, H, G⟩;have M21 : Mem w [] w21 [blk gb 140 (bvs ((((((lettersB ++ [UInt8.ofNat s.width.toNat]) ++ zerosB 3) ++ leN s.gen.toNat 8) ++ leN s.mark.toNat 4) ++ leN s.head.toNat 4) ++ zerosB 36)), blk gS 61 (supC s)] := (by have h := M20.setBlk2 0 _ rfl G H; rw [splice_bvs, splice_zeros _ _ 20 40 (by simp [lettersB, zerosB, length_leN]) (by simp [length_leN])] at h; simpa [length_leN] using h);refine ⟨_, rfl, ?_⟩;refine zw (hK19 _ _ (zk fun K22 hK22 => ?_));have M23 := M21.drew;refine wp_region_tail 3 (by kernel_rfl) (by kernel_rfl) ?_;simp only [List.take_succ_cons, List.take_zero, List.drop_succ_cons, List.drop_zero];refine zq M23 (y_sla (l := 24) (h := 60) (r := 24) (n' := 36) (c' := 36) (zwn rfl) rfl (zev rfl) (zeo rfl) (zeo rfl) zu140 zz5 (by exact ⟨rfl, ⟨_, _, rfl, by omega, by omega⟩⟩) (rfl) (by omega) (by omega)) (zq M23 (zf 4 zu61 rfl zz3) (zq M23 (zl 1 rfl zg3) ?_));refine wpStill_nil ?_;refine zca 71 [.slice (some ⟨gb, 24, none⟩) 36 36, zI s.pages, zI 4] rfl Tryd.call71 (put_anyI gb 24 36 36 s.pages 4 (bvs ((((((lettersB ++ [UInt8.ofNat s.width.toNat]) ++ zerosB 3) ++ leN s.gen.toNat 8) ++ leN s.mark.toNat 4) ++ leN s.head.toNat 4) ++ zerosB 36)) 140 _ (by omega) (M23.get 0 rfl) (by decide) (by decide) (by rw [length_bvs]; simp [lettersB, zerosB, length_leN]) (by unfold maxLen; omega)) ?_;rintro e w24 ⟨rfl, H, G⟩;have M24 : Mem w [] w24 [blk gb 140 (bvs (((((((lettersB ++ [UInt8.ofNat s.width.toNat]) ++ zerosB 3) ++ leN s.gen.toNat 8) ++ leN s.mark.toNat 4) ++ leN s.head.toNat 4) ++ leN s.pages.toNat 4) ++ zerosB 32)), blk gS 61 (supC s)] := (by have h := M23.setBlk2 0 _ rfl G H; rw [splice_bvs, splice_zeros _ _ 24 36 (by simp [lettersB, zerosB, length_leN]) (by simp [length_leN])] at h; simpa [length_leN] using h);refine ⟨_, rfl, ?_⟩;refine zw (hK22 _ _ (zk fun K25 hK25 => zr ?_));refine pe (zwn rfl) fun K hK => e_make M24 bytesT (bvs (zerosB 256)) (n := 256) (m := 256) rfl (zev rfl) (zev rfl) (rfl) (rfl) (by omega) (by omega) (by omega) (fun z hz => made_page z hz) ?_;intro gp w26 M26;refine hK.out _ _ (zpu ?_);refine zp 1 rfl ?_;refine zw (hK25 _ _ (zk fun K27 hK27 => zr ?_));refine zp 1 rfl (zo M26 (y_sla (l := 0) (h := 60) (r := 0) (n' := 60) (c' := 60) (zwn rfl) rfl (zev rfl) (zeo rfl) (zeo rfl) zu140 zz5 (by exact ⟨rfl, rfl⟩) (rfl) (by omega) (by omega)) ?_);refine zca 72 [zS gb 60 60] rfl Tryd.call72 (seal_any (zA gb) 60 60 (headB s) _ (by have := blk_row (l := headB s) (M26.get 1 rfl); rwa [length_headB] at this) (by intro h; cases h) (by omega)) ?_;rintro e w28 ⟨⟨gs, cs, rfl, H⟩, G⟩;have M28 : Mem w [] w28 [lst 5 1 (zS gs (60 + 4) cs) ((sealB (headB s)).length) (bvs (sealB (headB s))), blk gp 5 (bvs (zerosB 256)), blk gb 140 (bvs (((((((lettersB ++ [UInt8.ofNat s.width.toNat]) ++ zerosB 3) ++ leN s.gen.toNat 8) ++ leN s.mark.toNat 4) ++ leN s.head.toNat 4) ++ leN s.pages.toNat 4) ++ zerosB 32)), blk gS 61 (supC s)] := M26.ownl G H;refine ⟨_, rfl, ?_⟩;have hsl : (sealB (headB s)).length = 60 + 4 := by rw [length_sealB, length_headB]
 have hrow : Row w28 (zA gs) (60 + 4) (sealB (headB s)) := by have := M28.get 0 rfl; rw [hsl] at this; exact lst_row this
 refine pe (zwn rfl) fun K hK => e_copy M28 1 (l := (sealB (headB s))) rfl rfl zu31 zz5 (zev rfl) (zev rfl) rfl (by rw [length_sealB, length_headB]; rfl) (hrow.self) (by rw [length_sealB, length_headB, length_bvs]; simp [zerosB]) ?_;intro w29 M29;replace M29 : Mem w [] w29 [lst 5 1 (zS gs (60 + 4) cs) ((sealB (headB s)).length) (bvs (sealB (headB s))), blk gp 5 (bvs (superB s)), blk gb 140 (bvs (((((((lettersB ++ [UInt8.ofNat s.width.toNat]) ++ zerosB 3) ++ leN s.gen.toNat 8) ++ leN s.mark.toNat 4) ++ leN s.head.toNat 4) ++ leN s.pages.toNat 4) ++ zerosB 32)), blk gS 61 (supC s)] := by rw [splice_bvs] at M29; rw [show superB s = splice (zerosB 256) 0 (sealB (headB s)) from (by rw [show zerosB 256 = [] ++ zerosB 256 from rfl, splice_zeros [] _ 0 256 rfl (by rw [length_sealB, length_headB]; decide)]; rw [length_sealB, length_headB]; rfl)]; exact M29
 refine hK.out _ _ (zpu ?_);refine zw (hK27 _ _ (zk fun K30 hK30 => zr ?_));refine zp 3 rfl ?_;refine zw (hK30 _ _ (zrt ?_));(try simp only[zi,zj]);refine zR (res2 rfl (zgd rfl) (zgd rfl)) (zdf _) ?_;exact ⟨gp, rfl, M29.arr [1] (by decide)⟩
end Go.Proofs.YtopdhanbmnfeeaaDoor
