/- The walk of the law NodeTower. -/
import Derived.Test.YtonpbmjgoenfdaaDoorTower
namespace Go.Proofs.YtonpbmjgoenfdaaDoor
open Go Go.RowKit
set_option linter.unusedVariables false

theorem OwnD.slice {w : World} {base : Nat} {e : TypeId} {v : Value} {ds : List D32} (h : OwnD w base e v ds) : ∃ ao cap, v = .slice ao ds.length cap := by
  obtain ⟨hl, ⟨rfl, h0⟩ | ⟨g, cap, cur, rfl, _⟩⟩ := h
  · exact ⟨none, 0, by rw [h0]⟩
  · exact ⟨_, _, rfl⟩
theorem clamp_clamp (z : Int) : clamp (clamp z 0 256) 0 256 = clamp z 0 256 := by unfold clamp; omega
section
variable (S : S8) (K : List UInt32) (width : Int)
theorem emptyD_clamp (z : Int) : emptyD S K width (clamp z 0 256) = emptyD S K width z := by unfold emptyD; rw [clamp_clamp]
theorem emptyD_at (z : Int) (H : Nat) (h : clamp z 0 256 = (H : Int)) : emptyD S K width z = emD S K width H := by unfold emptyD; rw [h]; rfl
end

set_option maxRecDepth 100000 in
set_option maxHeartbeats 4000000 in
theorem tower_walk {S : S8} {K : List UInt32} (h0 : emptyD S K 32 0 ≠ zero32) (h256 : emptyD S K 32 256 ≠ emptyD S K 32 255) (width : Int) (ao : Option Addr) (n c : Nat) (zs : List Int) (w : World) (hL : Laid S K w)
    (hz : Ints w ao n zs) (hnc : n ≤ c) (hn : n ≤ 2097152) (hnil : ao = none → n = 0) :
    Calls Tryd.prog 3 #[.int .i64 width, .slice ao n c] w fun e w' => e = .returned (.bool true) ∧ Below w.heap.size w w' := by
  have hi24 : Hid ((Tryd.prog.info? 24).map (·.size) = some 32) := by unfold Hid; kernel_rfl
  have hzd : ∀ W : World, (zeroValue 24).run Tryd.prog W = .ok (.agg (dc zero32)) W := fun W => by kernel_rfl
  have hd32 : ∀ d : D32, Box ((Tryd.prog.info? 24).map (·.size) = some (dc d).size) := fun d => ⟨by rw [size_dc]; exact hi24.out⟩
  have hss : ∀ d e : D32, Box ((dc d).size = (dc e).size) := fun d e => ⟨by rw [size_dc, size_dc]⟩
  have e30 : ∀ (x y : D32) (W : World), (Op.equalIn 10000 24 (.agg (dc x)) (.agg (dc y))).run Tryd.prog W = .ok (eqD x y) W := by
    obtain ⟨i5, hi5'⟩ := Option.isSome_iff_exists.1 (show (Tryd.prog.info? 5).isSome = true by kernel_rfl)
    exact fun x y W => equalIn_d32 (d := 9998) Tryd.underlying24 hi5' Tryd.underlying5 (by kernel_rfl) x y W
  have hgd30 : Tryd.prog.eqGuardType Tryd.prog.depth 24 = false := by kernel_rfl
  have U24 : Tryd.prog.underlying 24 = some (.array 32 5) := Tryd.underlying24
  have U26 : Tryd.prog.underlying 26 = some (.slice 24) := Tryd.underlying26
  have I24 : (Tryd.prog.info? 24).map (fun i => (i.zero, i.size, i.bytes)) = some (some (.agg (dc zero32)), 32, 32) := by kernel_rfl
  have bz24 : Tryd.prog.built 24 [] = some (dc zero32) := by kernel_rfl
  have hE0 := eqD_false h0
  have hE1 := eqD_false h256
  have c0 : ∀ W, Laid S K W → _ := fun W hW => empty_any 32 0 W hW
  have c256 : ∀ W, Laid S K W → _ := fun W hW => empty_any 32 256 W hW
  have c255 : ∀ W, Laid S K W → _ := fun W hW => empty_any 32 255 W hW
  generalize emptyD S K 32 0 = x0 at c0 hE0
  generalize emptyD S K 32 256 = x1 at c256 hE1
  generalize emptyD S K 32 255 = x2 at c255 hE1
  have he0 : ∀ W, (Op.equalIn 10000 24 (.agg (dc x0)) (.agg (dc zero32))).run Tryd.prog W = .ok false W := fun W => by rw [e30, hE0]
  have he1 : ∀ W, (Op.equalIn 10000 24 (.agg (dc x1)) (.agg (dc x2))).run Tryd.prog W = .ok false W := fun W => by rw [e30, hE1]
  have hself' : ∀ d : D32, ∀ W, (Op.equalIn 10000 24 (.agg (dc d)) (.agg (dc d))).run Tryd.prog W = .ok (!false) W := fun d W => by rw [e30, eqD_true rfl]; rfl
  have HL := Lib.hid hL
  have HZ := Box.mk hz
  clear hL hE0 hE1 e30 h0 h256 hz
  have k1 : (n : Int) ≤ 2097152 := by omega
  go_enter Tryd.func3, Tryd.ntmps3
  go_wp2_with (first
    | (refine wpList_built rfl 24 [] ?_ [] ?_ (dc zero32) bz24 ?_; rfl; rfl)
    | (refine wpList_yields ?_ (held_eql ?_ 24 24 (.tmp 11) (.tmp 12) ?_ x0 zero32 false ?_ ?_ hgd30 he0) ?_; rfl; rfl; rfl; rfl; rfl)
    | (go_at_call 6; refine (c0 _ HL.out).mono ?_))
  -- GEN
  rintro e w1 ⟨rfl, hB1⟩
  go_wp2_with (first
    | (refine wpList_built rfl 24 [] ?_ [] ?_ (dc zero32) bz24 ?_; rfl; rfl)
    | (refine wpList_yields ?_ (held_eql ?_ 24 24 (.tmp 11) (.tmp 12) ?_ x0 zero32 false ?_ ?_ hgd30 he0) ?_; rfl; rfl; rfl; rfl; rfl)
    | (go_at_call_of 6 (Value.int IntKind.i64 256); refine (c256 _ (HL.out.old hB1)).mono ?_))
  rintro e w2 ⟨rfl, hB2⟩
  have b2 : Below w.heap.size w w2 := hB1.trans (hB2.mono hB1.size)
  go_wp2_with (go_at_call_of 6 (Value.int IntKind.i64 255); refine (c255 _ (HL.out.old b2)).mono ?_)
  rintro e w3 ⟨rfl, hB3⟩
  have b3 : Below w.heap.size w w3 := b2.trans (hB3.mono b2.size)
  clear hB1 hB2 hB3 b2 c0 c256 c255 he0
  go_upto_region 3 with (refine wpList_yields ?_ (held_eql ?_ 24 24 (.tmp 15) (.tmp 16) ?_ x1 x2 false ?_ ?_ hgd30 he1) ?_; rfl; rfl; rfl; rfl; rfl)
  clear he1 bz24
  go_wp2_with fail
  go_loopw [5, 6, 7, 8, 9] (fun sv i v7 v8 v9 wr => ∃ (k : Nat) (ds : List D32), k ≤ n ∧ i = .int .i64 k ∧ Box (ds = (zs.take k).map (emptyD S K width)) ∧ Box (ds.length = k) ∧ Hid (OwnD wr w.heap.size 24 sv ds) ∧ Below w.heap.size w wr) (fun _ i _ _ _ _ => n - (intOf i).toNat)
  case atStart => exact ⟨0, [], by omega, rfl, ⟨rfl⟩, ⟨rfl⟩, OwnD.nil _ _ _, b3⟩
  case round =>
    obtain ⟨k, ds, hk, rfl, hds, hlen, own, br⟩ := hrel
    by_cases hlt : k < n
    · obtain ⟨bq, oq, rfl⟩ := HZ.out.at0 (by omega)
      have hzl : k < zs.length := by have := HZ.out.1; omega
      have cz := HZ.out.cell br k hlt
      obtain ⟨z, hz⟩ : ∃ z, zs.getD k 0 = z := ⟨_, rfl⟩
      rw [hz] at cz
      obtain ⟨H, hH⟩ : ∃ H : Nat, clamp z 0 256 = (H : Int) := ⟨(clamp z 0 256).toNat, by unfold clamp; omega⟩
      have hH6 : H ≤ 256 := by unfold clamp at hH; omega
      have q1 : ∀ W, _ := fun W => lwithin_any z 0 256 W (by decide)
      rw [hH] at q1
      have q2 : ∀ W, Laid S K W → _ := fun W hW => empty_any width z W hW
      have q3 : ∀ W, Laid S K W → _ := fun W hW => empty_any width (H : Int) W hW
      rw [show emptyD S K width (H : Int) = emptyD S K width z by rw [← hH]; exact emptyD_clamp S K width z] at q3
      have HE : Box (emptyD S K width z = emD S K width H) := ⟨emptyD_at S K width z H hH⟩
      obtain ⟨dz, HDZ⟩ : ∃ dz, Box (emptyD S K width z = dz) := ⟨_, ⟨rfl⟩⟩
      rw [HDZ.out] at q2 q3 HE
      have hds' : Box (ds ++ [dz] = (zs.take (k + 1)).map (emptyD S K width)) := ⟨by
        rw [List.take_succ_eq_append_getElem hzl, List.map_append, ← hds.out]
        congr 1
        rw [List.map_singleton, ← HDZ.out, ← hz]
        simp [List.getD, List.getElem?_eq_getElem hzl]⟩
      clear hz hH hds
      have hki : (k : Int) < n := by omega
      go_wp2_with (first
        | (go_at_call 7; refine (q1 _).mono ?_; rintro e w' ⟨rfl, rfl⟩)
        | (go_at_call 6; refine (q2 _ (HL.out.old br)).mono ?_))
      rintro e w4 ⟨rfl, hB4⟩
      have b4 : Below w.heap.size w w4 := br.trans (hB4.mono br.size)
      have z4 : wr.heap.size ≤ w4.heap.size := hB4.size
      have own4 := Lib.hid (own.out.below hB4)
      have z40 : w.heap.size ≤ w4.heap.size := b4.size
      clear own cz br hB4 q1 q2
      go_wp2_with (refine wpList_store_row rfl 24 (.tmp 8) (.tmp 35) ?_ w4.heap.size (dc zero32) (dc dz) 24 ?_ ?_ ?_ (hss _ _).out (hd32 _).out (dc_all _) ?_; rfl; rfl; rfl; exact heap_new rfl)
      intro w5 g8 G8
      have B5 : Below w4.heap.size w4 w5 := (Below.refl_alloc w4 _).grown G8 (by simp) (fun k hk => by cases hk; omega)
      have b5 : Below w.heap.size w w5 := b4.trans (B5.mono b4.size)
      have z5 : w4.heap.size + 1 ≤ w5.heap.size := by have := G8.size; simpa using this
      have own5 := Lib.hid (own4.out.below B5)
      have r8 : w5.rangeAt w4.heap.size 0 (bvs dz.1) := rangeAt_block g8.out
      clear own4 b4 g8 G8 B5
      go_wp2_with fail
      refine held_begin (fun W => Below w5.heap.size w5 W) (by kernel_rfl) (Below.refl _ w5).drew (fun hH0 => ?_)
      refine held_take 0 (.agg (dc dz)) rfl (by kernel_rfl) (by kernel_rfl) (by kernel_rfl) (held_load (by rfl) 24 (.tmp 8) rfl (w4.heap.size) (0) rfl dz 5 (fun W hS => rangeAt_below r8 hS (by omega)) U24 hi24) (by assumption) ?_
      try simp only [Act.put, List.setIfInBounds_toArray, List.set_cons_zero, List.set_cons_succ]
      refine held_take 1 (.int .i64 width) rfl (by kernel_rfl) (by kernel_rfl) (by kernel_rfl) (held_move (by rfl) (.tmp 0) rfl rfl) (by assumption) ?_
      try simp only [Act.put, List.setIfInBounds_toArray, List.set_cons_zero, List.set_cons_succ]
      refine held_take 2 (.int .i64 (H : Int)) rfl (by kernel_rfl) (by kernel_rfl) (by kernel_rfl) (held_move (by rfl) (.tmp 7) rfl rfl) (by assumption) ?_
      try simp only [Act.put, List.setIfInBounds_toArray, List.set_cons_zero, List.set_cons_succ]
      refine held_step 3 (by kernel_rfl) rfl (by rfl) (fun K hK => ?_)
      go_simp
      refine (q3 _ (HL.out.old (b5.trans (hH0.mono b5.size)))).mono ?_
      rintro e W3 ⟨rfl, hB⟩
      dsimp only
      refine hK.out _ _ (hH0.trans (hB.mono hH0.size)) (fun hH3 => ?_)
      clear hK K hB
      try simp only [Act.put, List.setIfInBounds_toArray, List.set_cons_zero, List.set_cons_succ]
      refine held_take 4 (.bool false) rfl (by kernel_rfl) (by kernel_rfl) (by kernel_rfl) (held_neq (by rfl) 24 24 (.tmp 36) (.tmp 39) rfl dz dz false rfl rfl hgd30 (hself' dz)) (by assumption) ?_
      try simp only [Act.put, List.setIfInBounds_toArray, List.set_cons_zero, List.set_cons_succ]
      refine held_done (by kernel_rfl) ?_ _
      have b6 : Below w.heap.size w W3 := b5.trans (hH3.mono b5.size)
      have z6 : w5.heap.size ≤ W3.heap.size := hH3.size
      have own6 := Lib.hid (own5.out.below hH3)
      have t8 := rangeAt_below r8 hH3 (by omega)
      clear own5 r8 hH0 hH3 q3 b5
      by_cases hH0 : H = 0
      · subst hH0
        have HS : Box (cutD (sha S K [2]) width = dz) := ⟨HE.out.symm⟩
        have q6 : ∀ g W, Laid S K W → Row W (some ⟨g, 0, none⟩) 1 [2] → g < W.heap.size → _ := fun g W hLW hr hg => sum_any (some ⟨g, 0, none⟩) 1 1 [2] W hLW hr (by omega) (by omega) (fun h => by cases h) (fun b' o' h => by cases h; exact hg)
        have q7 : ∀ W, _ := fun W => cut_any (sha S K [2]) width W
        rw [HS.out] at q7
        generalize sha S K [2] = s2 at q6 q7 HS
        generalize hw6 : W3 = w6 at b6 z6 own6 t8 ⊢
        clear hw6
        go_wp2_with fail
        refine held_begin (fun W => Below w6.heap.size w6 W) (by kernel_rfl) (Below.refl _ w6).drew (fun hH0 => ?_)
        refine held_take 0 (.agg (dc dz)) rfl (by kernel_rfl) (by kernel_rfl) (by kernel_rfl) (held_load (by rfl) 24 (.tmp 8) rfl (w4.heap.size) (0) rfl dz 5 (fun W hS => rangeAt_below t8 hS (by omega)) U24 hi24) (by assumption) ?_
        try simp only [Act.put, List.setIfInBounds_toArray, List.set_cons_zero, List.set_cons_succ]
        refine held_take 3 (.int .i64 width) rfl (by kernel_rfl) (by kernel_rfl) (by kernel_rfl) (held_move (by rfl) (.tmp 0) rfl rfl) (by assumption) ?_
        try simp only [Act.put, List.setIfInBounds_toArray, List.set_cons_zero, List.set_cons_succ]
        refine held_step 1 (by kernel_rfl) rfl (by rfl) (fun K hK => ?_)
        go_simp
        refine hK.out _ _ (hH0.trans ((Below.refl_alloc _ _).mono hH0.size)) (fun hH1 => ?_)
        clear hK K
        try simp only [Act.put, List.setIfInBounds_toArray, List.set_cons_zero, List.set_cons_succ]
        refine held_step 2 (by kernel_rfl) rfl (by rfl) (fun K hK => ?_)
        go_simp
        refine (q6 _ _ (HL.out.old (b6.trans (hH1.mono b6.size))) (Row.lit _ #[.int .u8 2] 5 [2] rfl) (by simp)).mono ?_
        rintro e W2 ⟨rfl, hB⟩
        dsimp only
        refine hK.out _ _ (hH1.trans (hB.mono hH1.size)) (fun hH2 => ?_)
        clear hK K hB
        try simp only [Act.put, List.setIfInBounds_toArray, List.set_cons_zero, List.set_cons_succ]
        refine held_step 4 (by kernel_rfl) rfl (by rfl) (fun K hK => ?_)
        go_simp
        refine (q7 _).mono ?_
        rintro e W4 ⟨rfl, hB⟩
        dsimp only
        refine hK.out _ _ (hH2.trans (hB.mono hH2.size)) (fun hH4 => ?_)
        clear hK K hB
        try simp only [Act.put, List.setIfInBounds_toArray, List.set_cons_zero, List.set_cons_succ]
        refine held_take 5 (.bool false) rfl (by kernel_rfl) (by kernel_rfl) (by kernel_rfl) (held_neq (by rfl) 24 24 (.tmp 53) (.tmp 57) rfl dz dz false rfl rfl hgd30 (hself' dz)) (by assumption) ?_
        try simp only [Act.put, List.setIfInBounds_toArray, List.set_cons_zero, List.set_cons_succ]
        refine held_done (by kernel_rfl) ?_ _
        have b7 : Below w.heap.size w W4 := b6.trans (hH4.mono b6.size)
        have z7 : w6.heap.size ≤ W4.heap.size := hH4.size
        have own7 := Lib.hid (own6.out.below hH4)
        have u8' := rangeAt_below t8 hH4 (by omega)
        clear own6 t8 hH0 hH1 hH2 hH4 q6 q7 b6
        have own8 : OwnD (W4.alloc (.cells (dc dz) 24)) w.heap.size 24 _ ds := own7.out.below (Below.refl_alloc _ _)
        have own9 := Lib.hid own8
        have zb : w.heap.size ≤ (W4.alloc (.cells (dc dz) 24)).heap.size := by simp; omega
        have hl5 : ds.length ≤ 2097152 := by have := hlen.out; omega
        have hr5 : (W4.alloc (.cells (dc dz) 24)).rangeAt W4.heap.size 0 (bvs dz.1) := rangeAt_block (heap_new rfl)
        go_wp2_with (first
          | (refine wpList_load32 rfl 24 (.tmp 8) ?_ w4.heap.size 0 ?_ dz ?_ U24 hi24 ?_; rfl; rfl; exact u8')
          | (refine wpList_lit32 rfl 26 24 (.tmp 60) ?_ dz ?_ U26 I24 ?_; rfl; rfl)
          | (refine wpList_append_d32 rfl (.tmp 59) (.tmp 61) 26 24 ?_ U26 I24 w.heap.size _ ds ?_ own9.out W4.heap.size 1 dz ?_ hr5 hl5 zb ?_; rfl; rfl; rfl))
        intro sv' w9 own10 G10
        have b10 : Below w.heap.size w w9 := (b7.alloc b7.size _).grown G10 zb (fun g hg => (own8.block g hg).1)
        clear own8 own9
        go_wp2
        go_roundw
        case rel => exact ⟨k + 1, ds ++ [dz], by omega, by go_num, hds', ⟨by rw [List.length_append, hlen.out]; rfl⟩, own10, b10⟩
        case measure => simp [intOf]; omega
      · have HI : (0 : Int) < (H : Int) := by omega
        obtain ⟨m, rfl⟩ : ∃ m, H = m + 1 := ⟨H - 1, by omega⟩
        have q4 : ∀ W, Laid S K W → _ := fun W hW => empty_any width (((m + 1 : Nat) : Int) - 1) W hW
        rw [show emptyD S K width (((m + 1 : Nat) : Int) - 1) = emD S K width m by unfold emptyD clamp; congr 1; omega] at q4
        have q5 : ∀ W, Laid S K W → _ := fun W hW => branch_any width (emD S K width m) (emD S K width m) W hW
        rw [show brD S K width (emD S K width m) (emD S K width m) = dz by rw [HE.out]; rfl] at q5
        obtain ⟨db, hdb⟩ : ∃ db, emD S K width m = db := ⟨_, rfl⟩
        rw [hdb] at q4 q5
        clear hdb HE
        have hm1 : ((m + 1 : Nat) : Int) - 1 = (m : Int) := by omega
        rw [hm1] at q4
        generalize hw6 : W3 = w6 at b6 z6 own6 t8 ⊢
        clear hw6
        go_wp2_with (go_at_call 6; refine (q4 _ (HL.out.old b6)).mono ?_)
        rintro e w7 ⟨rfl, hB7⟩
        have b7 : Below w.heap.size w w7 := b6.trans (hB7.mono b6.size)
        have z7 : w6.heap.size ≤ w7.heap.size := hB7.size
        have own7 := Lib.hid (own6.out.below hB7)
        have t8' := rangeAt_below t8 hB7 (by omega)
        clear own6 t8 hB7 q4 b6
        go_wp2_with (refine wpList_store_row rfl 24 (.tmp 9) (.tmp 46) ?_ w7.heap.size (dc zero32) (dc db) 24 ?_ ?_ ?_ (hss _ _).out (hd32 _).out (dc_all _) ?_; rfl; rfl; rfl; exact heap_new rfl)
        intro w8 g9 G9
        have B8 : Below w7.heap.size w7 w8 := (Below.refl_alloc w7 _).grown G9 (by simp) (fun k hk => by cases hk; omega)
        have b8 : Below w.heap.size w w8 := b7.trans (B8.mono b7.size)
        have z8 : w7.heap.size + 1 ≤ w8.heap.size := by have := G9.size; simpa using this
        have own8' := Lib.hid (own7.out.below B8)
        have r8 := rangeAt_below t8' B8 (by omega)
        have r9 : w8.rangeAt w7.heap.size 0 (bvs db.1) := rangeAt_block g9.out
        clear own7 t8' g9 G9 B8 b7
        go_wp2_with fail
        refine held_begin (fun W => Below w8.heap.size w8 W) (by kernel_rfl) (Below.refl _ w8).drew (fun hH0 => ?_)
        refine held_take 0 (.agg (dc dz)) rfl (by kernel_rfl) (by kernel_rfl) (by kernel_rfl) (held_load (by rfl) 24 (.tmp 8) rfl (w4.heap.size) (0) rfl dz 5 (fun W hS => rangeAt_below r8 hS (by omega)) U24 hi24) (by assumption) ?_
        try simp only [Act.put, List.setIfInBounds_toArray, List.set_cons_zero, List.set_cons_succ]
        refine held_take 1 (.int .i64 width) rfl (by kernel_rfl) (by kernel_rfl) (by kernel_rfl) (held_move (by rfl) (.tmp 0) rfl rfl) (by assumption) ?_
        try simp only [Act.put, List.setIfInBounds_toArray, List.set_cons_zero, List.set_cons_succ]
        refine held_take 2 (.agg (dc db)) rfl (by kernel_rfl) (by kernel_rfl) (by kernel_rfl) (held_load (by rfl) 24 (.tmp 9) rfl (w7.heap.size) (0) rfl db 5 (fun W hS => rangeAt_below r9 hS (by omega)) U24 hi24) (by assumption) ?_
        try simp only [Act.put, List.setIfInBounds_toArray, List.set_cons_zero, List.set_cons_succ]
        refine held_take 3 (.agg (dc db)) rfl (by kernel_rfl) (by kernel_rfl) (by kernel_rfl) (held_load (by rfl) 24 (.tmp 9) rfl (w7.heap.size) (0) rfl db 5 (fun W hS => rangeAt_below r9 hS (by omega)) U24 hi24) (by assumption) ?_
        try simp only [Act.put, List.setIfInBounds_toArray, List.set_cons_zero, List.set_cons_succ]
        refine held_step 4 (by kernel_rfl) rfl (by rfl) (fun K hK => ?_)
        go_simp
        refine (q5 _ (HL.out.old (b8.trans (hH0.mono b8.size)))).mono ?_
        rintro e W4 ⟨rfl, hB⟩
        dsimp only
        refine hK.out _ _ (hH0.trans (hB.mono hH0.size)) (fun hH4 => ?_)
        clear hK K hB
        try simp only [Act.put, List.setIfInBounds_toArray, List.set_cons_zero, List.set_cons_succ]
        refine held_take 5 (.bool false) rfl (by kernel_rfl) (by kernel_rfl) (by kernel_rfl) (held_neq (by rfl) 24 24 (.tmp 47) (.tmp 51) rfl dz dz false rfl rfl hgd30 (hself' dz)) (by assumption) ?_
        try simp only [Act.put, List.setIfInBounds_toArray, List.set_cons_zero, List.set_cons_succ]
        refine held_done (by kernel_rfl) ?_ _
        have b9 : Below w.heap.size w W4 := b8.trans (hH4.mono b8.size)
        have z9 : w8.heap.size ≤ W4.heap.size := hH4.size
        have own9' := Lib.hid (own8'.out.below hH4)
        have u8' := rangeAt_below r8 hH4 (by omega)
        clear own8' r8 r9 hH0 hH4 q5 b8
        have own8 : OwnD (W4.alloc (.cells (dc dz) 24)) w.heap.size 24 _ ds := own9'.out.below (Below.refl_alloc _ _)
        have own9 := Lib.hid own8
        have zb : w.heap.size ≤ (W4.alloc (.cells (dc dz) 24)).heap.size := by simp; omega
        have hl5 : ds.length ≤ 2097152 := by have := hlen.out; omega
        have hr5 : (W4.alloc (.cells (dc dz) 24)).rangeAt W4.heap.size 0 (bvs dz.1) := rangeAt_block (heap_new rfl)
        go_wp2_with (first
          | (refine wpList_load32 rfl 24 (.tmp 8) ?_ w4.heap.size 0 ?_ dz ?_ U24 hi24 ?_; rfl; rfl; exact u8')
          | (refine wpList_lit32 rfl 26 24 (.tmp 60) ?_ dz ?_ U26 I24 ?_; rfl; rfl)
          | (refine wpList_append_d32 rfl (.tmp 59) (.tmp 61) 26 24 ?_ U26 I24 w.heap.size _ ds ?_ own9.out W4.heap.size 1 dz ?_ hr5 hl5 zb ?_; rfl; rfl; rfl))
        intro sv' w9 own10 G10
        have b10 : Below w.heap.size w w9 := (b9.alloc b9.size _).grown G10 zb (fun g hg => (own8.block g hg).1)
        clear own8 own9
        go_wp2
        go_roundw
        case rel => exact ⟨k + 1, ds ++ [dz], by omega, by go_num, hds', ⟨by rw [List.length_append, hlen.out]; rfl⟩, own10, b10⟩
        case measure => simp [intOf]; omega
    · have kn : k = n := by omega
      subst kn
      obtain ⟨a5, cap5, hsv⟩ := own.out.slice
      rw [hlen.out] at hsv
      subst hsv
      obtain ⟨wz, hwz⟩ : ∃ x, x = wr := ⟨_, rfl⟩
      subst hwz
      have zr := br.size
      clear hlt hk
      go_wp2
      go_loopw [10] (fun i wq => ∃ (j : Nat) (iv : Int), j ≤ k ∧ iv = (j : Int) - 1 ∧ i = .int .i64 iv ∧ Below wz.heap.size wz wq) (fun i _ => (intOf i + 1).toNat)
      case atStart => exact ⟨k, _, by omega, rfl, by go_num, Below.refl _ wz⟩
      case round =>
        obtain ⟨j, iv, hj, hiv, rfl, bq2⟩ := hrel
        rcases Nat.eq_zero_or_pos j with h0 | h0
        · have hneg : iv < 0 := by omega
          go_wp2
          go_ret
          exact ⟨rfl, br.trans (bq2.mono br.size)⟩
        · obtain ⟨m, rfl⟩ : ∃ m, j = m + 1 := ⟨j - 1, by omega⟩
          obtain rfl : iv = (m : Int) := by omega
          clear hiv h0
          have hmk : m < k := by omega
          have hmi : (m : Int) < k := by omega
          have hm0 : (0 : Int) ≤ (m : Int) := by omega
          obtain ⟨b1, o1, rfl⟩ := HZ.out.at0 (by omega)
          have hml : m < ds.length := by rw [hlen.out]; exact hmk
          obtain ⟨g, cap, hv, hg1, hg2, hr⟩ := own.out.at (by omega)
          have hr' := hr m hml
          rw [hlen.out] at hv
          cases hv
          clear hr
          obtain ⟨dm, hdm⟩ : ∃ d, ds[m] = d := ⟨_, rfl⟩
          rw [hdm] at hr'
          have HR := Lib.hid hr'
          obtain ⟨z, hz⟩ : ∃ z, zs.getD m 0 = z := ⟨_, rfl⟩
          have hzl : m < zs.length := by have := HZ.out.1; omega
          have hdz : emptyD S K width z = dm := by
            rw [← hdm, ← hz]
            have h6 := hds.out
            subst h6
            simp [List.getD, List.getElem?_eq_getElem hzl]
          have bw : Below w.heap.size w wr := br.trans (bq2.mono br.size)
          have hc : ∀ W, Below wr.heap.size wr W → W.cell? ⟨b1, o1 + m, none⟩ = some (.int .i64 z) := fun W hW => by
            rw [← hz]; exact HZ.out.cell (bw.trans (hW.mono bw.size)) m hmk
          have q2 : ∀ W, Laid S K W → _ := fun W hW => empty_any width z W hW
          rw [hdz] at q2
          clear hdz hz hdm hr' hzl hml
          have zq := bq2.size
          have HC := Box.mk hc
          clear hc
          have r5 : wr.rangeAt g (32 * m) (bvs dm.1) := rangeAt_below HR.out bq2 (by omega)
          go_wp2_with fail
          refine held_begin (fun W => Below wr.heap.size wr W) (by kernel_rfl) (Below.refl _ wr).drew (fun hH0 => ?_)
          refine held_take 0 (.int .i64 width) rfl (by kernel_rfl) (by kernel_rfl) (by kernel_rfl) (held_move (by rfl) (.tmp 0) rfl rfl) (by assumption) ?_
          try simp only [Act.put, List.setIfInBounds_toArray, List.set_cons_zero, List.set_cons_succ]
          refine held_take 1 (.slice (some ⟨b1, o1, none⟩) k c) rfl (by kernel_rfl) (by kernel_rfl) (by kernel_rfl) (held_move (by rfl) (.tmp 1) rfl rfl) (by assumption) ?_
          try simp only [Act.put, List.setIfInBounds_toArray, List.set_cons_zero, List.set_cons_succ]
          refine held_take 2 (.int .i64 (m : Int)) rfl (by kernel_rfl) (by kernel_rfl) (by kernel_rfl) (held_move (by rfl) (.tmp 10) rfl rfl) (by assumption) ?_
          try simp only [Act.put, List.setIfInBounds_toArray, List.set_cons_zero, List.set_cons_succ]
          refine held_take 6 (.slice (some ⟨g, 0, none⟩) k cap5) rfl (by kernel_rfl) (by kernel_rfl) (by kernel_rfl) (held_move (by rfl) (.tmp 5) rfl rfl) (by assumption) ?_
          try simp only [Act.put, List.setIfInBounds_toArray, List.set_cons_zero, List.set_cons_succ]
          refine held_take 7 (.int .i64 (m : Int)) rfl (by kernel_rfl) (by kernel_rfl) (by kernel_rfl) (held_move (by rfl) (.tmp 10) rfl rfl) (by assumption) ?_
          try simp only [Act.put, List.setIfInBounds_toArray, List.set_cons_zero, List.set_cons_succ]
          refine held_take 3 (.pointer (some ⟨b1, o1 + m, none⟩)) rfl (by kernel_rfl) (by kernel_rfl) (by kernel_rfl) (held_pure (by rfl) (fun W => by go_simp)) (by assumption) ?_
          try simp only [Act.put, List.setIfInBounds_toArray, List.set_cons_zero, List.set_cons_succ]
          refine held_take 4 (.int .i64 z) rfl (by kernel_rfl) (by kernel_rfl) (by kernel_rfl) (Or.inl ⟨by rfl, fun W hS => by have hc' := HC.out W hS; clear HC; go_simp⟩) (by assumption) ?_
          try simp only [Act.put, List.setIfInBounds_toArray, List.set_cons_zero, List.set_cons_succ]
          refine held_take 8 (.pointer (some ⟨g, 32 * m, none⟩)) rfl (by kernel_rfl) (by kernel_rfl) (by kernel_rfl) (held_pure (by rfl) (fun W => by go_simp)) (by assumption) ?_
          try simp only [Act.put, List.setIfInBounds_toArray, List.set_cons_zero, List.set_cons_succ]
          refine held_take 9 (.agg (dc dm)) rfl (by kernel_rfl) (by kernel_rfl) (by kernel_rfl) (held_load (by rfl) 24 (.tmp 78) rfl (g) (32 * m) rfl dm 5 (fun W hS => rangeAt_below r5 hS (by omega)) U24 hi24) (by assumption) ?_
          try simp only [Act.put, List.setIfInBounds_toArray, List.set_cons_zero, List.set_cons_succ]
          refine held_step 5 (by kernel_rfl) rfl (by rfl) (fun K hK => ?_)
          go_simp
          refine (q2 _ (HL.out.old (bw.trans (hH0.mono bw.size)))).mono ?_
          rintro e W5 ⟨rfl, hB⟩
          dsimp only
          refine hK.out _ _ (hH0.trans (hB.mono hH0.size)) (fun hH5 => ?_)
          clear hK K hB
          try simp only [Act.put, List.setIfInBounds_toArray, List.set_cons_zero, List.set_cons_succ]
          refine held_take 10 (.bool false) rfl (by kernel_rfl) (by kernel_rfl) (by kernel_rfl) (held_neq (by rfl) 24 24 (.tmp 75) (.tmp 79) rfl dm dm false rfl rfl hgd30 (hself' dm)) (by assumption) ?_
          try simp only [Act.put, List.setIfInBounds_toArray, List.set_cons_zero, List.set_cons_succ]
          refine held_done (by kernel_rfl) ?_ _
          have b9 : Below wz.heap.size wz W5 := bq2.trans (hH5.mono bq2.size)
          clear hH0 hH5 q2 HC r5
          go_wp2
          go_roundw
          case rel => exact ⟨m, (m : Int) - 1, by omega, rfl, (by first | rfl | go_num), b9⟩
          case measure => simp [intOf] <;> omega
end Go.Proofs.YtonpbmjgoenfdaaDoor
