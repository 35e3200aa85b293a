/- Texts joined: FrameC, Page3, Page4, Page5. -/
import Derived.Test.YtdnahagibodnpaaNL09
import Derived.Test.YtdnahagibodnpaaNL03
import Derived.Test.YtdnahagibodnpaaNL12
import Derived.Laws.IdiomStrings
/- frame.empty, frame.newer: the walks. -/
namespace Go.Proofs.Ytdnahagibodnpaa
set_option linter.unusedSectionVars false
open Go Go.RowKit
set_option linter.unusedVariables false
set_option linter.unusedSimpArgs false
theorem emptyB_eq (l : List UInt8) (h : l.length = 256) : emptyB l = eqB (l.take 64) (zerosB 64) := by
  unfold emptyB eqB
  rw [Bool.eq_iff_iff, decide_eq_true_iff, decide_eq_true_iff]
  exact ⟨fun h => h.2, fun h' => ⟨h, h'⟩⟩
set_option maxRecDepth 100000 in
set_option maxHeartbeats 2000000 in
theorem empty_any (ao : Option Addr) (n c : Nat) (l : List UInt8) (w : World) (h0 : Row w ao n l) (hnc : n ≤ c) (hcm : c ≤ maxLen) :
    Calls Try.prog 49 #[.slice ao n c] w fun e w' => e = .returned (.bool (emptyB l)) ∧ w' = w := by
  unfold maxLen at hcm
  by_cases hn : n = 256
  · subst hn
    obtain ⟨b, o, rfl⟩ := h0.at0 (by omega)
    have hr := Box.mk (h0.take 64 (by omega)).range
    have hl := Box.mk (h0.take 64 (by omega)).1
    have HE := Box.mk (emptyB_eq l h0.1)
    have hb := Box.mk (show Try.prog.built 109 [] = some (bvs (zerosB 64)).toArray by kernel_rfl)
    have hi : Box ((Try.prog.info? 109).map (·.size) = some (bvs (l.take 64)).length) := ⟨by
      rw [length_bvs, hl.out]; kernel_rfl⟩
    have hg : Box (Try.prog.eqGuardType Try.prog.depth 109 = false) := ⟨by kernel_rfl⟩
    have hi5 : Try.prog.info? 5 = some (Try.prog.info? 5).get! := by kernel_rfl
    have heq := Box.mk (fun W => equalIn_bytes (P := Try.prog) (d := 9998) Try.underlying109 hi5 Try.underlying5 (by kernel_rfl) (l.take 64) (zerosB 64) hl.out (length_zerosB 64) W)
    have hat : ∀ W, (Instr.arrayAt 109 (.slice (some ⟨b, o, none⟩) 64 c)).run Try.prog W = .ok (.pointer (some ⟨b, o, none⟩)) W := fun W => run_arrayAt W _ _ 64 _ 64 c Try.underlying109 (by omega)
    clear h0 hi5
    generalize eqB (l.take 64) (zerosB 64) = r at *
    generalize bvs (l.take 64) = xs at *
    generalize (bvs (zerosB 64)).toArray = zs at *
    go_enter Try.func49, Try.ntmps49
    go_wp2_with (first
      | ((with_reducible refine arm_midr 109 (.tmp 9) ?_ ?_ b o ?_ xs _ hr.out Try.underlying109 rfl hi.out ?_); rfl; rfl; rfl)
      | ((with_reducible refine arm_built 109 [] ?_ ?_ [] ?_ zs hb.out ?_); rfl; rfl; rfl)
      | ((with_reducible refine arm_eql 109 109 (.tmp 10) (.tmp 11) ?_ ?_ xs.toArray zs r ?_ ?_ hg.out heq.out ?_); rfl; rfl; rfl; rfl))
    go_ret
    exact ⟨by rw [HE.out]; rfl, rfl⟩
  · have hf : ((n : Int) == 256) = false := by rw [beq_eq_false_iff_ne]; omega
    have HE := Box.mk (show emptyB l = false by
      have := h0.1
      unfold emptyB
      rw [decide_eq_false_iff_not]; rintro ⟨h, _⟩; omega)
    clear h0
    go_enter Try.func49, Try.ntmps49
    go_wp2
    go_ret
    exact ⟨by rw [HE.out]; rfl, rfl⟩
theorem supSize (s : SupV) : Box ((Try.prog.info? 60).map (·.size) = some (supC s).toArray.size) := ⟨by
  have h : (Try.prog.info? 60).map (·.size) = some 5 := by kernel_rfl
  rw [h]; rfl⟩
theorem supAll (s : SupV) : Box ((supC s).toArray.all (·.oneCell') = true) := ⟨by rw [Array.all_eq_true_iff_forall_mem]; intro v hv; simp [supC] at hv; rcases hv with h | h | h | h | h <;> rw [h] <;> rfl⟩
theorem supZero : Box (Try.prog.built 60 [] = some (supC noSup).toArray) := ⟨by kernel_rfl⟩
set_option maxRecDepth 100000 in
set_option maxHeartbeats 4000000 in
theorem newer_any (a b : SupV) (w : World) (ha : 0 ≤ a.gen ∧ a.gen ≤ 1099511627776) (hb : 0 ≤ b.gen ∧ b.gen ≤ 1099511627776) :
    Calls Try.prog 48 #[.agg (supC a).toArray, .agg (supC b).toArray] w fun e w' => e = .returned (.tuple #[.agg (supC (newerS a b)).toArray, .int .i64 (newerE a b)]) ∧ Below w.heap.size w w' := by
  have F0 : SupAt (((w.alloc (.cells (supC a).toArray 60)).alloc (.cells (supC b).toArray 60)).alloc (.cells (supC noSup).toArray 60)) w.heap.size a := heap_old (heap_old (heap_new rfl))
  have F1 : SupAt (((w.alloc (.cells (supC a).toArray 60)).alloc (.cells (supC b).toArray 60)).alloc (.cells (supC noSup).toArray 60)) (w.heap.size + 1) b := heap_old (heap_new (by simp))
  have F2 : SupAt (((w.alloc (.cells (supC a).toArray 60)).alloc (.cells (supC b).toArray 60)).alloc (.cells (supC noSup).toArray 60)) (w.heap.size + 2) noSup := heap_new (by simp)
  have B0 := ((Below.refl_alloc w (.cells (supC a).toArray 60)).alloc (by simp) (.cells (supC b).toArray 60)).alloc (by simp; omega) (.cells (supC noSup).toArray 60)
  go_enter Try.func48, Try.ntmps48
  go_upto_region 1 with fail
  refine wp_anyWorld (fun W => SupAt W w.heap.size a ∧ SupAt W (w.heap.size + 1) b ∧ SupAt W (w.heap.size + 1 + 1) noSup ∧ Below w.heap.size w W) ⟨F0, F1, F2, B0⟩ (fun w1 h1 => ?_)
  clear F0 F1 F2 B0
  obtain ⟨F0, F1, F2, B0⟩ := h1
  obtain ⟨g2, hg2⟩ : ∃ z, w.heap.size = z := ⟨_, rfl⟩
  have HW2 := Box.mk hg2
  rw [hg2] at F0 F1 F2 ⊢
  obtain ⟨g3, hg3⟩ : ∃ z, g2 + 1 = z := ⟨_, rfl⟩
  rw [hg3] at F1 F2 ⊢
  obtain ⟨g4, hg4'⟩ : ∃ z, g3 + 1 = z := ⟨_, rfl⟩
  rw [hg4'] at F2 ⊢
  have hne := Box.mk (show g2 ≠ g3 ∧ g2 ≠ g4 ∧ g3 ≠ g4 by omega)
  have hg4 := Box.mk (show g2 ≤ g4 by omega)
  have hg3B := Box.mk (show g2 ≤ g3 by omega)
  have HB := Box.mk (show Below g2 w w1 by rw [← hg2]; exact B0)
  have HG4 := Box.mk (show g2 ≤ w1.heap.size by have := heap_lt F2; omega)
  have hzn := supZero
  have hsn := supSize noSup
  have han := supAll noSup
  have H2 := Box.mk F0
  have H3 := Box.mk F1
  have H4 := Box.mk (show w1.heap[g4]? = some (.cells (supC noSup).toArray 60 (0, 0)) from F2)
  have C2 := F0.cells
  have C3 := F1.cells
  have HR := Box.mk (show ¬ NewerOk a b → newerS a b = noSup ∧ newerE a b = 4 from fun h => ⟨if_neg h, if_neg h⟩)
  clear hg2 hg3 hg4' F0 F1 F2 B0
  generalize hzz : (supC noSup).toArray = zn at *
  have HZ := Box.mk hzz
  obtain ⟨c20, c21, c22, c23, c24⟩ := C2
  obtain ⟨c30, c31, c32, c33, c34⟩ := C3
  clear hzz
  rcases Int.emod_two_eq a.gen with pa | pa
  case inr =>
    have ta : Int.tmod a.gen 2 = 1 := by rw [Int.tmod_eq_emod_of_nonneg ha.1]; exact pa
    have hno := Box.mk (show ¬ NewerOk a b from fun h => by have := h.1; omega)
    clear pa
    go_wp2_with (first
      | ((with_reducible refine arm_built 60 [] ?_ ?_ [] ?_ zn hzn.out ?_); rfl; rfl; rfl)
      | ((with_reducible refine arm_storer 60 (.tmp 4) (.tmp 17) ?_ rfl g4 zn zn 60 ?_ ?_ H4.out rfl hsn.out han.out ?_); rfl; rfl; rfl))
    intro wx gx Gx
    have bx := Box.mk (HB.out.grown Gx HG4.out (fun k hk => by cases hk; exact hg4.out))
    have hr := HR.out hno.out
    clear Gx
    go_wp2
    exact bodyPost_ret (v := .tuple #[.agg zn, .int .i64 4]) (results_rowt (p := 4) (u := 5) (ty := 60) rfl _ _ g4 60 _ (0, 0) _ rfl gx.out Try.underlying60 rfl hsn.out _ rfl) rfl ⟨by rw [hr.1, hr.2, HZ.out], by rw [HW2.out]; exact bx.out⟩
  have ta : Int.tmod a.gen 2 = 0 := by rw [Int.tmod_eq_emod_of_nonneg ha.1]; exact pa
  have PA := Box.mk pa
  clear pa
  rcases Int.emod_two_eq b.gen with pb | pb
  case inl =>
    have tb : Int.tmod b.gen 2 = 0 := by rw [Int.tmod_eq_emod_of_nonneg hb.1]; exact pb
    have hno := Box.mk (show ¬ NewerOk a b from fun h => by have := h.2.1; omega)
    clear pb
    go_wp2_with (first
      | ((with_reducible refine arm_built 60 [] ?_ ?_ [] ?_ zn hzn.out ?_); rfl; rfl; rfl)
      | ((with_reducible refine arm_storer 60 (.tmp 4) (.tmp 17) ?_ rfl g4 zn zn 60 ?_ ?_ H4.out rfl hsn.out han.out ?_); rfl; rfl; rfl))
    intro wx gx Gx
    have bx := Box.mk (HB.out.grown Gx HG4.out (fun k hk => by cases hk; exact hg4.out))
    have hr := HR.out hno.out
    clear Gx
    go_wp2
    exact bodyPost_ret (v := .tuple #[.agg zn, .int .i64 4]) (results_rowt (p := 4) (u := 5) (ty := 60) rfl _ _ g4 60 _ (0, 0) _ rfl gx.out Try.underlying60 rfl hsn.out _ rfl) rfl ⟨by rw [hr.1, hr.2, HZ.out], by rw [HW2.out]; exact bx.out⟩
  have tb : Int.tmod b.gen 2 = 1 := by rw [Int.tmod_eq_emod_of_nonneg hb.1]; exact pb
  have PB := Box.mk pb
  clear pb
  have hsz := fun s => supSize s
  have hal := fun s => supAll s
  go_upto_if 22 with fail
  go_cut [] (fun W => SupAt W g2 (overS a b) ∧ SupAt W g3 (underS a b) ∧ SupAt W g4 noSup ∧ Below g2 w W)
  case first =>
    rcases Int.lt_or_le a.gen b.gen with hlt | hle
    · have HO := Box.mk (show overS a b = b from if_pos hlt)
      have HU := Box.mk (show underS a b = a from if_pos hlt)
      have hsA := hsz a
      have hsB := hsz b
      have haA := hal a
      have haB := hal b
      have hss := Box.mk (show (supC a).toArray.size = (supC b).toArray.size from rfl)
      have H2' := Box.mk (show w1.heap[g2]? = some (.cells (supC a).toArray 60 (0, 0)) from H2.out)
      have H3' := Box.mk (show w1.heap[g3]? = some (.cells (supC b).toArray 60 (0, 0)) from H3.out)
      generalize hca : (supC a).toArray = ca at *
      generalize hcb : (supC b).toArray = cb at *
      have HCA := Box.mk hca
      have HCB := Box.mk hcb
      clear hca hcb
      go_wp2_with (first
        | ((with_reducible refine arm_row 60 (.tmp 3) ?_ ?_ g3 ?_ 60 cb (0, 0) _ H3'.out Try.underlying60 rfl hsB.out ?_); rfl; rfl; rfl)
        | ((with_reducible refine arm_row 60 (.tmp 2) ?_ ?_ g2 ?_ 60 ca (0, 0) _ H2'.out Try.underlying60 rfl hsA.out ?_); rfl; rfl; rfl)
        | ((with_reducible refine arm_storer 60 (.tmp 2) (.tmp 23) ?_ rfl g2 ca cb 60 ?_ ?_ H2'.out hss.out hsB.out haB.out ?_); rfl; rfl; rfl))
      intro w2 x2 X2
      have H32 := Box.mk ((X2.block g3 (heap_lt H3'.out) (by intro e; exact hne.out.1 (Option.some.inj e).symm)).trans H3'.out)
      have H42 := Box.mk ((X2.block g4 (heap_lt H4.out) (by intro e; exact hne.out.2.1 (Option.some.inj e).symm)).trans H4.out)
      have hss2 := Box.mk hss.out.symm
      go_wp2_with ((with_reducible refine arm_storer 60 (.tmp 3) (.tmp 24) ?_ rfl g3 cb ca 60 ?_ ?_ H32.out hss2.out hsA.out haA.out ?_); rfl; rfl; rfl)
      intro w3 x3 X3
      have R2 := Box.mk ((X3.block g2 (heap_lt x2.out) (by intro e; exact hne.out.1 (Option.some.inj e))).trans x2.out)
      have R4 := Box.mk ((X3.block g4 (heap_lt H42.out) (by intro e; exact hne.out.2.2 (Option.some.inj e).symm)).trans H42.out)
      have RB := Box.mk ((HB.out.grown X2 HG4.out (fun k hk => by cases hk; exact Nat.le_refl _)).grown X3 (by have := X2.size; have := HG4.out; omega) (fun k hk => by cases hk; exact hg3B.out))
      clear X2 X3
      go_wp2
      go_meet
      refine ⟨?_, ?_, ?_, RB.out⟩
      · rw [HO.out]; show _ = some (Obj.cells (supC b).toArray _ _); rw [HCB.out]; exact R2.out
      · rw [HU.out]; show _ = some (Obj.cells (supC a).toArray _ _); rw [HCA.out]; exact x3.out
      · show _ = some (Obj.cells (supC noSup).toArray _ _); rw [HZ.out]; exact R4.out
    · have HO := Box.mk (show overS a b = a from if_neg (by omega))
      have HU := Box.mk (show underS a b = b from if_neg (by omega))
      go_wp2
      go_meet
      exact ⟨by rw [HO.out]; exact H2.out, by rw [HU.out]; exact H3.out, by show _ = some (Obj.cells (supC noSup).toArray _ _); rw [HZ.out]; exact H4.out, HB.out⟩
  case rest =>
    obtain ⟨S2, S3, S4, Bc⟩ := hcut
    have HN := Box.mk (show (NewerOk a b ↔ overS a b = { underS a b with gen := (underS a b).gen + 1, mark := (overS a b).mark, head := (overS a b).head } ∧ (underS a b).mark ≤ (overS a b).mark) from ⟨fun h => h.2.2, fun h => ⟨PA.out, PB.out, h⟩⟩)
    have HY := Box.mk (show NewerOk a b → newerS a b = overS a b ∧ newerE a b = 0 from fun h => ⟨if_pos h, if_pos h⟩)
    have hU : 0 ≤ (underS a b).gen ∧ (underS a b).gen ≤ 1099511627776 := by
      unfold underS
      split
      · exact ha
      · exact hb
    clear c20 c21 c22 c23 c24 c30 c31 c32 c33 c34 ta tb PA PB H2 H3 H4 HB ha hb
    generalize overS a b = A at *
    generalize underS a b = U at *
    have H2 := Box.mk S2
    have H3 := Box.mk S3
    have H4 := Box.mk S4
    have HB := Box.mk Bc
    have hcU := hsz U
    have haU := hal U
    have hsNU := Box.mk (show zn.size = (supC U).toArray.size by rw [← HZ.out]; rfl)
    have H3' := Box.mk (show wc.heap[g3]? = some (.cells (supC U).toArray 60 (0, 0)) from S3)
    have hzc := Box.mk (show (wc.alloc (.cells zn 60)).heap[wc.heap.size]? = some (.cells zn 60 (0, 0)) from heap_new rfl)
    have hza : wc.alloc (.cells #[.int .i64 0, .int .i64 0, .int .i64 0, .int .i64 0, .int .i64 0] 60) = wc.alloc (.cells zn 60) := by rw [← HZ.out]; rfl
    clear S2 S3 S4 Bc
    generalize hcu : (supC U).toArray = cu at *
    have HCU := Box.mk hcu
    clear hcu
    go_upto_region 6 with (first
      | ((with_reducible refine arm_row 60 (.tmp 3) ?_ ?_ g3 ?_ 60 cu (0, 0) _ H3'.out Try.underlying60 rfl hcU.out ?_); rfl; rfl; rfl)
      | ((with_reducible refine arm_storer 60 (.tmp 6) (.tmp 25) ?_ rfl wc.heap.size zn cu 60 ?_ ?_ hzc.out hsNU.out hcU.out haU.out ?_); rfl; rfl; rfl))
    intro w5 x5 G5
    have hB5 := (Below.refl_alloc wc (.cells zn 60)).grown G5 (by simp) (fun k hk => by cases hk; exact Nat.le_refl _)
    have H6 := Box.mk (show w5.heap[wc.heap.size]? = some (.cells (supC U).toArray 60 (0, 0)) by rw [HCU.out]; exact x5.out)
    have h62 := Box.mk (show g2 < wc.heap.size ∧ g3 < wc.heap.size ∧ g4 < wc.heap.size from ⟨heap_lt H2.out, heap_lt H3.out, heap_lt H4.out⟩)
    have H25 := Box.mk (show SupAt w5 g2 A from (hB5.block g2 h62.out.1).trans H2.out)
    have H35 := Box.mk (show SupAt w5 g3 U from (hB5.block g3 h62.out.2.1).trans H3.out)
    have H45 := Box.mk (show SupAt w5 g4 noSup from (hB5.block g4 h62.out.2.2).trans H4.out)
    have HB5 := Box.mk (HB.out.trans (hB5.mono (by have := h62.out.1; omega)))
    clear hB5 H2 H3 H4 HB H3' hzc hza x5 G5 hsNU hcU haU HCU
    obtain ⟨g6, hg6⟩ : ∃ z, wc.heap.size = z := ⟨_, rfl⟩
    rw [hg6] at H6 h62 ⊢
    clear hg6
    have hi3 : Box ((Try.prog.info? 3).map (·.size) = some 1) := ⟨by kernel_rfl⟩
    have hwr : wrap64 (U.gen + 1) = U.gen + 1 := by unfold wrap64; omega
    go_upto_region 6 with fail
    go_cut [] (fun W => SupAt W g2 A ∧ SupAt W g3 U ∧ SupAt W g4 noSup ∧ SupAt W g6 { U with gen := U.gen + 1, mark := A.mark, head := A.head } ∧ Below g2 w W)
    case first =>
      refine held_begin (fun W => SupAt W g2 A ∧ SupAt W g3 U ∧ SupAt W g4 noSup ∧ Below g2 w W) (by kernel_rfl) (⟨H25.out, H35.out, H45.out, HB5.out.drew⟩) (fun hH0 => ?_)
      refine held_take 0 (.pointer (some ⟨g3, 1, none⟩)) rfl (by kernel_rfl) (by kernel_rfl) (by kernel_rfl) (held_pure (by rfl) (fun W => by go_simp)) (by assumption) ?_
      try simp only [Act.put, zq1, zq2, zq3]
      refine held_take 1 (.int .i64 U.gen) rfl (by kernel_rfl) (by kernel_rfl) (by kernel_rfl) (held_load1 (by rfl) 3 (.tmp 26) rfl g3 1 rfl .i64 (.int .i64 U.gen) (fun W hS => hS.2.1.cells.2.1) Try.underlying3) (by assumption) ?_
      try simp only [Act.put, zq1, zq2, zq3]
      refine held_take 2 (.int .i64 (U.gen + 1)) rfl (by kernel_rfl) (by kernel_rfl) (by kernel_rfl) (held_pure (by rfl) (fun W => by go_simp; exact wrap_i64 (by omega))) (by assumption) ?_
      try simp only [Act.put, zq1, zq2, zq3]
      refine held_take 3 (.pointer (some ⟨g2, 2, none⟩)) rfl (by kernel_rfl) (by kernel_rfl) (by kernel_rfl) (held_pure (by rfl) (fun W => by go_simp)) (by assumption) ?_
      try simp only [Act.put, zq1, zq2, zq3]
      refine held_take 4 (.int .i64 A.mark) rfl (by kernel_rfl) (by kernel_rfl) (by kernel_rfl) (held_load1 (by rfl) 3 (.tmp 29) rfl g2 2 rfl .i64 (.int .i64 A.mark) (fun W hS => hS.1.cells.2.2.1) Try.underlying3) (by assumption) ?_
      try simp only [Act.put, zq1, zq2, zq3]
      refine held_take 5 (.pointer (some ⟨g2, 3, none⟩)) rfl (by kernel_rfl) (by kernel_rfl) (by kernel_rfl) (held_pure (by rfl) (fun W => by go_simp)) (by assumption) ?_
      try simp only [Act.put, zq1, zq2, zq3]
      refine held_take 6 (.int .i64 A.head) rfl (by kernel_rfl) (by kernel_rfl) (by kernel_rfl) (held_load1 (by rfl) 3 (.tmp 31) rfl g2 3 rfl .i64 (.int .i64 A.head) (fun W hS => hS.1.cells.2.2.2.1) Try.underlying3) (by assumption) ?_
      try simp only [Act.put, zq1, zq2, zq3]
      refine held_take 7 (.pointer (some ⟨g6, 1, none⟩)) rfl (by kernel_rfl) (by kernel_rfl) (by kernel_rfl) (held_pure (by rfl) (fun W => by go_simp)) (by assumption) ?_
      try simp only [Act.put, zq1, zq2, zq3]
      refine held_step 8 (by kernel_rfl) rfl (by rfl) (fun K hK => ?_)
      refine oper_list rfl ?_
      refine arm_store_v 3 (.tmp 33) (.tmp 28) rfl rfl g6 1 rfl (.int .i64 (U.gen + 1)) rfl rfl rfl hi3.out (supC U) 60 H6.out (by simp [supC]) ?_
      intro w6 g6' G6
      refine ⟨rfl, ?_⟩
      have h2' := (G6.block g2 (heap_lt hH0.1) (by intro e; have := Option.some.inj e; have := h62.out; omega)).trans hH0.1
      have h3' := (G6.block g3 (heap_lt hH0.2.1) (by intro e; have := Option.some.inj e; have := h62.out; omega)).trans hH0.2.1
      have h4' := (G6.block g4 (heap_lt hH0.2.2.1) (by intro e; have := Option.some.inj e; have := h62.out; omega)).trans hH0.2.2.1
      have hB' := hH0.2.2.2.grown G6 (by have := heap_lt hH0.1; omega) (fun k hk => by cases hk; have := h62.out; omega)
      clear hH0 G6
      refine hK.out _ _ ⟨h2', h3', h4', hB'⟩ (fun hH0 => ?_)
      clear hK K
      try simp only [Act.put, zq1, zq2, zq3]
      refine held_take 9 (.pointer (some ⟨g6, 2, none⟩)) rfl (by kernel_rfl) (by kernel_rfl) (by kernel_rfl) (held_pure (by rfl) (fun W => by go_simp)) (by assumption) ?_
      try simp only [Act.put, zq1, zq2, zq3]
      refine held_step 10 (by kernel_rfl) rfl (by rfl) (fun K hK => ?_)
      refine oper_list rfl ?_
      refine arm_store_v 3 (.tmp 34) (.tmp 30) rfl rfl g6 2 rfl (.int .i64 A.mark) rfl rfl rfl hi3.out ((supC U).set 1 (.int .i64 (U.gen + 1))) 60 g6'.out (by simp [supC]) ?_
      intro w7 g7' G7
      refine ⟨rfl, ?_⟩
      have h2' := (G7.block g2 (heap_lt hH0.1) (by intro e; have := Option.some.inj e; have := h62.out; omega)).trans hH0.1
      have h3' := (G7.block g3 (heap_lt hH0.2.1) (by intro e; have := Option.some.inj e; have := h62.out; omega)).trans hH0.2.1
      have h4' := (G7.block g4 (heap_lt hH0.2.2.1) (by intro e; have := Option.some.inj e; have := h62.out; omega)).trans hH0.2.2.1
      have hB' := hH0.2.2.2.grown G7 (by have := heap_lt hH0.1; omega) (fun k hk => by cases hk; have := h62.out; omega)
      clear hH0 G7
      refine hK.out _ _ ⟨h2', h3', h4', hB'⟩ (fun hH0 => ?_)
      clear hK K
      try simp only [Act.put, zq1, zq2, zq3]
      refine held_take 11 (.pointer (some ⟨g6, 3, none⟩)) rfl (by kernel_rfl) (by kernel_rfl) (by kernel_rfl) (held_pure (by rfl) (fun W => by go_simp)) (by assumption) ?_
      try simp only [Act.put, zq1, zq2, zq3]
      refine held_step 12 (by kernel_rfl) rfl (by rfl) (fun K hK => ?_)
      refine oper_list rfl ?_
      refine arm_store_v 3 (.tmp 35) (.tmp 32) rfl rfl g6 3 rfl (.int .i64 A.head) rfl rfl rfl hi3.out (((supC U).set 1 (.int .i64 (U.gen + 1))).set 2 (.int .i64 A.mark)) 60 g7'.out (by simp [supC]) ?_
      intro w8 g8' G8
      refine ⟨rfl, ?_⟩
      have h2' := (G8.block g2 (heap_lt hH0.1) (by intro e; have := Option.some.inj e; have := h62.out; omega)).trans hH0.1
      have h3' := (G8.block g3 (heap_lt hH0.2.1) (by intro e; have := Option.some.inj e; have := h62.out; omega)).trans hH0.2.1
      have h4' := (G8.block g4 (heap_lt hH0.2.2.1) (by intro e; have := Option.some.inj e; have := h62.out; omega)).trans hH0.2.2.1
      have hB' := hH0.2.2.2.grown G8 (by have := heap_lt hH0.1; omega) (fun k hk => by cases hk; have := h62.out; omega)
      clear hH0 G8
      refine hK.out _ _ ⟨h2', h3', h4', hB'⟩ (fun hH0 => ?_)
      clear hK K
      try simp only [Act.put, zq1, zq2, zq3]
      try simp only [Act.put]
      refine held_done (by kernel_rfl) ?_ _
      go_wp2
      go_meet
      exact ⟨hH0.1, hH0.2.1, hH0.2.2.1, g8'.out, hH0.2.2.2⟩
    case rest =>
      obtain ⟨S2, S3, S4, S6, Bc⟩ := hcut
      obtain ⟨T, hT⟩ : ∃ T : SupV, ({ U with gen := U.gen + 1, mark := A.mark, head := A.head } : SupV) = T := ⟨_, rfl⟩
      rw [hT] at S6 HN
      clear hT
      have HB := Box.mk Bc
      have c22 := S2.cells.2.2.1
      have c32 := S3.cells.2.2.1
      have H2 := Box.mk (show _ = some (Obj.cells (supC A).toArray 60 (0, 0)) from S2)
      have H6T := Box.mk (show _ = some (Obj.cells (supC T).toArray 60 (0, 0)) from S6)
      have H4 := Box.mk (show _ = some (Obj.cells (supC noSup).toArray 60 (0, 0)) from S4)
      have hsA := hsz A
      have hsT := hsz T
      have haA := hal A
      have hss := Box.mk (show (supC noSup).toArray.size = (supC A).toArray.size from rfl)
      have hgd : Box (Try.prog.eqGuardType Try.prog.depth 60 = false) := ⟨by kernel_rfl⟩
      have HE := Box.mk (fun W => sup_equal T A W)
      have HI := Box.mk (eqS_iff T A)
      clear S2 S3 S4 S6 Bc H45 H25 H35 HB5
      rw [HZ.out] at H4 hss
      generalize hca : (supC A).toArray = ca at *
      generalize (supC T).toArray = ct at *
      have HCA := Box.mk hca
      clear hca
      generalize hq : eqS T A = q at *
      cases q with
      | false =>
        have hno := Box.mk (show ¬ NewerOk a b from fun h => by
          have h1 := HI.out.2 (HN.out.1 h).1.symm
          cases h1)
        have heq := Box.mk (fun W => show (Op.equalIn 10000 60 (.agg ct) (.agg ca)).run Try.prog W = .ok (!true) W from HE.out W)
        clear HE HI hq
        go_wp2_with (first
          | ((with_reducible refine arm_row 60 (.tmp 6) ?_ ?_ g6 ?_ 60 ct (0, 0) _ H6T.out Try.underlying60 rfl hsT.out ?_); rfl; rfl; rfl)
          | ((with_reducible refine arm_row 60 (.tmp 2) ?_ ?_ g2 ?_ 60 ca (0, 0) _ H2.out Try.underlying60 rfl hsA.out ?_); rfl; rfl; rfl)
          | ((with_reducible refine arm_neq 60 60 (.tmp 36) (.tmp 37) ?_ ?_ ct ca true ?_ ?_ hgd.out heq.out ?_); rfl; rfl; rfl; rfl)
          | ((with_reducible refine arm_built 60 [] ?_ ?_ [] ?_ zn hzn.out ?_); rfl; rfl; rfl)
          | ((with_reducible refine arm_storer 60 (.tmp 4) (.tmp 46) ?_ rfl g4 zn zn 60 ?_ ?_ H4.out rfl hsn.out han.out ?_); rfl; rfl; rfl))
        intro wx gx Gx
        have bx := Box.mk (HB.out.grown Gx (by have := heap_lt H4.out; have := hg4.out; omega) (fun k hk => by cases hk; exact hg4.out))
        clear Gx
        go_wp2
        exact bodyPost_ret (v := .tuple #[.agg zn, .int .i64 4]) (results_rowt (p := 4) (u := 5) (ty := 60) rfl _ _ g4 60 _ (0, 0) _ rfl gx.out Try.underlying60 rfl hsn.out _ rfl) rfl ⟨by rw [(HR.out hno.out).1, (HR.out hno.out).2, HZ.out], by rw [HW2.out]; exact bx.out⟩
      | true =>
        have hTA := Box.mk (HI.out.1 rfl)
        have heq := Box.mk (fun W => show (Op.equalIn 10000 60 (.agg ct) (.agg ca)).run Try.prog W = .ok (!false) W from HE.out W)
        clear HE HI hq
        rcases Int.lt_or_le A.mark U.mark with hlt | hle
        · have hno := Box.mk (show ¬ NewerOk a b from fun h => by have := (HN.out.1 h).2; omega)
          go_wp2_with (first
            | ((with_reducible refine arm_row 60 (.tmp 6) ?_ ?_ g6 ?_ 60 ct (0, 0) _ H6T.out Try.underlying60 rfl hsT.out ?_); rfl; rfl; rfl)
            | ((with_reducible refine arm_row 60 (.tmp 2) ?_ ?_ g2 ?_ 60 ca (0, 0) _ H2.out Try.underlying60 rfl hsA.out ?_); rfl; rfl; rfl)
            | ((with_reducible refine arm_neq 60 60 (.tmp 36) (.tmp 37) ?_ ?_ ct ca false ?_ ?_ hgd.out heq.out ?_); rfl; rfl; rfl; rfl)
            | ((with_reducible refine arm_built 60 [] ?_ ?_ [] ?_ zn hzn.out ?_); rfl; rfl; rfl)
            | ((with_reducible refine arm_storer 60 (.tmp 4) (.tmp 46) ?_ rfl g4 zn zn 60 ?_ ?_ H4.out rfl hsn.out han.out ?_); rfl; rfl; rfl))
          intro wx gx Gx
          have bx := Box.mk (HB.out.grown Gx (by have := heap_lt H4.out; have := hg4.out; omega) (fun k hk => by cases hk; exact hg4.out))
          clear Gx
          go_wp2
          exact bodyPost_ret (v := .tuple #[.agg zn, .int .i64 4]) (results_rowt (p := 4) (u := 5) (ty := 60) rfl _ _ g4 60 _ (0, 0) _ rfl gx.out Try.underlying60 rfl hsn.out _ rfl) rfl ⟨by rw [(HR.out hno.out).1, (HR.out hno.out).2, HZ.out], by rw [HW2.out]; exact bx.out⟩
        · have hyes := Box.mk (show NewerOk a b from HN.out.2 ⟨hTA.out.symm, hle⟩)
          go_wp2_with (first
            | ((with_reducible refine arm_row 60 (.tmp 6) ?_ ?_ g6 ?_ 60 ct (0, 0) _ H6T.out Try.underlying60 rfl hsT.out ?_); rfl; rfl; rfl)
            | ((with_reducible refine arm_row 60 (.tmp 2) ?_ ?_ g2 ?_ 60 ca (0, 0) _ H2.out Try.underlying60 rfl hsA.out ?_); rfl; rfl; rfl)
            | ((with_reducible refine arm_neq 60 60 (.tmp 36) (.tmp 37) ?_ ?_ ct ca false ?_ ?_ hgd.out heq.out ?_); rfl; rfl; rfl; rfl)
            | ((with_reducible refine arm_built 60 [] ?_ ?_ [] ?_ zn hzn.out ?_); rfl; rfl; rfl)
            | ((with_reducible refine arm_storer 60 (.tmp 4) (.tmp 47) ?_ rfl g4 zn ca 60 ?_ ?_ H4.out hss.out hsA.out haA.out ?_); rfl; rfl; rfl))
          intro wx gx Gx
          have bx := Box.mk (HB.out.grown Gx (by have := heap_lt H4.out; have := hg4.out; omega) (fun k hk => by cases hk; exact hg4.out))
          clear Gx
          go_wp2
          exact bodyPost_ret (v := .tuple #[.agg ca, .int .i64 0]) (results_rowt (p := 4) (u := 5) (ty := 60) rfl _ _ g4 60 _ (0, 0) _ rfl gx.out Try.underlying60 rfl hsA.out _ rfl) rfl ⟨by rw [(HY.out hyes.out).1, (HY.out hyes.out).2, HCA.out], by rw [HW2.out]; exact bx.out⟩
end Go.Proofs.Ytdnahagibodnpaa

/- Superblocks as bytes: PackSuper. -/
namespace Go.Proofs.Ytdnahagibodnpaa
set_option linter.unusedSectionVars false
open Go Go.RowKit
set_option linter.unusedVariables false
set_option linter.unusedSimpArgs false
theorem size_sup (s : SupV) : Box ((Try.prog.info? 60).map (·.size) = some (supC s).length) := size_of_len (n := 5) _ rfl (by kernel_rfl)
theorem sup_all (s : SupV) : (supC s).toArray.all (·.oneCell') = true := list_all _ rfl
theorem zero_60 : ∀ w : World, (zeroValue 104).run Try.prog w = .ok (.agg (bvs (zerosB 60)).toArray) w := fun w => by kernel_rfl
theorem first_letters : Builtin.firstCells 1 (Nat.min (ByteArray.mk #[76, 68, 71, 49]).size 60) (.string (ByteArray.mk #[76, 68, 71, 49])) = pure (bvs lettersB).toArray := by
  unfold Builtin.firstCells
  show (pure (Array.map (fun b : UInt8 => Value.int .u8 (b.toNat : Int)) ((ByteArray.mk #[76, 68, 71, 49]).extract 0 4).data) : Sem (Array Value)) = _
  congr 1
  apply Array.ext'
  rw [Array.toList_map]
  rfl
theorem splice_zeros (A L : List UInt8) (off n : Nat) (hA : A.length = off) (hL : L.length ≤ n) : splice (A ++ zerosB n) off L = (A ++ L) ++ zerosB (n - L.length) := by
  unfold splice
  rw [List.take_left' hA, ← List.drop_drop, List.drop_left' hA]
  unfold zerosB
  rw [List.drop_replicate, List.append_assoc]
theorem byteWrapI (v : Int) (h : 0 ≤ v ∧ v < 256) : IntKind.u8.wrap v = ((UInt8.ofNat v.toNat).toNat : Int) := by
  obtain ⟨n, rfl⟩ := Int.eq_ofNat_of_zero_le h.1
  exact wrap_u8 n
theorem put_anyI (g off m c : Nat) (v : Int) (n : Nat) (cs : List Value) (T : TypeId) (w : World) (hv : 0 ≤ v) (h0 : w.heap[g]? = some (.cells cs.toArray T (0, 0))) (hn : n ≤ 8) (hm : n ≤ m) (hlen : off + n ≤ cs.length) (hmx : m ≤ maxLen) :
    Calls Try.prog 40 #[.slice (some ⟨g, off, none⟩) m c, .int .i64 v, .int .i64 (n : Int)] w fun e w' => e = .returned (.tuple #[]) ∧ w'.heap[g]? = some (.cells (splice cs off (bvs (leN v.toNat n))).toArray T (0, 0)) ∧ Grew w w' [g] := by
  obtain ⟨k, rfl⟩ := Int.eq_ofNat_of_zero_le hv
  exact put_any g off m c k n cs T w h0 hn hm hlen hmx
theorem made_page (z : Value) (hz : (Try.prog.info? 5).bind (·.zero) = some z) : madeCells z.cells (256 * 1) = (bvs (zerosB 256)).toArray := by
  have h2 : (Try.prog.info? 5).bind (·.zero) = some (.int .u8 0) := by kernel_rfl
  rw [h2] at hz
  obtain rfl := (Option.some.inj hz).symm
  exact made_zeros 256
set_option maxRecDepth 100000 in
set_option maxHeartbeats 4000000 in
theorem packSuper_ok (s : SupV) (w : World) (hv : ValidS s) : Calls Try.prog 35 #[.agg ((supC s)).toArray] w fun e w' => ∃ g, e = .returned (.tuple #[.slice (some ⟨g, 0, none⟩) 256 256, .int .i64 0]) ∧ Mem w [] w' [blk g 5 (bvs (superB s))] := by
  have M := Mem.nil w
  have hv0 := hv
  obtain ⟨v1, v2, v3, v4, v5, v6, v7, v8, v9⟩ := hv0
  go_enter Try.func35, Try.ntmps35
  refine wp_seq_k (fun K1 hK1 => ?_)
  refine wp_region_lit ?_
  refine pe rfl (fun K hK => ?_)
  refine e_box M (supC s) rfl rfl ?_
  intro gS w2 (M2 : Mem w [] w2 [blk gS 60 (supC s)])
  clear M
  refine hK.out _ _ ?_
  clear hK K
  simp only [Act.put, zq1, zq2, zq3]
  refine pl M2 (y_assign (v := .slice none 0 0) rfl rfl rfl) ?_
  simp only [Act.put, zq1, zq2, zq3]
  refine pl M2 (y_assign (v := .int .i64 0) rfl rfl rfl) ?_
  simp only [Act.put, zq1, zq2, zq3]
  refine wpList_nil ?_
  refine hK1 _ _ ?_
  clear hK1
  refine wp_seq_k (fun K3 hK3 => ?_)
  refine wp_seq_k (fun K4 hK4 => ?_)
  refine wp_region_lit ?_
  refine pl M2 (y_loadb (cs := (supC s)) rfl rfl rfl Try.underlying60 rfl (size_sup s) (fun W hW => hW.get 0 rfl) (List.take_of_length_le (Nat.le_refl _))) ?_
  simp only [Act.put, zq1, zq2, zq3]
  refine pe rfl (fun K hK => ?_)
  refine e_call 50 [.agg ((supC s)).toArray] rfl rfl Try.call50 (valid_any s _) ?_
  rintro e w5 ⟨rfl, H5⟩
  have M5 : Mem w [] w5 [blk gS 60 (supC s)] := M2.low H5
  rw [(valid_yes hv)]
  refine ⟨_, rfl, ?_⟩
  refine hK.out _ _ ?_
  clear hK K
  simp only [Act.put, zq1, zq2, zq3]
  refine pl M5 (y_not rfl rfl rfl rfl) ?_
  simp only [Act.put, zq1, zq2, zq3]
  refine wpList_nil ?_
  refine hK4 _ _ ?_
  clear hK4
  refine wp_cond_false rfl ?_
  refine wp_skip ?_
  refine hK3 _ _ ?_
  clear hK3
  refine wp_seq_k (fun K6 hK6 => ?_)
  refine wp_region_lit ?_
  refine pe rfl (fun K hK => ?_)
  refine e_alloc M5 (bvs (zerosB 60)) rfl zero_60 ?_
  intro gb w7 (M7 : Mem w [] w7 [blk gb 104 (bvs (zerosB 60)), blk gS 60 (supC s)])
  clear M5
  refine hK.out _ _ ?_
  clear hK K
  simp only [Act.put, zq1, zq2, zq3]
  refine wpList_nil ?_
  refine hK6 _ _ ?_
  clear hK6
  refine wp_seq_k (fun K8 hK8 => ?_)
  refine wp_region_lit ?_
  refine pl M7 (y_sla (l := 0) (h := 60) (r := 0) (n' := 60) (c' := 60) rfl rfl rfl rfl rfl Try.underlying104 Try.sizeOf5 (by exact ⟨rfl, rfl⟩) (rfl) (by omega) (by omega)) ?_
  simp only [Act.put, zq1, zq2, zq3]
  refine pe rfl (fun K hK => ?_)
  refine e_copys M7 0 lettersB rfl Try.underlying23 Try.sizeOf5 rfl rfl rfl rfl first_letters (show 4 ≤ 60 by decide) ?_
  intro w9 M9
  replace M9 : Mem w [] w9 [blk gb 104 (bvs (lettersB ++ zerosB 56)), blk gS 60 (supC s)] := M9
  clear M7
  refine hK.out _ _ ?_
  clear hK K
  simp only [Act.put, zq1, zq2, zq3]
  refine wpList_nil ?_
  refine hK8 _ _ ?_
  clear hK8
  refine wp_seq_k (fun K10 hK10 => ?_)
  refine wp_region_lit ?_
  refine pl M9 (y_fa (r := 0) rfl rfl rfl Try.underlying60 rfl Try.sizeOf3 rfl) ?_
  simp only [Act.put, zq1, zq2, zq3]
  refine pl M9 (y_load (v := .int .i64 s.width) rfl rfl rfl Try.isAgg3 (fun W hW => hW.get 1 rfl) (rfl)) ?_
  simp only [Act.put, zq1, zq2, zq3]
  refine pl M9 (y_conv (r := ((UInt8.ofNat s.width.toNat).toNat : Int)) rfl rfl rfl Try.underlying3 Try.underlying5 (byteWrapI _ (by omega))) ?_
  simp only [Act.put, zq1, zq2, zq3]
  refine pl M9 (y_iaa (r := 4) rfl rfl rfl rfl Try.underlying104 Try.sizeOf5 (by omega) (by omega)) ?_
  simp only [Act.put, zq1, zq2, zq3]
  refine pe rfl (fun K hK => ?_)
  refine e_store M9 0 (v := .int .u8 ((UInt8.ofNat s.width.toNat).toNat : Int)) rfl rfl rfl rfl rfl rfl Try.sizeOf5 rfl (show (4 : Nat) < 60 by decide) ?_
  intro w11 (M11 : Mem w [] w11 [blk gb 104 ((bvs (lettersB ++ zerosB 56)).set 4 (.int .u8 ((UInt8.ofNat s.width.toNat).toNat : Int))), blk gS 60 (supC s)])
  clear M9
  refine hK.out _ _ ?_
  clear hK K
  simp only [Act.put, zq1, zq2, zq3]
  have M12 : Mem w [] w11 [blk gb 104 (bvs (((lettersB ++ [UInt8.ofNat s.width.toNat]) ++ zerosB 3) ++ zerosB 52)), blk gS 60 (supC s)] := M11
  clear M11
  refine wpList_nil ?_
  refine hK10 _ _ ?_
  clear hK10
  refine wp_seq_k (fun K13 hK13 => ?_)
  have M14 : Mem w [] w11.drew [blk gb 104 (bvs (((lettersB ++ [UInt8.ofNat s.width.toNat]) ++ zerosB 3) ++ zerosB 52)), blk gS 60 (supC s)] := M12.drew
  clear M12
  refine wp_region_tail 3 (by kernel_rfl) (by kernel_rfl) ?_
  simp only [List.take_succ_cons, List.take_zero, List.drop_succ_cons, List.drop_zero]
  refine ps M14 (y_sla (l := 8) (h := 60) (r := 8) (n' := 52) (c' := 52) rfl rfl rfl rfl rfl Try.underlying104 Try.sizeOf5 (by exact ⟨rfl, ⟨_, _, rfl, by omega, by omega⟩⟩) (rfl) (by omega) (by omega)) ?_
  simp only [Act.put, zq1, zq2, zq3]
  refine ps M14 (y_fa (r := 1) rfl rfl rfl Try.underlying60 rfl Try.sizeOf3 rfl) ?_
  simp only [Act.put, zq1, zq2, zq3]
  refine ps M14 (y_load (v := .int .i64 s.gen) rfl rfl rfl Try.isAgg3 (fun W hW => hW.get 1 rfl) (rfl)) ?_
  simp only [Act.put, zq1, zq2, zq3]
  refine wpStill_nil ?_
  refine pe rfl (fun K hK => ?_)
  refine e_call 40 [.slice (some ⟨gb, 8, none⟩) 52 52, .int .i64 s.gen, .int .i64 8] rfl rfl Try.call40 (put_anyI gb 8 52 52 s.gen 8 (bvs (((lettersB ++ [UInt8.ofNat s.width.toNat]) ++ zerosB 3) ++ zerosB 52)) 104 _ (by omega) (M14.get 0 rfl) (by decide) (by decide) (by rw [length_bvs]; simp [lettersB, zerosB, length_leN]) (by unfold maxLen; omega)) ?_
  rintro e w15 ⟨rfl, H, G⟩
  have M15 : Mem w [] w15 [blk gb 104 (bvs ((((lettersB ++ [UInt8.ofNat s.width.toNat]) ++ zerosB 3) ++ leN s.gen.toNat 8) ++ zerosB 44)), blk gS 60 (supC s)] := (by have h := M14.setBlk2 0 _ rfl G H; rw [splice_bvs, splice_zeros _ _ 8 52 (by simp [lettersB, zerosB, length_leN]) (by simp [length_leN])] at h; simpa [length_leN] using h)
  refine ⟨_, rfl, ?_⟩
  refine hK.out _ _ ?_
  clear hK K
  simp only [Act.put, zq1, zq2, zq3]
  refine wpList_nil ?_
  refine hK13 _ _ ?_
  clear hK13
  refine wp_seq_k (fun K16 hK16 => ?_)
  have M17 : Mem w [] w15.drew [blk gb 104 (bvs ((((lettersB ++ [UInt8.ofNat s.width.toNat]) ++ zerosB 3) ++ leN s.gen.toNat 8) ++ zerosB 44)), blk gS 60 (supC s)] := M15.drew
  clear M15
  refine wp_region_tail 3 (by kernel_rfl) (by kernel_rfl) ?_
  simp only [List.take_succ_cons, List.take_zero, List.drop_succ_cons, List.drop_zero]
  refine ps M17 (y_sla (l := 16) (h := 60) (r := 16) (n' := 44) (c' := 44) rfl rfl rfl rfl rfl Try.underlying104 Try.sizeOf5 (by exact ⟨rfl, ⟨_, _, rfl, by omega, by omega⟩⟩) (rfl) (by omega) (by omega)) ?_
  simp only [Act.put, zq1, zq2, zq3]
  refine ps M17 (y_fa (r := 2) rfl rfl rfl Try.underlying60 rfl Try.sizeOf3 rfl) ?_
  simp only [Act.put, zq1, zq2, zq3]
  refine ps M17 (y_load (v := .int .i64 s.mark) rfl rfl rfl Try.isAgg3 (fun W hW => hW.get 1 rfl) (rfl)) ?_
  simp only [Act.put, zq1, zq2, zq3]
  refine wpStill_nil ?_
  refine pe rfl (fun K hK => ?_)
  refine e_call 40 [.slice (some ⟨gb, 16, none⟩) 44 44, .int .i64 s.mark, .int .i64 4] rfl rfl Try.call40 (put_anyI gb 16 44 44 s.mark 4 (bvs ((((lettersB ++ [UInt8.ofNat s.width.toNat]) ++ zerosB 3) ++ leN s.gen.toNat 8) ++ zerosB 44)) 104 _ (by omega) (M17.get 0 rfl) (by decide) (by decide) (by rw [length_bvs]; simp [lettersB, zerosB, length_leN]) (by unfold maxLen; omega)) ?_
  rintro e w18 ⟨rfl, H, G⟩
  have M18 : Mem w [] w18 [blk gb 104 (bvs (((((lettersB ++ [UInt8.ofNat s.width.toNat]) ++ zerosB 3) ++ leN s.gen.toNat 8) ++ leN s.mark.toNat 4) ++ zerosB 40)), blk gS 60 (supC s)] := (by have h := M17.setBlk2 0 _ rfl G H; rw [splice_bvs, splice_zeros _ _ 16 44 (by simp [lettersB, zerosB, length_leN]) (by simp [length_leN])] at h; simpa [length_leN] using h)
  refine ⟨_, rfl, ?_⟩
  refine hK.out _ _ ?_
  clear hK K
  simp only [Act.put, zq1, zq2, zq3]
  refine wpList_nil ?_
  refine hK16 _ _ ?_
  clear hK16
  refine wp_seq_k (fun K19 hK19 => ?_)
  have M20 : Mem w [] w18.drew [blk gb 104 (bvs (((((lettersB ++ [UInt8.ofNat s.width.toNat]) ++ zerosB 3) ++ leN s.gen.toNat 8) ++ leN s.mark.toNat 4) ++ zerosB 40)), blk gS 60 (supC s)] := M18.drew
  clear M18
  refine wp_region_tail 3 (by kernel_rfl) (by kernel_rfl) ?_
  simp only [List.take_succ_cons, List.take_zero, List.drop_succ_cons, List.drop_zero]
  refine ps M20 (y_sla (l := 20) (h := 60) (r := 20) (n' := 40) (c' := 40) rfl rfl rfl rfl rfl Try.underlying104 Try.sizeOf5 (by exact ⟨rfl, ⟨_, _, rfl, by omega, by omega⟩⟩) (rfl) (by omega) (by omega)) ?_
  simp only [Act.put, zq1, zq2, zq3]
  refine ps M20 (y_fa (r := 3) rfl rfl rfl Try.underlying60 rfl Try.sizeOf3 rfl) ?_
  simp only [Act.put, zq1, zq2, zq3]
  refine ps M20 (y_load (v := .int .i64 s.head) rfl rfl rfl Try.isAgg3 (fun W hW => hW.get 1 rfl) (rfl)) ?_
  simp only [Act.put, zq1, zq2, zq3]
  refine wpStill_nil ?_
  refine pe rfl (fun K hK => ?_)
  refine e_call 40 [.slice (some ⟨gb, 20, none⟩) 40 40, .int .i64 s.head, .int .i64 4] rfl rfl Try.call40 (put_anyI gb 20 40 40 s.head 4 (bvs (((((lettersB ++ [UInt8.ofNat s.width.toNat]) ++ zerosB 3) ++ leN s.gen.toNat 8) ++ leN s.mark.toNat 4) ++ zerosB 40)) 104 _ (by omega) (M20.get 0 rfl) (by decide) (by decide) (by rw [length_bvs]; simp [lettersB, zerosB, length_leN]) (by unfold maxLen; omega)) ?_
  rintro e w21 ⟨rfl, H, G⟩
  have M21 : Mem w [] w21 [blk gb 104 (bvs ((((((lettersB ++ [UInt8.ofNat s.width.toNat]) ++ zerosB 3) ++ leN s.gen.toNat 8) ++ leN s.mark.toNat 4) ++ leN s.head.toNat 4) ++ zerosB 36)), blk gS 60 (supC s)] := (by have h := M20.setBlk2 0 _ rfl G H; rw [splice_bvs, splice_zeros _ _ 20 40 (by simp [lettersB, zerosB, length_leN]) (by simp [length_leN])] at h; simpa [length_leN] using h)
  refine ⟨_, rfl, ?_⟩
  refine hK.out _ _ ?_
  clear hK K
  simp only [Act.put, zq1, zq2, zq3]
  refine wpList_nil ?_
  refine hK19 _ _ ?_
  clear hK19
  refine wp_seq_k (fun K22 hK22 => ?_)
  have M23 : Mem w [] w21.drew [blk gb 104 (bvs ((((((lettersB ++ [UInt8.ofNat s.width.toNat]) ++ zerosB 3) ++ leN s.gen.toNat 8) ++ leN s.mark.toNat 4) ++ leN s.head.toNat 4) ++ zerosB 36)), blk gS 60 (supC s)] := M21.drew
  clear M21
  refine wp_region_tail 3 (by kernel_rfl) (by kernel_rfl) ?_
  simp only [List.take_succ_cons, List.take_zero, List.drop_succ_cons, List.drop_zero]
  refine ps M23 (y_sla (l := 24) (h := 60) (r := 24) (n' := 36) (c' := 36) rfl rfl rfl rfl rfl Try.underlying104 Try.sizeOf5 (by exact ⟨rfl, ⟨_, _, rfl, by omega, by omega⟩⟩) (rfl) (by omega) (by omega)) ?_
  simp only [Act.put, zq1, zq2, zq3]
  refine ps M23 (y_fa (r := 4) rfl rfl rfl Try.underlying60 rfl Try.sizeOf3 rfl) ?_
  simp only [Act.put, zq1, zq2, zq3]
  refine ps M23 (y_load (v := .int .i64 s.pages) rfl rfl rfl Try.isAgg3 (fun W hW => hW.get 1 rfl) (rfl)) ?_
  simp only [Act.put, zq1, zq2, zq3]
  refine wpStill_nil ?_
  refine pe rfl (fun K hK => ?_)
  refine e_call 40 [.slice (some ⟨gb, 24, none⟩) 36 36, .int .i64 s.pages, .int .i64 4] rfl rfl Try.call40 (put_anyI gb 24 36 36 s.pages 4 (bvs ((((((lettersB ++ [UInt8.ofNat s.width.toNat]) ++ zerosB 3) ++ leN s.gen.toNat 8) ++ leN s.mark.toNat 4) ++ leN s.head.toNat 4) ++ zerosB 36)) 104 _ (by omega) (M23.get 0 rfl) (by decide) (by decide) (by rw [length_bvs]; simp [lettersB, zerosB, length_leN]) (by unfold maxLen; omega)) ?_
  rintro e w24 ⟨rfl, H, G⟩
  have M24 : Mem w [] w24 [blk gb 104 (bvs (((((((lettersB ++ [UInt8.ofNat s.width.toNat]) ++ zerosB 3) ++ leN s.gen.toNat 8) ++ leN s.mark.toNat 4) ++ leN s.head.toNat 4) ++ leN s.pages.toNat 4) ++ zerosB 32)), blk gS 60 (supC s)] := (by have h := M23.setBlk2 0 _ rfl G H; rw [splice_bvs, splice_zeros _ _ 24 36 (by simp [lettersB, zerosB, length_leN]) (by simp [length_leN])] at h; simpa [length_leN] using h)
  refine ⟨_, rfl, ?_⟩
  refine hK.out _ _ ?_
  clear hK K
  simp only [Act.put, zq1, zq2, zq3]
  refine wpList_nil ?_
  refine hK22 _ _ ?_
  clear hK22
  refine wp_seq_k (fun K25 hK25 => ?_)
  refine wp_region_lit ?_
  refine pe rfl (fun K hK => ?_)
  refine e_make M24 bytesT (bvs (zerosB 256)) (n := 256) (m := 256) rfl rfl rfl (rfl) (rfl) (by omega) (by omega) (by omega) (fun z hz => made_page z hz) ?_
  intro gp w26 (M26 : Mem w [] w26 [blk gp 5 (bvs (zerosB 256)), blk gb 104 (bvs (((((((lettersB ++ [UInt8.ofNat s.width.toNat]) ++ zerosB 3) ++ leN s.gen.toNat 8) ++ leN s.mark.toNat 4) ++ leN s.head.toNat 4) ++ leN s.pages.toNat 4) ++ zerosB 32)), blk gS 60 (supC s)])
  clear M24
  refine hK.out _ _ ?_
  clear hK K
  simp only [Act.put, zq1, zq2, zq3]
  refine pl M26 (y_assign (v := .slice (some ⟨gp, 0, none⟩) 256 256) rfl rfl rfl) ?_
  simp only [Act.put, zq1, zq2, zq3]
  refine wpList_nil ?_
  refine hK25 _ _ ?_
  clear hK25
  refine wp_seq_k (fun K27 hK27 => ?_)
  refine wp_region_lit ?_
  refine pl M26 (y_move (v := .slice (some ⟨gp, 0, none⟩) 256 256) rfl rfl rfl) ?_
  simp only [Act.put, zq1, zq2, zq3]
  refine pl M26 (y_sla (l := 0) (h := 60) (r := 0) (n' := 60) (c' := 60) rfl rfl rfl rfl rfl Try.underlying104 Try.sizeOf5 (by exact ⟨rfl, rfl⟩) (rfl) (by omega) (by omega)) ?_
  simp only [Act.put, zq1, zq2, zq3]
  refine pe rfl (fun K hK => ?_)
  refine e_call 41 [.slice (some ⟨gb, 0, none⟩) 60 60] rfl rfl Try.call41 (seal_any (some ⟨gb, 0, none⟩) 60 60 (headB s) _ (by have := blk_row (l := headB s) (M26.get 1 rfl); rwa [length_headB] at this) (by intro h; cases h) (by omega)) ?_
  rintro e w28 ⟨⟨gs, cs, rfl, H⟩, G⟩
  have M28 : Mem w [] w28 [lst 5 1 (.slice (some ⟨gs, 0, none⟩) (60 + 4) cs) ((sealB (headB s)).length) (bvs (sealB (headB s))), blk gp 5 (bvs (zerosB 256)), blk gb 104 (bvs (((((((lettersB ++ [UInt8.ofNat s.width.toNat]) ++ zerosB 3) ++ leN s.gen.toNat 8) ++ leN s.mark.toNat 4) ++ leN s.head.toNat 4) ++ leN s.pages.toNat 4) ++ zerosB 32)), blk gS 60 (supC s)] := M26.ownl G H
  refine ⟨_, rfl, ?_⟩
  refine hK.out _ _ ?_
  clear hK K
  simp only [Act.put, zq1, zq2, zq3]
  have hsl : (sealB (headB s)).length = 60 + 4 := by rw [length_sealB, length_headB]
  have hrow : Row w28 (some ⟨gs, 0, none⟩) (60 + 4) (sealB (headB s)) := by have := M28.get 0 rfl; rw [hsl] at this; exact lst_row this
  refine pe rfl (fun K hK => ?_)
  refine e_copy M28 1 (l := (sealB (headB s))) rfl rfl Try.underlying23 Try.sizeOf5 rfl rfl rfl (by rw [length_sealB, length_headB]; rfl) (hrow.self) (by rw [length_sealB, length_headB, length_bvs]; simp [zerosB]) ?_
  intro w29 M29
  replace M29 : Mem w [] w29 [lst 5 1 (.slice (some ⟨gs, 0, none⟩) (60 + 4) cs) ((sealB (headB s)).length) (bvs (sealB (headB s))), blk gp 5 (bvs (superB s)), blk gb 104 (bvs (((((((lettersB ++ [UInt8.ofNat s.width.toNat]) ++ zerosB 3) ++ leN s.gen.toNat 8) ++ leN s.mark.toNat 4) ++ leN s.head.toNat 4) ++ leN s.pages.toNat 4) ++ zerosB 32)), blk gS 60 (supC s)] := by rw [splice_bvs] at M29; rw [show superB s = splice (zerosB 256) 0 (sealB (headB s)) from (by rw [show zerosB 256 = [] ++ zerosB 256 from rfl, splice_zeros [] _ 0 256 rfl (by rw [length_sealB, length_headB]; decide)]; rw [length_sealB, length_headB]; rfl)]; exact M29
  clear M28
  refine hK.out _ _ ?_
  clear hK K
  simp only [Act.put, zq1, zq2, zq3]
  refine wpList_nil ?_
  refine hK27 _ _ ?_
  clear hK27
  refine wp_seq_k (fun K30 hK30 => ?_)
  refine wp_region_lit ?_
  refine pl M29 (y_move (v := .slice (some ⟨gp, 0, none⟩) 256 256) rfl rfl rfl) ?_
  simp only [Act.put, zq1, zq2, zq3]
  refine pl M29 (y_assign (v := .slice (some ⟨gp, 0, none⟩) 256 256) rfl rfl rfl) ?_
  simp only [Act.put, zq1, zq2, zq3]
  refine pl M29 (y_assign (v := .int .i64 0) rfl rfl rfl) ?_
  simp only [Act.put, zq1, zq2, zq3]
  refine wpList_nil ?_
  refine hK30 _ _ ?_
  clear hK30
  refine wp_ret ?_
  try simp only [Exit.inBlock, Exit.then]
  refine bodyPost_ret (v := .tuple #[.slice (some ⟨gp, 0, none⟩) 256 256, .int .i64 0]) (res2 rfl rfl rfl) rfl ?_
  exact ⟨gp, rfl, M29.arr [1] (by decide)⟩
end Go.Proofs.Ytdnahagibodnpaa

/- Superblocks as bytes: UnpackSuper. -/
namespace Go.Proofs.Ytdnahagibodnpaa
set_option linter.unusedSectionVars false
open Go Go.RowKit
set_option linter.unusedVariables false
set_option linter.unusedSimpArgs false
theorem zero_sup : ∀ w : World, (zeroValue 60).run Try.prog w = .ok (.agg (supC noSup).toArray) w := fun w => by kernel_rfl
theorem zero_sec : ∀ w : World, (zeroValue 109).run Try.prog w = .ok (.agg (bvs (zerosB 64)).toArray) w := fun w => by kernel_rfl
theorem size_sec (l : List UInt8) (h : l.length = 64) : Box ((Try.prog.info? 109).map (·.size) = some (bvs l).length) := size_of_len (n := 64) _ (by rw [length_bvs, h]) (by kernel_rfl)
theorem bvs_at {l : List UInt8} {i : Nat} (h : i < l.length) : (bvs l)[i]? = some (.int .u8 ((l.getD i 0).toNat : Int)) := by
  rw [bvs_getElem?, List.getElem?_eq_getElem h, List.getD_eq_getElem?_getD, List.getElem?_eq_getElem h]; rfl
theorem sec_row {g : Nat} {T : TypeId} {t : List UInt8} (ht : t.length = 64) {w : World} (h : (blk g T (bvs t)).holds w) : Row w (some ⟨g, 0, none⟩) 64 t := by
  have := blk_row h
  rwa [ht] at this
theorem sec_part {g : Nat} {T : TypeId} {t : List UInt8} (ht : t.length = 64) {w : World} (h : (blk g T (bvs t)).holds w) (o n : Nat) (hn : o + n ≤ 64) : Row w (some ⟨g, o, none⟩) n ((t.drop o).take n) := by
  have := ((sec_row ht h).drop o (by omega)).take n (by omega)
  rwa [Nat.zero_add] at this
theorem sec_text {g : Nat} {T : TypeId} {t : List UInt8} (ht : t.length = 64) {w : World} (h : (blk g T (bvs t)).holds w) : (convert 23 9 (.slice (some ⟨g, 0, none⟩) 4 64)).run Try.prog w = .ok (.string ⟨(t.take 4).toArray⟩) w := by
  have h4 : (t.take 4).length = 4 := by rw [List.length_take, ht]; rfl
  have := run_convert_bytes_back (P := Try.prog) w 23 9 5 ⟨g, 0, none⟩ 64 (t.take 4) Try.underlying23 Try.underlying5 Try.underlying9 (fun j hj => by
    rw [Addr.add_mid]
    exact ((sec_row ht h).take 4 (by omega)).cell j hj)
  rwa [h4] at this
theorem unp_cases {l : List UInt8} (h : l.length = 256) :
    (wholeB (l.take 64) = false → unpE l = 52 ∧ unpS l = noSup) ∧
    (wholeB (l.take 64) = true → formS (l.take 64) = false → unpE l = 53 ∧ unpS l = noSup) ∧
    (wholeB (l.take 64) = true → formS (l.take 64) = true → validS (supOf (l.take 64)) = false → unpE l = 53 ∧ unpS l = noSup) ∧
    (wholeB (l.take 64) = true → formS (l.take 64) = true → validS (supOf (l.take 64)) = true → unpE l = 0 ∧ unpS l = supOf (l.take 64)) := by
  have hh : ¬ (l.length ≠ 256) := fun h' => h' h
  refine ⟨fun h1 => ?_, fun h1 h2 => ?_, fun h1 h2 h3 => ?_, fun h1 h2 h3 => ?_⟩
  · have e : unpE l = 52 := by unfold unpE; rw [if_neg hh, if_pos h1]
    exact ⟨e, if_neg (by rw [e]; decide)⟩
  · have e : unpE l = 53 := by unfold unpE; rw [if_neg hh, if_neg (by rw [h1]; decide), if_pos h2]
    exact ⟨e, if_neg (by rw [e]; decide)⟩
  · have e : unpE l = 53 := by unfold unpE; rw [if_neg hh, if_neg (by rw [h1]; decide), if_neg (by rw [h2]; decide), if_pos h3]
    exact ⟨e, if_neg (by rw [e]; decide)⟩
  · have e : unpE l = 0 := by unfold unpE; rw [if_neg hh, if_neg (by rw [h1]; decide), if_neg (by rw [h2]; decide), if_neg (by rw [h3]; decide)]
    exact ⟨e, if_pos e⟩
theorem unp_valid {l : List UInt8} (h : unpE l = 0) : ValidS (unpS l) := by
  have h0 := h
  unfold unpE at h0
  split at h0
  · cases h0
  · split at h0
    · cases h0
    · split at h0
      · cases h0
      · split at h0
        · cases h0
        · rename_i hv
          have e : unpS l = supOf (l.take 64) := if_pos h
          rw [e]
          have hv' : validS (supOf (l.take 64)) = true := by simpa using hv
          exact of_decide_eq_true hv'
set_option maxRecDepth 100000 in
set_option maxHeartbeats 4000000 in
theorem unpackSuper_ok (rb ro c : Nat) (l : List UInt8) (w : World) (hr : Row w (some ⟨rb, ro, none⟩) 256 l) (hc : 256 ≤ c) (hcm : c ≤ 9223372036854775807) : Calls Try.prog 47 #[.slice (some ⟨rb, ro, none⟩) 256 c] w fun e w' => e = .returned (.tuple #[.agg (supC (unpS l)).toArray, .int .i64 (unpE l)]) ∧ Mem w [] w' [] := by
  have M := Mem.nil w
  have UC := unp_cases hr.1
  have hrt := hr.take 64 (by omega)
  generalize l.take 64 = t at *
  have ht := hrt.1
  go_enter Try.func47, Try.ntmps47
  refine wp_seq_k (fun K1 hK1 => ?_)
  refine wp_region_lit ?_
  refine pe rfl (fun K hK => ?_)
  refine e_alloc M (supC noSup) rfl zero_sup ?_
  intro gr w2 (M2 : Mem w [] w2 [blk gr 60 (supC noSup)])
  clear M
  refine hK.out _ _ ?_
  clear hK K
  simp only [Act.put, zq1, zq2, zq3]
  refine pl M2 (y_assign (v := .int .i64 0) rfl rfl rfl) ?_
  simp only [Act.put, zq1, zq2, zq3]
  refine wpList_nil ?_
  refine hK1 _ _ ?_
  clear hK1
  refine wp_seq_k (fun K3 hK3 => ?_)
  refine wp_seq_k (fun K4 hK4 => ?_)
  refine wp_region_lit ?_
  refine pl M2 (y_move (v := .slice (some ⟨rb, ro, none⟩) 256 c) rfl rfl rfl) ?_
  simp only [Act.put, zq1, zq2, zq3]
  refine pl M2 (y_len rfl rfl rfl Try.underlying23) ?_
  simp only [Act.put, zq1, zq2, zq3]
  refine pl M2 (y_neq (b := false) rfl rfl rfl rfl (by rw [decide_eq_true (by omega)]; rfl)) ?_
  simp only [Act.put, zq1, zq2, zq3]
  refine wpList_nil ?_
  refine hK4 _ _ ?_
  clear hK4
  refine wp_cond_false rfl ?_
  refine wp_skip ?_
  refine hK3 _ _ ?_
  clear hK3
  refine wp_seq_k (fun K5 hK5 => ?_)
  refine wp_seq_k (fun K6 hK6 => ?_)
  refine wp_region_lit ?_
  refine pl M2 (y_move (v := .slice (some ⟨rb, ro, none⟩) 256 c) rfl rfl rfl) ?_
  simp only [Act.put, zq1, zq2, zq3]
  refine pl M2 (y_sls (l := 0) (h := 64) (r := ro) (n' := 64) (c' := c) rfl rfl rfl rfl rfl Try.underlying23 Try.sizeOf5 (by exact ⟨⟨_, _, rfl, by omega, by omega⟩, rfl⟩) (by split <;> omega) (by omega) (by omega)) ?_
  simp only [Act.put, zq1, zq2, zq3]
  refine pe rfl (fun K hK => ?_)
  refine e_call 43 [.slice (some ⟨rb, ro, none⟩) 64 c] rfl rfl Try.call43 (whole_any (some ⟨rb, ro, none⟩) 64 c t _ (M2.row hrt (by simp)) (by unfold maxLen; omega) (by omega) (by unfold maxLen; omega)) ?_
  rintro e w7 ⟨rfl, H7⟩
  have M7 : Mem w [] w7 [blk gr 60 (supC noSup)] := M2.low H7
  rcases Bool.eq_false_or_eq_true (wholeB t) with h8 | h8
  · rw [h8]
    refine ⟨_, rfl, ?_⟩
    refine hK.out _ _ ?_
    clear hK K
    simp only [Act.put, zq1, zq2, zq3]
    refine pl M7 (y_not rfl rfl rfl rfl) ?_
    simp only [Act.put, zq1, zq2, zq3]
    refine wpList_nil ?_
    refine hK6 _ _ ?_
    clear hK6
    refine wp_cond_false rfl ?_
    refine wp_skip ?_
    refine hK5 _ _ ?_
    clear hK5
    refine wp_seq_k (fun K9 hK9 => ?_)
    refine wp_region_lit ?_
    refine pl M7 (y_move (v := .slice (some ⟨rb, ro, none⟩) 256 c) rfl rfl rfl) ?_
    simp only [Act.put, zq1, zq2, zq3]
    refine pl M7 (y_sls (l := 0) (h := 64) (r := ro) (n' := 64) (c' := c) rfl rfl rfl rfl rfl Try.underlying23 Try.sizeOf5 (by exact ⟨⟨_, _, rfl, by omega, by omega⟩, rfl⟩) (by split <;> omega) (by omega) (by omega)) ?_
    simp only [Act.put, zq1, zq2, zq3]
    refine pl M7 (y_toarr (p := ⟨rb, ro, none⟩) rfl rfl rfl Try.underlying109 (by decide)) ?_
    simp only [Act.put, zq1, zq2, zq3]
    refine pl M7 (y_loadr (cs := (bvs t)) rfl rfl rfl Try.underlying109 rfl (size_sec _ ht) (fun W hW => (hW.row hrt (by simp)).range)) ?_
    simp only [Act.put, zq1, zq2, zq3]
    refine pe rfl (fun K hK => ?_)
    refine e_alloc M7 (bvs (zerosB 64)) rfl zero_sec ?_
    intro gt w10 (M10 : Mem w [] w10 [blk gt 109 (bvs (zerosB 64)), blk gr 60 (supC noSup)])
    clear M7
    refine hK.out _ _ ?_
    clear hK K
    simp only [Act.put, zq1, zq2, zq3]
    refine pe rfl (fun K hK => ?_)
    refine e_storew M10 0 (cs := (bvs t)) rfl rfl rfl rfl (size_sec _ ht) (bvs_all _) rfl (by rw [length_bvs, length_bvs, ht, zerosB, List.length_replicate]) ?_
    intro w11 (M11 : Mem w [] w11 [blk gt 109 (bvs t), blk gr 60 (supC noSup)])
    clear M10
    refine hK.out _ _ ?_
    clear hK K
    simp only [Act.put, zq1, zq2, zq3]
    refine wpList_nil ?_
    refine hK9 _ _ ?_
    clear hK9
    refine wp_seq_k (fun K12 hK12 => ?_)
    refine wp_seq_k (fun K13 hK13 => ?_)
    refine wp_region_lit ?_
    refine pl M11 (y_sla (l := 0) (h := 4) (r := 0) (n' := 4) (c' := 64) rfl rfl rfl rfl rfl Try.underlying109 Try.sizeOf5 (by exact ⟨⟨_, _, rfl, by omega, by omega⟩, rfl⟩) (rfl) (by omega) (by omega)) ?_
    simp only [Act.put, zq1, zq2, zq3]
    refine pl M11 (y_convw (u := .slice (some ⟨gt, 0, none⟩) 4 64) (r := .string ⟨(t.take 4).toArray⟩) rfl rfl rfl (fun W hW => sec_text ht (hW.get 0 rfl))) ?_
    simp only [Act.put, zq1, zq2, zq3]
    rcases Bool.eq_false_or_eq_true (eqB (t.take 4) lettersB) with h14 | h14
    · refine pl M11 (y_strne (l := t.take 4) (m := lettersB) (b := false) rfl rfl rfl rfl (by rw [h14]; rfl)) ?_
      simp only [Act.put, zq1, zq2, zq3]
      refine pl M11 (y_move (v := .bool false) rfl rfl rfl) ?_
      simp only [Act.put, zq1, zq2, zq3]
      refine pl M11 (y_sla (l := 5) (h := 8) (r := 5) (n' := 3) (c' := 59) rfl rfl rfl rfl rfl Try.underlying109 Try.sizeOf5 (by exact ⟨⟨_, _, rfl, by omega, by omega⟩, ⟨_, _, rfl, by omega, by omega⟩⟩) (rfl) (by omega) (by omega)) ?_
      simp only [Act.put, zq1, zq2, zq3]
      refine pe rfl (fun K hK => ?_)
      refine e_call 45 [.slice (some ⟨gt, 5, none⟩) 3 59] rfl rfl Try.call45 (allZero_any (some ⟨gt, 5, none⟩) 3 59 ((t.drop 5).take 3) _ (sec_part ht (M11.get 0 rfl) 5 3 (by decide)) (by unfold maxLen; omega)) ?_
      rintro e w15 ⟨rfl, H⟩
      have M15 : Mem w [] w15 [blk gt 109 (bvs t), blk gr 60 (supC noSup)] := M11.same H
      rcases Bool.eq_false_or_eq_true (allZ ((t.drop 5).take 3)) with h16 | h16
      · rw [h16]
        refine ⟨_, rfl, ?_⟩
        refine hK.out _ _ ?_
        clear hK K
        simp only [Act.put, zq1, zq2, zq3]
        refine pl M15 (y_not rfl rfl rfl rfl) ?_
        simp only [Act.put, zq1, zq2, zq3]
        refine pl M15 (y_pickF (v := .bool false) rfl rfl rfl rfl) ?_
        simp only [Act.put, zq1, zq2, zq3]
        refine pl M15 (y_move (v := .bool false) rfl rfl rfl) ?_
        simp only [Act.put, zq1, zq2, zq3]
        refine pl M15 (y_sla (l := 28) (h := 60) (r := 28) (n' := 32) (c' := 36) rfl rfl rfl rfl rfl Try.underlying109 Try.sizeOf5 (by exact ⟨⟨_, _, rfl, by omega, by omega⟩, ⟨_, _, rfl, by omega, by omega⟩⟩) (rfl) (by omega) (by omega)) ?_
        simp only [Act.put, zq1, zq2, zq3]
        refine pe rfl (fun K hK => ?_)
        refine e_call 45 [.slice (some ⟨gt, 28, none⟩) 32 36] rfl rfl Try.call45 (allZero_any (some ⟨gt, 28, none⟩) 32 36 ((t.drop 28).take 32) _ (sec_part ht (M15.get 0 rfl) 28 32 (by decide)) (by unfold maxLen; omega)) ?_
        rintro e w17 ⟨rfl, H⟩
        have M17 : Mem w [] w17 [blk gt 109 (bvs t), blk gr 60 (supC noSup)] := M15.same H
        rcases Bool.eq_false_or_eq_true (allZ ((t.drop 28).take 32)) with h18 | h18
        · rw [h18]
          refine ⟨_, rfl, ?_⟩
          refine hK.out _ _ ?_
          clear hK K
          simp only [Act.put, zq1, zq2, zq3]
          refine pl M17 (y_not rfl rfl rfl rfl) ?_
          simp only [Act.put, zq1, zq2, zq3]
          refine pl M17 (y_pickF (v := .bool false) rfl rfl rfl rfl) ?_
          simp only [Act.put, zq1, zq2, zq3]
          refine pl M17 (y_move (v := .bool false) rfl rfl rfl) ?_
          simp only [Act.put, zq1, zq2, zq3]
          refine pl M17 (y_sla (l := 15) (h := 16) (r := 15) (n' := 1) (c' := 49) rfl rfl rfl rfl rfl Try.underlying109 Try.sizeOf5 (by exact ⟨⟨_, _, rfl, by omega, by omega⟩, ⟨_, _, rfl, by omega, by omega⟩⟩) (rfl) (by omega) (by omega)) ?_
          simp only [Act.put, zq1, zq2, zq3]
          refine pe rfl (fun K hK => ?_)
          refine e_call 45 [.slice (some ⟨gt, 15, none⟩) 1 49] rfl rfl Try.call45 (allZero_any (some ⟨gt, 15, none⟩) 1 49 ((t.drop 15).take 1) _ (sec_part ht (M17.get 0 rfl) 15 1 (by decide)) (by unfold maxLen; omega)) ?_
          rintro e w19 ⟨rfl, H⟩
          have M19 : Mem w [] w19 [blk gt 109 (bvs t), blk gr 60 (supC noSup)] := M17.same H
          rcases Bool.eq_false_or_eq_true (allZ ((t.drop 15).take 1)) with h20 | h20
          · rw [h20]
            refine ⟨_, rfl, ?_⟩
            refine hK.out _ _ ?_
            clear hK K
            simp only [Act.put, zq1, zq2, zq3]
            refine pl M19 (y_not rfl rfl rfl rfl) ?_
            simp only [Act.put, zq1, zq2, zq3]
            refine pl M19 (y_pickF (v := .bool false) rfl rfl rfl rfl) ?_
            simp only [Act.put, zq1, zq2, zq3]
            refine wpList_nil ?_
            refine hK13 _ _ ?_
            clear hK13
            refine wp_cond_false rfl ?_
            refine wp_skip ?_
            refine hK12 _ _ ?_
            clear hK12
            refine wp_seq_k (fun K21 hK21 => ?_)
            have M22 := M19.drew
            refine held_begin (fun W => Mem w [] W [blk gt 109 (bvs t), blk gr 60 (supC noSup)]) (by kernel_rfl) M22 (fun hS => ?_)
            refine held_take 0 _ rfl (by kernel_rfl) (by kernel_rfl) (by kernel_rfl) (y_iaa (r := 4) rfl rfl rfl rfl Try.underlying109 Try.sizeOf5 (by omega) (by omega)) hS ?_
            simp only [Act.put, zq1, zq2, zq3]
            refine held_take 1 _ rfl (by kernel_rfl) (by kernel_rfl) (by kernel_rfl) (y_load (v := .int .u8 ((t.getD 4 0).toNat : Int)) rfl rfl rfl Try.isAgg5 (fun W hW => hW.get 0 rfl) (bvs_at (by rw [ht]; decide))) hS ?_
            simp only [Act.put, zq1, zq2, zq3]
            refine held_take 2 _ rfl (by kernel_rfl) (by kernel_rfl) (by kernel_rfl) (y_conv (r := ((t.getD 4 0).toNat : Int)) rfl rfl rfl Try.underlying5 Try.underlying3 (wrap64_of (by have := (t.getD 4 0).toNat_lt; omega))) hS ?_
            simp only [Act.put, zq1, zq2, zq3]
            refine held_take 3 _ rfl (by kernel_rfl) (by kernel_rfl) (by kernel_rfl) (y_sla (l := 8) (h := 64) (r := 8) (n' := 56) (c' := 56) rfl rfl rfl rfl rfl Try.underlying109 Try.sizeOf5 (by exact ⟨rfl, ⟨_, _, rfl, by omega, by omega⟩⟩) (rfl) (by omega) (by omega)) hS ?_
            simp only [Act.put, zq1, zq2, zq3]
            refine held_take 5 _ rfl (by kernel_rfl) (by kernel_rfl) (by kernel_rfl) (y_sla (l := 16) (h := 64) (r := 16) (n' := 48) (c' := 48) rfl rfl rfl rfl rfl Try.underlying109 Try.sizeOf5 (by exact ⟨rfl, ⟨_, _, rfl, by omega, by omega⟩⟩) (rfl) (by omega) (by omega)) hS ?_
            simp only [Act.put, zq1, zq2, zq3]
            refine held_take 7 _ rfl (by kernel_rfl) (by kernel_rfl) (by kernel_rfl) (y_sla (l := 20) (h := 64) (r := 20) (n' := 44) (c' := 44) rfl rfl rfl rfl rfl Try.underlying109 Try.sizeOf5 (by exact ⟨rfl, ⟨_, _, rfl, by omega, by omega⟩⟩) (rfl) (by omega) (by omega)) hS ?_
            simp only [Act.put, zq1, zq2, zq3]
            refine held_take 9 _ rfl (by kernel_rfl) (by kernel_rfl) (by kernel_rfl) (y_sla (l := 24) (h := 64) (r := 24) (n' := 40) (c' := 40) rfl rfl rfl rfl rfl Try.underlying109 Try.sizeOf5 (by exact ⟨rfl, ⟨_, _, rfl, by omega, by omega⟩⟩) (rfl) (by omega) (by omega)) hS ?_
            simp only [Act.put, zq1, zq2, zq3]
            refine held_step2 4 12 (by kernel_rfl) rfl rfl (by rfl) (by rfl) (fun K hK => ?_) (fun K hK => ?_)
            · refine e_call 44 [.slice (some ⟨gt, 8, none⟩) 56 56, .int .i64 7] rfl rfl Try.call44 (get_any (some ⟨gt, 8, none⟩) 56 56 (t.drop 8) 7 _ (by have := (sec_row ht (M22.get 0 rfl)).drop 8 (by decide); rwa [Nat.zero_add] at this) (by decide) (by decide) (by unfold maxLen; omega)) ?_
              rintro e w23 ⟨rfl, H⟩
              have M23 : Mem w [] w23 [blk gt 109 (bvs t), blk gr 60 (supC noSup)] := M22.same H
              refine ⟨_, rfl, ?_⟩
              refine hK.out _ _ M23 (fun hS => ?_)
              clear hK K
              simp only [Act.put, zq1, zq2, zq3]
              refine held_step2 6 12 (by kernel_rfl) rfl rfl (by rfl) (by rfl) (fun K hK => ?_) (fun K hK => ?_)
              · refine e_call 44 [.slice (some ⟨gt, 16, none⟩) 48 48, .int .i64 4] rfl rfl Try.call44 (get_any (some ⟨gt, 16, none⟩) 48 48 (t.drop 16) 4 _ (by have := (sec_row ht (M23.get 0 rfl)).drop 16 (by decide); rwa [Nat.zero_add] at this) (by decide) (by decide) (by unfold maxLen; omega)) ?_
                rintro e w24 ⟨rfl, H⟩
                have M24 : Mem w [] w24 [blk gt 109 (bvs t), blk gr 60 (supC noSup)] := M23.same H
                refine ⟨_, rfl, ?_⟩
                refine hK.out _ _ M24 (fun hS => ?_)
                clear hK K
                simp only [Act.put, zq1, zq2, zq3]
                refine held_step2 8 12 (by kernel_rfl) rfl rfl (by rfl) (by rfl) (fun K hK => ?_) (fun K hK => ?_)
                · refine e_call 44 [.slice (some ⟨gt, 20, none⟩) 44 44, .int .i64 4] rfl rfl Try.call44 (get_any (some ⟨gt, 20, none⟩) 44 44 (t.drop 20) 4 _ (by have := (sec_row ht (M24.get 0 rfl)).drop 20 (by decide); rwa [Nat.zero_add] at this) (by decide) (by decide) (by unfold maxLen; omega)) ?_
                  rintro e w25 ⟨rfl, H⟩
                  have M25 : Mem w [] w25 [blk gt 109 (bvs t), blk gr 60 (supC noSup)] := M24.same H
                  refine ⟨_, rfl, ?_⟩
                  refine hK.out _ _ M25 (fun hS => ?_)
                  clear hK K
                  simp only [Act.put, zq1, zq2, zq3]
                  refine held_step2 10 12 (by kernel_rfl) rfl rfl (by rfl) (by rfl) (fun K hK => ?_) (fun K hK => ?_)
                  · refine e_call 44 [.slice (some ⟨gt, 24, none⟩) 40 40, .int .i64 4] rfl rfl Try.call44 (get_any (some ⟨gt, 24, none⟩) 40 40 (t.drop 24) 4 _ (by have := (sec_row ht (M25.get 0 rfl)).drop 24 (by decide); rwa [Nat.zero_add] at this) (by decide) (by decide) (by unfold maxLen; omega)) ?_
                    rintro e w26 ⟨rfl, H⟩
                    have M26 : Mem w [] w26 [blk gt 109 (bvs t), blk gr 60 (supC noSup)] := M25.same H
                    refine ⟨_, rfl, ?_⟩
                    refine hK.out _ _ M26 (fun hS => ?_)
                    clear hK K
                    simp only [Act.put, zq1, zq2, zq3]
                    refine held_take 11 _ rfl (by kernel_rfl) (by kernel_rfl) (by kernel_rfl) (y_build (ps := [(0, .tmp 40), (1, .tmp 42), (2, .tmp 44), (3, .tmp 46), (4, .tmp 48)]) (pv := [(0, .int .i64 ((t.getD 4 0).toNat : Int)), (1, .int .i64 ((decN ((t.drop 8).take 7) : Nat) : Int)), (2, .int .i64 ((decN ((t.drop 16).take 4) : Nat) : Int)), (3, .int .i64 ((decN ((t.drop 20).take 4) : Nat) : Int)), (4, .int .i64 ((decN ((t.drop 24).take 4) : Nat) : Int))]) (cs := (supC (supOf t))) rfl rfl rfl (by kernel_rfl)) hS ?_
                    simp only [Act.put, zq1, zq2, zq3]
                    refine held_step 12 (by kernel_rfl) rfl (by rfl) (fun K hK => ?_)
                    refine e_alloc M26 (supC noSup) rfl zero_sup ?_
                    intro gs w27 (M27 : Mem w [] w27 [blk gs 60 (supC noSup), blk gt 109 (bvs t), blk gr 60 (supC noSup)])
                    clear M26
                    refine hK.out _ _ (M27.arr [1, 2] (by decide)) (fun hS => ?_)
                    clear hK K
                    simp only [Act.put, zq1, zq2, zq3]
                    refine held_step 13 (by kernel_rfl) rfl (by rfl) (fun K hK => ?_)
                    refine e_storew M27 0 (cs := (supC (supOf t))) rfl rfl rfl rfl (size_sup _) (sup_all _) rfl (rfl) ?_
                    intro w28 (M28 : Mem w [] w28 [blk gs 60 (supC (supOf t)), blk gt 109 (bvs t), blk gr 60 (supC noSup)])
                    clear M27
                    refine hK.out _ _ (M28.arr [1, 2] (by decide)) (fun hS => ?_)
                    clear hK K
                    simp only [Act.put, zq1, zq2, zq3]
                    refine held_done (by kernel_rfl) ?_ _
                    refine hK21 _ _ ?_
                    clear hK21
                    refine wp_seq_k (fun K29 hK29 => ?_)
                    refine wp_seq_k (fun K30 hK30 => ?_)
                    refine wp_region_lit ?_
                    refine pl M28 (y_loadb (cs := (supC (supOf t))) rfl rfl rfl Try.underlying60 rfl (size_sup _) (fun W hW => hW.get 0 rfl) (List.take_of_length_le (Nat.le_refl _))) ?_
                    simp only [Act.put, zq1, zq2, zq3]
                    refine pe rfl (fun K hK => ?_)
                    refine e_call 50 [.agg ((supC (supOf t))).toArray] rfl rfl Try.call50 (valid_any (supOf t) _) ?_
                    rintro e w31 ⟨rfl, H31⟩
                    have M31 : Mem w [] w31 [blk gs 60 (supC (supOf t)), blk gt 109 (bvs t), blk gr 60 (supC noSup)] := M28.low H31
                    rcases Bool.eq_false_or_eq_true (validS (supOf t)) with h32 | h32
                    · rw [h32]
                      refine ⟨_, rfl, ?_⟩
                      refine hK.out _ _ ?_
                      clear hK K
                      simp only [Act.put, zq1, zq2, zq3]
                      refine pl M31 (y_not rfl rfl rfl rfl) ?_
                      simp only [Act.put, zq1, zq2, zq3]
                      refine wpList_nil ?_
                      refine hK30 _ _ ?_
                      clear hK30
                      refine wp_cond_false rfl ?_
                      refine wp_skip ?_
                      refine hK29 _ _ ?_
                      clear hK29
                      refine wp_seq_k (fun K33 hK33 => ?_)
                      refine wp_region_lit ?_
                      refine pl M31 (y_loadb (cs := (supC (supOf t))) rfl rfl rfl Try.underlying60 rfl (size_sup _) (fun W hW => hW.get 0 rfl) (List.take_of_length_le (Nat.le_refl _))) ?_
                      simp only [Act.put, zq1, zq2, zq3]
                      refine pe rfl (fun K hK => ?_)
                      refine e_storew M31 2 (cs := (supC (supOf t))) rfl rfl rfl rfl (size_sup _) (sup_all _) rfl (rfl) ?_
                      intro w34 (M34 : Mem w [] w34 [blk gs 60 (supC (supOf t)), blk gt 109 (bvs t), blk gr 60 (supC (supOf t))])
                      clear M31
                      refine hK.out _ _ ?_
                      clear hK K
                      simp only [Act.put, zq1, zq2, zq3]
                      refine pl M34 (y_assign (v := .int .i64 0) rfl rfl rfl) ?_
                      simp only [Act.put, zq1, zq2, zq3]
                      refine wpList_nil ?_
                      refine hK33 _ _ ?_
                      clear hK33
                      refine wp_ret ?_
                      try simp only [Exit.inBlock, Exit.then]
                      refine bodyPost_ret (v := .tuple #[.agg ((supC (supOf t))).toArray, .int .i64 0]) (resc2 _ rfl rfl rfl (M34.get 2 rfl) Try.underlying60 (size_sup _) rfl) rfl ?_
                      obtain ⟨e1, e2⟩ := UC.2.2.2 h8 (by unfold formS; simp [h14, h16, h18, h20]) h32
                      exact ⟨by rw [e1, e2], M34.arr [] (by decide)⟩
                    · rw [h32]
                      refine ⟨_, rfl, ?_⟩
                      refine hK.out _ _ ?_
                      clear hK K
                      simp only [Act.put, zq1, zq2, zq3]
                      refine pl M31 (y_not rfl rfl rfl rfl) ?_
                      simp only [Act.put, zq1, zq2, zq3]
                      refine wpList_nil ?_
                      refine hK30 _ _ ?_
                      clear hK30
                      refine wp_cond_true rfl ?_
                      refine wp_seq_k (fun K35 hK35 => ?_)
                      refine wp_region_lit ?_
                      refine pl M31 (y_build (ps := []) (pv := []) (cs := (supC noSup)) rfl rfl rfl (by kernel_rfl)) ?_
                      simp only [Act.put, zq1, zq2, zq3]
                      refine pe rfl (fun K hK => ?_)
                      refine e_storew M31 2 (cs := (supC noSup)) rfl rfl rfl rfl (size_sup _) (sup_all _) rfl (rfl) ?_
                      intro w36 (M36 : Mem w [] w36 [blk gs 60 (supC (supOf t)), blk gt 109 (bvs t), blk gr 60 (supC noSup)])
                      clear M31
                      refine hK.out _ _ ?_
                      clear hK K
                      simp only [Act.put, zq1, zq2, zq3]
                      refine pl M36 (y_assign (v := .int .i64 53) rfl rfl rfl) ?_
                      simp only [Act.put, zq1, zq2, zq3]
                      refine wpList_nil ?_
                      refine hK35 _ _ ?_
                      clear hK35
                      refine wp_ret ?_
                      try simp only [Exit.inBlock, Exit.then]
                      refine bodyPost_ret (v := .tuple #[.agg ((supC noSup)).toArray, .int .i64 53]) (resc2 _ rfl rfl rfl (M36.get 2 rfl) Try.underlying60 (size_sup _) rfl) rfl ?_
                      obtain ⟨e1, e2⟩ := UC.2.2.1 h8 (by unfold formS; simp [h14, h16, h18, h20]) h32
                      exact ⟨by rw [e1, e2], M36.arr [] (by decide)⟩
                  · refine e_alloc M25 (supC noSup) rfl zero_sup ?_
                    intro gs w37 (M37 : Mem w [] w37 [blk gs 60 (supC noSup), blk gt 109 (bvs t), blk gr 60 (supC noSup)])
                    clear M25
                    refine hK.out _ _ (M37.arr [1, 2] (by decide)) (fun hS => ?_)
                    clear hK K
                    simp only [Act.put, zq1, zq2, zq3]
                    refine held_step 10 (by kernel_rfl) rfl (by rfl) (fun K hK => ?_)
                    refine e_call 44 [.slice (some ⟨gt, 24, none⟩) 40 40, .int .i64 4] rfl rfl Try.call44 (get_any (some ⟨gt, 24, none⟩) 40 40 (t.drop 24) 4 _ (by have := (sec_row ht (M37.get 1 rfl)).drop 24 (by decide); rwa [Nat.zero_add] at this) (by decide) (by decide) (by unfold maxLen; omega)) ?_
                    rintro e w38 ⟨rfl, H⟩
                    have M38 : Mem w [] w38 [blk gs 60 (supC noSup), blk gt 109 (bvs t), blk gr 60 (supC noSup)] := M37.same H
                    refine ⟨_, rfl, ?_⟩
                    refine hK.out _ _ (M38.arr [1, 2] (by decide)) (fun hS => ?_)
                    clear hK K
                    simp only [Act.put, zq1, zq2, zq3]
                    refine held_take 11 _ rfl (by kernel_rfl) (by kernel_rfl) (by kernel_rfl) (y_build (ps := [(0, .tmp 40), (1, .tmp 42), (2, .tmp 44), (3, .tmp 46), (4, .tmp 48)]) (pv := [(0, .int .i64 ((t.getD 4 0).toNat : Int)), (1, .int .i64 ((decN ((t.drop 8).take 7) : Nat) : Int)), (2, .int .i64 ((decN ((t.drop 16).take 4) : Nat) : Int)), (3, .int .i64 ((decN ((t.drop 20).take 4) : Nat) : Int)), (4, .int .i64 ((decN ((t.drop 24).take 4) : Nat) : Int))]) (cs := (supC (supOf t))) rfl rfl rfl (by kernel_rfl)) hS ?_
                    simp only [Act.put, zq1, zq2, zq3]
                    refine held_step 13 (by kernel_rfl) rfl (by rfl) (fun K hK => ?_)
                    refine e_storew M38 0 (cs := (supC (supOf t))) rfl rfl rfl rfl (size_sup _) (sup_all _) rfl (rfl) ?_
                    intro w39 (M39 : Mem w [] w39 [blk gs 60 (supC (supOf t)), blk gt 109 (bvs t), blk gr 60 (supC noSup)])
                    clear M38
                    refine hK.out _ _ (M39.arr [1, 2] (by decide)) (fun hS => ?_)
                    clear hK K
                    simp only [Act.put, zq1, zq2, zq3]
                    refine held_done (by kernel_rfl) ?_ _
                    refine hK21 _ _ ?_
                    clear hK21
                    refine wp_seq_k (fun K40 hK40 => ?_)
                    refine wp_seq_k (fun K41 hK41 => ?_)
                    refine wp_region_lit ?_
                    refine pl M39 (y_loadb (cs := (supC (supOf t))) rfl rfl rfl Try.underlying60 rfl (size_sup _) (fun W hW => hW.get 0 rfl) (List.take_of_length_le (Nat.le_refl _))) ?_
                    simp only [Act.put, zq1, zq2, zq3]
                    refine pe rfl (fun K hK => ?_)
                    refine e_call 50 [.agg ((supC (supOf t))).toArray] rfl rfl Try.call50 (valid_any (supOf t) _) ?_
                    rintro e w42 ⟨rfl, H42⟩
                    have M42 : Mem w [] w42 [blk gs 60 (supC (supOf t)), blk gt 109 (bvs t), blk gr 60 (supC noSup)] := M39.low H42
                    rcases Bool.eq_false_or_eq_true (validS (supOf t)) with h43 | h43
                    · rw [h43]
                      refine ⟨_, rfl, ?_⟩
                      refine hK.out _ _ ?_
                      clear hK K
                      simp only [Act.put, zq1, zq2, zq3]
                      refine pl M42 (y_not rfl rfl rfl rfl) ?_
                      simp only [Act.put, zq1, zq2, zq3]
                      refine wpList_nil ?_
                      refine hK41 _ _ ?_
                      clear hK41
                      refine wp_cond_false rfl ?_
                      refine wp_skip ?_
                      refine hK40 _ _ ?_
                      clear hK40
                      refine wp_seq_k (fun K44 hK44 => ?_)
                      refine wp_region_lit ?_
                      refine pl M42 (y_loadb (cs := (supC (supOf t))) rfl rfl rfl Try.underlying60 rfl (size_sup _) (fun W hW => hW.get 0 rfl) (List.take_of_length_le (Nat.le_refl _))) ?_
                      simp only [Act.put, zq1, zq2, zq3]
                      refine pe rfl (fun K hK => ?_)
                      refine e_storew M42 2 (cs := (supC (supOf t))) rfl rfl rfl rfl (size_sup _) (sup_all _) rfl (rfl) ?_
                      intro w45 (M45 : Mem w [] w45 [blk gs 60 (supC (supOf t)), blk gt 109 (bvs t), blk gr 60 (supC (supOf t))])
                      clear M42
                      refine hK.out _ _ ?_
                      clear hK K
                      simp only [Act.put, zq1, zq2, zq3]
                      refine pl M45 (y_assign (v := .int .i64 0) rfl rfl rfl) ?_
                      simp only [Act.put, zq1, zq2, zq3]
                      refine wpList_nil ?_
                      refine hK44 _ _ ?_
                      clear hK44
                      refine wp_ret ?_
                      try simp only [Exit.inBlock, Exit.then]
                      refine bodyPost_ret (v := .tuple #[.agg ((supC (supOf t))).toArray, .int .i64 0]) (resc2 _ rfl rfl rfl (M45.get 2 rfl) Try.underlying60 (size_sup _) rfl) rfl ?_
                      obtain ⟨e1, e2⟩ := UC.2.2.2 h8 (by unfold formS; simp [h14, h16, h18, h20]) h43
                      exact ⟨by rw [e1, e2], M45.arr [] (by decide)⟩
                    · rw [h43]
                      refine ⟨_, rfl, ?_⟩
                      refine hK.out _ _ ?_
                      clear hK K
                      simp only [Act.put, zq1, zq2, zq3]
                      refine pl M42 (y_not rfl rfl rfl rfl) ?_
                      simp only [Act.put, zq1, zq2, zq3]
                      refine wpList_nil ?_
                      refine hK41 _ _ ?_
                      clear hK41
                      refine wp_cond_true rfl ?_
                      refine wp_seq_k (fun K46 hK46 => ?_)
                      refine wp_region_lit ?_
                      refine pl M42 (y_build (ps := []) (pv := []) (cs := (supC noSup)) rfl rfl rfl (by kernel_rfl)) ?_
                      simp only [Act.put, zq1, zq2, zq3]
                      refine pe rfl (fun K hK => ?_)
                      refine e_storew M42 2 (cs := (supC noSup)) rfl rfl rfl rfl (size_sup _) (sup_all _) rfl (rfl) ?_
                      intro w47 (M47 : Mem w [] w47 [blk gs 60 (supC (supOf t)), blk gt 109 (bvs t), blk gr 60 (supC noSup)])
                      clear M42
                      refine hK.out _ _ ?_
                      clear hK K
                      simp only [Act.put, zq1, zq2, zq3]
                      refine pl M47 (y_assign (v := .int .i64 53) rfl rfl rfl) ?_
                      simp only [Act.put, zq1, zq2, zq3]
                      refine wpList_nil ?_
                      refine hK46 _ _ ?_
                      clear hK46
                      refine wp_ret ?_
                      try simp only [Exit.inBlock, Exit.then]
                      refine bodyPost_ret (v := .tuple #[.agg ((supC noSup)).toArray, .int .i64 53]) (resc2 _ rfl rfl rfl (M47.get 2 rfl) Try.underlying60 (size_sup _) rfl) rfl ?_
                      obtain ⟨e1, e2⟩ := UC.2.2.1 h8 (by unfold formS; simp [h14, h16, h18, h20]) h43
                      exact ⟨by rw [e1, e2], M47.arr [] (by decide)⟩
                · refine e_alloc M24 (supC noSup) rfl zero_sup ?_
                  intro gs w48 (M48 : Mem w [] w48 [blk gs 60 (supC noSup), blk gt 109 (bvs t), blk gr 60 (supC noSup)])
                  clear M24
                  refine hK.out _ _ (M48.arr [1, 2] (by decide)) (fun hS => ?_)
                  clear hK K
                  simp only [Act.put, zq1, zq2, zq3]
                  refine held_step 8 (by kernel_rfl) rfl (by rfl) (fun K hK => ?_)
                  refine e_call 44 [.slice (some ⟨gt, 20, none⟩) 44 44, .int .i64 4] rfl rfl Try.call44 (get_any (some ⟨gt, 20, none⟩) 44 44 (t.drop 20) 4 _ (by have := (sec_row ht (M48.get 1 rfl)).drop 20 (by decide); rwa [Nat.zero_add] at this) (by decide) (by decide) (by unfold maxLen; omega)) ?_
                  rintro e w49 ⟨rfl, H⟩
                  have M49 : Mem w [] w49 [blk gs 60 (supC noSup), blk gt 109 (bvs t), blk gr 60 (supC noSup)] := M48.same H
                  refine ⟨_, rfl, ?_⟩
                  refine hK.out _ _ (M49.arr [1, 2] (by decide)) (fun hS => ?_)
                  clear hK K
                  simp only [Act.put, zq1, zq2, zq3]
                  refine held_step 10 (by kernel_rfl) rfl (by rfl) (fun K hK => ?_)
                  refine e_call 44 [.slice (some ⟨gt, 24, none⟩) 40 40, .int .i64 4] rfl rfl Try.call44 (get_any (some ⟨gt, 24, none⟩) 40 40 (t.drop 24) 4 _ (by have := (sec_row ht (M49.get 1 rfl)).drop 24 (by decide); rwa [Nat.zero_add] at this) (by decide) (by decide) (by unfold maxLen; omega)) ?_
                  rintro e w50 ⟨rfl, H⟩
                  have M50 : Mem w [] w50 [blk gs 60 (supC noSup), blk gt 109 (bvs t), blk gr 60 (supC noSup)] := M49.same H
                  refine ⟨_, rfl, ?_⟩
                  refine hK.out _ _ (M50.arr [1, 2] (by decide)) (fun hS => ?_)
                  clear hK K
                  simp only [Act.put, zq1, zq2, zq3]
                  refine held_take 11 _ rfl (by kernel_rfl) (by kernel_rfl) (by kernel_rfl) (y_build (ps := [(0, .tmp 40), (1, .tmp 42), (2, .tmp 44), (3, .tmp 46), (4, .tmp 48)]) (pv := [(0, .int .i64 ((t.getD 4 0).toNat : Int)), (1, .int .i64 ((decN ((t.drop 8).take 7) : Nat) : Int)), (2, .int .i64 ((decN ((t.drop 16).take 4) : Nat) : Int)), (3, .int .i64 ((decN ((t.drop 20).take 4) : Nat) : Int)), (4, .int .i64 ((decN ((t.drop 24).take 4) : Nat) : Int))]) (cs := (supC (supOf t))) rfl rfl rfl (by kernel_rfl)) hS ?_
                  simp only [Act.put, zq1, zq2, zq3]
                  refine held_step 13 (by kernel_rfl) rfl (by rfl) (fun K hK => ?_)
                  refine e_storew M50 0 (cs := (supC (supOf t))) rfl rfl rfl rfl (size_sup _) (sup_all _) rfl (rfl) ?_
                  intro w51 (M51 : Mem w [] w51 [blk gs 60 (supC (supOf t)), blk gt 109 (bvs t), blk gr 60 (supC noSup)])
                  clear M50
                  refine hK.out _ _ (M51.arr [1, 2] (by decide)) (fun hS => ?_)
                  clear hK K
                  simp only [Act.put, zq1, zq2, zq3]
                  refine held_done (by kernel_rfl) ?_ _
                  refine hK21 _ _ ?_
                  clear hK21
                  refine wp_seq_k (fun K52 hK52 => ?_)
                  refine wp_seq_k (fun K53 hK53 => ?_)
                  refine wp_region_lit ?_
                  refine pl M51 (y_loadb (cs := (supC (supOf t))) rfl rfl rfl Try.underlying60 rfl (size_sup _) (fun W hW => hW.get 0 rfl) (List.take_of_length_le (Nat.le_refl _))) ?_
                  simp only [Act.put, zq1, zq2, zq3]
                  refine pe rfl (fun K hK => ?_)
                  refine e_call 50 [.agg ((supC (supOf t))).toArray] rfl rfl Try.call50 (valid_any (supOf t) _) ?_
                  rintro e w54 ⟨rfl, H54⟩
                  have M54 : Mem w [] w54 [blk gs 60 (supC (supOf t)), blk gt 109 (bvs t), blk gr 60 (supC noSup)] := M51.low H54
                  rcases Bool.eq_false_or_eq_true (validS (supOf t)) with h55 | h55
                  · rw [h55]
                    refine ⟨_, rfl, ?_⟩
                    refine hK.out _ _ ?_
                    clear hK K
                    simp only [Act.put, zq1, zq2, zq3]
                    refine pl M54 (y_not rfl rfl rfl rfl) ?_
                    simp only [Act.put, zq1, zq2, zq3]
                    refine wpList_nil ?_
                    refine hK53 _ _ ?_
                    clear hK53
                    refine wp_cond_false rfl ?_
                    refine wp_skip ?_
                    refine hK52 _ _ ?_
                    clear hK52
                    refine wp_seq_k (fun K56 hK56 => ?_)
                    refine wp_region_lit ?_
                    refine pl M54 (y_loadb (cs := (supC (supOf t))) rfl rfl rfl Try.underlying60 rfl (size_sup _) (fun W hW => hW.get 0 rfl) (List.take_of_length_le (Nat.le_refl _))) ?_
                    simp only [Act.put, zq1, zq2, zq3]
                    refine pe rfl (fun K hK => ?_)
                    refine e_storew M54 2 (cs := (supC (supOf t))) rfl rfl rfl rfl (size_sup _) (sup_all _) rfl (rfl) ?_
                    intro w57 (M57 : Mem w [] w57 [blk gs 60 (supC (supOf t)), blk gt 109 (bvs t), blk gr 60 (supC (supOf t))])
                    clear M54
                    refine hK.out _ _ ?_
                    clear hK K
                    simp only [Act.put, zq1, zq2, zq3]
                    refine pl M57 (y_assign (v := .int .i64 0) rfl rfl rfl) ?_
                    simp only [Act.put, zq1, zq2, zq3]
                    refine wpList_nil ?_
                    refine hK56 _ _ ?_
                    clear hK56
                    refine wp_ret ?_
                    try simp only [Exit.inBlock, Exit.then]
                    refine bodyPost_ret (v := .tuple #[.agg ((supC (supOf t))).toArray, .int .i64 0]) (resc2 _ rfl rfl rfl (M57.get 2 rfl) Try.underlying60 (size_sup _) rfl) rfl ?_
                    obtain ⟨e1, e2⟩ := UC.2.2.2 h8 (by unfold formS; simp [h14, h16, h18, h20]) h55
                    exact ⟨by rw [e1, e2], M57.arr [] (by decide)⟩
                  · rw [h55]
                    refine ⟨_, rfl, ?_⟩
                    refine hK.out _ _ ?_
                    clear hK K
                    simp only [Act.put, zq1, zq2, zq3]
                    refine pl M54 (y_not rfl rfl rfl rfl) ?_
                    simp only [Act.put, zq1, zq2, zq3]
                    refine wpList_nil ?_
                    refine hK53 _ _ ?_
                    clear hK53
                    refine wp_cond_true rfl ?_
                    refine wp_seq_k (fun K58 hK58 => ?_)
                    refine wp_region_lit ?_
                    refine pl M54 (y_build (ps := []) (pv := []) (cs := (supC noSup)) rfl rfl rfl (by kernel_rfl)) ?_
                    simp only [Act.put, zq1, zq2, zq3]
                    refine pe rfl (fun K hK => ?_)
                    refine e_storew M54 2 (cs := (supC noSup)) rfl rfl rfl rfl (size_sup _) (sup_all _) rfl (rfl) ?_
                    intro w59 (M59 : Mem w [] w59 [blk gs 60 (supC (supOf t)), blk gt 109 (bvs t), blk gr 60 (supC noSup)])
                    clear M54
                    refine hK.out _ _ ?_
                    clear hK K
                    simp only [Act.put, zq1, zq2, zq3]
                    refine pl M59 (y_assign (v := .int .i64 53) rfl rfl rfl) ?_
                    simp only [Act.put, zq1, zq2, zq3]
                    refine wpList_nil ?_
                    refine hK58 _ _ ?_
                    clear hK58
                    refine wp_ret ?_
                    try simp only [Exit.inBlock, Exit.then]
                    refine bodyPost_ret (v := .tuple #[.agg ((supC noSup)).toArray, .int .i64 53]) (resc2 _ rfl rfl rfl (M59.get 2 rfl) Try.underlying60 (size_sup _) rfl) rfl ?_
                    obtain ⟨e1, e2⟩ := UC.2.2.1 h8 (by unfold formS; simp [h14, h16, h18, h20]) h55
                    exact ⟨by rw [e1, e2], M59.arr [] (by decide)⟩
              · refine e_alloc M23 (supC noSup) rfl zero_sup ?_
                intro gs w60 (M60 : Mem w [] w60 [blk gs 60 (supC noSup), blk gt 109 (bvs t), blk gr 60 (supC noSup)])
                clear M23
                refine hK.out _ _ (M60.arr [1, 2] (by decide)) (fun hS => ?_)
                clear hK K
                simp only [Act.put, zq1, zq2, zq3]
                refine held_step 6 (by kernel_rfl) rfl (by rfl) (fun K hK => ?_)
                refine e_call 44 [.slice (some ⟨gt, 16, none⟩) 48 48, .int .i64 4] rfl rfl Try.call44 (get_any (some ⟨gt, 16, none⟩) 48 48 (t.drop 16) 4 _ (by have := (sec_row ht (M60.get 1 rfl)).drop 16 (by decide); rwa [Nat.zero_add] at this) (by decide) (by decide) (by unfold maxLen; omega)) ?_
                rintro e w61 ⟨rfl, H⟩
                have M61 : Mem w [] w61 [blk gs 60 (supC noSup), blk gt 109 (bvs t), blk gr 60 (supC noSup)] := M60.same H
                refine ⟨_, rfl, ?_⟩
                refine hK.out _ _ (M61.arr [1, 2] (by decide)) (fun hS => ?_)
                clear hK K
                simp only [Act.put, zq1, zq2, zq3]
                refine held_step 8 (by kernel_rfl) rfl (by rfl) (fun K hK => ?_)
                refine e_call 44 [.slice (some ⟨gt, 20, none⟩) 44 44, .int .i64 4] rfl rfl Try.call44 (get_any (some ⟨gt, 20, none⟩) 44 44 (t.drop 20) 4 _ (by have := (sec_row ht (M61.get 1 rfl)).drop 20 (by decide); rwa [Nat.zero_add] at this) (by decide) (by decide) (by unfold maxLen; omega)) ?_
                rintro e w62 ⟨rfl, H⟩
                have M62 : Mem w [] w62 [blk gs 60 (supC noSup), blk gt 109 (bvs t), blk gr 60 (supC noSup)] := M61.same H
                refine ⟨_, rfl, ?_⟩
                refine hK.out _ _ (M62.arr [1, 2] (by decide)) (fun hS => ?_)
                clear hK K
                simp only [Act.put, zq1, zq2, zq3]
                refine held_step 10 (by kernel_rfl) rfl (by rfl) (fun K hK => ?_)
                refine e_call 44 [.slice (some ⟨gt, 24, none⟩) 40 40, .int .i64 4] rfl rfl Try.call44 (get_any (some ⟨gt, 24, none⟩) 40 40 (t.drop 24) 4 _ (by have := (sec_row ht (M62.get 1 rfl)).drop 24 (by decide); rwa [Nat.zero_add] at this) (by decide) (by decide) (by unfold maxLen; omega)) ?_
                rintro e w63 ⟨rfl, H⟩
                have M63 : Mem w [] w63 [blk gs 60 (supC noSup), blk gt 109 (bvs t), blk gr 60 (supC noSup)] := M62.same H
                refine ⟨_, rfl, ?_⟩
                refine hK.out _ _ (M63.arr [1, 2] (by decide)) (fun hS => ?_)
                clear hK K
                simp only [Act.put, zq1, zq2, zq3]
                refine held_take 11 _ rfl (by kernel_rfl) (by kernel_rfl) (by kernel_rfl) (y_build (ps := [(0, .tmp 40), (1, .tmp 42), (2, .tmp 44), (3, .tmp 46), (4, .tmp 48)]) (pv := [(0, .int .i64 ((t.getD 4 0).toNat : Int)), (1, .int .i64 ((decN ((t.drop 8).take 7) : Nat) : Int)), (2, .int .i64 ((decN ((t.drop 16).take 4) : Nat) : Int)), (3, .int .i64 ((decN ((t.drop 20).take 4) : Nat) : Int)), (4, .int .i64 ((decN ((t.drop 24).take 4) : Nat) : Int))]) (cs := (supC (supOf t))) rfl rfl rfl (by kernel_rfl)) hS ?_
                simp only [Act.put, zq1, zq2, zq3]
                refine held_step 13 (by kernel_rfl) rfl (by rfl) (fun K hK => ?_)
                refine e_storew M63 0 (cs := (supC (supOf t))) rfl rfl rfl rfl (size_sup _) (sup_all _) rfl (rfl) ?_
                intro w64 (M64 : Mem w [] w64 [blk gs 60 (supC (supOf t)), blk gt 109 (bvs t), blk gr 60 (supC noSup)])
                clear M63
                refine hK.out _ _ (M64.arr [1, 2] (by decide)) (fun hS => ?_)
                clear hK K
                simp only [Act.put, zq1, zq2, zq3]
                refine held_done (by kernel_rfl) ?_ _
                refine hK21 _ _ ?_
                clear hK21
                refine wp_seq_k (fun K65 hK65 => ?_)
                refine wp_seq_k (fun K66 hK66 => ?_)
                refine wp_region_lit ?_
                refine pl M64 (y_loadb (cs := (supC (supOf t))) rfl rfl rfl Try.underlying60 rfl (size_sup _) (fun W hW => hW.get 0 rfl) (List.take_of_length_le (Nat.le_refl _))) ?_
                simp only [Act.put, zq1, zq2, zq3]
                refine pe rfl (fun K hK => ?_)
                refine e_call 50 [.agg ((supC (supOf t))).toArray] rfl rfl Try.call50 (valid_any (supOf t) _) ?_
                rintro e w67 ⟨rfl, H67⟩
                have M67 : Mem w [] w67 [blk gs 60 (supC (supOf t)), blk gt 109 (bvs t), blk gr 60 (supC noSup)] := M64.low H67
                rcases Bool.eq_false_or_eq_true (validS (supOf t)) with h68 | h68
                · rw [h68]
                  refine ⟨_, rfl, ?_⟩
                  refine hK.out _ _ ?_
                  clear hK K
                  simp only [Act.put, zq1, zq2, zq3]
                  refine pl M67 (y_not rfl rfl rfl rfl) ?_
                  simp only [Act.put, zq1, zq2, zq3]
                  refine wpList_nil ?_
                  refine hK66 _ _ ?_
                  clear hK66
                  refine wp_cond_false rfl ?_
                  refine wp_skip ?_
                  refine hK65 _ _ ?_
                  clear hK65
                  refine wp_seq_k (fun K69 hK69 => ?_)
                  refine wp_region_lit ?_
                  refine pl M67 (y_loadb (cs := (supC (supOf t))) rfl rfl rfl Try.underlying60 rfl (size_sup _) (fun W hW => hW.get 0 rfl) (List.take_of_length_le (Nat.le_refl _))) ?_
                  simp only [Act.put, zq1, zq2, zq3]
                  refine pe rfl (fun K hK => ?_)
                  refine e_storew M67 2 (cs := (supC (supOf t))) rfl rfl rfl rfl (size_sup _) (sup_all _) rfl (rfl) ?_
                  intro w70 (M70 : Mem w [] w70 [blk gs 60 (supC (supOf t)), blk gt 109 (bvs t), blk gr 60 (supC (supOf t))])
                  clear M67
                  refine hK.out _ _ ?_
                  clear hK K
                  simp only [Act.put, zq1, zq2, zq3]
                  refine pl M70 (y_assign (v := .int .i64 0) rfl rfl rfl) ?_
                  simp only [Act.put, zq1, zq2, zq3]
                  refine wpList_nil ?_
                  refine hK69 _ _ ?_
                  clear hK69
                  refine wp_ret ?_
                  try simp only [Exit.inBlock, Exit.then]
                  refine bodyPost_ret (v := .tuple #[.agg ((supC (supOf t))).toArray, .int .i64 0]) (resc2 _ rfl rfl rfl (M70.get 2 rfl) Try.underlying60 (size_sup _) rfl) rfl ?_
                  obtain ⟨e1, e2⟩ := UC.2.2.2 h8 (by unfold formS; simp [h14, h16, h18, h20]) h68
                  exact ⟨by rw [e1, e2], M70.arr [] (by decide)⟩
                · rw [h68]
                  refine ⟨_, rfl, ?_⟩
                  refine hK.out _ _ ?_
                  clear hK K
                  simp only [Act.put, zq1, zq2, zq3]
                  refine pl M67 (y_not rfl rfl rfl rfl) ?_
                  simp only [Act.put, zq1, zq2, zq3]
                  refine wpList_nil ?_
                  refine hK66 _ _ ?_
                  clear hK66
                  refine wp_cond_true rfl ?_
                  refine wp_seq_k (fun K71 hK71 => ?_)
                  refine wp_region_lit ?_
                  refine pl M67 (y_build (ps := []) (pv := []) (cs := (supC noSup)) rfl rfl rfl (by kernel_rfl)) ?_
                  simp only [Act.put, zq1, zq2, zq3]
                  refine pe rfl (fun K hK => ?_)
                  refine e_storew M67 2 (cs := (supC noSup)) rfl rfl rfl rfl (size_sup _) (sup_all _) rfl (rfl) ?_
                  intro w72 (M72 : Mem w [] w72 [blk gs 60 (supC (supOf t)), blk gt 109 (bvs t), blk gr 60 (supC noSup)])
                  clear M67
                  refine hK.out _ _ ?_
                  clear hK K
                  simp only [Act.put, zq1, zq2, zq3]
                  refine pl M72 (y_assign (v := .int .i64 53) rfl rfl rfl) ?_
                  simp only [Act.put, zq1, zq2, zq3]
                  refine wpList_nil ?_
                  refine hK71 _ _ ?_
                  clear hK71
                  refine wp_ret ?_
                  try simp only [Exit.inBlock, Exit.then]
                  refine bodyPost_ret (v := .tuple #[.agg ((supC noSup)).toArray, .int .i64 53]) (resc2 _ rfl rfl rfl (M72.get 2 rfl) Try.underlying60 (size_sup _) rfl) rfl ?_
                  obtain ⟨e1, e2⟩ := UC.2.2.1 h8 (by unfold formS; simp [h14, h16, h18, h20]) h68
                  exact ⟨by rw [e1, e2], M72.arr [] (by decide)⟩
            · refine e_alloc M22 (supC noSup) rfl zero_sup ?_
              intro gs w73 (M73 : Mem w [] w73 [blk gs 60 (supC noSup), blk gt 109 (bvs t), blk gr 60 (supC noSup)])
              clear M22
              refine hK.out _ _ (M73.arr [1, 2] (by decide)) (fun hS => ?_)
              clear hK K
              simp only [Act.put, zq1, zq2, zq3]
              refine held_step 4 (by kernel_rfl) rfl (by rfl) (fun K hK => ?_)
              refine e_call 44 [.slice (some ⟨gt, 8, none⟩) 56 56, .int .i64 7] rfl rfl Try.call44 (get_any (some ⟨gt, 8, none⟩) 56 56 (t.drop 8) 7 _ (by have := (sec_row ht (M73.get 1 rfl)).drop 8 (by decide); rwa [Nat.zero_add] at this) (by decide) (by decide) (by unfold maxLen; omega)) ?_
              rintro e w74 ⟨rfl, H⟩
              have M74 : Mem w [] w74 [blk gs 60 (supC noSup), blk gt 109 (bvs t), blk gr 60 (supC noSup)] := M73.same H
              refine ⟨_, rfl, ?_⟩
              refine hK.out _ _ (M74.arr [1, 2] (by decide)) (fun hS => ?_)
              clear hK K
              simp only [Act.put, zq1, zq2, zq3]
              refine held_step 6 (by kernel_rfl) rfl (by rfl) (fun K hK => ?_)
              refine e_call 44 [.slice (some ⟨gt, 16, none⟩) 48 48, .int .i64 4] rfl rfl Try.call44 (get_any (some ⟨gt, 16, none⟩) 48 48 (t.drop 16) 4 _ (by have := (sec_row ht (M74.get 1 rfl)).drop 16 (by decide); rwa [Nat.zero_add] at this) (by decide) (by decide) (by unfold maxLen; omega)) ?_
              rintro e w75 ⟨rfl, H⟩
              have M75 : Mem w [] w75 [blk gs 60 (supC noSup), blk gt 109 (bvs t), blk gr 60 (supC noSup)] := M74.same H
              refine ⟨_, rfl, ?_⟩
              refine hK.out _ _ (M75.arr [1, 2] (by decide)) (fun hS => ?_)
              clear hK K
              simp only [Act.put, zq1, zq2, zq3]
              refine held_step 8 (by kernel_rfl) rfl (by rfl) (fun K hK => ?_)
              refine e_call 44 [.slice (some ⟨gt, 20, none⟩) 44 44, .int .i64 4] rfl rfl Try.call44 (get_any (some ⟨gt, 20, none⟩) 44 44 (t.drop 20) 4 _ (by have := (sec_row ht (M75.get 1 rfl)).drop 20 (by decide); rwa [Nat.zero_add] at this) (by decide) (by decide) (by unfold maxLen; omega)) ?_
              rintro e w76 ⟨rfl, H⟩
              have M76 : Mem w [] w76 [blk gs 60 (supC noSup), blk gt 109 (bvs t), blk gr 60 (supC noSup)] := M75.same H
              refine ⟨_, rfl, ?_⟩
              refine hK.out _ _ (M76.arr [1, 2] (by decide)) (fun hS => ?_)
              clear hK K
              simp only [Act.put, zq1, zq2, zq3]
              refine held_step 10 (by kernel_rfl) rfl (by rfl) (fun K hK => ?_)
              refine e_call 44 [.slice (some ⟨gt, 24, none⟩) 40 40, .int .i64 4] rfl rfl Try.call44 (get_any (some ⟨gt, 24, none⟩) 40 40 (t.drop 24) 4 _ (by have := (sec_row ht (M76.get 1 rfl)).drop 24 (by decide); rwa [Nat.zero_add] at this) (by decide) (by decide) (by unfold maxLen; omega)) ?_
              rintro e w77 ⟨rfl, H⟩
              have M77 : Mem w [] w77 [blk gs 60 (supC noSup), blk gt 109 (bvs t), blk gr 60 (supC noSup)] := M76.same H
              refine ⟨_, rfl, ?_⟩
              refine hK.out _ _ (M77.arr [1, 2] (by decide)) (fun hS => ?_)
              clear hK K
              simp only [Act.put, zq1, zq2, zq3]
              refine held_take 11 _ rfl (by kernel_rfl) (by kernel_rfl) (by kernel_rfl) (y_build (ps := [(0, .tmp 40), (1, .tmp 42), (2, .tmp 44), (3, .tmp 46), (4, .tmp 48)]) (pv := [(0, .int .i64 ((t.getD 4 0).toNat : Int)), (1, .int .i64 ((decN ((t.drop 8).take 7) : Nat) : Int)), (2, .int .i64 ((decN ((t.drop 16).take 4) : Nat) : Int)), (3, .int .i64 ((decN ((t.drop 20).take 4) : Nat) : Int)), (4, .int .i64 ((decN ((t.drop 24).take 4) : Nat) : Int))]) (cs := (supC (supOf t))) rfl rfl rfl (by kernel_rfl)) hS ?_
              simp only [Act.put, zq1, zq2, zq3]
              refine held_step 13 (by kernel_rfl) rfl (by rfl) (fun K hK => ?_)
              refine e_storew M77 0 (cs := (supC (supOf t))) rfl rfl rfl rfl (size_sup _) (sup_all _) rfl (rfl) ?_
              intro w78 (M78 : Mem w [] w78 [blk gs 60 (supC (supOf t)), blk gt 109 (bvs t), blk gr 60 (supC noSup)])
              clear M77
              refine hK.out _ _ (M78.arr [1, 2] (by decide)) (fun hS => ?_)
              clear hK K
              simp only [Act.put, zq1, zq2, zq3]
              refine held_done (by kernel_rfl) ?_ _
              refine hK21 _ _ ?_
              clear hK21
              refine wp_seq_k (fun K79 hK79 => ?_)
              refine wp_seq_k (fun K80 hK80 => ?_)
              refine wp_region_lit ?_
              refine pl M78 (y_loadb (cs := (supC (supOf t))) rfl rfl rfl Try.underlying60 rfl (size_sup _) (fun W hW => hW.get 0 rfl) (List.take_of_length_le (Nat.le_refl _))) ?_
              simp only [Act.put, zq1, zq2, zq3]
              refine pe rfl (fun K hK => ?_)
              refine e_call 50 [.agg ((supC (supOf t))).toArray] rfl rfl Try.call50 (valid_any (supOf t) _) ?_
              rintro e w81 ⟨rfl, H81⟩
              have M81 : Mem w [] w81 [blk gs 60 (supC (supOf t)), blk gt 109 (bvs t), blk gr 60 (supC noSup)] := M78.low H81
              rcases Bool.eq_false_or_eq_true (validS (supOf t)) with h82 | h82
              · rw [h82]
                refine ⟨_, rfl, ?_⟩
                refine hK.out _ _ ?_
                clear hK K
                simp only [Act.put, zq1, zq2, zq3]
                refine pl M81 (y_not rfl rfl rfl rfl) ?_
                simp only [Act.put, zq1, zq2, zq3]
                refine wpList_nil ?_
                refine hK80 _ _ ?_
                clear hK80
                refine wp_cond_false rfl ?_
                refine wp_skip ?_
                refine hK79 _ _ ?_
                clear hK79
                refine wp_seq_k (fun K83 hK83 => ?_)
                refine wp_region_lit ?_
                refine pl M81 (y_loadb (cs := (supC (supOf t))) rfl rfl rfl Try.underlying60 rfl (size_sup _) (fun W hW => hW.get 0 rfl) (List.take_of_length_le (Nat.le_refl _))) ?_
                simp only [Act.put, zq1, zq2, zq3]
                refine pe rfl (fun K hK => ?_)
                refine e_storew M81 2 (cs := (supC (supOf t))) rfl rfl rfl rfl (size_sup _) (sup_all _) rfl (rfl) ?_
                intro w84 (M84 : Mem w [] w84 [blk gs 60 (supC (supOf t)), blk gt 109 (bvs t), blk gr 60 (supC (supOf t))])
                clear M81
                refine hK.out _ _ ?_
                clear hK K
                simp only [Act.put, zq1, zq2, zq3]
                refine pl M84 (y_assign (v := .int .i64 0) rfl rfl rfl) ?_
                simp only [Act.put, zq1, zq2, zq3]
                refine wpList_nil ?_
                refine hK83 _ _ ?_
                clear hK83
                refine wp_ret ?_
                try simp only [Exit.inBlock, Exit.then]
                refine bodyPost_ret (v := .tuple #[.agg ((supC (supOf t))).toArray, .int .i64 0]) (resc2 _ rfl rfl rfl (M84.get 2 rfl) Try.underlying60 (size_sup _) rfl) rfl ?_
                obtain ⟨e1, e2⟩ := UC.2.2.2 h8 (by unfold formS; simp [h14, h16, h18, h20]) h82
                exact ⟨by rw [e1, e2], M84.arr [] (by decide)⟩
              · rw [h82]
                refine ⟨_, rfl, ?_⟩
                refine hK.out _ _ ?_
                clear hK K
                simp only [Act.put, zq1, zq2, zq3]
                refine pl M81 (y_not rfl rfl rfl rfl) ?_
                simp only [Act.put, zq1, zq2, zq3]
                refine wpList_nil ?_
                refine hK80 _ _ ?_
                clear hK80
                refine wp_cond_true rfl ?_
                refine wp_seq_k (fun K85 hK85 => ?_)
                refine wp_region_lit ?_
                refine pl M81 (y_build (ps := []) (pv := []) (cs := (supC noSup)) rfl rfl rfl (by kernel_rfl)) ?_
                simp only [Act.put, zq1, zq2, zq3]
                refine pe rfl (fun K hK => ?_)
                refine e_storew M81 2 (cs := (supC noSup)) rfl rfl rfl rfl (size_sup _) (sup_all _) rfl (rfl) ?_
                intro w86 (M86 : Mem w [] w86 [blk gs 60 (supC (supOf t)), blk gt 109 (bvs t), blk gr 60 (supC noSup)])
                clear M81
                refine hK.out _ _ ?_
                clear hK K
                simp only [Act.put, zq1, zq2, zq3]
                refine pl M86 (y_assign (v := .int .i64 53) rfl rfl rfl) ?_
                simp only [Act.put, zq1, zq2, zq3]
                refine wpList_nil ?_
                refine hK85 _ _ ?_
                clear hK85
                refine wp_ret ?_
                try simp only [Exit.inBlock, Exit.then]
                refine bodyPost_ret (v := .tuple #[.agg ((supC noSup)).toArray, .int .i64 53]) (resc2 _ rfl rfl rfl (M86.get 2 rfl) Try.underlying60 (size_sup _) rfl) rfl ?_
                obtain ⟨e1, e2⟩ := UC.2.2.1 h8 (by unfold formS; simp [h14, h16, h18, h20]) h82
                exact ⟨by rw [e1, e2], M86.arr [] (by decide)⟩
          · rw [h20]
            refine ⟨_, rfl, ?_⟩
            refine hK.out _ _ ?_
            clear hK K
            simp only [Act.put, zq1, zq2, zq3]
            refine pl M19 (y_not rfl rfl rfl rfl) ?_
            simp only [Act.put, zq1, zq2, zq3]
            refine pl M19 (y_pickF (v := .bool true) rfl rfl rfl rfl) ?_
            simp only [Act.put, zq1, zq2, zq3]
            refine wpList_nil ?_
            refine hK13 _ _ ?_
            clear hK13
            refine wp_cond_true rfl ?_
            refine wp_seq_k (fun K87 hK87 => ?_)
            refine wp_region_lit ?_
            refine pl M19 (y_build (ps := []) (pv := []) (cs := (supC noSup)) rfl rfl rfl (by kernel_rfl)) ?_
            simp only [Act.put, zq1, zq2, zq3]
            refine pe rfl (fun K hK => ?_)
            refine e_storew M19 1 (cs := (supC noSup)) rfl rfl rfl rfl (size_sup _) (sup_all _) rfl (rfl) ?_
            intro w88 (M88 : Mem w [] w88 [blk gt 109 (bvs t), blk gr 60 (supC noSup)])
            clear M19
            refine hK.out _ _ ?_
            clear hK K
            simp only [Act.put, zq1, zq2, zq3]
            refine pl M88 (y_assign (v := .int .i64 53) rfl rfl rfl) ?_
            simp only [Act.put, zq1, zq2, zq3]
            refine wpList_nil ?_
            refine hK87 _ _ ?_
            clear hK87
            refine wp_ret ?_
            try simp only [Exit.inBlock, Exit.then]
            refine bodyPost_ret (v := .tuple #[.agg ((supC noSup)).toArray, .int .i64 53]) (resc2 _ rfl rfl rfl (M88.get 1 rfl) Try.underlying60 (size_sup _) rfl) rfl ?_
            obtain ⟨e1, e2⟩ := UC.2.1 h8 (by unfold formS; simp [h14, h16, h18, h20])
            exact ⟨by rw [e1, e2], M88.arr [] (by decide)⟩
        · rw [h18]
          refine ⟨_, rfl, ?_⟩
          refine hK.out _ _ ?_
          clear hK K
          simp only [Act.put, zq1, zq2, zq3]
          refine pl M17 (y_not rfl rfl rfl rfl) ?_
          simp only [Act.put, zq1, zq2, zq3]
          refine pl M17 (y_pickF (v := .bool true) rfl rfl rfl rfl) ?_
          simp only [Act.put, zq1, zq2, zq3]
          refine pl M17 (y_move (v := .bool true) rfl rfl rfl) ?_
          simp only [Act.put, zq1, zq2, zq3]
          with_reducible refine pskip ?_ ?_
          · rfl
          simp only [Act.put, zq1, zq2, zq3]
          refine pskip rfl ?_
          simp only [Act.put, zq1, zq2, zq3]
          with_reducible refine pskip ?_ ?_
          · rfl
          simp only [Act.put, zq1, zq2, zq3]
          refine pl M17 (y_pickT (v := .bool true) rfl rfl rfl rfl) ?_
          simp only [Act.put, zq1, zq2, zq3]
          refine wpList_nil ?_
          refine hK13 _ _ ?_
          clear hK13
          refine wp_cond_true rfl ?_
          refine wp_seq_k (fun K89 hK89 => ?_)
          refine wp_region_lit ?_
          refine pl M17 (y_build (ps := []) (pv := []) (cs := (supC noSup)) rfl rfl rfl (by kernel_rfl)) ?_
          simp only [Act.put, zq1, zq2, zq3]
          refine pe rfl (fun K hK => ?_)
          refine e_storew M17 1 (cs := (supC noSup)) rfl rfl rfl rfl (size_sup _) (sup_all _) rfl (rfl) ?_
          intro w90 (M90 : Mem w [] w90 [blk gt 109 (bvs t), blk gr 60 (supC noSup)])
          clear M17
          refine hK.out _ _ ?_
          clear hK K
          simp only [Act.put, zq1, zq2, zq3]
          refine pl M90 (y_assign (v := .int .i64 53) rfl rfl rfl) ?_
          simp only [Act.put, zq1, zq2, zq3]
          refine wpList_nil ?_
          refine hK89 _ _ ?_
          clear hK89
          refine wp_ret ?_
          try simp only [Exit.inBlock, Exit.then]
          refine bodyPost_ret (v := .tuple #[.agg ((supC noSup)).toArray, .int .i64 53]) (resc2 _ rfl rfl rfl (M90.get 1 rfl) Try.underlying60 (size_sup _) rfl) rfl ?_
          obtain ⟨e1, e2⟩ := UC.2.1 h8 (by unfold formS; simp [h14, h16, h18])
          exact ⟨by rw [e1, e2], M90.arr [] (by decide)⟩
      · rw [h16]
        refine ⟨_, rfl, ?_⟩
        refine hK.out _ _ ?_
        clear hK K
        simp only [Act.put, zq1, zq2, zq3]
        refine pl M15 (y_not rfl rfl rfl rfl) ?_
        simp only [Act.put, zq1, zq2, zq3]
        refine pl M15 (y_pickF (v := .bool true) rfl rfl rfl rfl) ?_
        simp only [Act.put, zq1, zq2, zq3]
        refine pl M15 (y_move (v := .bool true) rfl rfl rfl) ?_
        simp only [Act.put, zq1, zq2, zq3]
        with_reducible refine pskip ?_ ?_
        · rfl
        simp only [Act.put, zq1, zq2, zq3]
        refine pskip rfl ?_
        simp only [Act.put, zq1, zq2, zq3]
        with_reducible refine pskip ?_ ?_
        · rfl
        simp only [Act.put, zq1, zq2, zq3]
        refine pl M15 (y_pickT (v := .bool true) rfl rfl rfl rfl) ?_
        simp only [Act.put, zq1, zq2, zq3]
        refine pl M15 (y_move (v := .bool true) rfl rfl rfl) ?_
        simp only [Act.put, zq1, zq2, zq3]
        with_reducible refine pskip ?_ ?_
        · rfl
        simp only [Act.put, zq1, zq2, zq3]
        refine pskip rfl ?_
        simp only [Act.put, zq1, zq2, zq3]
        with_reducible refine pskip ?_ ?_
        · rfl
        simp only [Act.put, zq1, zq2, zq3]
        refine pl M15 (y_pickT (v := .bool true) rfl rfl rfl rfl) ?_
        simp only [Act.put, zq1, zq2, zq3]
        refine wpList_nil ?_
        refine hK13 _ _ ?_
        clear hK13
        refine wp_cond_true rfl ?_
        refine wp_seq_k (fun K91 hK91 => ?_)
        refine wp_region_lit ?_
        refine pl M15 (y_build (ps := []) (pv := []) (cs := (supC noSup)) rfl rfl rfl (by kernel_rfl)) ?_
        simp only [Act.put, zq1, zq2, zq3]
        refine pe rfl (fun K hK => ?_)
        refine e_storew M15 1 (cs := (supC noSup)) rfl rfl rfl rfl (size_sup _) (sup_all _) rfl (rfl) ?_
        intro w92 (M92 : Mem w [] w92 [blk gt 109 (bvs t), blk gr 60 (supC noSup)])
        clear M15
        refine hK.out _ _ ?_
        clear hK K
        simp only [Act.put, zq1, zq2, zq3]
        refine pl M92 (y_assign (v := .int .i64 53) rfl rfl rfl) ?_
        simp only [Act.put, zq1, zq2, zq3]
        refine wpList_nil ?_
        refine hK91 _ _ ?_
        clear hK91
        refine wp_ret ?_
        try simp only [Exit.inBlock, Exit.then]
        refine bodyPost_ret (v := .tuple #[.agg ((supC noSup)).toArray, .int .i64 53]) (resc2 _ rfl rfl rfl (M92.get 1 rfl) Try.underlying60 (size_sup _) rfl) rfl ?_
        obtain ⟨e1, e2⟩ := UC.2.1 h8 (by unfold formS; simp [h14, h16])
        exact ⟨by rw [e1, e2], M92.arr [] (by decide)⟩
    · refine pl M11 (y_strne (l := t.take 4) (m := lettersB) (b := true) rfl rfl rfl rfl (by rw [h14]; rfl)) ?_
      simp only [Act.put, zq1, zq2, zq3]
      refine pl M11 (y_move (v := .bool true) rfl rfl rfl) ?_
      simp only [Act.put, zq1, zq2, zq3]
      with_reducible refine pskip ?_ ?_
      · rfl
      simp only [Act.put, zq1, zq2, zq3]
      refine pskip rfl ?_
      simp only [Act.put, zq1, zq2, zq3]
      with_reducible refine pskip ?_ ?_
      · rfl
      simp only [Act.put, zq1, zq2, zq3]
      refine pl M11 (y_pickT (v := .bool true) rfl rfl rfl rfl) ?_
      simp only [Act.put, zq1, zq2, zq3]
      refine pl M11 (y_move (v := .bool true) rfl rfl rfl) ?_
      simp only [Act.put, zq1, zq2, zq3]
      with_reducible refine pskip ?_ ?_
      · rfl
      simp only [Act.put, zq1, zq2, zq3]
      refine pskip rfl ?_
      simp only [Act.put, zq1, zq2, zq3]
      with_reducible refine pskip ?_ ?_
      · rfl
      simp only [Act.put, zq1, zq2, zq3]
      refine pl M11 (y_pickT (v := .bool true) rfl rfl rfl rfl) ?_
      simp only [Act.put, zq1, zq2, zq3]
      refine pl M11 (y_move (v := .bool true) rfl rfl rfl) ?_
      simp only [Act.put, zq1, zq2, zq3]
      with_reducible refine pskip ?_ ?_
      · rfl
      simp only [Act.put, zq1, zq2, zq3]
      refine pskip rfl ?_
      simp only [Act.put, zq1, zq2, zq3]
      with_reducible refine pskip ?_ ?_
      · rfl
      simp only [Act.put, zq1, zq2, zq3]
      refine pl M11 (y_pickT (v := .bool true) rfl rfl rfl rfl) ?_
      simp only [Act.put, zq1, zq2, zq3]
      refine wpList_nil ?_
      refine hK13 _ _ ?_
      clear hK13
      refine wp_cond_true rfl ?_
      refine wp_seq_k (fun K93 hK93 => ?_)
      refine wp_region_lit ?_
      refine pl M11 (y_build (ps := []) (pv := []) (cs := (supC noSup)) rfl rfl rfl (by kernel_rfl)) ?_
      simp only [Act.put, zq1, zq2, zq3]
      refine pe rfl (fun K hK => ?_)
      refine e_storew M11 1 (cs := (supC noSup)) rfl rfl rfl rfl (size_sup _) (sup_all _) rfl (rfl) ?_
      intro w94 (M94 : Mem w [] w94 [blk gt 109 (bvs t), blk gr 60 (supC noSup)])
      clear M11
      refine hK.out _ _ ?_
      clear hK K
      simp only [Act.put, zq1, zq2, zq3]
      refine pl M94 (y_assign (v := .int .i64 53) rfl rfl rfl) ?_
      simp only [Act.put, zq1, zq2, zq3]
      refine wpList_nil ?_
      refine hK93 _ _ ?_
      clear hK93
      refine wp_ret ?_
      try simp only [Exit.inBlock, Exit.then]
      refine bodyPost_ret (v := .tuple #[.agg ((supC noSup)).toArray, .int .i64 53]) (resc2 _ rfl rfl rfl (M94.get 1 rfl) Try.underlying60 (size_sup _) rfl) rfl ?_
      obtain ⟨e1, e2⟩ := UC.2.1 h8 (by unfold formS; simp [h14])
      exact ⟨by rw [e1, e2], M94.arr [] (by decide)⟩
  · rw [h8]
    refine ⟨_, rfl, ?_⟩
    refine hK.out _ _ ?_
    clear hK K
    simp only [Act.put, zq1, zq2, zq3]
    refine pl M7 (y_not rfl rfl rfl rfl) ?_
    simp only [Act.put, zq1, zq2, zq3]
    refine wpList_nil ?_
    refine hK6 _ _ ?_
    clear hK6
    refine wp_cond_true rfl ?_
    refine wp_seq_k (fun K95 hK95 => ?_)
    refine wp_region_lit ?_
    refine pl M7 (y_build (ps := []) (pv := []) (cs := (supC noSup)) rfl rfl rfl (by kernel_rfl)) ?_
    simp only [Act.put, zq1, zq2, zq3]
    refine pe rfl (fun K hK => ?_)
    refine e_storew M7 0 (cs := (supC noSup)) rfl rfl rfl rfl (size_sup _) (sup_all _) rfl (rfl) ?_
    intro w96 (M96 : Mem w [] w96 [blk gr 60 (supC noSup)])
    clear M7
    refine hK.out _ _ ?_
    clear hK K
    simp only [Act.put, zq1, zq2, zq3]
    refine pl M96 (y_assign (v := .int .i64 52) rfl rfl rfl) ?_
    simp only [Act.put, zq1, zq2, zq3]
    refine wpList_nil ?_
    refine hK95 _ _ ?_
    clear hK95
    refine wp_ret ?_
    try simp only [Exit.inBlock, Exit.then]
    refine bodyPost_ret (v := .tuple #[.agg ((supC noSup)).toArray, .int .i64 52]) (resc2 _ rfl rfl rfl (M96.get 0 rfl) Try.underlying60 (size_sup _) rfl) rfl ?_
    obtain ⟨e1, e2⟩ := UC.1 h8
    exact ⟨by rw [e1, e2], M96.arr [] (by decide)⟩
end Go.Proofs.Ytdnahagibodnpaa

/- Superblocks: Choose. -/
namespace Go.Proofs.Ytdnahagibodnpaa
set_option linter.unusedSectionVars false
open Go Go.RowKit
set_option linter.unusedVariables false
set_option linter.unusedSimpArgs false
theorem choose_bound {s : SupV} (h : ValidS s) : 0 ≤ s.gen ∧ s.gen ≤ 1099511627776 := ⟨h.2.2.1, h.2.2.2.1⟩
set_option maxRecDepth 100000 in
set_option maxHeartbeats 4000000 in
theorem choose_any (ra oa ca rb ob cb : Nat) (la lb : List UInt8) (w : World) (hra : Row w (some ⟨ra, oa, none⟩) 256 la) (hrb : Row w (some ⟨rb, ob, none⟩) 256 lb) (ha : 256 ≤ ca) (ma : ca ≤ 9223372036854775807) (hb : 256 ≤ cb) (mb : cb ≤ 9223372036854775807) : Calls Try.prog 33 #[.slice (some ⟨ra, oa, none⟩) 256 ca, .slice (some ⟨rb, ob, none⟩) 256 cb] w fun e w' => e = .returned (.tuple #[.agg (supC (chooseS la lb)).toArray, .int .i64 (chooseE la lb)]) ∧ Mem w [] w' [] := by
  have M := Mem.nil w
  go_enter Try.func33, Try.ntmps33
  refine wp_seq_k (fun K1 hK1 => ?_)
  refine wp_region_lit ?_
  refine pe rfl (fun K hK => ?_)
  refine e_alloc M (supC noSup) rfl zero_sup ?_
  intro gr w2 (M2 : Mem w [] w2 [blk gr 60 (supC noSup)])
  clear M
  refine hK.out _ _ ?_
  clear hK K
  simp only [Act.put, zq1, zq2, zq3]
  refine pl M2 (y_assign (v := .int .i64 0) rfl rfl rfl) ?_
  simp only [Act.put, zq1, zq2, zq3]
  refine wpList_nil ?_
  refine hK1 _ _ ?_
  clear hK1
  refine wp_seq_k (fun K3 hK3 => ?_)
  refine wp_region_lit ?_
  refine pl M2 (y_move (v := .slice (some ⟨ra, oa, none⟩) 256 ca) rfl rfl rfl) ?_
  simp only [Act.put, zq1, zq2, zq3]
  refine pe rfl (fun K hK => ?_)
  refine e_call 47 [.slice (some ⟨ra, oa, none⟩) 256 ca] rfl rfl Try.call47 (unpackSuper_ok ra oa ca la _ (M2.row hra (by simp)) ha ma) ?_
  rintro e w4 ⟨rfl, H4⟩
  have M4 : Mem w [] w4 [blk gr 60 (supC noSup)] := M2.step H4
  refine ⟨_, rfl, ?_⟩
  refine hK.out _ _ ?_
  clear hK K
  simp only [Act.put, zq1, zq2, zq3]
  refine pl M4 (y_move (v := .tuple #[.agg ((supC (unpS la))).toArray, .int .i64 (unpE la)]) rfl rfl rfl) ?_
  simp only [Act.put, zq1, zq2, zq3]
  refine pl M4 (y_ext (v := .agg ((supC (unpS la))).toArray) rfl rfl rfl rfl) ?_
  simp only [Act.put, zq1, zq2, zq3]
  refine pl M4 (y_ext (v := .int .i64 (unpE la)) rfl rfl rfl rfl) ?_
  simp only [Act.put, zq1, zq2, zq3]
  refine pe rfl (fun K hK => ?_)
  refine e_alloc M4 (supC noSup) rfl zero_sup ?_
  intro gx w5 (M5 : Mem w [] w5 [blk gx 60 (supC noSup), blk gr 60 (supC noSup)])
  clear M4
  refine hK.out _ _ ?_
  clear hK K
  simp only [Act.put, zq1, zq2, zq3]
  refine pe rfl (fun K hK => ?_)
  refine e_storew M5 0 (cs := (supC (unpS la))) rfl rfl rfl rfl (size_sup _) (sup_all _) rfl (rfl) ?_
  intro w6 (M6 : Mem w [] w6 [blk gx 60 (supC (unpS la)), blk gr 60 (supC noSup)])
  clear M5
  refine hK.out _ _ ?_
  clear hK K
  simp only [Act.put, zq1, zq2, zq3]
  refine pl M6 (y_assign (v := .int .i64 (unpE la)) rfl rfl rfl) ?_
  simp only [Act.put, zq1, zq2, zq3]
  refine wpList_nil ?_
  refine hK3 _ _ ?_
  clear hK3
  refine wp_seq_k (fun K7 hK7 => ?_)
  refine wp_region_lit ?_
  refine pl M6 (y_move (v := .slice (some ⟨rb, ob, none⟩) 256 cb) rfl rfl rfl) ?_
  simp only [Act.put, zq1, zq2, zq3]
  refine pe rfl (fun K hK => ?_)
  refine e_call 47 [.slice (some ⟨rb, ob, none⟩) 256 cb] rfl rfl Try.call47 (unpackSuper_ok rb ob cb lb _ (M6.row hrb (by simp)) hb mb) ?_
  rintro e w8 ⟨rfl, H8⟩
  have M8 : Mem w [] w8 [blk gx 60 (supC (unpS la)), blk gr 60 (supC noSup)] := M6.step H8
  refine ⟨_, rfl, ?_⟩
  refine hK.out _ _ ?_
  clear hK K
  simp only [Act.put, zq1, zq2, zq3]
  refine pl M8 (y_move (v := .tuple #[.agg ((supC (unpS lb))).toArray, .int .i64 (unpE lb)]) rfl rfl rfl) ?_
  simp only [Act.put, zq1, zq2, zq3]
  refine pl M8 (y_ext (v := .agg ((supC (unpS lb))).toArray) rfl rfl rfl rfl) ?_
  simp only [Act.put, zq1, zq2, zq3]
  refine pl M8 (y_ext (v := .int .i64 (unpE lb)) rfl rfl rfl rfl) ?_
  simp only [Act.put, zq1, zq2, zq3]
  refine pe rfl (fun K hK => ?_)
  refine e_alloc M8 (supC noSup) rfl zero_sup ?_
  intro gy w9 (M9 : Mem w [] w9 [blk gy 60 (supC noSup), blk gx 60 (supC (unpS la)), blk gr 60 (supC noSup)])
  clear M8
  refine hK.out _ _ ?_
  clear hK K
  simp only [Act.put, zq1, zq2, zq3]
  refine pe rfl (fun K hK => ?_)
  refine e_storew M9 0 (cs := (supC (unpS lb))) rfl rfl rfl rfl (size_sup _) (sup_all _) rfl (rfl) ?_
  intro w10 (M10 : Mem w [] w10 [blk gy 60 (supC (unpS lb)), blk gx 60 (supC (unpS la)), blk gr 60 (supC noSup)])
  clear M9
  refine hK.out _ _ ?_
  clear hK K
  simp only [Act.put, zq1, zq2, zq3]
  refine pl M10 (y_assign (v := .int .i64 (unpE lb)) rfl rfl rfl) ?_
  simp only [Act.put, zq1, zq2, zq3]
  refine wpList_nil ?_
  refine hK7 _ _ ?_
  clear hK7
  refine wp_seq_k (fun K11 hK11 => ?_)
  refine wp_block ?_
  refine wp_seq_k (fun K12 hK12 => ?_)
  refine wp_block ?_
  refine wp_block ?_
  refine wp_seq_k (fun K13 hK13 => ?_)
  refine wp_block ?_
  refine wp_seq_k (fun K14 hK14 => ?_)
  refine wp_block ?_
  refine wp_seq_k (fun K15 hK15 => ?_)
  refine wp_seq_k (fun K16 hK16 => ?_)
  refine wp_seq_k (fun K17 hK17 => ?_)
  refine wp_region_lit ?_
  refine pl M10 (y_move (v := .int .i64 (unpE la)) rfl rfl rfl) ?_
  simp only [Act.put, zq1, zq2, zq3]
  rcases Decidable.em (unpE la = 0) with h18 | h18
  · refine pl M10 (y_eql (b := true) rfl rfl rfl rfl (decide_eq_true h18)) ?_
    simp only [Act.put, zq1, zq2, zq3]
    refine pl M10 (y_move (v := .bool true) rfl rfl rfl) ?_
    simp only [Act.put, zq1, zq2, zq3]
    refine pl M10 (y_move (v := .int .i64 (unpE lb)) rfl rfl rfl) ?_
    simp only [Act.put, zq1, zq2, zq3]
    rcases Decidable.em (unpE lb = 0) with h19 | h19
    · refine pl M10 (y_eql (b := true) rfl rfl rfl rfl (decide_eq_true h19)) ?_
      simp only [Act.put, zq1, zq2, zq3]
      refine pl M10 (y_pickT (v := .bool true) rfl rfl rfl rfl) ?_
      simp only [Act.put, zq1, zq2, zq3]
      refine pl M10 (y_assign (v := .bool true) rfl rfl rfl) ?_
      simp only [Act.put, zq1, zq2, zq3]
      refine wpList_nil ?_
      refine hK17 _ _ ?_
      clear hK17
      refine wp_cond_true rfl ?_
      refine wp_exit ?_
      refine hK14 _ _ ?_
      clear hK14
      refine wp_seq_k (fun K20 hK20 => ?_)
      refine wp_seq_k (fun K21 hK21 => ?_)
      refine wp_region_lit ?_
      refine pl M10 (y_loadb (cs := (supC (unpS la))) rfl rfl rfl Try.underlying60 rfl (size_sup _) (fun W hW => hW.get 1 rfl) (List.take_of_length_le (Nat.le_refl _))) ?_
      simp only [Act.put, zq1, zq2, zq3]
      refine pl M10 (y_loadb (cs := (supC (unpS lb))) rfl rfl rfl Try.underlying60 rfl (size_sup _) (fun W hW => hW.get 0 rfl) (List.take_of_length_le (Nat.le_refl _))) ?_
      simp only [Act.put, zq1, zq2, zq3]
      refine pe rfl (fun K hK => ?_)
      refine e_call 48 [.agg ((supC (unpS la))).toArray, .agg ((supC (unpS lb))).toArray] rfl rfl Try.call48 (newer_any (unpS la) (unpS lb) _ (choose_bound (unp_valid h18)) (choose_bound (unp_valid h19))) ?_
      rintro e w22 ⟨rfl, H22⟩
      have M22 : Mem w [] w22 [blk gy 60 (supC (unpS lb)), blk gx 60 (supC (unpS la)), blk gr 60 (supC noSup)] := M10.low H22
      refine ⟨_, rfl, ?_⟩
      refine hK.out _ _ ?_
      clear hK K
      simp only [Act.put, zq1, zq2, zq3]
      refine pl M22 (y_ext (v := .agg ((supC (newerS (unpS la) (unpS lb)))).toArray) rfl rfl rfl rfl) ?_
      simp only [Act.put, zq1, zq2, zq3]
      refine pl M22 (y_ext (v := .int .i64 (newerE (unpS la) (unpS lb))) rfl rfl rfl rfl) ?_
      simp only [Act.put, zq1, zq2, zq3]
      refine pe rfl (fun K hK => ?_)
      refine e_storew M22 2 (cs := (supC (newerS (unpS la) (unpS lb)))) rfl rfl rfl rfl (size_sup _) (sup_all _) rfl (rfl) ?_
      intro w23 (M23 : Mem w [] w23 [blk gy 60 (supC (unpS lb)), blk gx 60 (supC (unpS la)), blk gr 60 (supC (newerS (unpS la) (unpS lb)))])
      clear M22
      refine hK.out _ _ ?_
      clear hK K
      simp only [Act.put, zq1, zq2, zq3]
      refine pl M23 (y_assign (v := .int .i64 (newerE (unpS la) (unpS lb))) rfl rfl rfl) ?_
      simp only [Act.put, zq1, zq2, zq3]
      refine wpList_nil ?_
      refine hK21 _ _ ?_
      clear hK21
      refine wp_ret ?_
      try simp only [Exit.inBlock, Exit.then]
      refine bodyPost_ret (v := .tuple #[.agg ((supC (newerS (unpS la) (unpS lb)))).toArray, .int .i64 (newerE (unpS la) (unpS lb))]) (resc2 _ rfl rfl rfl (M23.get 2 rfl) Try.underlying60 (size_sup _) rfl) rfl ?_
      have e1 : chooseE la lb = newerE (unpS la) (unpS lb) := if_pos ⟨h18, h19⟩
      have e2 : chooseS la lb = newerS (unpS la) (unpS lb) := if_pos ⟨h18, h19⟩
      rw [e1, e2]
      exact ⟨rfl, M23.arr [] (by decide)⟩
    · refine pl M10 (y_eql (b := false) rfl rfl rfl rfl (decide_eq_false h19)) ?_
      simp only [Act.put, zq1, zq2, zq3]
      refine pl M10 (y_pickT (v := .bool false) rfl rfl rfl rfl) ?_
      simp only [Act.put, zq1, zq2, zq3]
      refine pl M10 (y_assign (v := .bool false) rfl rfl rfl) ?_
      simp only [Act.put, zq1, zq2, zq3]
      refine wpList_nil ?_
      refine hK17 _ _ ?_
      clear hK17
      refine wp_cond_false rfl ?_
      refine wp_skip ?_
      refine hK16 _ _ ?_
      clear hK16
      refine wp_seq_k (fun K24 hK24 => ?_)
      refine wp_seq_k (fun K25 hK25 => ?_)
      refine wp_region_lit ?_
      refine pl M10 (y_move (v := .slice (some ⟨rb, ob, none⟩) 256 cb) rfl rfl rfl) ?_
      simp only [Act.put, zq1, zq2, zq3]
      refine pe rfl (fun K hK => ?_)
      refine e_call 49 [.slice (some ⟨rb, ob, none⟩) 256 cb] rfl rfl Try.call49 (empty_any (some ⟨rb, ob, none⟩) 256 cb lb _ (M10.row hrb (by simp)) hb (by unfold maxLen; omega)) ?_
      rintro e w26 ⟨rfl, H26⟩
      have M26 : Mem w [] w26 [blk gy 60 (supC (unpS lb)), blk gx 60 (supC (unpS la)), blk gr 60 (supC noSup)] := M10.same H26
      rcases Bool.eq_false_or_eq_true (emptyB lb) with h27 | h27
      · rw [h27]
        refine ⟨_, rfl, ?_⟩
        refine hK.out _ _ ?_
        clear hK K
        simp only [Act.put, zq1, zq2, zq3]
        refine pl M26 (y_not rfl rfl rfl rfl) ?_
        simp only [Act.put, zq1, zq2, zq3]
        refine pl M26 (y_assign (v := .bool false) rfl rfl rfl) ?_
        simp only [Act.put, zq1, zq2, zq3]
        refine wpList_nil ?_
        refine hK25 _ _ ?_
        clear hK25
        refine wp_cond_false rfl ?_
        refine wp_skip ?_
        refine hK24 _ _ ?_
        clear hK24
        refine wp_seq_k (fun K28 hK28 => ?_)
        refine wp_seq_k (fun K29 hK29 => ?_)
        refine wp_region_lit ?_
        refine pl M26 (y_move (v := .int .i64 (unpE la)) rfl rfl rfl) ?_
        simp only [Act.put, zq1, zq2, zq3]
        refine pl M26 (y_eql (b := true) rfl rfl rfl rfl (decide_eq_true h18)) ?_
        simp only [Act.put, zq1, zq2, zq3]
        refine pl M26 (y_move (v := .bool true) rfl rfl rfl) ?_
        simp only [Act.put, zq1, zq2, zq3]
        refine pl M26 (y_fa (r := 1) rfl rfl rfl Try.underlying60 rfl Try.sizeOf3 rfl) ?_
        simp only [Act.put, zq1, zq2, zq3]
        refine pl M26 (y_load (v := .int .i64 ((unpS la).gen)) rfl rfl rfl Try.isAgg3 (fun W hW => hW.get 1 rfl) (rfl)) ?_
        simp only [Act.put, zq1, zq2, zq3]
        rcases Decidable.em ((unpS la).gen = 0) with h30 | h30
        · refine pl M26 (y_eql (b := true) rfl rfl rfl rfl (decide_eq_true h30)) ?_
          simp only [Act.put, zq1, zq2, zq3]
          refine pl M26 (y_pickT (v := .bool true) rfl rfl rfl rfl) ?_
          simp only [Act.put, zq1, zq2, zq3]
          refine pl M26 (y_assign (v := .bool true) rfl rfl rfl) ?_
          simp only [Act.put, zq1, zq2, zq3]
          refine wpList_nil ?_
          refine hK29 _ _ ?_
          clear hK29
          refine wp_cond_true rfl ?_
          refine wp_exit ?_
          refine hK12 _ _ ?_
          clear hK12
          refine wp_seq_k (fun K31 hK31 => ?_)
          refine wp_seq_k (fun K32 hK32 => ?_)
          refine wp_region_lit ?_
          refine pl M26 (y_build (ps := []) (pv := []) (cs := (supC noSup)) rfl rfl rfl (by kernel_rfl)) ?_
          simp only [Act.put, zq1, zq2, zq3]
          refine pe rfl (fun K hK => ?_)
          refine e_storew M26 2 (cs := (supC noSup)) rfl rfl rfl rfl (size_sup _) (sup_all _) rfl (rfl) ?_
          intro w33 (M33 : Mem w [] w33 [blk gy 60 (supC (unpS lb)), blk gx 60 (supC (unpS la)), blk gr 60 (supC noSup)])
          clear M26
          refine hK.out _ _ ?_
          clear hK K
          simp only [Act.put, zq1, zq2, zq3]
          refine pl M33 (y_assign (v := .int .i64 55) rfl rfl rfl) ?_
          simp only [Act.put, zq1, zq2, zq3]
          refine wpList_nil ?_
          refine hK32 _ _ ?_
          clear hK32
          refine wp_ret ?_
          try simp only [Exit.inBlock, Exit.then]
          refine bodyPost_ret (v := .tuple #[.agg ((supC noSup)).toArray, .int .i64 55]) (resc2 _ rfl rfl rfl (M33.get 2 rfl) Try.underlying60 (size_sup _) rfl) rfl ?_
          have e1 : chooseE la lb = 55 := by unfold chooseE; rw [if_neg (fun h => h19 h.2), if_neg (by rw [h27]; decide), if_pos (Or.inl ⟨h18, h30⟩)]
          have e2 : chooseS la lb = noSup := if_neg (fun h => h19 h.2)
          rw [e1, e2]
          exact ⟨rfl, M33.arr [] (by decide)⟩
        · refine pl M26 (y_eql (b := false) rfl rfl rfl rfl (decide_eq_false h30)) ?_
          simp only [Act.put, zq1, zq2, zq3]
          refine pl M26 (y_pickT (v := .bool false) rfl rfl rfl rfl) ?_
          simp only [Act.put, zq1, zq2, zq3]
          refine pl M26 (y_assign (v := .bool false) rfl rfl rfl) ?_
          simp only [Act.put, zq1, zq2, zq3]
          refine wpList_nil ?_
          refine hK29 _ _ ?_
          clear hK29
          refine wp_cond_false rfl ?_
          refine wp_skip ?_
          refine hK28 _ _ ?_
          clear hK28
          refine wp_seq_k (fun K34 hK34 => ?_)
          refine wp_region_lit ?_
          refine pl M26 (y_move (v := .slice (some ⟨ra, oa, none⟩) 256 ca) rfl rfl rfl) ?_
          simp only [Act.put, zq1, zq2, zq3]
          refine pe rfl (fun K hK => ?_)
          refine e_call 49 [.slice (some ⟨ra, oa, none⟩) 256 ca] rfl rfl Try.call49 (empty_any (some ⟨ra, oa, none⟩) 256 ca la _ (M26.row hra (by simp)) ha (by unfold maxLen; omega)) ?_
          rintro e w35 ⟨rfl, H35⟩
          have M35 : Mem w [] w35 [blk gy 60 (supC (unpS lb)), blk gx 60 (supC (unpS la)), blk gr 60 (supC noSup)] := M26.same H35
          rcases Bool.eq_false_or_eq_true (emptyB la) with h36 | h36
          · rw [h36]
            refine ⟨_, rfl, ?_⟩
            refine hK.out _ _ ?_
            clear hK K
            simp only [Act.put, zq1, zq2, zq3]
            refine pl M35 (y_assign (v := .bool true) rfl rfl rfl) ?_
            simp only [Act.put, zq1, zq2, zq3]
            refine wpList_nil ?_
            refine hK34 _ _ ?_
            clear hK34
            refine wp_cond_true rfl ?_
            refine wp_exit ?_
            refine hK12 _ _ ?_
            clear hK12
            refine wp_seq_k (fun K37 hK37 => ?_)
            refine wp_seq_k (fun K38 hK38 => ?_)
            refine wp_region_lit ?_
            refine pl M35 (y_build (ps := []) (pv := []) (cs := (supC noSup)) rfl rfl rfl (by kernel_rfl)) ?_
            simp only [Act.put, zq1, zq2, zq3]
            refine pe rfl (fun K hK => ?_)
            refine e_storew M35 2 (cs := (supC noSup)) rfl rfl rfl rfl (size_sup _) (sup_all _) rfl (rfl) ?_
            intro w39 (M39 : Mem w [] w39 [blk gy 60 (supC (unpS lb)), blk gx 60 (supC (unpS la)), blk gr 60 (supC noSup)])
            clear M35
            refine hK.out _ _ ?_
            clear hK K
            simp only [Act.put, zq1, zq2, zq3]
            refine pl M39 (y_assign (v := .int .i64 55) rfl rfl rfl) ?_
            simp only [Act.put, zq1, zq2, zq3]
            refine wpList_nil ?_
            refine hK38 _ _ ?_
            clear hK38
            refine wp_ret ?_
            try simp only [Exit.inBlock, Exit.then]
            refine bodyPost_ret (v := .tuple #[.agg ((supC noSup)).toArray, .int .i64 55]) (resc2 _ rfl rfl rfl (M39.get 2 rfl) Try.underlying60 (size_sup _) rfl) rfl ?_
            have e1 : chooseE la lb = 55 := by unfold chooseE; rw [if_neg (fun h => h19 h.2), if_neg (by rw [h27]; decide), if_pos (Or.inr h36)]
            have e2 : chooseS la lb = noSup := if_neg (fun h => h19 h.2)
            rw [e1, e2]
            exact ⟨rfl, M39.arr [] (by decide)⟩
          · rw [h36]
            refine ⟨_, rfl, ?_⟩
            refine hK.out _ _ ?_
            clear hK K
            simp only [Act.put, zq1, zq2, zq3]
            refine pl M35 (y_assign (v := .bool false) rfl rfl rfl) ?_
            simp only [Act.put, zq1, zq2, zq3]
            refine wpList_nil ?_
            refine hK34 _ _ ?_
            clear hK34
            refine wp_cond_false rfl ?_
            refine wp_skip ?_
            refine hK15 _ _ ?_
            clear hK15
            refine wp_exit ?_
            refine hK11 _ _ ?_
            clear hK11
            refine wp_seq_k (fun K40 hK40 => ?_)
            refine wp_region_lit ?_
            refine pl M35 (y_build (ps := []) (pv := []) (cs := (supC noSup)) rfl rfl rfl (by kernel_rfl)) ?_
            simp only [Act.put, zq1, zq2, zq3]
            refine pe rfl (fun K hK => ?_)
            refine e_storew M35 2 (cs := (supC noSup)) rfl rfl rfl rfl (size_sup _) (sup_all _) rfl (rfl) ?_
            intro w41 (M41 : Mem w [] w41 [blk gy 60 (supC (unpS lb)), blk gx 60 (supC (unpS la)), blk gr 60 (supC noSup)])
            clear M35
            refine hK.out _ _ ?_
            clear hK K
            simp only [Act.put, zq1, zq2, zq3]
            refine pl M41 (y_assign (v := .int .i64 4) rfl rfl rfl) ?_
            simp only [Act.put, zq1, zq2, zq3]
            refine wpList_nil ?_
            refine hK40 _ _ ?_
            clear hK40
            refine wp_ret ?_
            try simp only [Exit.inBlock, Exit.then]
            refine bodyPost_ret (v := .tuple #[.agg ((supC noSup)).toArray, .int .i64 4]) (resc2 _ rfl rfl rfl (M41.get 2 rfl) Try.underlying60 (size_sup _) rfl) rfl ?_
            have e1 : chooseE la lb = 4 := by unfold chooseE; rw [if_neg (fun h => h19 h.2), if_neg (by rw [h27]; decide), if_neg (fun h => h.elim (fun h => h30 h.2) (fun h => by rw [h36] at h; cases h))]
            have e2 : chooseS la lb = noSup := if_neg (fun h => h19 h.2)
            rw [e1, e2]
            exact ⟨rfl, M41.arr [] (by decide)⟩
      · rw [h27]
        refine ⟨_, rfl, ?_⟩
        refine hK.out _ _ ?_
        clear hK K
        simp only [Act.put, zq1, zq2, zq3]
        refine pl M26 (y_not rfl rfl rfl rfl) ?_
        simp only [Act.put, zq1, zq2, zq3]
        refine pl M26 (y_assign (v := .bool true) rfl rfl rfl) ?_
        simp only [Act.put, zq1, zq2, zq3]
        refine wpList_nil ?_
        refine hK25 _ _ ?_
        clear hK25
        refine wp_cond_true rfl ?_
        refine wp_exit ?_
        refine hK13 _ _ ?_
        clear hK13
        refine wp_seq_k (fun K42 hK42 => ?_)
        refine wp_seq_k (fun K43 hK43 => ?_)
        refine wp_region_lit ?_
        refine pl M26 (y_build (ps := []) (pv := []) (cs := (supC noSup)) rfl rfl rfl (by kernel_rfl)) ?_
        simp only [Act.put, zq1, zq2, zq3]
        refine pe rfl (fun K hK => ?_)
        refine e_storew M26 2 (cs := (supC noSup)) rfl rfl rfl rfl (size_sup _) (sup_all _) rfl (rfl) ?_
        intro w44 (M44 : Mem w [] w44 [blk gy 60 (supC (unpS lb)), blk gx 60 (supC (unpS la)), blk gr 60 (supC noSup)])
        clear M26
        refine hK.out _ _ ?_
        clear hK K
        simp only [Act.put, zq1, zq2, zq3]
        refine pl M44 (y_assign (v := .int .i64 4) rfl rfl rfl) ?_
        simp only [Act.put, zq1, zq2, zq3]
        refine wpList_nil ?_
        refine hK43 _ _ ?_
        clear hK43
        refine wp_ret ?_
        try simp only [Exit.inBlock, Exit.then]
        refine bodyPost_ret (v := .tuple #[.agg ((supC noSup)).toArray, .int .i64 4]) (resc2 _ rfl rfl rfl (M44.get 2 rfl) Try.underlying60 (size_sup _) rfl) rfl ?_
        have e1 : chooseE la lb = 4 := by unfold chooseE; rw [if_neg (fun h => h19 h.2), if_pos h27]
        have e2 : chooseS la lb = noSup := if_neg (fun h => h19 h.2)
        rw [e1, e2]
        exact ⟨rfl, M44.arr [] (by decide)⟩
  · refine pl M10 (y_eql (b := false) rfl rfl rfl rfl (decide_eq_false h18)) ?_
    simp only [Act.put, zq1, zq2, zq3]
    refine pl M10 (y_move (v := .bool false) rfl rfl rfl) ?_
    simp only [Act.put, zq1, zq2, zq3]
    with_reducible refine pskip ?_ ?_
    · rfl
    simp only [Act.put, zq1, zq2, zq3]
    with_reducible refine pskip ?_ ?_
    · rfl
    simp only [Act.put, zq1, zq2, zq3]
    refine pl M10 (y_pickF (v := .bool false) rfl rfl rfl rfl) ?_
    simp only [Act.put, zq1, zq2, zq3]
    refine pl M10 (y_assign (v := .bool false) rfl rfl rfl) ?_
    simp only [Act.put, zq1, zq2, zq3]
    refine wpList_nil ?_
    refine hK17 _ _ ?_
    clear hK17
    refine wp_cond_false rfl ?_
    refine wp_skip ?_
    refine hK16 _ _ ?_
    clear hK16
    refine wp_seq_k (fun K45 hK45 => ?_)
    refine wp_seq_k (fun K46 hK46 => ?_)
    refine wp_region_lit ?_
    refine pl M10 (y_move (v := .slice (some ⟨rb, ob, none⟩) 256 cb) rfl rfl rfl) ?_
    simp only [Act.put, zq1, zq2, zq3]
    refine pe rfl (fun K hK => ?_)
    refine e_call 49 [.slice (some ⟨rb, ob, none⟩) 256 cb] rfl rfl Try.call49 (empty_any (some ⟨rb, ob, none⟩) 256 cb lb _ (M10.row hrb (by simp)) hb (by unfold maxLen; omega)) ?_
    rintro e w47 ⟨rfl, H47⟩
    have M47 : Mem w [] w47 [blk gy 60 (supC (unpS lb)), blk gx 60 (supC (unpS la)), blk gr 60 (supC noSup)] := M10.same H47
    rcases Bool.eq_false_or_eq_true (emptyB lb) with h48 | h48
    · rw [h48]
      refine ⟨_, rfl, ?_⟩
      refine hK.out _ _ ?_
      clear hK K
      simp only [Act.put, zq1, zq2, zq3]
      refine pl M47 (y_not rfl rfl rfl rfl) ?_
      simp only [Act.put, zq1, zq2, zq3]
      refine pl M47 (y_assign (v := .bool false) rfl rfl rfl) ?_
      simp only [Act.put, zq1, zq2, zq3]
      refine wpList_nil ?_
      refine hK46 _ _ ?_
      clear hK46
      refine wp_cond_false rfl ?_
      refine wp_skip ?_
      refine hK45 _ _ ?_
      clear hK45
      refine wp_seq_k (fun K49 hK49 => ?_)
      refine wp_seq_k (fun K50 hK50 => ?_)
      refine wp_region_lit ?_
      refine pl M47 (y_move (v := .int .i64 (unpE la)) rfl rfl rfl) ?_
      simp only [Act.put, zq1, zq2, zq3]
      refine pl M47 (y_eql (b := false) rfl rfl rfl rfl (decide_eq_false h18)) ?_
      simp only [Act.put, zq1, zq2, zq3]
      refine pl M47 (y_move (v := .bool false) rfl rfl rfl) ?_
      simp only [Act.put, zq1, zq2, zq3]
      with_reducible refine pskip ?_ ?_
      · rfl
      simp only [Act.put, zq1, zq2, zq3]
      with_reducible refine pskip ?_ ?_
      · rfl
      simp only [Act.put, zq1, zq2, zq3]
      with_reducible refine pskip ?_ ?_
      · rfl
      simp only [Act.put, zq1, zq2, zq3]
      refine pl M47 (y_pickF (v := .bool false) rfl rfl rfl rfl) ?_
      simp only [Act.put, zq1, zq2, zq3]
      refine pl M47 (y_assign (v := .bool false) rfl rfl rfl) ?_
      simp only [Act.put, zq1, zq2, zq3]
      refine wpList_nil ?_
      refine hK50 _ _ ?_
      clear hK50
      refine wp_cond_false rfl ?_
      refine wp_skip ?_
      refine hK49 _ _ ?_
      clear hK49
      refine wp_seq_k (fun K51 hK51 => ?_)
      refine wp_region_lit ?_
      refine pl M47 (y_move (v := .slice (some ⟨ra, oa, none⟩) 256 ca) rfl rfl rfl) ?_
      simp only [Act.put, zq1, zq2, zq3]
      refine pe rfl (fun K hK => ?_)
      refine e_call 49 [.slice (some ⟨ra, oa, none⟩) 256 ca] rfl rfl Try.call49 (empty_any (some ⟨ra, oa, none⟩) 256 ca la _ (M47.row hra (by simp)) ha (by unfold maxLen; omega)) ?_
      rintro e w52 ⟨rfl, H52⟩
      have M52 : Mem w [] w52 [blk gy 60 (supC (unpS lb)), blk gx 60 (supC (unpS la)), blk gr 60 (supC noSup)] := M47.same H52
      rcases Bool.eq_false_or_eq_true (emptyB la) with h53 | h53
      · rw [h53]
        refine ⟨_, rfl, ?_⟩
        refine hK.out _ _ ?_
        clear hK K
        simp only [Act.put, zq1, zq2, zq3]
        refine pl M52 (y_assign (v := .bool true) rfl rfl rfl) ?_
        simp only [Act.put, zq1, zq2, zq3]
        refine wpList_nil ?_
        refine hK51 _ _ ?_
        clear hK51
        refine wp_cond_true rfl ?_
        refine wp_exit ?_
        refine hK12 _ _ ?_
        clear hK12
        refine wp_seq_k (fun K54 hK54 => ?_)
        refine wp_seq_k (fun K55 hK55 => ?_)
        refine wp_region_lit ?_
        refine pl M52 (y_build (ps := []) (pv := []) (cs := (supC noSup)) rfl rfl rfl (by kernel_rfl)) ?_
        simp only [Act.put, zq1, zq2, zq3]
        refine pe rfl (fun K hK => ?_)
        refine e_storew M52 2 (cs := (supC noSup)) rfl rfl rfl rfl (size_sup _) (sup_all _) rfl (rfl) ?_
        intro w56 (M56 : Mem w [] w56 [blk gy 60 (supC (unpS lb)), blk gx 60 (supC (unpS la)), blk gr 60 (supC noSup)])
        clear M52
        refine hK.out _ _ ?_
        clear hK K
        simp only [Act.put, zq1, zq2, zq3]
        refine pl M56 (y_assign (v := .int .i64 55) rfl rfl rfl) ?_
        simp only [Act.put, zq1, zq2, zq3]
        refine wpList_nil ?_
        refine hK55 _ _ ?_
        clear hK55
        refine wp_ret ?_
        try simp only [Exit.inBlock, Exit.then]
        refine bodyPost_ret (v := .tuple #[.agg ((supC noSup)).toArray, .int .i64 55]) (resc2 _ rfl rfl rfl (M56.get 2 rfl) Try.underlying60 (size_sup _) rfl) rfl ?_
        have e1 : chooseE la lb = 55 := by unfold chooseE; rw [if_neg (fun h => h18 h.1), if_neg (by rw [h48]; decide), if_pos (Or.inr h53)]
        have e2 : chooseS la lb = noSup := if_neg (fun h => h18 h.1)
        rw [e1, e2]
        exact ⟨rfl, M56.arr [] (by decide)⟩
      · rw [h53]
        refine ⟨_, rfl, ?_⟩
        refine hK.out _ _ ?_
        clear hK K
        simp only [Act.put, zq1, zq2, zq3]
        refine pl M52 (y_assign (v := .bool false) rfl rfl rfl) ?_
        simp only [Act.put, zq1, zq2, zq3]
        refine wpList_nil ?_
        refine hK51 _ _ ?_
        clear hK51
        refine wp_cond_false rfl ?_
        refine wp_skip ?_
        refine hK15 _ _ ?_
        clear hK15
        refine wp_exit ?_
        refine hK11 _ _ ?_
        clear hK11
        refine wp_seq_k (fun K57 hK57 => ?_)
        refine wp_region_lit ?_
        refine pl M52 (y_build (ps := []) (pv := []) (cs := (supC noSup)) rfl rfl rfl (by kernel_rfl)) ?_
        simp only [Act.put, zq1, zq2, zq3]
        refine pe rfl (fun K hK => ?_)
        refine e_storew M52 2 (cs := (supC noSup)) rfl rfl rfl rfl (size_sup _) (sup_all _) rfl (rfl) ?_
        intro w58 (M58 : Mem w [] w58 [blk gy 60 (supC (unpS lb)), blk gx 60 (supC (unpS la)), blk gr 60 (supC noSup)])
        clear M52
        refine hK.out _ _ ?_
        clear hK K
        simp only [Act.put, zq1, zq2, zq3]
        refine pl M58 (y_assign (v := .int .i64 4) rfl rfl rfl) ?_
        simp only [Act.put, zq1, zq2, zq3]
        refine wpList_nil ?_
        refine hK57 _ _ ?_
        clear hK57
        refine wp_ret ?_
        try simp only [Exit.inBlock, Exit.then]
        refine bodyPost_ret (v := .tuple #[.agg ((supC noSup)).toArray, .int .i64 4]) (resc2 _ rfl rfl rfl (M58.get 2 rfl) Try.underlying60 (size_sup _) rfl) rfl ?_
        have e1 : chooseE la lb = 4 := by unfold chooseE; rw [if_neg (fun h => h18 h.1), if_neg (by rw [h48]; decide), if_neg (fun h => h.elim (fun h => h18 h.1) (fun h => by rw [h53] at h; cases h))]
        have e2 : chooseS la lb = noSup := if_neg (fun h => h18 h.1)
        rw [e1, e2]
        exact ⟨rfl, M58.arr [] (by decide)⟩
    · rw [h48]
      refine ⟨_, rfl, ?_⟩
      refine hK.out _ _ ?_
      clear hK K
      simp only [Act.put, zq1, zq2, zq3]
      refine pl M47 (y_not rfl rfl rfl rfl) ?_
      simp only [Act.put, zq1, zq2, zq3]
      refine pl M47 (y_assign (v := .bool true) rfl rfl rfl) ?_
      simp only [Act.put, zq1, zq2, zq3]
      refine wpList_nil ?_
      refine hK46 _ _ ?_
      clear hK46
      refine wp_cond_true rfl ?_
      refine wp_exit ?_
      refine hK13 _ _ ?_
      clear hK13
      refine wp_seq_k (fun K59 hK59 => ?_)
      refine wp_seq_k (fun K60 hK60 => ?_)
      refine wp_region_lit ?_
      refine pl M47 (y_build (ps := []) (pv := []) (cs := (supC noSup)) rfl rfl rfl (by kernel_rfl)) ?_
      simp only [Act.put, zq1, zq2, zq3]
      refine pe rfl (fun K hK => ?_)
      refine e_storew M47 2 (cs := (supC noSup)) rfl rfl rfl rfl (size_sup _) (sup_all _) rfl (rfl) ?_
      intro w61 (M61 : Mem w [] w61 [blk gy 60 (supC (unpS lb)), blk gx 60 (supC (unpS la)), blk gr 60 (supC noSup)])
      clear M47
      refine hK.out _ _ ?_
      clear hK K
      simp only [Act.put, zq1, zq2, zq3]
      refine pl M61 (y_assign (v := .int .i64 4) rfl rfl rfl) ?_
      simp only [Act.put, zq1, zq2, zq3]
      refine wpList_nil ?_
      refine hK60 _ _ ?_
      clear hK60
      refine wp_ret ?_
      try simp only [Exit.inBlock, Exit.then]
      refine bodyPost_ret (v := .tuple #[.agg ((supC noSup)).toArray, .int .i64 4]) (resc2 _ rfl rfl rfl (M61.get 2 rfl) Try.underlying60 (size_sup _) rfl) rfl ?_
      have e1 : chooseE la lb = 4 := by unfold chooseE; rw [if_neg (fun h => h18 h.1), if_pos h48]
      have e2 : chooseS la lb = noSup := if_neg (fun h => h18 h.1)
      rw [e1, e2]
      exact ⟨rfl, M61.arr [] (by decide)⟩
end Go.Proofs.Ytdnahagibodnpaa
