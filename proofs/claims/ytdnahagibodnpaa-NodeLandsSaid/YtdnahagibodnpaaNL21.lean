/- Texts joined: ReadB. -/
import Derived.Test.YtdnahagibodnpaaNL20
/- A branch's load as a form: the walk of node.read at kind 2. -/
namespace Go.Proofs.Ytdnahagibodnpaa
set_option linter.unusedSectionVars false
set_option linter.unusedSimpArgs false
open Go Go.RowKit
set_option linter.unusedVariables false
def chL (l : List UInt8) : Child := ⟨(dec4 l : Int), (dec4 (l.drop 8) : Int), keyOf (l.drop 16)⟩
def chR (l : List UInt8) : Child := ⟨(dec4 (l.drop 4) : Int), (dec4 (l.drop 12) : Int), keyOf (l.drop 48)⟩
theorem below_drewN' {B : Nat} {w w' : World} (h : Below B w w') (q : Nat) : Below B w (w'.drewN q) := ⟨h.os, h.tape, h.output, h.size, h.block⟩
theorem build_any {P : Program} {o : Oper} {a : Act} {W : World} {t : TypeId} (hg : o.guard = none) (parts : List (Nat × Operand)) (ps : List (Nat × Value)) (ho : o.op = .build t parts.toArray) (hp : (parts.map fun p => (p.1, a.eval p.2)) = ps) {cells : Array Value} (hc : P.built t ps = some cells) :
    (execOp a.eval o).run P W = .ok (.value (.agg cells)) W := by
  have hm : (parts.toArray.map fun (i, x) => (i, a.eval x)).toList = ps := by rw [← hp]; simp
  unfold execOp
  simp only [ho, Sem.run_bind, run_build W t _ cells (by rw [hm]; exact hc), Result.andThen_ok]
  rfl
theorem built_child0 (p c : Int) : Try.prog.built 91 [(0, .int .i64 p), (1, .int .i64 c)] = some (chC ⟨p, c, zero32⟩).toArray := by kernel_rfl
theorem brC_all (l r : Child) : (brC l r).toArray.all (·.oneCell') = true := by
  rw [Array.all_eq_true_iff_forall_mem]
  intro v hv
  have h1 := chC_all l
  have h2 := chC_all r
  rw [Array.all_eq_true_iff_forall_mem] at h1 h2
  have hv' : v ∈ chC l ++ chC r := by simpa [brC] using hv
  rcases List.mem_append.1 hv' with h | h
  · exact h1 v (by simpa using h)
  · exact h2 v (by simpa using h)
theorem splice_l (p c : Int) (d : D32) (r : Child) : splice (brC ⟨p, c, zero32⟩ r) 2 (bvs d.1) = brC ⟨p, c, d⟩ r := by
  have h1 : (bvs d.1).length = 32 := by rw [length_bvs, d.2]
  have h2 : (bvs zero32.1).length = 32 := by rw [length_bvs, zero32.2]
  unfold splice
  rw [h1]
  show [Value.int .i64 p, .int .i64 c] ++ (bvs d.1 ++ (bvs zero32.1 ++ chC r).drop 32) = _
  rw [List.drop_append, List.drop_of_length_le (by omega), h2]
  rfl
theorem splice_r (l : Child) (p c : Int) (d : D32) : splice (brC l ⟨p, c, zero32⟩) 36 (bvs d.1) = brC l ⟨p, c, d⟩ := by
  have h1 : (bvs d.1).length = 32 := by rw [length_bvs, d.2]
  have h2 : (bvs zero32.1).length = 32 := by rw [length_bvs, zero32.2]
  have h3 := length_chC l
  unfold splice
  rw [h1]
  show (chC l ++ ([Value.int .i64 p, .int .i64 c] ++ bvs zero32.1)).take 36 ++ (bvs d.1 ++ (chC l ++ ([Value.int .i64 p, .int .i64 c] ++ bvs zero32.1)).drop 68) = chC l ++ ([Value.int .i64 p, .int .i64 c] ++ bvs d.1)
  rw [List.take_append, List.drop_append, h3, List.take_of_length_le (by omega), List.drop_of_length_le (by omega), List.drop_of_length_le (by simp [h2])]
  simp
set_option maxRecDepth 100000 in
set_option maxHeartbeats 4000000 in
theorem read_branch (b o c' : Nat) (l : List UInt8) (w : World) (h : Row w (some ⟨b, o, none⟩) 80 l) (hmax : c' + 80 ≤ 9223372036854775807) :
    Calls Try.prog 30 #[.int .i64 2, .slice (some ⟨b, o, none⟩) 80 (c' + 80)] w fun e w' => e = .returned (.iface 93 (.agg (brC (chL l) (chR l)).toArray)) ∧ Below w.heap.size w w' := by
  have hz : ∀ W : World, (zeroValue 93).run Try.prog W = .ok (.agg (brC noChild noChild).toArray) W := fun W => by kernel_rfl
  have hblt := h.lt (by omega)
  have r4 := h.drop 4 (by omega)
  have r8 := h.drop 8 (by omega)
  have r12 := h.drop 12 (by omega)
  have r16 := h.drop 16 (by omega)
  have r48 := h.drop 48 (by omega)
  have q0 : ∀ W, Below w.heap.size w W → _ := fun W hW => four_any b o 80 (c' + 80) l W (h.old hW) (by omega)
  have q4 : ∀ W, Below w.heap.size w W → _ := fun W hW => four_any b (o + 4) 76 (c' + 76) _ W (r4.old hW) (by omega)
  have q8 : ∀ W, Below w.heap.size w W → _ := fun W hW => four_any b (o + 8) 72 (c' + 72) _ W (r8.old hW) (by omega)
  have q12 : ∀ W, Below w.heap.size w W → _ := fun W hW => four_any b (o + 12) 68 (c' + 68) _ W (r12.old hW) (by omega)
  have hb1 := built_child0 (dec4 l : Int) (dec4 (l.drop 8) : Int)
  have hb2 := built_child0 (dec4 (l.drop 4) : Int) (dec4 (l.drop 12) : Int)
  have hb3 := built_branch ⟨(dec4 l : Int), (dec4 (l.drop 8) : Int), zero32⟩ ⟨(dec4 (l.drop 4) : Int), (dec4 (l.drop 12) : Int), zero32⟩
  have hi81 : ∀ a d : Child, Box ((Try.prog.info? 93).map (·.size) = some (brC a d).toArray.size) := fun a d => ⟨by
    have h : (Try.prog.info? 93).map (·.size) = some 68 := by kernel_rfl
    rw [h, List.size_toArray, length_brC]⟩
  have hs81 : ∀ a d a' d' : Child, Box ((brC a d).toArray.size = (brC a' d').toArray.size) := fun a d a' d' => ⟨by rw [List.size_toArray, List.size_toArray, length_brC, length_brC]⟩
  have hall : ∀ a d : Child, Box ((brC a d).toArray.all (·.oneCell') = true) := fun a d => ⟨brC_all a d⟩
  obtain ⟨p0, hp0⟩ : ∃ x, dec4 l = x := ⟨_, rfl⟩
  obtain ⟨p4, hp4⟩ : ∃ x, dec4 (l.drop 4) = x := ⟨_, rfl⟩
  obtain ⟨p8, hp8⟩ : ∃ x, dec4 (l.drop 8) = x := ⟨_, rfl⟩
  obtain ⟨p12, hp12⟩ : ∃ x, dec4 (l.drop 12) = x := ⟨_, rfl⟩
  have HL : Box (chL l = ⟨(p0 : Int), (p8 : Int), keyOf (l.drop 16)⟩) := ⟨by unfold chL; rw [hp0, hp8]⟩
  have HR : Box (chR l = ⟨(p4 : Int), (p12 : Int), keyOf (l.drop 48)⟩) := ⟨by unfold chR; rw [hp4, hp12]⟩
  rw [hp0] at q0 hb1 hb3
  rw [hp4] at q4 hb2 hb3
  rw [hp8] at q8 hb1 hb3
  rw [hp12] at q12 hb2 hb3
  rw [HL.out, HR.out]
  clear hp0 hp4 hp8 hp12
  have R16 := Box.mk r16
  have R48 := Box.mk r48
  have HB1 := Box.mk hb1
  have HB2 := Box.mk hb2
  have HB3 := Box.mk hb3
  have Q0 := Box.mk q0
  have Q4 := Box.mk q4
  have Q8 := Box.mk q8
  have Q12 := Box.mk q12
  have HZ := Box.mk hz
  have ll := Box.mk h.1
  clear r4 r8 r12 r16 r48 hb1 hb2 hb3 q0 q4 q8 q12 h
  generalize hk1 : (chC ⟨(p0 : Int), (p8 : Int), zero32⟩).toArray = k1 at *
  generalize hk2 : (chC ⟨(p4 : Int), (p12 : Int), zero32⟩).toArray = k2 at *
  go_enter Try.func30, Try.ntmps30
  go_upto_region 6 with fail
  go_cut [6] (fun s W => s = .pointer (some ⟨w.heap.size, 0, none⟩) ∧ Hid (W.heap[w.heap.size]? = some (.cells (brC ⟨(p0 : Int), (p8 : Int), zero32⟩ ⟨(p4 : Int), (p12 : Int), zero32⟩).toArray 93 (0, 0))) ∧ Below w.heap.size w W)
  case first =>
    go_wp2_with fail
    refine held_begin (fun W => Below w.heap.size w W) (by kernel_rfl) (Below.refl _ w).drew (fun hH0 => ?_)
    refine held_take 0 (.slice (some ⟨b, o, none⟩) 80 (c' + 80)) rfl (by kernel_rfl) (by kernel_rfl) (by kernel_rfl) (held_move (by rfl) (.tmp 1) rfl rfl) (by assumption) ?_
    try simp only [Act.put, zq1, zq2, zq3]
    refine held_take 2 (.slice (some ⟨b, o, none⟩) 80 (c' + 80)) rfl (by kernel_rfl) (by kernel_rfl) (by kernel_rfl) (held_move (by rfl) (.tmp 1) rfl rfl) (by assumption) ?_
    try simp only [Act.put, zq1, zq2, zq3]
    refine held_take 3 (.slice (some ⟨b, o + 8, none⟩) 72 (c' + 72)) rfl (by kernel_rfl) (by kernel_rfl) (by kernel_rfl) (held_pure (by rfl) (fun W => by go_simp)) (by assumption) ?_
    try simp only [Act.put, zq1, zq2, zq3]
    refine held_take 6 (.slice (some ⟨b, o, none⟩) 80 (c' + 80)) rfl (by kernel_rfl) (by kernel_rfl) (by kernel_rfl) (held_move (by rfl) (.tmp 1) rfl rfl) (by assumption) ?_
    try simp only [Act.put, zq1, zq2, zq3]
    refine held_take 7 (.slice (some ⟨b, o + 4, none⟩) 76 (c' + 76)) rfl (by kernel_rfl) (by kernel_rfl) (by kernel_rfl) (held_pure (by rfl) (fun W => by go_simp)) (by assumption) ?_
    try simp only [Act.put, zq1, zq2, zq3]
    refine held_take 9 (.slice (some ⟨b, o, none⟩) 80 (c' + 80)) rfl (by kernel_rfl) (by kernel_rfl) (by kernel_rfl) (held_move (by rfl) (.tmp 1) rfl rfl) (by assumption) ?_
    try simp only [Act.put, zq1, zq2, zq3]
    refine held_take 10 (.slice (some ⟨b, o + 12, none⟩) 68 (c' + 68)) rfl (by kernel_rfl) (by kernel_rfl) (by kernel_rfl) (held_pure (by rfl) (fun W => by go_simp)) (by assumption) ?_
    try simp only [Act.put, zq1, zq2, zq3]
    have hz0 : w.drew.heap.size = w.heap.size := rfl
    generalize w.drew = W0 at *
    refine held_step2 1 14 (by kernel_rfl) rfl rfl (by rfl) (by rfl) (fun K hK => ?_) (fun K hK => ?_)
    · skip
      go_simp
      refine (Q0.out _ hH0).mono ?_
      rintro e V1 ⟨rfl, qq, hV⟩
      dsimp only
      refine hK.out _ _ (by rw [hV]; exact below_drewN' hH0 qq) (fun hH1 => ?_)
      have hz1 : V1.heap.size = w.heap.size := by rw [hV]; exact hz0
      clear hK K hV
      try simp only [Act.put, zq1, zq2, zq3]
      refine held_step2 4 14 (by kernel_rfl) rfl rfl (by rfl) (by rfl) (fun K hK => ?_) (fun K hK => ?_)
      · skip
        go_simp
        refine (Q8.out _ hH1).mono ?_
        rintro e V2 ⟨rfl, qq, hV⟩
        dsimp only
        refine hK.out _ _ (by rw [hV]; exact below_drewN' hH1 qq) (fun hH2 => ?_)
        have hz2 : V2.heap.size = w.heap.size := by rw [hV]; exact hz1
        clear hK K hV
        try simp only [Act.put, zq1, zq2, zq3]
        refine held_take 5 (.agg k1) rfl (by kernel_rfl) (by kernel_rfl) (by kernel_rfl) (Or.inl ⟨by rfl, fun W hS => by have hx := HB1.out; exact build_any rfl _ _ rfl rfl hx⟩) (by assumption) ?_
        try simp only [Act.put, zq1, zq2, zq3]
        refine held_step2 8 14 (by kernel_rfl) rfl rfl (by rfl) (by rfl) (fun K hK => ?_) (fun K hK => ?_)
        · skip
          go_simp
          refine (Q4.out _ hH2).mono ?_
          rintro e V3 ⟨rfl, qq, hV⟩
          dsimp only
          refine hK.out _ _ (by rw [hV]; exact below_drewN' hH2 qq) (fun hH3 => ?_)
          have hz3 : V3.heap.size = w.heap.size := by rw [hV]; exact hz2
          clear hK K hV
          try simp only [Act.put, zq1, zq2, zq3]
          refine held_step2 11 14 (by kernel_rfl) rfl rfl (by rfl) (by rfl) (fun K hK => ?_) (fun K hK => ?_)
          · skip
            go_simp
            refine (Q12.out _ hH3).mono ?_
            rintro e V4 ⟨rfl, qq, hV⟩
            dsimp only
            refine hK.out _ _ (by rw [hV]; exact below_drewN' hH3 qq) (fun hH4 => ?_)
            have hz4 : V4.heap.size = w.heap.size := by rw [hV]; exact hz3
            clear hK K hV
            try simp only [Act.put, zq1, zq2, zq3]
            refine held_take 12 (.agg k2) rfl (by kernel_rfl) (by kernel_rfl) (by kernel_rfl) (Or.inl ⟨by rfl, fun W hS => by have hx := HB2.out; exact build_any rfl _ _ rfl rfl hx⟩) (by assumption) ?_
            try simp only [Act.put, zq1, zq2, zq3]
            refine held_take 13 (.agg (brC ⟨(p0 : Int), (p8 : Int), zero32⟩ ⟨(p4 : Int), (p12 : Int), zero32⟩).toArray) rfl (by kernel_rfl) (by kernel_rfl) (by kernel_rfl) (Or.inl ⟨by rfl, fun W hS => by have hx := HB3.out; exact build_any rfl _ _ rfl rfl hx⟩) (by assumption) ?_
            try simp only [Act.put, zq1, zq2, zq3]
            refine held_step 14 (by kernel_rfl) rfl (by rfl) (fun K hK => ?_)
            go_simp
            refine hK.out _ _ (hH4.alloc hH4.size _) (fun hH5 => ?_)
            have HA5 : Box ((V4.alloc (.cells (brC noChild noChild).toArray 93)).heap[w.heap.size]? = some (.cells (brC noChild noChild).toArray 93 (0, 0))) := ⟨heap_new hz4.symm⟩
            generalize V4.alloc (.cells (brC noChild noChild).toArray 93) = V5 at *
            clear hK K
            try simp only [Act.put, zq1, zq2, zq3]
            refine held_step 15 (by kernel_rfl) rfl (by rfl) (fun K hK => ?_)
            refine oper_of_list rfl ?_
            refine wpList_store_row rfl 93 (.tmp 6) (.tmp 45) rfl w.heap.size (brC noChild noChild).toArray (brC ⟨(p0 : Int), (p8 : Int), zero32⟩ ⟨(p4 : Int), (p12 : Int), zero32⟩).toArray 93 rfl rfl HA5.out (hs81 _ _ _ _).out (hi81 _ _).out (hall _ _).out ?_
            intro wz gz Gz
            refine ⟨rfl, ?_⟩
            refine hK.out _ _ (hH5.grown Gz hH5.size (fun k hk => by cases hk; exact Nat.le_refl _)) (fun hHz => ?_)
            clear hK K
            try simp only [Act.put]
            refine held_done (by kernel_rfl) ?_ _
            go_wp2_with fail
            go_meet
            exact ⟨rfl, gz, hHz⟩
          · skip
            go_simp
            refine hK.out _ _ (hH3.alloc hH3.size _) (fun hH6 => ?_)
            have HA6 : Box ((V3.alloc (.cells (brC noChild noChild).toArray 93)).heap[w.heap.size]? = some (.cells (brC noChild noChild).toArray 93 (0, 0))) := ⟨heap_new hz3.symm⟩
            generalize V3.alloc (.cells (brC noChild noChild).toArray 93) = V6 at *
            clear hK K
            try simp only [Act.put, zq1, zq2, zq3]
            refine held_step 11 (by kernel_rfl) rfl (by rfl) (fun K hK => ?_)
            go_simp
            refine (Q12.out _ hH6).mono ?_
            rintro e V7 ⟨rfl, qq, hV⟩
            dsimp only
            refine hK.out _ _ (by rw [hV]; exact below_drewN' hH6 qq) (fun hH7 => ?_)
            have HA7 : Box (V7.heap[w.heap.size]? = some (.cells (brC noChild noChild).toArray 93 (0, 0))) := ⟨by rw [hV]; exact HA6.out⟩
            clear hK K hV
            try simp only [Act.put, zq1, zq2, zq3]
            refine held_take 12 (.agg k2) rfl (by kernel_rfl) (by kernel_rfl) (by kernel_rfl) (Or.inl ⟨by rfl, fun W hS => by have hx := HB2.out; exact build_any rfl _ _ rfl rfl hx⟩) (by assumption) ?_
            try simp only [Act.put, zq1, zq2, zq3]
            refine held_take 13 (.agg (brC ⟨(p0 : Int), (p8 : Int), zero32⟩ ⟨(p4 : Int), (p12 : Int), zero32⟩).toArray) rfl (by kernel_rfl) (by kernel_rfl) (by kernel_rfl) (Or.inl ⟨by rfl, fun W hS => by have hx := HB3.out; exact build_any rfl _ _ rfl rfl hx⟩) (by assumption) ?_
            try simp only [Act.put, zq1, zq2, zq3]
            refine held_step 15 (by kernel_rfl) rfl (by rfl) (fun K hK => ?_)
            refine oper_of_list rfl ?_
            refine wpList_store_row rfl 93 (.tmp 6) (.tmp 45) rfl w.heap.size (brC noChild noChild).toArray (brC ⟨(p0 : Int), (p8 : Int), zero32⟩ ⟨(p4 : Int), (p12 : Int), zero32⟩).toArray 93 rfl rfl HA7.out (hs81 _ _ _ _).out (hi81 _ _).out (hall _ _).out ?_
            intro wz gz Gz
            refine ⟨rfl, ?_⟩
            refine hK.out _ _ (hH7.grown Gz hH7.size (fun k hk => by cases hk; exact Nat.le_refl _)) (fun hHz => ?_)
            clear hK K
            try simp only [Act.put]
            refine held_done (by kernel_rfl) ?_ _
            go_wp2_with fail
            go_meet
            exact ⟨rfl, gz, hHz⟩
        · skip
          go_simp
          refine hK.out _ _ (hH2.alloc hH2.size _) (fun hH8 => ?_)
          have HA8 : Box ((V2.alloc (.cells (brC noChild noChild).toArray 93)).heap[w.heap.size]? = some (.cells (brC noChild noChild).toArray 93 (0, 0))) := ⟨heap_new hz2.symm⟩
          generalize V2.alloc (.cells (brC noChild noChild).toArray 93) = V8 at *
          clear hK K
          try simp only [Act.put, zq1, zq2, zq3]
          refine held_step 8 (by kernel_rfl) rfl (by rfl) (fun K hK => ?_)
          go_simp
          refine (Q4.out _ hH8).mono ?_
          rintro e V9 ⟨rfl, qq, hV⟩
          dsimp only
          refine hK.out _ _ (by rw [hV]; exact below_drewN' hH8 qq) (fun hH9 => ?_)
          have HA9 : Box (V9.heap[w.heap.size]? = some (.cells (brC noChild noChild).toArray 93 (0, 0))) := ⟨by rw [hV]; exact HA8.out⟩
          clear hK K hV
          try simp only [Act.put, zq1, zq2, zq3]
          refine held_step 11 (by kernel_rfl) rfl (by rfl) (fun K hK => ?_)
          go_simp
          refine (Q12.out _ hH9).mono ?_
          rintro e V10 ⟨rfl, qq, hV⟩
          dsimp only
          refine hK.out _ _ (by rw [hV]; exact below_drewN' hH9 qq) (fun hH10 => ?_)
          have HA10 : Box (V10.heap[w.heap.size]? = some (.cells (brC noChild noChild).toArray 93 (0, 0))) := ⟨by rw [hV]; exact HA9.out⟩
          clear hK K hV
          try simp only [Act.put, zq1, zq2, zq3]
          refine held_take 12 (.agg k2) rfl (by kernel_rfl) (by kernel_rfl) (by kernel_rfl) (Or.inl ⟨by rfl, fun W hS => by have hx := HB2.out; exact build_any rfl _ _ rfl rfl hx⟩) (by assumption) ?_
          try simp only [Act.put, zq1, zq2, zq3]
          refine held_take 13 (.agg (brC ⟨(p0 : Int), (p8 : Int), zero32⟩ ⟨(p4 : Int), (p12 : Int), zero32⟩).toArray) rfl (by kernel_rfl) (by kernel_rfl) (by kernel_rfl) (Or.inl ⟨by rfl, fun W hS => by have hx := HB3.out; exact build_any rfl _ _ rfl rfl hx⟩) (by assumption) ?_
          try simp only [Act.put, zq1, zq2, zq3]
          refine held_step 15 (by kernel_rfl) rfl (by rfl) (fun K hK => ?_)
          refine oper_of_list rfl ?_
          refine wpList_store_row rfl 93 (.tmp 6) (.tmp 45) rfl w.heap.size (brC noChild noChild).toArray (brC ⟨(p0 : Int), (p8 : Int), zero32⟩ ⟨(p4 : Int), (p12 : Int), zero32⟩).toArray 93 rfl rfl HA10.out (hs81 _ _ _ _).out (hi81 _ _).out (hall _ _).out ?_
          intro wz gz Gz
          refine ⟨rfl, ?_⟩
          refine hK.out _ _ (hH10.grown Gz hH10.size (fun k hk => by cases hk; exact Nat.le_refl _)) (fun hHz => ?_)
          clear hK K
          try simp only [Act.put]
          refine held_done (by kernel_rfl) ?_ _
          go_wp2_with fail
          go_meet
          exact ⟨rfl, gz, hHz⟩
      · skip
        go_simp
        refine hK.out _ _ (hH1.alloc hH1.size _) (fun hH11 => ?_)
        have HA11 : Box ((V1.alloc (.cells (brC noChild noChild).toArray 93)).heap[w.heap.size]? = some (.cells (brC noChild noChild).toArray 93 (0, 0))) := ⟨heap_new hz1.symm⟩
        generalize V1.alloc (.cells (brC noChild noChild).toArray 93) = V11 at *
        clear hK K
        try simp only [Act.put, zq1, zq2, zq3]
        refine held_step 4 (by kernel_rfl) rfl (by rfl) (fun K hK => ?_)
        go_simp
        refine (Q8.out _ hH11).mono ?_
        rintro e V12 ⟨rfl, qq, hV⟩
        dsimp only
        refine hK.out _ _ (by rw [hV]; exact below_drewN' hH11 qq) (fun hH12 => ?_)
        have HA12 : Box (V12.heap[w.heap.size]? = some (.cells (brC noChild noChild).toArray 93 (0, 0))) := ⟨by rw [hV]; exact HA11.out⟩
        clear hK K hV
        try simp only [Act.put, zq1, zq2, zq3]
        refine held_take 5 (.agg k1) rfl (by kernel_rfl) (by kernel_rfl) (by kernel_rfl) (Or.inl ⟨by rfl, fun W hS => by have hx := HB1.out; exact build_any rfl _ _ rfl rfl hx⟩) (by assumption) ?_
        try simp only [Act.put, zq1, zq2, zq3]
        refine held_step 8 (by kernel_rfl) rfl (by rfl) (fun K hK => ?_)
        go_simp
        refine (Q4.out _ hH12).mono ?_
        rintro e V13 ⟨rfl, qq, hV⟩
        dsimp only
        refine hK.out _ _ (by rw [hV]; exact below_drewN' hH12 qq) (fun hH13 => ?_)
        have HA13 : Box (V13.heap[w.heap.size]? = some (.cells (brC noChild noChild).toArray 93 (0, 0))) := ⟨by rw [hV]; exact HA12.out⟩
        clear hK K hV
        try simp only [Act.put, zq1, zq2, zq3]
        refine held_step 11 (by kernel_rfl) rfl (by rfl) (fun K hK => ?_)
        go_simp
        refine (Q12.out _ hH13).mono ?_
        rintro e V14 ⟨rfl, qq, hV⟩
        dsimp only
        refine hK.out _ _ (by rw [hV]; exact below_drewN' hH13 qq) (fun hH14 => ?_)
        have HA14 : Box (V14.heap[w.heap.size]? = some (.cells (brC noChild noChild).toArray 93 (0, 0))) := ⟨by rw [hV]; exact HA13.out⟩
        clear hK K hV
        try simp only [Act.put, zq1, zq2, zq3]
        refine held_take 12 (.agg k2) rfl (by kernel_rfl) (by kernel_rfl) (by kernel_rfl) (Or.inl ⟨by rfl, fun W hS => by have hx := HB2.out; exact build_any rfl _ _ rfl rfl hx⟩) (by assumption) ?_
        try simp only [Act.put, zq1, zq2, zq3]
        refine held_take 13 (.agg (brC ⟨(p0 : Int), (p8 : Int), zero32⟩ ⟨(p4 : Int), (p12 : Int), zero32⟩).toArray) rfl (by kernel_rfl) (by kernel_rfl) (by kernel_rfl) (Or.inl ⟨by rfl, fun W hS => by have hx := HB3.out; exact build_any rfl _ _ rfl rfl hx⟩) (by assumption) ?_
        try simp only [Act.put, zq1, zq2, zq3]
        refine held_step 15 (by kernel_rfl) rfl (by rfl) (fun K hK => ?_)
        refine oper_of_list rfl ?_
        refine wpList_store_row rfl 93 (.tmp 6) (.tmp 45) rfl w.heap.size (brC noChild noChild).toArray (brC ⟨(p0 : Int), (p8 : Int), zero32⟩ ⟨(p4 : Int), (p12 : Int), zero32⟩).toArray 93 rfl rfl HA14.out (hs81 _ _ _ _).out (hi81 _ _).out (hall _ _).out ?_
        intro wz gz Gz
        refine ⟨rfl, ?_⟩
        refine hK.out _ _ (hH14.grown Gz hH14.size (fun k hk => by cases hk; exact Nat.le_refl _)) (fun hHz => ?_)
        clear hK K
        try simp only [Act.put]
        refine held_done (by kernel_rfl) ?_ _
        go_wp2_with fail
        go_meet
        exact ⟨rfl, gz, hHz⟩
    · skip
      go_simp
      refine hK.out _ _ (hH0.alloc hH0.size _) (fun hH15 => ?_)
      have HA15 : Box ((W0.alloc (.cells (brC noChild noChild).toArray 93)).heap[w.heap.size]? = some (.cells (brC noChild noChild).toArray 93 (0, 0))) := ⟨heap_new hz0.symm⟩
      generalize W0.alloc (.cells (brC noChild noChild).toArray 93) = V15 at *
      clear hK K
      try simp only [Act.put, zq1, zq2, zq3]
      refine held_step 1 (by kernel_rfl) rfl (by rfl) (fun K hK => ?_)
      go_simp
      refine (Q0.out _ hH15).mono ?_
      rintro e V16 ⟨rfl, qq, hV⟩
      dsimp only
      refine hK.out _ _ (by rw [hV]; exact below_drewN' hH15 qq) (fun hH16 => ?_)
      have HA16 : Box (V16.heap[w.heap.size]? = some (.cells (brC noChild noChild).toArray 93 (0, 0))) := ⟨by rw [hV]; exact HA15.out⟩
      clear hK K hV
      try simp only [Act.put, zq1, zq2, zq3]
      refine held_step 4 (by kernel_rfl) rfl (by rfl) (fun K hK => ?_)
      go_simp
      refine (Q8.out _ hH16).mono ?_
      rintro e V17 ⟨rfl, qq, hV⟩
      dsimp only
      refine hK.out _ _ (by rw [hV]; exact below_drewN' hH16 qq) (fun hH17 => ?_)
      have HA17 : Box (V17.heap[w.heap.size]? = some (.cells (brC noChild noChild).toArray 93 (0, 0))) := ⟨by rw [hV]; exact HA16.out⟩
      clear hK K hV
      try simp only [Act.put, zq1, zq2, zq3]
      refine held_take 5 (.agg k1) rfl (by kernel_rfl) (by kernel_rfl) (by kernel_rfl) (Or.inl ⟨by rfl, fun W hS => by have hx := HB1.out; exact build_any rfl _ _ rfl rfl hx⟩) (by assumption) ?_
      try simp only [Act.put, zq1, zq2, zq3]
      refine held_step 8 (by kernel_rfl) rfl (by rfl) (fun K hK => ?_)
      go_simp
      refine (Q4.out _ hH17).mono ?_
      rintro e V18 ⟨rfl, qq, hV⟩
      dsimp only
      refine hK.out _ _ (by rw [hV]; exact below_drewN' hH17 qq) (fun hH18 => ?_)
      have HA18 : Box (V18.heap[w.heap.size]? = some (.cells (brC noChild noChild).toArray 93 (0, 0))) := ⟨by rw [hV]; exact HA17.out⟩
      clear hK K hV
      try simp only [Act.put, zq1, zq2, zq3]
      refine held_step 11 (by kernel_rfl) rfl (by rfl) (fun K hK => ?_)
      go_simp
      refine (Q12.out _ hH18).mono ?_
      rintro e V19 ⟨rfl, qq, hV⟩
      dsimp only
      refine hK.out _ _ (by rw [hV]; exact below_drewN' hH18 qq) (fun hH19 => ?_)
      have HA19 : Box (V19.heap[w.heap.size]? = some (.cells (brC noChild noChild).toArray 93 (0, 0))) := ⟨by rw [hV]; exact HA18.out⟩
      clear hK K hV
      try simp only [Act.put, zq1, zq2, zq3]
      refine held_take 12 (.agg k2) rfl (by kernel_rfl) (by kernel_rfl) (by kernel_rfl) (Or.inl ⟨by rfl, fun W hS => by have hx := HB2.out; exact build_any rfl _ _ rfl rfl hx⟩) (by assumption) ?_
      try simp only [Act.put, zq1, zq2, zq3]
      refine held_take 13 (.agg (brC ⟨(p0 : Int), (p8 : Int), zero32⟩ ⟨(p4 : Int), (p12 : Int), zero32⟩).toArray) rfl (by kernel_rfl) (by kernel_rfl) (by kernel_rfl) (Or.inl ⟨by rfl, fun W hS => by have hx := HB3.out; exact build_any rfl _ _ rfl rfl hx⟩) (by assumption) ?_
      try simp only [Act.put, zq1, zq2, zq3]
      refine held_step 15 (by kernel_rfl) rfl (by rfl) (fun K hK => ?_)
      refine oper_of_list rfl ?_
      refine wpList_store_row rfl 93 (.tmp 6) (.tmp 45) rfl w.heap.size (brC noChild noChild).toArray (brC ⟨(p0 : Int), (p8 : Int), zero32⟩ ⟨(p4 : Int), (p12 : Int), zero32⟩).toArray 93 rfl rfl HA19.out (hs81 _ _ _ _).out (hi81 _ _).out (hall _ _).out ?_
      intro wz gz Gz
      refine ⟨rfl, ?_⟩
      refine hK.out _ _ (hH19.grown Gz hH19.size (fun k hk => by cases hk; exact Nat.le_refl _)) (fun hHz => ?_)
      clear hK K
      try simp only [Act.put]
      refine held_done (by kernel_rfl) ?_ _
      go_wp2_with fail
      go_meet
      exact ⟨rfl, gz, hHz⟩
  obtain ⟨rfl, g1, b1⟩ := hcut
  have hal : Try.prog.arrayLen 36 = 32 := by kernel_rfl
  have hu : Try.prog.underlying 23 = some (.slice 5) := Try.underlying23
  have hsz : Box ((Try.prog.info? 5).map (·.size) = some 1) := ⟨by kernel_rfl⟩
  have hl80 := ll.out
  have ht16 : ((l.drop 16).take 32).length = 32 := by rw [List.length_take, List.length_drop]; omega
  have ht48 : ((l.drop 48).take 32).length = 32 := by rw [List.length_take, List.length_drop]; omega
  have hk16 : (keyOf (l.drop 16)).1 = (l.drop 16).take 32 := keyOf_eq (by rw [List.length_drop]; omega)
  have hk48 : (keyOf (l.drop 48)).1 = (l.drop 48).take 32 := keyOf_eq (by rw [List.length_drop]; omega)
  have S16 : Box (splice (brC ⟨(p0 : Int), (p8 : Int), zero32⟩ ⟨(p4 : Int), (p12 : Int), zero32⟩) 2 (bvs ((l.drop 16).take 32)) = brC ⟨(p0 : Int), (p8 : Int), keyOf (l.drop 16)⟩ ⟨(p4 : Int), (p12 : Int), zero32⟩) := ⟨by rw [← hk16]; exact splice_l _ _ _ _⟩
  have S48 : Box (splice (brC ⟨(p0 : Int), (p8 : Int), keyOf (l.drop 16)⟩ ⟨(p4 : Int), (p12 : Int), zero32⟩) 36 (bvs ((l.drop 48).take 32)) = brC ⟨(p0 : Int), (p8 : Int), keyOf (l.drop 16)⟩ ⟨(p4 : Int), (p12 : Int), keyOf (l.drop 48)⟩) := ⟨by rw [← hk48]; exact splice_r _ _ _ _⟩
  have T16 := Box.mk ht16
  have T48 := Box.mk ht48
  have L16 : Box ((brC ⟨(p0 : Int), (p8 : Int), zero32⟩ ⟨(p4 : Int), (p12 : Int), zero32⟩).length = 68) := ⟨length_brC _ _⟩
  have L48 : Box ((brC ⟨(p0 : Int), (p8 : Int), keyOf (l.drop 16)⟩ ⟨(p4 : Int), (p12 : Int), zero32⟩).length = 68) := ⟨length_brC _ _⟩
  have IF := hi81 ⟨(p0 : Int), (p8 : Int), keyOf (l.drop 16)⟩ ⟨(p4 : Int), (p12 : Int), keyOf (l.drop 48)⟩
  have W16 : ∀ W, Below w.heap.size w W → Row W (some ⟨b, o + 16, none⟩) ((l.drop 16).take 32).length ((l.drop 16).take 32) := fun W hW => by rw [T16.out]; exact (R16.out.take 32 (by omega)).old hW
  have W48 : ∀ W, Below w.heap.size w W → Row W (some ⟨b, o + 48, none⟩) ((l.drop 48).take 32).length ((l.drop 48).take 32) := fun W hW => by rw [T48.out]; exact (R48.out.take 32 (by omega)).old hW
  have V16 := Box.mk W16
  have V48 := Box.mk W48
  clear hl80 ht16 ht48 hk16 hk48 R16 R48 HB1 HB2 HB3 Q0 Q4 Q8 Q12 HZ hz W16 W48 hi81 hs81 hall hk1 hk2
  generalize brC ⟨(p0 : Int), (p8 : Int), zero32⟩ ⟨(p4 : Int), (p12 : Int), zero32⟩ = z1 at *
  generalize brC ⟨(p0 : Int), (p8 : Int), keyOf (l.drop 16)⟩ ⟨(p4 : Int), (p12 : Int), zero32⟩ = z2 at *
  generalize hz3e : brC ⟨(p0 : Int), (p8 : Int), keyOf (l.drop 16)⟩ ⟨(p4 : Int), (p12 : Int), keyOf (l.drop 48)⟩ = z3 at *
  have HZ3 := Box.mk hz3e
  clear hz3e
  go_wp2_with fail
  refine held_begin (fun W => Below w.heap.size w W ∧ W.heap[w.heap.size]? = some (.cells z1.toArray 93 (0, 0)) ∨ Below w.heap.size w W ∧ W.heap[w.heap.size]? = some (.cells z2.toArray 93 (0, 0))) (by kernel_rfl) (.inl ⟨b1.drew, g1.out⟩) (fun hH0 => ?_)
  refine held_take 0 (.pointer (some ⟨w.heap.size, 0, none⟩)) rfl (by kernel_rfl) (by kernel_rfl) (by kernel_rfl) (held_pure (by rfl) (fun W => by go_simp)) (by assumption) ?_
  try simp only [Act.put, zq1, zq2, zq3]
  refine held_take 1 (.pointer (some ⟨w.heap.size, 2, none⟩)) rfl (by kernel_rfl) (by kernel_rfl) (by kernel_rfl) (held_pure (by rfl) (fun W => by go_simp)) (by assumption) ?_
  try simp only [Act.put, zq1, zq2, zq3]
  refine held_take 2 (.slice (some ⟨w.heap.size, 2, none⟩) 32 32) rfl (by kernel_rfl) (by kernel_rfl) (by kernel_rfl) (held_pure (by rfl) (fun W => by go_simp)) (by assumption) ?_
  try simp only [Act.put, zq1, zq2, zq3]
  refine held_take 3 (.slice (some ⟨b, o, none⟩) 80 (c' + 80)) rfl (by kernel_rfl) (by kernel_rfl) (by kernel_rfl) (held_move (by rfl) (.tmp 1) rfl rfl) (by assumption) ?_
  try simp only [Act.put, zq1, zq2, zq3]
  refine held_take 4 (.slice (some ⟨b, o + 16, none⟩) 64 (c' + 64)) rfl (by kernel_rfl) (by kernel_rfl) (by kernel_rfl) (held_pure (by rfl) (fun W => by go_simp)) (by assumption) ?_
  try simp only [Act.put, zq1, zq2, zq3]
  clear hH0
  refine held_step 5 (by kernel_rfl) rfl (by rfl) (fun K hK => ?_)
  refine oper_of_list rfl ?_
  refine wpList_copy_bytes rfl (.tmp 48) (.tmp 50) 23 23 rfl hu hsz.out (some ⟨w.heap.size, 2, none⟩) (some ⟨b, o + 16, none⟩) 32 32 64 (c' + 64) rfl rfl w.heap.size 2 z1 93 g1.out ((l.drop 16).take 32) (by rw [T16.out]; rfl) (fun _ => rfl) (V16.out _ b1.drew) (by rw [T16.out, L16.out]; omega) ?_
  intro wz gz Gz
  refine ⟨rfl, ?_⟩
  have hb : Below w.heap.size w wz := b1.drew.grown Gz b1.size (fun k hk => by cases hk; exact Nat.le_refl _)
  have hg : Hid (wz.heap[w.heap.size]? = some (.cells z2.toArray 93 (0, 0))) := by rw [← S16.out]; exact gz.out
  refine hK.out _ _ (.inr ⟨hb, hg.out⟩) (fun _ => ?_)
  clear hK K gz Gz
  try simp only [Act.put, zq1, zq2, zq3]
  refine held_done (by kernel_rfl) ?_ _
  have g2 := hg
  have b2 := hb
  clear hg hb g1 b1
  go_wp2_with fail
  refine held_begin (fun W => Below w.heap.size w W ∧ W.heap[w.heap.size]? = some (.cells z2.toArray 93 (0, 0)) ∨ Below w.heap.size w W ∧ W.heap[w.heap.size]? = some (.cells z3.toArray 93 (0, 0))) (by kernel_rfl) (.inl ⟨b2.drew, g2.out⟩) (fun hH0 => ?_)
  refine held_take 0 (.pointer (some ⟨w.heap.size, 34, none⟩)) rfl (by kernel_rfl) (by kernel_rfl) (by kernel_rfl) (held_pure (by rfl) (fun W => by go_simp)) (by assumption) ?_
  try simp only [Act.put, zq1, zq2, zq3]
  refine held_take 1 (.pointer (some ⟨w.heap.size, 36, none⟩)) rfl (by kernel_rfl) (by kernel_rfl) (by kernel_rfl) (held_pure (by rfl) (fun W => by go_simp)) (by assumption) ?_
  try simp only [Act.put, zq1, zq2, zq3]
  refine held_take 2 (.slice (some ⟨w.heap.size, 36, none⟩) 32 32) rfl (by kernel_rfl) (by kernel_rfl) (by kernel_rfl) (held_pure (by rfl) (fun W => by go_simp)) (by assumption) ?_
  try simp only [Act.put, zq1, zq2, zq3]
  refine held_take 3 (.slice (some ⟨b, o, none⟩) 80 (c' + 80)) rfl (by kernel_rfl) (by kernel_rfl) (by kernel_rfl) (held_move (by rfl) (.tmp 1) rfl rfl) (by assumption) ?_
  try simp only [Act.put, zq1, zq2, zq3]
  refine held_take 4 (.slice (some ⟨b, o + 48, none⟩) 32 (c' + 32)) rfl (by kernel_rfl) (by kernel_rfl) (by kernel_rfl) (held_pure (by rfl) (fun W => by go_simp)) (by assumption) ?_
  try simp only [Act.put, zq1, zq2, zq3]
  clear hH0
  refine held_step 5 (by kernel_rfl) rfl (by rfl) (fun K hK => ?_)
  refine oper_of_list rfl ?_
  refine wpList_copy_bytes rfl (.tmp 54) (.tmp 56) 23 23 rfl hu hsz.out (some ⟨w.heap.size, 36, none⟩) (some ⟨b, o + 48, none⟩) 32 32 32 (c' + 32) rfl rfl w.heap.size 36 z2 93 g2.out ((l.drop 48).take 32) (by rw [T48.out]; rfl) (fun _ => rfl) (V48.out _ b2.drew) (by rw [T48.out, L48.out]; omega) ?_
  intro wz gz Gz
  refine ⟨rfl, ?_⟩
  have hb : Below w.heap.size w wz := b2.drew.grown Gz b2.size (fun k hk => by cases hk; exact Nat.le_refl _)
  have hg : Hid (wz.heap[w.heap.size]? = some (.cells z3.toArray 93 (0, 0))) := by rw [← S48.out]; exact gz.out
  refine hK.out _ _ (.inr ⟨hb, hg.out⟩) (fun _ => ?_)
  clear hK K gz Gz
  try simp only [Act.put, zq1, zq2, zq3]
  refine held_done (by kernel_rfl) ?_ _
  have g3 := hg
  have b3 := hb
  clear hg hb g2 b2
  go_wp2_with (refine wpList_load_row rfl 93 (.tmp 6) ?_ w.heap.size ?_ 93 z3.toArray (0, 0) _ g3.out Try.underlying93 rfl IF.out ?_; rfl; rfl)
  go_ret
  exact ⟨by rw [HZ3.out]; rfl, b3⟩
end Go.Proofs.Ytdnahagibodnpaa
