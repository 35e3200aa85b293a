/- Texts joined: KeepM, LawC, Law13. -/
import Derived.Test.YtehnnnohoaapdaaFF21
import Derived.Test.YtehnnnohoaapdaaFF02
import Derived.Test.YtehnnnohoaapdaaFF17
import Derived.Test.YtehnnnohoaapdaaFF18
/- The keeper as one assertion over memory, and its contracts. -/
namespace Go.Proofs.Ytehnnnohoaapdaa
set_option linter.unusedSectionVars false
open Go Go.RowKit
set_option linter.unusedVariables false
set_option linter.unusedSimpArgs false
structure KX where
  vL : Value
  vW : Value
  ls : List Ent
  ws : List Ent
def KX.foot (x : KX) (p : Nat) : List Nat := kb p x.vL x.vW x.ls x.ws
def keeper (k p : Nat) (x : KX) : Asn where
  foot := x.foot p
  holds w := Keeper KT 22 5 w 0 p x.vL x.vW x.ls x.ws ∧ x.ls.map (·.2) = x.ws.map (·.2) ∧ x.ls.length = k ∧ ∀ y ∈ x.ls, y.2.length ≤ 140737488351400
  lt w h b hb := (h.1.lt b hb).2
  keep w w' h hk := ⟨h.1.kept hk, h.2⟩
theorem foots_one (A : Asn) : foots [A] = A.foot := by simp [foots]
theorem keeper_new {w0 w : World} {F : List Nat} {R : List Asn} {p : Nat} (h : Mem w0 F w (blk p KT [.slice none 0 0, .slice none 0 0] :: R)) : Mem w0 F w (keeper 0 p ⟨.slice none 0 0, .slice none 0 0, [], []⟩ :: R) := by
  have hb := h.all _ (List.mem_cons_self ..)
  have hk : Keeper KT 22 5 w 0 p (.slice none 0 0) (.slice none 0 0) [] [] := Keeper.new hb (Nat.zero_le _)
  have e : foots (keeper 0 p ⟨.slice none 0 0, .slice none 0 0, [], []⟩ :: R) = foots (blk p KT [.slice none 0 0, .slice none 0 0] :: R) := rfl
  refine ⟨h.grew, fun A hA => ?_, by rw [e]; exact h.nodup, by rw [e]; exact h.new⟩
  rcases List.mem_cons.1 hA with rfl | hA
  · exact ⟨hk, rfl, rfl, fun y hy => by cases hy⟩
  · exact h.all A (List.mem_cons_of_mem _ hA)
theorem keep_m {k p : Nat} {x : KX} {ao : Option Addr} {n c : Nat} {l : List UInt8} {w : World} (hM : Mem w (foots [keeper k p x, lst 5 1 (.slice ao n c) l.length (bvs l)]) w [keeper k p x, lst 5 1 (.slice ao n c) l.length (bvs l)])
    (hl : l.length ≤ 140737488351400) (hk : k ≤ 1000000) :
    Calls Try.prog 31 #[.pointer (some ⟨p, 0, none⟩), .slice ao n c] w fun e w' => ∃ x', e = .returned (.tuple #[]) ∧ Mem w (foots [keeper k p x, lst 5 1 (.slice ao n c) l.length (bvs l)]) w' [keeper (k + 1) p x'] := by
  obtain ⟨h1, h2, h3, h4⟩ := hM.get 0 rfl
  have ho : Own w 0 5 (.slice ao n c) l := hM.get 1 rfl
  have hn := hM.nodup
  rw [foots_cons, foots_one, List.nodup_append] at hn
  have h5 : x.ws.length = k := by have := congrArg List.length h2; simpa [h3] using this.symm
  refine (keep_any 0 p x.vL x.vW x.ls x.ws ao n c l w h1 ho (fun g hg hb => hn.2.2 g hb g (mem_obs.2 hg) rfl) hl (Nat.zero_le _) (by omega) (by omega)).mono ?_
  rintro e w' ⟨⟨vL', vW', v', rfl, hK, hnew⟩, hG⟩
  refine ⟨⟨vL', vW', x.ls ++ [(.slice ao n c, l)], x.ws ++ [(v', l)]⟩, rfl, hG.mono fun g hg => ?_, fun A hA => ?_, ?_, fun b hb => ?_⟩
  · rw [foots_cons]; exact List.mem_append_left _ hg
  · obtain rfl := List.mem_singleton.1 hA
    refine ⟨hK, by simp [h2], by simp [h3], fun y hy => ?_⟩
    rcases List.mem_append.1 hy with hy | hy
    · exact h4 y hy
    · obtain rfl := List.mem_singleton.1 hy; exact hl
  · rw [foots_one]; exact hK.dist
  · rw [foots_one] at hb
    rw [foots_cons, foots_one]
    rcases hnew b hb with h | h | h
    · exact .inl (List.mem_append_left _ h)
    · exact .inl (List.mem_append_right _ (mem_obs.2 h))
    · exact .inr h
theorem untouched_m {k p : Nat} {x : KX} {w : World} (hM : Mem w (foots [keeper k p x]) w [keeper k p x]) (hk : k ≤ 1000000) :
    Calls Try.prog 33 #[.pointer (some ⟨p, 0, none⟩)] w fun e w' => e = .returned (.bool true) ∧ Mem w (foots [keeper k p x]) w' [keeper k p x] := by
  obtain ⟨h1, h2, h3, h4⟩ := hM.get 0 rfl
  refine (untouched_any 0 p x.vL x.vW x.ls x.ws w h1 h2 h4 (by omega)).mono ?_
  rintro e w' ⟨rfl, q, rfl⟩
  exact ⟨rfl, (Grew.refl w _).drewN q, fun A hA => A.keep _ _ (hM.all A hA) fun _ _ => rfl, hM.nodup, hM.new⟩
theorem apart_m {k p : Nat} {x : KX} {w : World} (hM : Mem w (foots [keeper k p x]) w [keeper k p x]) (hk : k ≤ 1000000) :
    Calls Try.prog 34 #[.pointer (some ⟨p, 0, none⟩)] w fun e w' => e = .returned (.bool true) ∧ Mem w (foots [keeper k p x]) w' [] := by
  obtain ⟨h1, h2, h3, h4⟩ := hM.get 0 rfl
  obtain ⟨aL, nL, cL, hv, hnL⟩ := h1.ownL.sl
  rw [hv] at h1
  have hLl : nL = x.ls.length := by have h1 := hnL.out.1; simpa using h1
  refine (apart_any 0 p aL nL cL _ _ w (x.foot p) ?_ (Nat.zero_le _) h1.lists.2 ?_ (by omega)).mono ?_
  · intro i hi g hg
    have hi2 : i < x.ls.length := by omega
    have e : (x.ls.getD i default) = x.ls[i] := by simp [List.getD, List.getElem?_eq_getElem hi2]
    have hg : (x.ls.getD i default).1.ownBlock = some g := hg
    rw [e] at hg
    refine mem_kb.2 (.inr (.inr (.inr (.inl ⟨x.ls[i], List.getElem_mem _, hg⟩))))
  · intro i hi
    show (x.ls.getD i default).2.length ≤ _
    rw [List.getD_eq_getElem?_getD, List.getElem?_eq_getElem (by omega)]
    exact h4 _ (List.getElem_mem _)
  · rintro e w' ⟨rfl, hG⟩
    exact ⟨rfl, ⟨by rw [foots_one]; exact hG, (fun A hA => by cases hA), List.nodup_nil, (fun b hb => by cases hb)⟩⟩
end Go.Proofs.Ytehnnnohoaapdaa

/- What an image shows of the pages below a mark. No program in sight. -/
namespace Go.Proofs.Ytehnnnohoaapdaa
set_option linter.unusedSectionVars false
set_option linter.unusedSimpArgs false
open Go Go.RowKit
set_option linter.unusedVariables false
theorem image_fit {D : DV} {p pg mb : Nat} {qv : Value} {w : World} (hM : Mem w (foots [disk D p pg mb qv]) w [disk D p pg mb qv]) {k : Nat} (hk : D.pages.length = k) (h3 : 3 ≤ k) :
    Calls Try.prog 30 #[.pointer (some ⟨p, 0, none⟩)] w fun e w' => ∃ gi ci, e = .returned (.slice (some ⟨gi, 0, none⟩) (256 * k) ci) ∧ Mem w (foots [disk D p pg mb qv]) w' [disk D p pg mb qv, lst 5 1 (.slice (some ⟨gi, 0, none⟩) (256 * k) ci) (256 * k) (bvs D.pages.flatten)] ∧ 256 * k ≤ ci ∧ ci ≤ 9223372036854775807 := by
  refine (image_any hM).mono ?_
  rintro e w' ⟨v, rfl, h⟩
  rw [hk] at h
  obtain ⟨gi, ci, rfl, h1, h2⟩ := lst_slice (h.get 1 rfl) (by omega)
  exact ⟨gi, ci, rfl, h, h1, h2⟩
end Go.Proofs.Ytehnnnohoaapdaa

/- The law FileFresh. -/
namespace Go.Proofs.Ytehnnnohoaapdaa
set_option linter.unusedSectionVars false
open Go Go.RowKit
set_option linter.unusedVariables false
set_option linter.unusedSimpArgs false
theorem keep_l {k p : Nat} {x : KX} {ao : Option Addr} {n c m : Nat} {l : List UInt8} {w : World} (hM : Mem w (foots [keeper k p x, lst 5 1 (.slice ao n c) m (bvs l)]) w [keeper k p x, lst 5 1 (.slice ao n c) m (bvs l)])
    (hl : m ≤ 140737488351400) (hk : k ≤ 1000000) :
    Calls Try.prog 31 #[.pointer (some ⟨p, 0, none⟩), .slice ao n c] w fun e w' => ∃ x', e = .returned (.tuple #[]) ∧ Mem w (foots [keeper k p x, lst 5 1 (.slice ao n c) m (bvs l)]) w' [keeper (k + 1) p x'] := by
  have h := lst_len (hM.get 1 rfl)
  rw [length_bvs, Nat.mul_one] at h
  subst h
  exact keep_m hM hl hk
theorem BInv.rdx {D : DV} {V : FV} {B : BV} (h : BInv D V B) (r : Int) : BInv (D.rd r) V B := { h with inv := h.inv.rd r }
set_option maxRecDepth 100000 in
set_option maxHeartbeats 40000000 in
theorem ffresh_nofit (pages width : Int) (aa : Option Addr) (an ac : Nat) (hf : ¬ Fits pages width) (w : World) : Calls Try.prog 5 #[.int .i64 pages, .int .i64 width, .slice aa an ac] w fun e w' => e = .returned (.bool true) ∧ Mem w [] w' [] := by
  have M := Mem.nil w
  go_enter Try.func5, Try.ntmps5
  refine wp_seq_k (fun K1 hK1 => ?_)
  refine wp_region_lit ?_
  refine pl M (y_assign (v := .bool false) rfl rfl rfl) ?_
  simp only [Act.put, z1, z2, z3]
  refine wpList_nil ?_
  refine hK1 _ _ ?_
  clear hK1
  refine wp_seq_k (fun K2 hK2 => ?_)
  refine wp_seq_k (fun K3 hK3 => ?_)
  refine wp_region_lit ?_
  refine pl M (y_move (v := .int .i64 pages) rfl rfl rfl) ?_
  simp only [Act.put, z1, z2, z3]
  refine pl M (y_move (v := .int .i64 width) rfl rfl rfl) ?_
  simp only [Act.put, z1, z2, z3]
  refine pe rfl (fun K hK => ?_)
  refine e_call 11 [.int .i64 pages, .int .i64 width] rfl rfl Try.call11 (fits_any pages width _) ?_
  rintro e w4 ⟨rfl, H4⟩
  have M4 : Mem w [] w4 [] := M.step H4
  rw [(decide_eq_false hf)]
  refine ⟨_, rfl, ?_⟩
  refine hK.out _ _ ?_
  clear hK K
  simp only [Act.put, z1, z2, z3]
  refine pl M4 (y_not rfl rfl rfl rfl) ?_
  simp only [Act.put, z1, z2, z3]
  refine pl M4 (y_move (v := .bool true) rfl rfl rfl) ?_
  simp only [Act.put, z1, z2, z3]
  with_reducible refine pskip ?_ ?_
  · rfl
  simp only [Act.put, z1, z2, z3]
  with_reducible refine pskip ?_ ?_
  · rfl
  simp only [Act.put, z1, z2, z3]
  refine pl M4 (y_pickT (v := .bool true) rfl rfl rfl rfl) ?_
  simp only [Act.put, z1, z2, z3]
  refine wpList_nil ?_
  refine hK3 _ _ ?_
  clear hK3
  refine wp_cond_true rfl ?_
  refine wp_seq_k (fun K5 hK5 => ?_)
  refine wp_region_lit ?_
  refine pl M4 (y_assign (v := .bool true) rfl rfl rfl) ?_
  simp only [Act.put, z1, z2, z3]
  refine wpList_nil ?_
  refine hK5 _ _ ?_
  clear hK5
  refine wp_ret ?_
  try simp only [Exit.inBlock, Exit.then]
  refine bodyPost_ret (v := .bool true) (res1 rfl rfl) rfl ?_
  exact ⟨rfl, M4.arr [] (by decide)⟩
set_option maxRecDepth 100000 in
set_option maxHeartbeats 40000000 in
theorem ffresh_many (k : Nat) (width : Int) (hn : 3 ≤ k ∧ k ≤ 64) (hw : 1 ≤ width ∧ width ≤ 32) (aa : Option Addr) (an ac : Nat) (h12 : 12 < k) (w : World) : Calls Try.prog 5 #[.int .i64 (k : Int), .int .i64 width, .slice aa an ac] w fun e w' => e = .returned (.bool true) ∧ Mem w [] w' [] := by
  have M := Mem.nil w
  go_enter Try.func5, Try.ntmps5
  refine wp_seq_k (fun K1 hK1 => ?_)
  refine wp_region_lit ?_
  refine pl M (y_assign (v := .bool false) rfl rfl rfl) ?_
  simp only [Act.put, z1, z2, z3]
  refine wpList_nil ?_
  refine hK1 _ _ ?_
  clear hK1
  refine wp_seq_k (fun K2 hK2 => ?_)
  refine wp_seq_k (fun K3 hK3 => ?_)
  refine wp_region_lit ?_
  refine pl M (y_move (v := .int .i64 (k : Int)) rfl rfl rfl) ?_
  simp only [Act.put, z1, z2, z3]
  refine pl M (y_move (v := .int .i64 width) rfl rfl rfl) ?_
  simp only [Act.put, z1, z2, z3]
  refine pe rfl (fun K hK => ?_)
  refine e_call 11 [.int .i64 (k : Int), .int .i64 width] rfl rfl Try.call11 (fits_any (k : Int) width _) ?_
  rintro e w4 ⟨rfl, H4⟩
  have M4 : Mem w [] w4 [] := M.step H4
  rw [(fits_yes hn hw)]
  refine ⟨_, rfl, ?_⟩
  refine hK.out _ _ ?_
  clear hK K
  simp only [Act.put, z1, z2, z3]
  refine pl M4 (y_not rfl rfl rfl rfl) ?_
  simp only [Act.put, z1, z2, z3]
  refine pl M4 (y_move (v := .bool false) rfl rfl rfl) ?_
  simp only [Act.put, z1, z2, z3]
  refine pl M4 (y_move (v := .int .i64 (k : Int)) rfl rfl rfl) ?_
  simp only [Act.put, z1, z2, z3]
  refine pl M4 (y_gtr (b := true) rfl rfl rfl rfl (decide_eq_true (by omega))) ?_
  simp only [Act.put, z1, z2, z3]
  refine pl M4 (y_pickF (v := .bool true) rfl rfl rfl rfl) ?_
  simp only [Act.put, z1, z2, z3]
  refine wpList_nil ?_
  refine hK3 _ _ ?_
  clear hK3
  refine wp_cond_true rfl ?_
  refine wp_seq_k (fun K5 hK5 => ?_)
  refine wp_region_lit ?_
  refine pl M4 (y_assign (v := .bool true) rfl rfl rfl) ?_
  simp only [Act.put, z1, z2, z3]
  refine wpList_nil ?_
  refine hK5 _ _ ?_
  clear hK5
  refine wp_ret ?_
  try simp only [Exit.inBlock, Exit.then]
  refine bodyPost_ret (v := .bool true) (res1 rfl rfl) rfl ?_
  exact ⟨rfl, M4.arr [] (by decide)⟩
set_option maxRecDepth 100000 in
set_option maxHeartbeats 40000000 in
theorem ffresh_fit {w : World} (k : Nat) (width : Int) (hn : 3 ≤ k ∧ k ≤ 64) (hw : 1 ≤ width ∧ width ≤ 32) (h12 : ¬ 12 < k) (aa : Option Addr) (an ac : Nat) (avs : List AV) (hacts : ListIn actC 3 w aa an avs) (hok : ∀ a ∈ avs, ActIn w a) (han : an ≤ 4611686018427387904) : Calls Try.prog 5 #[.int .i64 (k : Int), .int .i64 width, .slice aa an ac] w fun e w' => e = .returned (.bool true) ∧ Mem w [] w' [] := by
  have M := Mem.nil w
  have hal := hacts.1
  go_enter Try.func5, Try.ntmps5
  refine wp_seq_k (fun K1 hK1 => ?_)
  refine wp_region_lit ?_
  refine pl M (y_assign (v := .bool false) rfl rfl rfl) ?_
  simp only [Act.put, z1, z2, z3]
  refine wpList_nil ?_
  refine hK1 _ _ ?_
  clear hK1
  refine wp_seq_k (fun K2 hK2 => ?_)
  refine wp_seq_k (fun K3 hK3 => ?_)
  refine wp_region_lit ?_
  refine pl M (y_move (v := .int .i64 (k : Int)) rfl rfl rfl) ?_
  simp only [Act.put, z1, z2, z3]
  refine pl M (y_move (v := .int .i64 width) rfl rfl rfl) ?_
  simp only [Act.put, z1, z2, z3]
  refine pe rfl (fun K hK => ?_)
  refine e_call 11 [.int .i64 (k : Int), .int .i64 width] rfl rfl Try.call11 (fits_any (k : Int) width _) ?_
  rintro e w4 ⟨rfl, H4⟩
  have M4 : Mem w [] w4 [] := M.step H4
  rw [(fits_yes hn hw)]
  refine ⟨_, rfl, ?_⟩
  refine hK.out _ _ ?_
  clear hK K
  simp only [Act.put, z1, z2, z3]
  refine pl M4 (y_not rfl rfl rfl rfl) ?_
  simp only [Act.put, z1, z2, z3]
  refine pl M4 (y_move (v := .bool false) rfl rfl rfl) ?_
  simp only [Act.put, z1, z2, z3]
  refine pl M4 (y_move (v := .int .i64 (k : Int)) rfl rfl rfl) ?_
  simp only [Act.put, z1, z2, z3]
  refine pl M4 (y_gtr (b := false) rfl rfl rfl rfl (decide_eq_false (by omega))) ?_
  simp only [Act.put, z1, z2, z3]
  refine pl M4 (y_pickF (v := .bool false) rfl rfl rfl rfl) ?_
  simp only [Act.put, z1, z2, z3]
  refine wpList_nil ?_
  refine hK3 _ _ ?_
  clear hK3
  refine wp_cond_false rfl ?_
  refine wp_skip ?_
  refine hK2 _ _ ?_
  clear hK2
  refine wp_seq_k (fun K5 hK5 => ?_)
  refine wp_region_lit ?_
  refine pl M4 (y_move (v := .int .i64 (k : Int)) rfl rfl rfl) ?_
  simp only [Act.put, z1, z2, z3]
  refine pl M4 (y_move (v := .int .i64 width) rfl rfl rfl) ?_
  simp only [Act.put, z1, z2, z3]
  refine pe rfl (fun K hK => ?_)
  refine e_call 22 [.int .i64 (k : Int), .int .i64 width] rfl rfl Try.call22 (fresh_any k width hn hw _) ?_
  rintro e w6 ⟨p, pg, mb, qv0, f, D0, m, rfl, H6, hI0, hq0, ha0, hp0⟩
  have M6 : Mem w [] w6 [disk D0 p pg mb qv0, blk f 96 (fC (⟨secondS width k, 2, m⟩ : FV) p)] := M4.step H6
  refine ⟨_, rfl, ?_⟩
  refine hK.out _ _ ?_
  clear hK K
  simp only [Act.put, z1, z2, z3]
  refine pl M6 (y_move (v := .tuple #[.pointer (some ⟨p, 0, none⟩), .pointer (some ⟨f, 0, none⟩)]) rfl rfl rfl) ?_
  simp only [Act.put, z1, z2, z3]
  refine pl M6 (y_ext (v := .pointer (some ⟨p, 0, none⟩)) rfl rfl rfl rfl) ?_
  simp only [Act.put, z1, z2, z3]
  refine pl M6 (y_ext (v := .pointer (some ⟨f, 0, none⟩)) rfl rfl rfl rfl) ?_
  simp only [Act.put, z1, z2, z3]
  refine pl M6 (y_assign (v := .pointer (some ⟨p, 0, none⟩)) rfl rfl rfl) ?_
  simp only [Act.put, z1, z2, z3]
  refine pl M6 (y_assign (v := .pointer (some ⟨f, 0, none⟩)) rfl rfl rfl) ?_
  simp only [Act.put, z1, z2, z3]
  refine wpList_nil ?_
  refine hK5 _ _ ?_
  clear hK5
  refine wp_seq_k (fun K7 hK7 => ?_)
  refine wp_seq_k (fun K8 hK8 => ?_)
  refine wp_region_lit ?_
  refine pl M6 (y_move (v := .pointer (some ⟨f, 0, none⟩)) rfl rfl rfl) ?_
  simp only [Act.put, z1, z2, z3]
  refine pl M6 (y_eqnil (r := false) rfl rfl rfl rfl Try.underlying33 rfl) ?_
  simp only [Act.put, z1, z2, z3]
  refine wpList_nil ?_
  refine hK8 _ _ ?_
  clear hK8
  refine wp_cond_false rfl ?_
  refine wp_skip ?_
  refine hK7 _ _ ?_
  clear hK7
  refine wp_seq_k (fun K9 hK9 => ?_)
  refine wp_region_lit ?_
  refine pl M6 (y_build (ps := [(2, .const (.int .i64 2)), (3, .const (.int .i64 1))]) (pv := [(2, .int .i64 2), (3, .int .i64 1)]) (cs := (bC (⟨[], 2, 1, 0, 0, 0⟩ : BV) (⟨.slice none 0 0, .slice none 0 0, []⟩ : BX))) rfl rfl rfl (by kernel_rfl)) ?_
  simp only [Act.put, z1, z2, z3]
  refine pe rfl (fun K hK => ?_)
  refine e_box M6 (bC (⟨[], 2, 1, 0, 0, 0⟩ : BV) (⟨.slice none 0 0, .slice none 0 0, []⟩ : BX)) rfl rfl ?_
  intro b w10 (M10 : Mem w [] w10 [blk b 48 (bC (⟨[], 2, 1, 0, 0, 0⟩ : BV) (⟨.slice none 0 0, .slice none 0 0, []⟩ : BX)), disk D0 p pg mb qv0, blk f 96 (fC (⟨secondS width k, 2, m⟩ : FV) p)])
  clear M6
  refine hK.out _ _ ?_
  clear hK K
  simp only [Act.put, z1, z2, z3]
  have M11 : Mem w [] w10 [blk b 48 (bC (⟨[], 2, 1, 0, 0, 0⟩ : BV) (⟨.slice none 0 0, .slice none 0 0, []⟩ : BX)), disk D0 p pg mb qv0, blk f 96 (fC (⟨secondS width k, 2, m⟩ : FV) p)] := M10.arr [0, 1, 2] (by decide)
  clear M10
  have M12 : Mem w [] w10 [book (⟨[], 2, 1, 0, 0, 0⟩ : BV) b (⟨.slice none 0 0, .slice none 0 0, []⟩ : BX), disk D0 p pg mb qv0, blk f 96 (fC (⟨secondS width k, 2, m⟩ : FV) p)] := book_new M11
  clear M11
  refine pl M12 (y_assign (v := .pointer (some ⟨b, 0, none⟩)) rfl rfl rfl) ?_
  simp only [Act.put, z1, z2, z3]
  refine wpList_nil ?_
  refine hK9 _ _ ?_
  clear hK9
  refine wp_seq_k (fun K13 hK13 => ?_)
  refine wp_region_lit ?_
  refine pl M12 (y_build (ps := []) (pv := []) (cs := [.slice none 0 0, .slice none 0 0]) rfl rfl rfl (by kernel_rfl)) ?_
  simp only [Act.put, z1, z2, z3]
  refine pe rfl (fun K hK => ?_)
  refine e_box M12 ([.slice none 0 0, .slice none 0 0]) rfl rfl ?_
  intro kp w14 (M14 : Mem w [] w14 [blk kp 71 ([.slice none 0 0, .slice none 0 0]), book (⟨[], 2, 1, 0, 0, 0⟩ : BV) b (⟨.slice none 0 0, .slice none 0 0, []⟩ : BX), disk D0 p pg mb qv0, blk f 96 (fC (⟨secondS width k, 2, m⟩ : FV) p)])
  clear M12
  refine hK.out _ _ ?_
  clear hK K
  simp only [Act.put, z1, z2, z3]
  have M15 : Mem w [] w14 [blk kp 71 ([.slice none 0 0, .slice none 0 0]), book (⟨[], 2, 1, 0, 0, 0⟩ : BV) b (⟨.slice none 0 0, .slice none 0 0, []⟩ : BX), disk D0 p pg mb qv0, blk f 96 (fC (⟨secondS width k, 2, m⟩ : FV) p)] := M14.arr [0, 1, 2, 3] (by decide)
  clear M14
  have M16 : Mem w [] w14 [keeper 0 kp (⟨.slice none 0 0, .slice none 0 0, [], []⟩ : KX), book (⟨[], 2, 1, 0, 0, 0⟩ : BV) b (⟨.slice none 0 0, .slice none 0 0, []⟩ : BX), disk D0 p pg mb qv0, blk f 96 (fC (⟨secondS width k, 2, m⟩ : FV) p)] := keeper_new M15
  clear M15
  refine pl M16 (y_assign (v := .pointer (some ⟨kp, 0, none⟩)) rfl rfl rfl) ?_
  simp only [Act.put, z1, z2, z3]
  refine wpList_nil ?_
  refine hK13 _ _ ?_
  clear hK13
  refine wp_seq_k (fun K17 hK17 => ?_)
  refine wp_seq_k (fun K18 hK18 => ?_)
  refine wp_region_lit ?_
  refine pl M16 (y_assign (v := .int .i64 0) rfl rfl rfl) ?_
  simp only [Act.put, z1, z2, z3]
  refine wpList_nil ?_
  refine hK18 _ _ ?_
  clear hK18
  have hBI : BInv D0 (⟨secondS width k, 2, m⟩ : FV) (⟨[], 2, 1, 0, 0, 0⟩ : BV) := ⟨hI0, rfl, rfl, rfl, rfl, Nat.zero_le _⟩
  have hcutK17 : ∀ a' w', (fun a' w' => ∃ (i : Nat) (D : DV) (V : FV) (B : BV) (qv : Value) (bx : BX) (kn : Nat) (kx0 : KX) (us19 : List Value), a' = (⟨#[.int .i64 (k : Int), .int .i64 width, .slice aa an ac, undef, undef, undef, (us19.getD 0 undef), .pointer (some ⟨p, 0, none⟩), .pointer (some ⟨f, 0, none⟩), .pointer (some ⟨b, 0, none⟩), .pointer (some ⟨kp, 0, none⟩), .int .i64 (i : Int), (us19.getD 1 undef), (us19.getD 2 undef), (us19.getD 3 undef), (us19.getD 4 undef), (us19.getD 5 undef), (us19.getD 6 undef), (us19.getD 7 undef), (us19.getD 8 undef), (us19.getD 9 undef), undef, undef, .int .i64 (k : Int), .int .i64 width, .bool true, .bool false, .bool false, .int .i64 (k : Int), .bool false, .bool false, .tuple #[.pointer (some ⟨p, 0, none⟩), .pointer (some ⟨f, 0, none⟩)], .int .i64 (k : Int), .int .i64 width, .tuple #[.pointer (some ⟨p, 0, none⟩), .pointer (some ⟨f, 0, none⟩)], .pointer (some ⟨p, 0, none⟩), .pointer (some ⟨f, 0, none⟩), .pointer (some ⟨f, 0, none⟩), .bool false, .agg ((bC (⟨[], 2, 1, 0, 0, 0⟩ : BV) (⟨.slice none 0 0, .slice none 0 0, []⟩ : BX))).toArray, .pointer (some ⟨b, 0, none⟩), .agg ([.slice none 0 0, .slice none 0 0]).toArray, .pointer (some ⟨kp, 0, none⟩), (us19.getD 10 undef), (us19.getD 11 undef), (us19.getD 12 undef), (us19.getD 13 undef), (us19.getD 14 undef), (us19.getD 15 undef), (us19.getD 16 undef), (us19.getD 17 undef), (us19.getD 18 undef), (us19.getD 19 undef), (us19.getD 20 undef), (us19.getD 21 undef), (us19.getD 22 undef), (us19.getD 23 undef), (us19.getD 24 undef), (us19.getD 25 undef), (us19.getD 26 undef), (us19.getD 27 undef), (us19.getD 28 undef), (us19.getD 29 undef), (us19.getD 30 undef), (us19.getD 31 undef), (us19.getD 32 undef), (us19.getD 33 undef), (us19.getD 34 undef), (us19.getD 35 undef), (us19.getD 36 undef), (us19.getD 37 undef), (us19.getD 38 undef), (us19.getD 39 undef), (us19.getD 40 undef), (us19.getD 41 undef), (us19.getD 42 undef), (us19.getD 43 undef), (us19.getD 44 undef), (us19.getD 45 undef), (us19.getD 46 undef), (us19.getD 47 undef), (us19.getD 48 undef), (us19.getD 49 undef), (us19.getD 50 undef), (us19.getD 51 undef), (us19.getD 52 undef), (us19.getD 53 undef), (us19.getD 54 undef), (us19.getD 55 undef), (us19.getD 56 undef), (us19.getD 57 undef), (us19.getD 58 undef), (us19.getD 59 undef), (us19.getD 60 undef), (us19.getD 61 undef), (us19.getD 62 undef), (us19.getD 63 undef), (us19.getD 64 undef), (us19.getD 65 undef), (us19.getD 66 undef), (us19.getD 67 undef), (us19.getD 68 undef), (us19.getD 69 undef), (us19.getD 70 undef), (us19.getD 71 undef), (us19.getD 72 undef), (us19.getD 73 undef), (us19.getD 74 undef), (us19.getD 75 undef), (us19.getD 76 undef), (us19.getD 77 undef), (us19.getD 78 undef), (us19.getD 79 undef), (us19.getD 80 undef), (us19.getD 81 undef), (us19.getD 82 undef), (us19.getD 83 undef), (us19.getD 84 undef), (us19.getD 85 undef), (us19.getD 86 undef), (us19.getD 87 undef), (us19.getD 88 undef), (us19.getD 89 undef), (us19.getD 90 undef), (us19.getD 91 undef), (us19.getD 92 undef), (us19.getD 93 undef), (us19.getD 94 undef), (us19.getD 95 undef), (us19.getD 96 undef), (us19.getD 97 undef), (us19.getD 98 undef), (us19.getD 99 undef), (us19.getD 100 undef), (us19.getD 101 undef), undef, undef, undef, undef, undef, undef, undef, undef, undef, undef, undef, undef, undef, undef, undef, undef, undef, undef, undef, undef, undef, undef, undef, undef, undef, undef], []⟩ : Act) ∧ (BInv D V B) ∧ (D.q.length ≤ i ∧ i ≤ 24 ∧ D.pages.length = k ∧ D.armed = 0) ∧ (V.s.gen ≤ 1 + i ∧ V.s.width = width) ∧ (kn ≤ 21 * i) ∧ Mem w [] w' [disk D p pg mb qv, blk f 96 (fC V p), book B b bx, keeper kn kp kx0]) a' w' → K17 a' w' := by
    clear M16
    rintro a' w20 ⟨i, D, V, B, qv, bx, kn, kx0, us19, rfl, hB, hqi, hgi, hkn, M20⟩
    refine hK17 _ _ ?_
    clear hK17
    refine wp_seq_k (fun K21 hK21 => ?_)
    refine wp_region_lit ?_
    refine pl M20 (y_move (v := .pointer (some ⟨p, 0, none⟩)) rfl rfl rfl) ?_
    simp only [Act.put, z1, z2, z3]
    have hpk : D.pages.length = k := hqi.2.2.1
    have hX22 : Mem w [] w20 ([disk D p pg mb qv] ++ [blk f 96 (fC V p), book B b bx, keeper kn kp kx0]) := M20.arr [0, 1, 2, 3] (by decide)
    refine pe rfl (fun K hK => ?_)
    refine e_call 30 [.pointer (some ⟨p, 0, none⟩)] rfl rfl Try.call30 (image_fit (Mem.here hX22) hpk (by omega)) ?_
    rintro e w22 ⟨gib, cib, rfl, H22, hcib, hcmb⟩
    have M22 : Mem w [] w22 [disk D p pg mb qv, lst 5 1 (.slice (some ⟨gib, 0, none⟩) (256 * k) cib) (256 * k) (bvs D.pages.flatten), blk f 96 (fC V p), book B b bx, keeper kn kp kx0] := Mem.frame hX22 H22
    refine ⟨_, rfl, ?_⟩
    refine hK.out _ _ ?_
    clear hK K
    simp only [Act.put, z1, z2, z3]
    refine pl M22 (y_assign (v := .slice (some ⟨gib, 0, none⟩) (256 * k) cib) rfl rfl rfl) ?_
    simp only [Act.put, z1, z2, z3]
    refine wpList_nil ?_
    refine hK21 _ _ ?_
    clear hK21
    refine wp_seq_k (fun K23 hK23 => ?_)
    refine wp_region_lit ?_
    refine pl M22 (y_move (v := .slice (some ⟨gib, 0, none⟩) (256 * k) cib) rfl rfl rfl) ?_
    simp only [Act.put, z1, z2, z3]
    have hfl : D.pages.flatten.length = 256 * k := by have N := lst_len (M22.get 1 rfl); rw [length_bvs, Nat.mul_one] at N; exact N
    refine pe rfl (fun K hK => ?_)
    refine e_call 32 [.slice (some ⟨gib, 0, none⟩) (256 * k) cib] rfl rfl Try.call32 (copy_any (some ⟨gib, 0, none⟩) (256 * k) cib D.pages.flatten _ (lst_row (M22.get 1 rfl)) (by omega)) ?_
    rintro e w24 ⟨a1, c1, rfl, H24⟩
    have M24 : Mem w [] w24 [bytesL (.slice a1 D.pages.flatten.length c1) D.pages.flatten, disk D p pg mb qv, lst 5 1 (.slice (some ⟨gib, 0, none⟩) (256 * k) cib) (256 * k) (bvs D.pages.flatten), blk f 96 (fC V p), book B b bx, keeper kn kp kx0] := M22.step H24
    refine ⟨_, rfl, ?_⟩
    refine hK.out _ _ ?_
    clear hK K
    simp only [Act.put, z1, z2, z3]
    refine pl M24 (y_assign (v := .slice a1 D.pages.flatten.length c1) rfl rfl rfl) ?_
    simp only [Act.put, z1, z2, z3]
    refine wpList_nil ?_
    refine hK23 _ _ ?_
    clear hK23
    refine wp_seq_k (fun K25 hK25 => ?_)
    refine wp_region_lit ?_
    refine pl M24 (y_move (v := .pointer (some ⟨kp, 0, none⟩)) rfl rfl rfl) ?_
    simp only [Act.put, z1, z2, z3]
    refine pl M24 (y_move (v := .slice (some ⟨gib, 0, none⟩) (256 * k) cib) rfl rfl rfl) ?_
    simp only [Act.put, z1, z2, z3]
    have hX26 : Mem w [] w24 ([keeper kn kp kx0, lst 5 1 (.slice (some ⟨gib, 0, none⟩) (256 * k) cib) (256 * k) (bvs D.pages.flatten)] ++ [bytesL (.slice a1 D.pages.flatten.length c1) D.pages.flatten, disk D p pg mb qv, blk f 96 (fC V p), book B b bx]) := M24.arr [5, 2, 0, 1, 3, 4] (by decide)
    refine pe rfl (fun K hK => ?_)
    refine e_call 31 [.pointer (some ⟨kp, 0, none⟩), .slice (some ⟨gib, 0, none⟩) (256 * k) cib] rfl rfl Try.call31 (keep_l (Mem.here hX26) (by omega) (by omega)) ?_
    rintro e w26 ⟨kxc, rfl, H26⟩
    have M26 : Mem w [] w26 [keeper (kn + 1) kp kxc, bytesL (.slice a1 D.pages.flatten.length c1) D.pages.flatten, disk D p pg mb qv, blk f 96 (fC V p), book B b bx] := Mem.frame hX26 H26
    refine ⟨_, rfl, ?_⟩
    refine hK.out _ _ ?_
    clear hK K
    simp only [Act.put, z1, z2, z3]
    refine wpList_nil ?_
    refine hK25 _ _ ?_
    clear hK25
    refine wp_seq_k (fun K27 hK27 => ?_)
    refine wp_region_lit ?_
    refine pl M26 (y_move (v := .pointer (some ⟨kp, 0, none⟩)) rfl rfl rfl) ?_
    simp only [Act.put, z1, z2, z3]
    have hX28 : Mem w [] w26 ([keeper (kn + 1) kp kxc] ++ [bytesL (.slice a1 D.pages.flatten.length c1) D.pages.flatten, disk D p pg mb qv, blk f 96 (fC V p), book B b bx]) := M26.arr [0, 1, 2, 3, 4] (by decide)
    refine pe rfl (fun K hK => ?_)
    refine e_call 33 [.pointer (some ⟨kp, 0, none⟩)] rfl rfl Try.call33 (untouched_m (Mem.here hX28) (by omega)) ?_
    rintro e w28 ⟨rfl, H28⟩
    have M28 : Mem w [] w28 [keeper (kn + 1) kp kxc, bytesL (.slice a1 D.pages.flatten.length c1) D.pages.flatten, disk D p pg mb qv, blk f 96 (fC V p), book B b bx] := Mem.frame hX28 H28
    refine ⟨_, rfl, ?_⟩
    refine hK.out _ _ ?_
    clear hK K
    simp only [Act.put, z1, z2, z3]
    refine pl M28 (y_move (v := .bool true) rfl rfl rfl) ?_
    simp only [Act.put, z1, z2, z3]
    refine pl M28 (y_move (v := .pointer (some ⟨kp, 0, none⟩)) rfl rfl rfl) ?_
    simp only [Act.put, z1, z2, z3]
    have hX29 : Mem w [] w28 ([keeper (kn + 1) kp kxc] ++ [bytesL (.slice a1 D.pages.flatten.length c1) D.pages.flatten, disk D p pg mb qv, blk f 96 (fC V p), book B b bx]) := M28.arr [0, 1, 2, 3, 4] (by decide)
    refine pe rfl (fun K hK => ?_)
    refine e_call 34 [.pointer (some ⟨kp, 0, none⟩)] rfl rfl Try.call34 (apart_m (Mem.here hX29) (by omega)) ?_
    rintro e w29 ⟨rfl, H29⟩
    have M29 : Mem w [] w29 [bytesL (.slice a1 D.pages.flatten.length c1) D.pages.flatten, disk D p pg mb qv, blk f 96 (fC V p), book B b bx] := Mem.frame hX29 H29
    refine ⟨_, rfl, ?_⟩
    refine hK.out _ _ ?_
    clear hK K
    simp only [Act.put, z1, z2, z3]
    refine pl M29 (y_pickT (v := .bool true) rfl rfl rfl rfl) ?_
    simp only [Act.put, z1, z2, z3]
    refine pl M29 (y_move (v := .bool true) rfl rfl rfl) ?_
    simp only [Act.put, z1, z2, z3]
    refine pl M29 (y_move (v := .pointer (some ⟨p, 0, none⟩)) rfl rfl rfl) ?_
    simp only [Act.put, z1, z2, z3]
    have hX30 : Mem w [] w29 ([disk D p pg mb qv] ++ [bytesL (.slice a1 D.pages.flatten.length c1) D.pages.flatten, blk f 96 (fC V p), book B b bx]) := M29.arr [1, 0, 2, 3] (by decide)
    refine pe rfl (fun K hK => ?_)
    refine e_call 30 [.pointer (some ⟨p, 0, none⟩)] rfl rfl Try.call30 (image_fit (Mem.here hX30) hpk (by omega)) ?_
    rintro e w30 ⟨gic, cic, rfl, H30, hcic, hcmc⟩
    have M30 : Mem w [] w30 [disk D p pg mb qv, lst 5 1 (.slice (some ⟨gic, 0, none⟩) (256 * k) cic) (256 * k) (bvs D.pages.flatten), bytesL (.slice a1 D.pages.flatten.length c1) D.pages.flatten, blk f 96 (fC V p), book B b bx] := Mem.frame hX30 H30
    refine ⟨_, rfl, ?_⟩
    refine hK.out _ _ ?_
    clear hK K
    simp only [Act.put, z1, z2, z3]
    refine pl M30 (y_move (v := .slice a1 D.pages.flatten.length c1) rfl rfl rfl) ?_
    simp only [Act.put, z1, z2, z3]
    refine pe rfl (fun K hK => ?_)
    refine e_call 35 [.slice (some ⟨gic, 0, none⟩) (256 * k) cic, .slice a1 D.pages.flatten.length c1] rfl rfl Try.call35 (same_any _ _ _ _ _ _ D.pages.flatten D.pages.flatten _ (lst_row (M30.get 1 rfl)) (bytesL_row (M30.get 2 rfl)) (by unfold maxLen; omega) (by unfold maxLen; omega)) ?_
    rintro e w31 ⟨rfl, H31⟩
    have M31 : Mem w [] w31 [disk D p pg mb qv, lst 5 1 (.slice (some ⟨gic, 0, none⟩) (256 * k) cic) (256 * k) (bvs D.pages.flatten), bytesL (.slice a1 D.pages.flatten.length c1) D.pages.flatten, blk f 96 (fC V p), book B b bx] := M30.step H31
    rw [(eqB_true rfl)]
    refine ⟨_, rfl, ?_⟩
    refine hK.out _ _ ?_
    clear hK K
    simp only [Act.put, z1, z2, z3]
    refine pl M31 (y_pickT (v := .bool true) rfl rfl rfl rfl) ?_
    simp only [Act.put, z1, z2, z3]
    refine pl M31 (y_move (v := .bool true) rfl rfl rfl) ?_
    simp only [Act.put, z1, z2, z3]
    refine pl M31 (y_move (v := .pointer (some ⟨b, 0, none⟩)) rfl rfl rfl) ?_
    simp only [Act.put, z1, z2, z3]
    refine pl M31 (y_move (v := .pointer (some ⟨f, 0, none⟩)) rfl rfl rfl) ?_
    simp only [Act.put, z1, z2, z3]
    refine pl M31 (y_move (v := .pointer (some ⟨f, 0, none⟩)) rfl rfl rfl) ?_
    simp only [Act.put, z1, z2, z3]
    have hX32 : Mem w [] w31 ([disk D p pg mb qv, blk f 96 (fC V p)] ++ [lst 5 1 (.slice (some ⟨gic, 0, none⟩) (256 * k) cic) (256 * k) (bvs D.pages.flatten), bytesL (.slice a1 D.pages.flatten.length c1) D.pages.flatten, book B b bx]) := M31.arr [0, 3, 1, 2, 4] (by decide)
    refine pe rfl (fun K hK => ?_)
    refine e_call 20 [.pointer (some ⟨f, 0, none⟩)] rfl rfl Try.call20 (next_any (Mem.here hX32)) ?_
    rintro e w32 ⟨rfl, H32⟩
    have M32 : Mem w [] w32 [disk D p pg mb qv, blk f 96 (fC V p), lst 5 1 (.slice (some ⟨gic, 0, none⟩) (256 * k) cic) (256 * k) (bvs D.pages.flatten), bytesL (.slice a1 D.pages.flatten.length c1) D.pages.flatten, book B b bx] := Mem.frame hX32 H32
    refine ⟨_, rfl, ?_⟩
    refine hK.out _ _ ?_
    clear hK K
    simp only [Act.put, z1, z2, z3]
    have hX33 : Mem w [] w32 ([disk D p pg mb qv, blk f 96 (fC V p), book B b bx] ++ [lst 5 1 (.slice (some ⟨gic, 0, none⟩) (256 * k) cic) (256 * k) (bvs D.pages.flatten), bytesL (.slice a1 D.pages.flatten.length c1) D.pages.flatten]) := M32.arr [0, 1, 4, 2, 3] (by decide)
    refine pe rfl (fun K hK => ?_)
    refine e_call 29 [.pointer (some ⟨b, 0, none⟩), .pointer (some ⟨f, 0, none⟩), .int .i64 V.next] rfl rfl Try.call29 (bholds_int (Mem.here hX33) (B := B) hB.inv V.next (by have h8 := hB.inv.lo; have h9 := hB.inv.plat.mark2; omega) (Int.le_refl _)) ?_
    rintro e w33 ⟨r9, rfl, H33⟩
    have M33 : Mem w [] w33 [disk (D.rd r9) p pg mb qv, blk f 96 (fC V p), book B b bx, lst 5 1 (.slice (some ⟨gic, 0, none⟩) (256 * k) cic) (256 * k) (bvs D.pages.flatten), bytesL (.slice a1 D.pages.flatten.length c1) D.pages.flatten] := Mem.frame hX33 H33
    refine ⟨_, rfl, ?_⟩
    refine hK.out _ _ ?_
    clear hK K
    simp only [Act.put, z1, z2, z3]
    refine pl M33 (y_pickT (v := .bool true) rfl rfl rfl rfl) ?_
    simp only [Act.put, z1, z2, z3]
    refine pl M33 (y_assign (v := .bool true) rfl rfl rfl) ?_
    simp only [Act.put, z1, z2, z3]
    refine wpList_nil ?_
    refine hK27 _ _ ?_
    clear hK27
    refine wp_ret ?_
    try simp only [Exit.inBlock, Exit.then]
    refine bodyPost_ret (v := .bool true) (res1 rfl rfl) rfl ?_
    exact ⟨rfl, M33.arr [] (by decide)⟩
  clear hK17
  refine wp_block ?_
  refine wp_loop (fun a' w' => ∃ (i : Nat) (D : DV) (V : FV) (B : BV) (qv : Value) (bx : BX) (kn : Nat) (kx0 : KX) (us19 : List Value), a' = (⟨#[.int .i64 (k : Int), .int .i64 width, .slice aa an ac, undef, undef, undef, (us19.getD 0 undef), .pointer (some ⟨p, 0, none⟩), .pointer (some ⟨f, 0, none⟩), .pointer (some ⟨b, 0, none⟩), .pointer (some ⟨kp, 0, none⟩), .int .i64 (i : Int), (us19.getD 1 undef), (us19.getD 2 undef), (us19.getD 3 undef), (us19.getD 4 undef), (us19.getD 5 undef), (us19.getD 6 undef), (us19.getD 7 undef), (us19.getD 8 undef), (us19.getD 9 undef), undef, undef, .int .i64 (k : Int), .int .i64 width, .bool true, .bool false, .bool false, .int .i64 (k : Int), .bool false, .bool false, .tuple #[.pointer (some ⟨p, 0, none⟩), .pointer (some ⟨f, 0, none⟩)], .int .i64 (k : Int), .int .i64 width, .tuple #[.pointer (some ⟨p, 0, none⟩), .pointer (some ⟨f, 0, none⟩)], .pointer (some ⟨p, 0, none⟩), .pointer (some ⟨f, 0, none⟩), .pointer (some ⟨f, 0, none⟩), .bool false, .agg ((bC (⟨[], 2, 1, 0, 0, 0⟩ : BV) (⟨.slice none 0 0, .slice none 0 0, []⟩ : BX))).toArray, .pointer (some ⟨b, 0, none⟩), .agg ([.slice none 0 0, .slice none 0 0]).toArray, .pointer (some ⟨kp, 0, none⟩), (us19.getD 10 undef), (us19.getD 11 undef), (us19.getD 12 undef), (us19.getD 13 undef), (us19.getD 14 undef), (us19.getD 15 undef), (us19.getD 16 undef), (us19.getD 17 undef), (us19.getD 18 undef), (us19.getD 19 undef), (us19.getD 20 undef), (us19.getD 21 undef), (us19.getD 22 undef), (us19.getD 23 undef), (us19.getD 24 undef), (us19.getD 25 undef), (us19.getD 26 undef), (us19.getD 27 undef), (us19.getD 28 undef), (us19.getD 29 undef), (us19.getD 30 undef), (us19.getD 31 undef), (us19.getD 32 undef), (us19.getD 33 undef), (us19.getD 34 undef), (us19.getD 35 undef), (us19.getD 36 undef), (us19.getD 37 undef), (us19.getD 38 undef), (us19.getD 39 undef), (us19.getD 40 undef), (us19.getD 41 undef), (us19.getD 42 undef), (us19.getD 43 undef), (us19.getD 44 undef), (us19.getD 45 undef), (us19.getD 46 undef), (us19.getD 47 undef), (us19.getD 48 undef), (us19.getD 49 undef), (us19.getD 50 undef), (us19.getD 51 undef), (us19.getD 52 undef), (us19.getD 53 undef), (us19.getD 54 undef), (us19.getD 55 undef), (us19.getD 56 undef), (us19.getD 57 undef), (us19.getD 58 undef), (us19.getD 59 undef), (us19.getD 60 undef), (us19.getD 61 undef), (us19.getD 62 undef), (us19.getD 63 undef), (us19.getD 64 undef), (us19.getD 65 undef), (us19.getD 66 undef), (us19.getD 67 undef), (us19.getD 68 undef), (us19.getD 69 undef), (us19.getD 70 undef), (us19.getD 71 undef), (us19.getD 72 undef), (us19.getD 73 undef), (us19.getD 74 undef), (us19.getD 75 undef), (us19.getD 76 undef), (us19.getD 77 undef), (us19.getD 78 undef), (us19.getD 79 undef), (us19.getD 80 undef), (us19.getD 81 undef), (us19.getD 82 undef), (us19.getD 83 undef), (us19.getD 84 undef), (us19.getD 85 undef), (us19.getD 86 undef), (us19.getD 87 undef), (us19.getD 88 undef), (us19.getD 89 undef), (us19.getD 90 undef), (us19.getD 91 undef), (us19.getD 92 undef), (us19.getD 93 undef), (us19.getD 94 undef), (us19.getD 95 undef), (us19.getD 96 undef), (us19.getD 97 undef), (us19.getD 98 undef), (us19.getD 99 undef), (us19.getD 100 undef), (us19.getD 101 undef), undef, undef, undef, undef, undef, undef, undef, undef, undef, undef, undef, undef, undef, undef, undef, undef, undef, undef, undef, undef, undef, undef, undef, undef, undef, undef], []⟩ : Act) ∧ (BInv D V B) ∧ (D.q.length ≤ i ∧ i ≤ 24 ∧ D.pages.length = k ∧ D.armed = 0) ∧ (V.s.gen ≤ 1 + i ∧ V.s.width = width) ∧ (kn ≤ 21 * i) ∧ Mem w [] w' [disk D p pg mb qv, blk f 96 (fC V p), book B b bx, keeper kn kp kx0]) (fun a' _ => an - (intOf (a'.tmps.getD 11 undef)).toNat) ⟨0, D0, (⟨secondS width k, 2, m⟩ : FV), (⟨[], 2, 1, 0, 0, 0⟩ : BV), qv0, (⟨.slice none 0 0, .slice none 0 0, []⟩ : BX), 0, (⟨.slice none 0 0, .slice none 0 0, [], []⟩ : KX), [.bool false, undef, undef, undef, undef, undef, undef, undef, undef, undef, undef, undef, undef, undef, undef, undef, undef, undef, undef, undef, undef, undef, undef, undef, undef, undef, undef, undef, undef, undef, undef, undef, undef, undef, undef, undef, undef, undef, undef, undef, undef, undef, undef, undef, undef, undef, undef, undef, undef, undef, undef, undef, undef, undef, undef, undef, undef, undef, undef, undef, undef, undef, undef, undef, undef, undef, undef, undef, undef, undef, undef, undef, undef, undef, undef, undef, undef, undef, undef, undef, undef, undef, undef, undef, undef, undef, undef, undef, undef, undef, undef, undef, undef, undef, undef, undef, undef, undef, undef, undef, undef, undef], rfl, hBI, ⟨by rw [hq0]; exact Nat.zero_le _, by omega, hp0, ha0⟩, ⟨by show (1 : Int) ≤ 1 + ((0 : Nat) : Int); decide, rfl⟩, Nat.zero_le _, (M16.arr [2, 3, 1, 0] (by decide))⟩ ?_
  clear M16
  rintro a' w34 ⟨i, D, V, B, qv, bx, kn, kx0, us19, rfl, hB, hqi, hgi, hkn, M34⟩
  refine wp_seq_k (fun K35 hK35 => ?_)
  refine wp_seq_k (fun K36 hK36 => ?_)
  refine wp_region_lit ?_
  refine pl M34 (y_move (v := .int .i64 (i : Int)) rfl rfl rfl) ?_
  simp only [Act.put, z1, z2, z3]
  refine pl M34 (y_move (v := .slice aa an ac) rfl rfl rfl) ?_
  simp only [Act.put, z1, z2, z3]
  refine pl M34 (y_len rfl rfl rfl Try.underlying41) ?_
  simp only [Act.put, z1, z2, z3]
  rcases Decidable.em ((i : Int) < (an : Int)) with h37 | h37
  · obtain ⟨a, hget⟩ : ∃ a, avs[i]? = some a := ⟨_, List.getElem?_eq_getElem (by have := hacts.1; omega)⟩
    obtain ⟨ga, oa, hao, hra⟩ := hacts.2 i a hget
    obtain ⟨hrow, hnil, hmc, hcc⟩ := hok a (List.mem_of_getElem? hget)
    refine pl M34 (y_lss (b := true) rfl rfl rfl rfl (decide_eq_true h37)) ?_
    simp only [Act.put, z1, z2, z3]
    refine pl M34 (y_move (v := .bool true) rfl rfl rfl) ?_
    simp only [Act.put, z1, z2, z3]
    refine pl M34 (y_move (v := .int .i64 (i : Int)) rfl rfl rfl) ?_
    simp only [Act.put, z1, z2, z3]
    rcases Decidable.em ((i : Int) < 24) with h38 | h38
    · refine pl M34 (y_lss (b := true) rfl rfl rfl rfl (decide_eq_true h38)) ?_
      simp only [Act.put, z1, z2, z3]
      refine pl M34 (y_pickT (v := .bool true) rfl rfl rfl rfl) ?_
      simp only [Act.put, z1, z2, z3]
      refine wpList_nil ?_
      refine hK36 _ _ ?_
      clear hK36
      refine wp_cond_true rfl ?_
      refine wp_skip ?_
      refine hK35 _ _ ?_
      clear hK35
      refine wp_seq_k (fun K39 hK39 => ?_)
      refine wp_block ?_
      refine wp_seq_k (fun K40 hK40 => ?_)
      refine wp_seq_k (fun K41 hK41 => ?_)
      refine wp_region_lit ?_
      refine pl M34 (y_move (v := .slice aa an ac) rfl rfl rfl) ?_
      simp only [Act.put, z1, z2, z3]
      refine pl M34 (y_move (v := .int .i64 (i : Int)) rfl rfl rfl) ?_
      simp only [Act.put, z1, z2, z3]
      refine pl M34 (y_ias (r := oa + i * 3) rfl rfl (congrArg (fun z => Value.slice z an ac) hao) rfl Try.underlying41 Try.sizeOf50 (by omega) (by omega)) ?_
      simp only [Act.put, z1, z2, z3]
      refine pl M34 (y_fa (r := oa + i * 3) rfl rfl rfl Try.underlying50 rfl Try.sizeOf3 rfl) ?_
      simp only [Act.put, z1, z2, z3]
      refine pl M34 (y_loadc (v := .int .i64 a.k) rfl rfl rfl Try.isAgg3 (fun W hW => (hW.range hra (by simp)) 0 _ rfl)) ?_
      simp only [Act.put, z1, z2, z3]
      rcases Decidable.em (a.k = 4) with h42 | h42
      · refine pl M34 (y_eql (b := true) rfl rfl rfl rfl (decide_eq_true h42)) ?_
        simp only [Act.put, z1, z2, z3]
        refine wpList_nil ?_
        refine hK41 _ _ ?_
        clear hK41
        refine wp_cond_true rfl ?_
        refine wp_exit ?_
        refine hK39 _ _ ?_
        clear hK39
        refine wp_region_lit ?_
        refine pl M34 (y_move (v := .int .i64 (i : Int)) rfl rfl rfl) ?_
        simp only [Act.put, z1, z2, z3]
        refine pl M34 (y_add (r := (i : Int) + 1) rfl rfl rfl rfl (rfl) (by omega)) ?_
        simp only [Act.put, z1, z2, z3]
        refine pl M34 (y_assign (v := .int .i64 ((i : Int) + 1)) rfl rfl rfl) ?_
        simp only [Act.put, z1, z2, z3]
        refine wpList_nil ?_
        refine ⟨⟨i + 1, D, V, B, qv, bx, kn, kx0, [(us19.getD 0 undef), (us19.getD 1 undef), (us19.getD 2 undef), (us19.getD 3 undef), (us19.getD 4 undef), (us19.getD 5 undef), (us19.getD 6 undef), (us19.getD 7 undef), (us19.getD 8 undef), (us19.getD 9 undef), .int .i64 (i : Int), .slice aa an ac, .int .i64 (an : Int), .bool true, .bool true, .int .i64 (i : Int), .bool true, .bool true, .int .i64 (i : Int), .int .i64 ((i : Int) + 1), .slice aa an ac, .int .i64 (i : Int), .pointer (some ⟨ga, oa + i * 3, none⟩), .pointer (some ⟨ga, oa + i * 3, none⟩), .int .i64 a.k, .bool true, (us19.getD 26 undef), (us19.getD 27 undef), (us19.getD 28 undef), (us19.getD 29 undef), (us19.getD 30 undef), (us19.getD 31 undef), (us19.getD 32 undef), (us19.getD 33 undef), (us19.getD 34 undef), (us19.getD 35 undef), (us19.getD 36 undef), (us19.getD 37 undef), (us19.getD 38 undef), (us19.getD 39 undef), (us19.getD 40 undef), (us19.getD 41 undef), (us19.getD 42 undef), (us19.getD 43 undef), (us19.getD 44 undef), (us19.getD 45 undef), (us19.getD 46 undef), (us19.getD 47 undef), (us19.getD 48 undef), (us19.getD 49 undef), (us19.getD 50 undef), (us19.getD 51 undef), (us19.getD 52 undef), (us19.getD 53 undef), (us19.getD 54 undef), (us19.getD 55 undef), (us19.getD 56 undef), (us19.getD 57 undef), (us19.getD 58 undef), (us19.getD 59 undef), (us19.getD 60 undef), (us19.getD 61 undef), (us19.getD 62 undef), (us19.getD 63 undef), (us19.getD 64 undef), (us19.getD 65 undef), (us19.getD 66 undef), (us19.getD 67 undef), (us19.getD 68 undef), (us19.getD 69 undef), (us19.getD 70 undef), (us19.getD 71 undef), (us19.getD 72 undef), (us19.getD 73 undef), (us19.getD 74 undef), (us19.getD 75 undef), (us19.getD 76 undef), (us19.getD 77 undef), (us19.getD 78 undef), (us19.getD 79 undef), (us19.getD 80 undef), (us19.getD 81 undef), (us19.getD 82 undef), (us19.getD 83 undef), (us19.getD 84 undef), (us19.getD 85 undef), (us19.getD 86 undef), (us19.getD 87 undef), (us19.getD 88 undef), (us19.getD 89 undef), (us19.getD 90 undef), (us19.getD 91 undef), (us19.getD 92 undef), (us19.getD 93 undef), (us19.getD 94 undef), (us19.getD 95 undef), (us19.getD 96 undef), (us19.getD 97 undef), (us19.getD 98 undef), (us19.getD 99 undef), (us19.getD 100 undef), (us19.getD 101 undef)], rfl, (by first | exact hB2.rdx _ | exact hB), (by first | exact ⟨by show E.q.length ≤ i + 1; have := hkept.que; omega, by omega, by show E.pages.length = k; have := hkept.pages; omega, harm2⟩ | exact ⟨by omega, by omega, hqi.2.2.1, hqi.2.2.2⟩), ⟨by first | (have := hkept.gen; omega) | omega, by first | (rw [hkept.width]; exact hgi.2) | exact hgi.2⟩, (by omega), (M34.arr [0, 1, 2, 3] (by decide))⟩, ?_⟩
        simp [intOf]; omega
      · have hk4 : a.k ≠ 4 := h42
        refine pl M34 (y_eql (b := false) rfl rfl rfl rfl (decide_eq_false h42)) ?_
        simp only [Act.put, z1, z2, z3]
        refine wpList_nil ?_
        refine hK41 _ _ ?_
        clear hK41
        refine wp_cond_false rfl ?_
        refine wp_skip ?_
        refine hK40 _ _ ?_
        clear hK40
        refine wp_seq_k (fun K43 hK43 => ?_)
        refine wp_region_lit ?_
        refine pl M34 (y_move (v := .pointer (some ⟨b, 0, none⟩)) rfl rfl rfl) ?_
        simp only [Act.put, z1, z2, z3]
        refine pl M34 (y_move (v := .pointer (some ⟨p, 0, none⟩)) rfl rfl rfl) ?_
        simp only [Act.put, z1, z2, z3]
        refine pl M34 (y_move (v := .pointer (some ⟨f, 0, none⟩)) rfl rfl rfl) ?_
        simp only [Act.put, z1, z2, z3]
        refine pl M34 (y_move (v := .slice aa an ac) rfl rfl rfl) ?_
        simp only [Act.put, z1, z2, z3]
        refine pl M34 (y_move (v := .int .i64 (i : Int)) rfl rfl rfl) ?_
        simp only [Act.put, z1, z2, z3]
        refine pl M34 (y_ias (r := oa + i * 3) rfl rfl (congrArg (fun z => Value.slice z an ac) hao) rfl Try.underlying41 Try.sizeOf50 (by omega) (by omega)) ?_
        simp only [Act.put, z1, z2, z3]
        refine pl M34 (y_loadr (cs := (actC a)) rfl rfl rfl Try.underlying50 rfl (size_act a) (fun W hW => hW.range hra (by simp))) ?_
        simp only [Act.put, z1, z2, z3]
        have hX44 : Mem w [] w34 ([disk D p pg mb qv, blk f 96 (fC V p), book B b bx] ++ [keeper kn kp kx0]) := M34.arr [0, 1, 2, 3] (by decide)
        refine pe rfl (fun K hK => ?_)
        refine e_call 27 [.pointer (some ⟨b, 0, none⟩), .pointer (some ⟨p, 0, none⟩), .pointer (some ⟨f, 0, none⟩), .agg ((actC a)).toArray] rfl rfl Try.call27 (bact_any (Mem.here hX44) a.k a.n a.ao a.m a.c a.l (M34.row hrow (by simp)) (hX44.left.off_row hrow) (by omega) hB (by omega) (by omega)) ?_
        rintro e w44 ⟨er, E, V2, B2, qv2, bx2, rfl, H44, hout⟩
        have M44 : Mem w [] w44 [disk E p pg mb qv2, blk f 96 (fC V2 p), book B2 b bx2, keeper kn kp kx0] := Mem.frame hX44 H44
        obtain ⟨her, hkept, hB2, harm2⟩ := hout.good ⟨hk4, hqi.2.2.2⟩
        refine ⟨_, rfl, ?_⟩
        refine hK.out _ _ ?_
        clear hK K
        simp only [Act.put, z1, z2, z3]
        refine pl M44 (y_move (v := .tuple #[.int .i64 er, .bool true]) rfl rfl rfl) ?_
        simp only [Act.put, z1, z2, z3]
        refine pl M44 (y_ext (v := .int .i64 er) rfl rfl rfl rfl) ?_
        simp only [Act.put, z1, z2, z3]
        refine pl M44 (y_ext (v := .bool true) rfl rfl rfl rfl) ?_
        simp only [Act.put, z1, z2, z3]
        refine pl M44 (y_assign (v := .int .i64 er) rfl rfl rfl) ?_
        simp only [Act.put, z1, z2, z3]
        refine pl M44 (y_assign (v := .bool true) rfl rfl rfl) ?_
        simp only [Act.put, z1, z2, z3]
        refine wpList_nil ?_
        refine hK43 _ _ ?_
        clear hK43
        refine wp_seq_k (fun K45 hK45 => ?_)
        refine wp_seq_k (fun K46 hK46 => ?_)
        refine wp_region_lit ?_
        refine pl M44 (y_move (v := .bool true) rfl rfl rfl) ?_
        simp only [Act.put, z1, z2, z3]
        refine pl M44 (y_not rfl rfl rfl rfl) ?_
        simp only [Act.put, z1, z2, z3]
        refine pl M44 (y_move (v := .bool false) rfl rfl rfl) ?_
        simp only [Act.put, z1, z2, z3]
        refine pl M44 (y_move (v := .pointer (some ⟨b, 0, none⟩)) rfl rfl rfl) ?_
        simp only [Act.put, z1, z2, z3]
        refine pl M44 (y_move (v := .pointer (some ⟨f, 0, none⟩)) rfl rfl rfl) ?_
        simp only [Act.put, z1, z2, z3]
        refine pl M44 (y_move (v := .pointer (some ⟨f, 0, none⟩)) rfl rfl rfl) ?_
        simp only [Act.put, z1, z2, z3]
        have hX47 : Mem w [] w44 ([disk E p pg mb qv2, blk f 96 (fC V2 p)] ++ [book B2 b bx2, keeper kn kp kx0]) := M44.arr [0, 1, 2, 3] (by decide)
        refine pe rfl (fun K hK => ?_)
        refine e_call 20 [.pointer (some ⟨f, 0, none⟩)] rfl rfl Try.call20 (next_any (Mem.here hX47)) ?_
        rintro e w47 ⟨rfl, H47⟩
        have M47 : Mem w [] w47 [disk E p pg mb qv2, blk f 96 (fC V2 p), book B2 b bx2, keeper kn kp kx0] := Mem.frame hX47 H47
        refine ⟨_, rfl, ?_⟩
        refine hK.out _ _ ?_
        clear hK K
        simp only [Act.put, z1, z2, z3]
        have hX48 : Mem w [] w47 ([disk E p pg mb qv2, blk f 96 (fC V2 p), book B2 b bx2] ++ [keeper kn kp kx0]) := M47.arr [0, 1, 2, 3] (by decide)
        refine pe rfl (fun K hK => ?_)
        refine e_call 29 [.pointer (some ⟨b, 0, none⟩), .pointer (some ⟨f, 0, none⟩), .int .i64 V2.next] rfl rfl Try.call29 (bholds_int (Mem.here hX48) (B := B2) hB2.inv V2.next (by have h8 := hB2.inv.lo; have h9 := hB2.inv.plat.mark2; omega) (Int.le_refl _)) ?_
        rintro e w48 ⟨r1, rfl, H48⟩
        have M48 : Mem w [] w48 [disk (E.rd r1) p pg mb qv2, blk f 96 (fC V2 p), book B2 b bx2, keeper kn kp kx0] := Mem.frame hX48 H48
        refine ⟨_, rfl, ?_⟩
        refine hK.out _ _ ?_
        clear hK K
        simp only [Act.put, z1, z2, z3]
        refine pl M48 (y_not rfl rfl rfl rfl) ?_
        simp only [Act.put, z1, z2, z3]
        refine pl M48 (y_pickF (v := .bool false) rfl rfl rfl rfl) ?_
        simp only [Act.put, z1, z2, z3]
        refine wpList_nil ?_
        refine hK46 _ _ ?_
        clear hK46
        refine wp_cond_false rfl ?_
        refine wp_skip ?_
        refine hK45 _ _ ?_
        clear hK45
        refine wp_seq_k (fun K49 hK49 => ?_)
        refine wp_region_lit ?_
        refine pl M48 (y_move (v := .pointer (some ⟨p, 0, none⟩)) rfl rfl rfl) ?_
        simp only [Act.put, z1, z2, z3]
        have hpk : E.pages.length = k := by have := hkept.pages; omega
        have hX50 : Mem w [] w48 ([disk (E.rd r1) p pg mb qv2] ++ [blk f 96 (fC V2 p), book B2 b bx2, keeper kn kp kx0]) := M48.arr [0, 1, 2, 3] (by decide)
        refine pe rfl (fun K hK => ?_)
        refine e_call 30 [.pointer (some ⟨p, 0, none⟩)] rfl rfl Try.call30 (image_fit (Mem.here hX50) hpk (by omega)) ?_
        rintro e w50 ⟨gia, cia, rfl, H50, hcia, hcma⟩
        have M50 : Mem w [] w50 [disk (E.rd r1) p pg mb qv2, lst 5 1 (.slice (some ⟨gia, 0, none⟩) (256 * k) cia) (256 * k) (bvs (E.rd r1).pages.flatten), blk f 96 (fC V2 p), book B2 b bx2, keeper kn kp kx0] := Mem.frame hX50 H50
        refine ⟨_, rfl, ?_⟩
        refine hK.out _ _ ?_
        clear hK K
        simp only [Act.put, z1, z2, z3]
        refine pl M50 (y_assign (v := .slice (some ⟨gia, 0, none⟩) (256 * k) cia) rfl rfl rfl) ?_
        simp only [Act.put, z1, z2, z3]
        refine wpList_nil ?_
        refine hK49 _ _ ?_
        clear hK49
        refine wp_seq_k (fun K51 hK51 => ?_)
        refine wp_seq_k (fun K52 hK52 => ?_)
        refine wp_region_lit ?_
        refine pl M50 (y_move (v := .slice (some ⟨gia, 0, none⟩) (256 * k) cia) rfl rfl rfl) ?_
        simp only [Act.put, z1, z2, z3]
        refine pl M50 (y_len rfl rfl rfl Try.underlying22) ?_
        simp only [Act.put, z1, z2, z3]
        refine pl M50 (y_move (v := .int .i64 (k : Int)) rfl rfl rfl) ?_
        simp only [Act.put, z1, z2, z3]
        refine pl M50 (y_mul (r := ((256 * k : Nat) : Int)) rfl rfl rfl rfl (by omega) (by omega)) ?_
        simp only [Act.put, z1, z2, z3]
        refine pl M50 (y_neq (b := false) rfl rfl rfl rfl (by rw [decide_eq_true rfl]; rfl)) ?_
        simp only [Act.put, z1, z2, z3]
        refine wpList_nil ?_
        refine hK52 _ _ ?_
        clear hK52
        refine wp_cond_false rfl ?_
        refine wp_skip ?_
        refine hK51 _ _ ?_
        clear hK51
        refine wp_seq_k (fun K53 hK53 => ?_)
        refine wp_region_lit ?_
        refine pl M50 (y_move (v := .pointer (some ⟨kp, 0, none⟩)) rfl rfl rfl) ?_
        simp only [Act.put, z1, z2, z3]
        refine pl M50 (y_move (v := .slice (some ⟨gia, 0, none⟩) (256 * k) cia) rfl rfl rfl) ?_
        simp only [Act.put, z1, z2, z3]
        have hX54 : Mem w [] w50 ([keeper kn kp kx0, lst 5 1 (.slice (some ⟨gia, 0, none⟩) (256 * k) cia) (256 * k) (bvs (E.rd r1).pages.flatten)] ++ [disk (E.rd r1) p pg mb qv2, blk f 96 (fC V2 p), book B2 b bx2]) := M50.arr [4, 1, 0, 2, 3] (by decide)
        refine pe rfl (fun K hK => ?_)
        refine e_call 31 [.pointer (some ⟨kp, 0, none⟩), .slice (some ⟨gia, 0, none⟩) (256 * k) cia] rfl rfl Try.call31 (keep_l (Mem.here hX54) (by omega) (by omega)) ?_
        rintro e w54 ⟨kxa, rfl, H54⟩
        have M54 : Mem w [] w54 [keeper (kn + 1) kp kxa, disk (E.rd r1) p pg mb qv2, blk f 96 (fC V2 p), book B2 b bx2] := Mem.frame hX54 H54
        refine ⟨_, rfl, ?_⟩
        refine hK.out _ _ ?_
        clear hK K
        simp only [Act.put, z1, z2, z3]
        refine wpList_nil ?_
        refine hK53 _ _ ?_
        clear hK53
        refine wp_seq_k (fun K55 hK55 => ?_)
        refine wp_region_lit ?_
        refine pl M54 (y_move (v := .pointer (some ⟨f, 0, none⟩)) rfl rfl rfl) ?_
        simp only [Act.put, z1, z2, z3]
        have hX56 : Mem w [] w54 ([disk (E.rd r1) p pg mb qv2, blk f 96 (fC V2 p)] ++ [keeper (kn + 1) kp kxa, book B2 b bx2]) := M54.arr [1, 2, 0, 3] (by decide)
        refine pe rfl (fun K hK => ?_)
        refine e_call 20 [.pointer (some ⟨f, 0, none⟩)] rfl rfl Try.call20 (next_any (Mem.here hX56)) ?_
        rintro e w56 ⟨rfl, H56⟩
        have M56 : Mem w [] w56 [disk (E.rd r1) p pg mb qv2, blk f 96 (fC V2 p), keeper (kn + 1) kp kxa, book B2 b bx2] := Mem.frame hX56 H56
        refine ⟨_, rfl, ?_⟩
        refine hK.out _ _ ?_
        clear hK K
        simp only [Act.put, z1, z2, z3]
        refine pl M56 (y_assign (v := .int .i64 V2.next) rfl rfl rfl) ?_
        simp only [Act.put, z1, z2, z3]
        refine wpList_nil ?_
        refine hK55 _ _ ?_
        clear hK55
        refine wp_seq_k (fun K57 hK57 => ?_)
        refine wp_seq_k (fun K58 hK58 => ?_)
        refine wp_region_lit ?_
        obtain ⟨lv, kv, vs⟩ := bx2
        have M59 : Mem w [] w56 [blk b 48 (bC B2 ⟨lv, kv, vs⟩), rows lv vs B2.loads, lst 3 1 kv B2.ps.length B2.kinds, disk (E.rd r1) p pg mb qv2, blk f 96 (fC V2 p), keeper (kn + 1) kp kxa] := book_open (M56.arr [3, 0, 1, 2] (by decide))
        clear M56
        obtain ⟨la, lc, hlv, hlc⟩ := rows_val (M59.get 1 rfl)
        have hkl := hB2.inv.lenN
        have hnp := hB2.inv.nextp
        have hbl := B2.loads_len
        have hmk2 := hB2.inv.plat.mark2
        have hlo2 := hB2.inv.lo
        refine pl M59 (y_move (v := .int .i64 V2.next) rfl rfl rfl) ?_
        simp only [Act.put, z1, z2, z3]
        refine pl M59 (y_sub (r := V2.next - 2) rfl rfl rfl rfl (rfl) (by omega)) ?_
        simp only [Act.put, z1, z2, z3]
        refine pl M59 (y_move (v := .pointer (some ⟨b, 0, none⟩)) rfl rfl rfl) ?_
        simp only [Act.put, z1, z2, z3]
        refine pl M59 (y_nil rfl rfl rfl) ?_
        simp only [Act.put, z1, z2, z3]
        refine pl M59 (y_fa (r := 0) rfl rfl rfl Try.underlying48 rfl Try.sizeOf45 rfl) ?_
        simp only [Act.put, z1, z2, z3]
        refine pl M59 (y_load (v := lv) rfl rfl rfl Try.isAgg45 (fun W hW => hW.get 0 rfl) (rfl)) ?_
        simp only [Act.put, z1, z2, z3]
        refine pl M59 (y_len rfl rfl hlv Try.underlying45) ?_
        simp only [Act.put, z1, z2, z3]
        refine pl M59 (y_gtr (b := false) rfl rfl rfl rfl (decide_eq_false (by omega))) ?_
        simp only [Act.put, z1, z2, z3]
        refine wpList_nil ?_
        refine hK58 _ _ ?_
        clear hK58
        refine wp_cond_false rfl ?_
        refine wp_skip ?_
        refine hK57 _ _ ?_
        clear hK57
        refine wp_seq_k (fun K60 hK60 => ?_)
        refine wp_region_lit ?_
        refine pl M59 (y_assign (v := .int .i64 2) rfl rfl rfl) ?_
        simp only [Act.put, z1, z2, z3]
        refine wpList_nil ?_
        refine hK60 _ _ ?_
        clear hK60
        refine wp_block ?_
        refine wp_loop (fun a' w' => ∃ (j : Nat) (rr : Int) (kn2 : Nat) (kx2 : KX) (us61 : List Value), a' = (⟨#[.int .i64 (k : Int), .int .i64 width, .slice aa an ac, undef, undef, undef, (us61.getD 0 undef), .pointer (some ⟨p, 0, none⟩), .pointer (some ⟨f, 0, none⟩), .pointer (some ⟨b, 0, none⟩), .pointer (some ⟨kp, 0, none⟩), .int .i64 (i : Int), .int .i64 er, .bool true, .slice (some ⟨gia, 0, none⟩) (256 * k) cia, .int .i64 V2.next, .int .i64 (j : Int), (us61.getD 1 undef), (us61.getD 2 undef), (us61.getD 3 undef), (us61.getD 4 undef), undef, undef, .int .i64 (k : Int), .int .i64 width, .bool true, .bool false, .bool false, .int .i64 (k : Int), .bool false, .bool false, .tuple #[.pointer (some ⟨p, 0, none⟩), .pointer (some ⟨f, 0, none⟩)], .int .i64 (k : Int), .int .i64 width, .tuple #[.pointer (some ⟨p, 0, none⟩), .pointer (some ⟨f, 0, none⟩)], .pointer (some ⟨p, 0, none⟩), .pointer (some ⟨f, 0, none⟩), .pointer (some ⟨f, 0, none⟩), .bool false, .agg ((bC (⟨[], 2, 1, 0, 0, 0⟩ : BV) (⟨.slice none 0 0, .slice none 0 0, []⟩ : BX))).toArray, .pointer (some ⟨b, 0, none⟩), .agg ([.slice none 0 0, .slice none 0 0]).toArray, .pointer (some ⟨kp, 0, none⟩), .int .i64 (i : Int), .slice aa an ac, .int .i64 (an : Int), .bool true, .bool true, .int .i64 (i : Int), .bool true, .bool true, (us19.getD 18 undef), (us19.getD 19 undef), .slice aa an ac, .int .i64 (i : Int), .pointer (some ⟨ga, oa + i * 3, none⟩), .pointer (some ⟨ga, oa + i * 3, none⟩), .int .i64 a.k, .bool false, .tuple #[.int .i64 er, .bool true], .pointer (some ⟨b, 0, none⟩), .pointer (some ⟨p, 0, none⟩), .pointer (some ⟨f, 0, none⟩), .slice aa an ac, .int .i64 (i : Int), .pointer (some ⟨ga, oa + i * 3, none⟩), .agg ((actC a)).toArray, .tuple #[.int .i64 er, .bool true], .int .i64 er, .bool true, .bool true, .bool false, .bool false, .pointer (some ⟨b, 0, none⟩), .pointer (some ⟨f, 0, none⟩), .pointer (some ⟨f, 0, none⟩), .int .i64 V2.next, .bool true, .bool false, .bool false, .pointer (some ⟨p, 0, none⟩), .slice (some ⟨gia, 0, none⟩) (256 * k) cia, .slice (some ⟨gia, 0, none⟩) (256 * k) cia, .int .i64 ((256 * k : Nat) : Int), .int .i64 (k : Int), .int .i64 ((256 * k : Nat) : Int), .bool false, .pointer (some ⟨kp, 0, none⟩), .slice (some ⟨gia, 0, none⟩) (256 * k) cia, .tuple #[], .pointer (some ⟨f, 0, none⟩), .int .i64 V2.next, .int .i64 V2.next, .int .i64 (V2.next - 2), .pointer (some ⟨b, 0, none⟩), .pointer (some ⟨b, 0, none⟩), .pointer (some ⟨b, 0, none⟩), lv, .int .i64 (B2.loads.length : Int), .bool false, (us61.getD 5 undef), (us61.getD 6 undef), (us61.getD 7 undef), (us61.getD 8 undef), (us61.getD 9 undef), (us61.getD 10 undef), (us61.getD 11 undef), (us61.getD 12 undef), (us61.getD 13 undef), (us61.getD 14 undef), (us61.getD 15 undef), (us61.getD 16 undef), (us61.getD 17 undef), (us61.getD 18 undef), (us61.getD 19 undef), (us61.getD 20 undef), (us61.getD 21 undef), (us61.getD 22 undef), (us61.getD 23 undef), (us61.getD 24 undef), (us61.getD 25 undef), (us61.getD 26 undef), (us61.getD 27 undef), (us61.getD 28 undef), (us61.getD 29 undef), (us61.getD 30 undef), (us61.getD 31 undef), (us61.getD 32 undef), (us61.getD 33 undef), (us61.getD 34 undef), (us61.getD 35 undef), (us61.getD 36 undef), (us61.getD 37 undef), (us61.getD 38 undef), (us61.getD 39 undef), undef, undef, undef, undef, undef, undef, undef, undef, undef, undef, undef, undef, undef, undef, undef, undef, undef, undef, undef, undef, undef, undef, undef, undef, undef, undef], []⟩ : Act) ∧ (2 ≤ j ∧ (j : Int) ≤ V2.next) ∧ (kn2 + 4 ≤ kn + 1 + 2 * j) ∧ Mem w [] w' [disk (E.rd rr) p pg mb qv2, blk f 96 (fC V2 p), blk b 48 (bC B2 ⟨lv, kv, vs⟩), rows lv vs B2.loads, lst 3 1 kv B2.ps.length B2.kinds, keeper kn2 kp kx2]) (fun a' _ => V2.next.toNat - (intOf (a'.tmps.getD 16 undef)).toNat) ⟨2, r1, kn + 1, kxa, [(us19.getD 0 undef), (us19.getD 6 undef), (us19.getD 7 undef), (us19.getD 8 undef), (us19.getD 9 undef), (us19.getD 67 undef), (us19.getD 68 undef), (us19.getD 69 undef), (us19.getD 70 undef), (us19.getD 71 undef), (us19.getD 72 undef), (us19.getD 73 undef), (us19.getD 74 undef), (us19.getD 75 undef), (us19.getD 76 undef), (us19.getD 77 undef), (us19.getD 78 undef), (us19.getD 79 undef), (us19.getD 80 undef), (us19.getD 81 undef), (us19.getD 82 undef), (us19.getD 83 undef), (us19.getD 84 undef), (us19.getD 85 undef), (us19.getD 86 undef), (us19.getD 87 undef), (us19.getD 88 undef), (us19.getD 89 undef), (us19.getD 90 undef), (us19.getD 91 undef), (us19.getD 92 undef), (us19.getD 93 undef), (us19.getD 94 undef), (us19.getD 95 undef), (us19.getD 96 undef), (us19.getD 97 undef), (us19.getD 98 undef), (us19.getD 99 undef), (us19.getD 100 undef), (us19.getD 101 undef)], rfl, ⟨by omega, by omega⟩, (by omega), (M59.arr [3, 4, 0, 1, 2, 5] (by decide))⟩ ?_
        clear M59
        rintro a' w62 ⟨j, rr, kn2, kx2, us61, rfl, hj, hkn2, M62⟩
        refine wp_seq_k (fun K63 hK63 => ?_)
        refine wp_seq_k (fun K64 hK64 => ?_)
        refine wp_region_lit ?_
        refine pl M62 (y_move (v := .int .i64 (j : Int)) rfl rfl rfl) ?_
        simp only [Act.put, z1, z2, z3]
        refine pl M62 (y_move (v := .int .i64 V2.next) rfl rfl rfl) ?_
        simp only [Act.put, z1, z2, z3]
        rcases Decidable.em ((j : Int) < V2.next) with h65 | h65
        · have hib : j - 2 < B2.ps.length := by omega
          obtain ⟨gl, cl, ao, nn, hl, hv, hlen, hfo⟩ := rows_pt (M62.get 3 rfl) (i := j - 2) (by rw [B2.loads_len]; exact hib)
          rw [B2.load_at] at hv hlen
          have hpgl := pg_len hB2.inv (n := j) (by omega) (by omega)
          refine pl M62 (y_lss (b := true) rfl rfl rfl rfl (decide_eq_true h65)) ?_
          simp only [Act.put, z1, z2, z3]
          refine wpList_nil ?_
          refine hK64 _ _ ?_
          clear hK64
          refine wp_cond_true rfl ?_
          refine wp_skip ?_
          refine hK63 _ _ ?_
          clear hK63
          refine wp_seq_k (fun K66 hK66 => ?_)
          refine wp_block ?_
          refine wp_seq_k (fun K67 hK67 => ?_)
          refine wp_region_lit ?_
          refine pl M62 (y_assign (v := .int .i64 0) rfl rfl rfl) ?_
          simp only [Act.put, z1, z2, z3]
          refine wpList_nil ?_
          refine hK67 _ _ ?_
          clear hK67
          refine wp_block ?_
          refine wp_loop (fun a' w' => ∃ (t : Nat) (r3 : Int) (kn3 : Nat) (kx3 : KX) (us68 : List Value), a' = (⟨#[.int .i64 (k : Int), .int .i64 width, .slice aa an ac, undef, undef, undef, (us68.getD 0 undef), .pointer (some ⟨p, 0, none⟩), .pointer (some ⟨f, 0, none⟩), .pointer (some ⟨b, 0, none⟩), .pointer (some ⟨kp, 0, none⟩), .int .i64 (i : Int), .int .i64 er, .bool true, .slice (some ⟨gia, 0, none⟩) (256 * k) cia, .int .i64 V2.next, .int .i64 (j : Int), .int .i64 (t : Int), (us68.getD 1 undef), (us68.getD 2 undef), (us68.getD 3 undef), undef, undef, .int .i64 (k : Int), .int .i64 width, .bool true, .bool false, .bool false, .int .i64 (k : Int), .bool false, .bool false, .tuple #[.pointer (some ⟨p, 0, none⟩), .pointer (some ⟨f, 0, none⟩)], .int .i64 (k : Int), .int .i64 width, .tuple #[.pointer (some ⟨p, 0, none⟩), .pointer (some ⟨f, 0, none⟩)], .pointer (some ⟨p, 0, none⟩), .pointer (some ⟨f, 0, none⟩), .pointer (some ⟨f, 0, none⟩), .bool false, .agg ((bC (⟨[], 2, 1, 0, 0, 0⟩ : BV) (⟨.slice none 0 0, .slice none 0 0, []⟩ : BX))).toArray, .pointer (some ⟨b, 0, none⟩), .agg ([.slice none 0 0, .slice none 0 0]).toArray, .pointer (some ⟨kp, 0, none⟩), .int .i64 (i : Int), .slice aa an ac, .int .i64 (an : Int), .bool true, .bool true, .int .i64 (i : Int), .bool true, .bool true, (us19.getD 18 undef), (us19.getD 19 undef), .slice aa an ac, .int .i64 (i : Int), .pointer (some ⟨ga, oa + i * 3, none⟩), .pointer (some ⟨ga, oa + i * 3, none⟩), .int .i64 a.k, .bool false, .tuple #[.int .i64 er, .bool true], .pointer (some ⟨b, 0, none⟩), .pointer (some ⟨p, 0, none⟩), .pointer (some ⟨f, 0, none⟩), .slice aa an ac, .int .i64 (i : Int), .pointer (some ⟨ga, oa + i * 3, none⟩), .agg ((actC a)).toArray, .tuple #[.int .i64 er, .bool true], .int .i64 er, .bool true, .bool true, .bool false, .bool false, .pointer (some ⟨b, 0, none⟩), .pointer (some ⟨f, 0, none⟩), .pointer (some ⟨f, 0, none⟩), .int .i64 V2.next, .bool true, .bool false, .bool false, .pointer (some ⟨p, 0, none⟩), .slice (some ⟨gia, 0, none⟩) (256 * k) cia, .slice (some ⟨gia, 0, none⟩) (256 * k) cia, .int .i64 ((256 * k : Nat) : Int), .int .i64 (k : Int), .int .i64 ((256 * k : Nat) : Int), .bool false, .pointer (some ⟨kp, 0, none⟩), .slice (some ⟨gia, 0, none⟩) (256 * k) cia, .tuple #[], .pointer (some ⟨f, 0, none⟩), .int .i64 V2.next, .int .i64 V2.next, .int .i64 (V2.next - 2), .pointer (some ⟨b, 0, none⟩), .pointer (some ⟨b, 0, none⟩), .pointer (some ⟨b, 0, none⟩), lv, .int .i64 (B2.loads.length : Int), .bool false, .int .i64 (j : Int), .int .i64 V2.next, .bool true, (us61.getD 8 undef), (us61.getD 9 undef), (us68.getD 4 undef), (us68.getD 5 undef), (us68.getD 6 undef), (us68.getD 7 undef), (us68.getD 8 undef), (us68.getD 9 undef), (us68.getD 10 undef), (us68.getD 11 undef), (us68.getD 12 undef), (us68.getD 13 undef), (us68.getD 14 undef), (us68.getD 15 undef), (us68.getD 16 undef), (us68.getD 17 undef), (us68.getD 18 undef), (us68.getD 19 undef), (us68.getD 20 undef), (us68.getD 21 undef), (us68.getD 22 undef), (us68.getD 23 undef), (us68.getD 24 undef), (us68.getD 25 undef), (us68.getD 26 undef), (us68.getD 27 undef), (us68.getD 28 undef), (us68.getD 29 undef), (us68.getD 30 undef), (us68.getD 31 undef), (us68.getD 32 undef), (us68.getD 33 undef), undef, undef, undef, undef, undef, undef, undef, undef, undef, undef, undef, undef, undef, undef, undef, undef, undef, undef, undef, undef, undef, undef, undef, undef, undef, undef], []⟩ : Act) ∧ (t ≤ 2) ∧ (kn3 ≤ kn2 + t) ∧ Mem w [] w' [disk (E.rd r3) p pg mb qv2, blk f 96 (fC V2 p), blk b 48 (bC B2 ⟨lv, kv, vs⟩), rows lv vs B2.loads, lst 3 1 kv B2.ps.length B2.kinds, keeper kn3 kp kx3]) (fun a' _ => 2 - (intOf (a'.tmps.getD 17 undef)).toNat) ⟨0, rr, kn2, kx2, [(us61.getD 0 undef), (us61.getD 2 undef), (us61.getD 3 undef), (us61.getD 4 undef), (us61.getD 10 undef), (us61.getD 11 undef), (us61.getD 12 undef), (us61.getD 13 undef), (us61.getD 14 undef), (us61.getD 15 undef), (us61.getD 16 undef), (us61.getD 17 undef), (us61.getD 18 undef), (us61.getD 19 undef), (us61.getD 20 undef), (us61.getD 21 undef), (us61.getD 22 undef), (us61.getD 23 undef), (us61.getD 24 undef), (us61.getD 25 undef), (us61.getD 26 undef), (us61.getD 27 undef), (us61.getD 28 undef), (us61.getD 29 undef), (us61.getD 30 undef), (us61.getD 31 undef), (us61.getD 32 undef), (us61.getD 33 undef), (us61.getD 34 undef), (us61.getD 35 undef), (us61.getD 36 undef), (us61.getD 37 undef), (us61.getD 38 undef), (us61.getD 39 undef)], rfl, Nat.zero_le _, Nat.le_refl _, (M62.arr [0, 1, 2, 3, 4, 5] (by decide))⟩ ?_
          clear M62
          rintro a' w69 ⟨t, r3, kn3, kx3, us68, rfl, ht, hkn3, M69⟩
          refine wp_seq_k (fun K70 hK70 => ?_)
          refine wp_seq_k (fun K71 hK71 => ?_)
          refine wp_region_lit ?_
          refine pl M69 (y_move (v := .int .i64 (t : Int)) rfl rfl rfl) ?_
          simp only [Act.put, z1, z2, z3]
          rcases Decidable.em ((t : Int) < 2) with h72 | h72
          · refine pl M69 (y_lss (b := true) rfl rfl rfl rfl (decide_eq_true h72)) ?_
            simp only [Act.put, z1, z2, z3]
            refine wpList_nil ?_
            refine hK71 _ _ ?_
            clear hK71
            refine wp_cond_true rfl ?_
            refine wp_skip ?_
            refine hK70 _ _ ?_
            clear hK70
            refine wp_seq_k (fun K73 hK73 => ?_)
            refine wp_block ?_
            refine wp_seq_k (fun K74 hK74 => ?_)
            refine wp_region_lit ?_
            refine pl M69 (y_move (v := .pointer (some ⟨f, 0, none⟩)) rfl rfl rfl) ?_
            simp only [Act.put, z1, z2, z3]
            refine pl M69 (y_move (v := .int .i64 (j : Int)) rfl rfl rfl) ?_
            simp only [Act.put, z1, z2, z3]
            have hX75 : Mem w [] w69 ([disk (E.rd r3) p pg mb qv2, blk f 96 (fC V2 p)] ++ [blk b 48 (bC B2 ⟨lv, kv, vs⟩), rows lv vs B2.loads, lst 3 1 kv B2.ps.length B2.kinds, keeper kn3 kp kx3]) := M69.arr [0, 1, 2, 3, 4, 5] (by decide)
            refine pe rfl (fun K hK => ?_)
            refine e_call 25 [.pointer (some ⟨f, 0, none⟩), .int .i64 (j : Int)] rfl rfl Try.call25 (fread_fit (Mem.here hX75) (hB2.inv.rd _) j (by omega) (by omega)) ?_
            rintro e w75 ⟨a2, c2, r4, rfl, H75, hr4⟩
            have M75 : Mem w [] w75 [disk (E.rd r4) p pg mb qv2, blk f 96 (fC V2 p), bytesL (.slice a2 (pgAt B2.ps j).2.length c2) (pgAt B2.ps j).2, blk b 48 (bC B2 ⟨lv, kv, vs⟩), rows lv vs B2.loads, lst 3 1 kv B2.ps.length B2.kinds, keeper kn3 kp kx3] := Mem.frame hX75 H75
            refine ⟨_, rfl, ?_⟩
            refine hK.out _ _ ?_
            clear hK K
            simp only [Act.put, z1, z2, z3]
            refine pl M75 (y_move (v := .tuple #[.int .i64 ((pgAt B2.ps j).1 : Int), .slice a2 ((pgAt B2.ps j).2.length) c2, .int .i64 0]) rfl rfl rfl) ?_
            simp only [Act.put, z1, z2, z3]
            refine pl M75 (y_ext (v := .int .i64 ((pgAt B2.ps j).1 : Int)) rfl rfl rfl rfl) ?_
            simp only [Act.put, z1, z2, z3]
            refine pl M75 (y_ext (v := .slice a2 ((pgAt B2.ps j).2.length) c2) rfl rfl rfl rfl) ?_
            simp only [Act.put, z1, z2, z3]
            refine pl M75 (y_ext (v := .int .i64 0) rfl rfl rfl rfl) ?_
            simp only [Act.put, z1, z2, z3]
            refine pl M75 (y_assign (v := .int .i64 ((pgAt B2.ps j).1 : Int)) rfl rfl rfl) ?_
            simp only [Act.put, z1, z2, z3]
            refine pl M75 (y_assign (v := .slice a2 ((pgAt B2.ps j).2.length) c2) rfl rfl rfl) ?_
            simp only [Act.put, z1, z2, z3]
            refine pl M75 (y_assign (v := .int .i64 0) rfl rfl rfl) ?_
            simp only [Act.put, z1, z2, z3]
            refine wpList_nil ?_
            refine hK74 _ _ ?_
            clear hK74
            refine wp_seq_k (fun K76 hK76 => ?_)
            refine wp_seq_k (fun K77 hK77 => ?_)
            refine wp_region_lit ?_
            refine pl M75 (y_move (v := .int .i64 0) rfl rfl rfl) ?_
            simp only [Act.put, z1, z2, z3]
            refine pl M75 (y_neq (b := false) rfl rfl rfl rfl (by rw [decide_eq_true (by decide)]; rfl)) ?_
            simp only [Act.put, z1, z2, z3]
            refine pl M75 (y_move (v := .bool false) rfl rfl rfl) ?_
            simp only [Act.put, z1, z2, z3]
            refine pl M75 (y_move (v := .slice a2 ((pgAt B2.ps j).2.length) c2) rfl rfl rfl) ?_
            simp only [Act.put, z1, z2, z3]
            refine pl M75 (y_len rfl rfl rfl Try.underlying22) ?_
            simp only [Act.put, z1, z2, z3]
            refine pl M75 (y_move (v := .pointer (some ⟨b, 0, none⟩)) rfl rfl rfl) ?_
            simp only [Act.put, z1, z2, z3]
            refine pl M75 (y_nil rfl rfl rfl) ?_
            simp only [Act.put, z1, z2, z3]
            refine pl M75 (y_fa (r := 0) rfl rfl rfl Try.underlying48 rfl Try.sizeOf45 rfl) ?_
            simp only [Act.put, z1, z2, z3]
            refine pl M75 (y_load (v := lv) rfl rfl rfl Try.isAgg45 (fun W hW => hW.get 3 rfl) (rfl)) ?_
            simp only [Act.put, z1, z2, z3]
            refine pl M75 (y_move (v := .int .i64 (j : Int)) rfl rfl rfl) ?_
            simp only [Act.put, z1, z2, z3]
            refine pl M75 (y_sub (r := ((j - 2 : Nat) : Int)) rfl rfl rfl rfl (by omega) (by omega)) ?_
            simp only [Act.put, z1, z2, z3]
            refine pl M75 (y_ias (r := j - 2) rfl rfl hl rfl Try.underlying45 Try.sizeOf22 (by omega) (by omega)) ?_
            simp only [Act.put, z1, z2, z3]
            refine pl M75 (y_loadc (v := .slice ao ((pgAt B2.ps j).2.length) nn) rfl rfl rfl Try.isAgg22 (fun W hW => rows_cell (hW.get 4 rfl) hl rfl hv)) ?_
            simp only [Act.put, z1, z2, z3]
            refine pl M75 (y_len rfl rfl rfl Try.underlying22) ?_
            simp only [Act.put, z1, z2, z3]
            refine pl M75 (y_neq (b := false) rfl rfl rfl rfl (by rw [decide_eq_true rfl]; rfl)) ?_
            simp only [Act.put, z1, z2, z3]
            refine pl M75 (y_pickF (v := .bool false) rfl rfl rfl rfl) ?_
            simp only [Act.put, z1, z2, z3]
            refine wpList_nil ?_
            refine hK77 _ _ ?_
            clear hK77
            refine wp_cond_false rfl ?_
            refine wp_skip ?_
            refine hK76 _ _ ?_
            clear hK76
            refine wp_region_lit ?_
            refine pl M75 (y_move (v := .pointer (some ⟨kp, 0, none⟩)) rfl rfl rfl) ?_
            simp only [Act.put, z1, z2, z3]
            refine pl M75 (y_move (v := .slice a2 ((pgAt B2.ps j).2.length) c2) rfl rfl rfl) ?_
            simp only [Act.put, z1, z2, z3]
            have hX78 : Mem w [] w75 ([keeper kn3 kp kx3, bytesL (.slice a2 (pgAt B2.ps j).2.length c2) (pgAt B2.ps j).2] ++ [disk (E.rd r4) p pg mb qv2, blk f 96 (fC V2 p), blk b 48 (bC B2 ⟨lv, kv, vs⟩), rows lv vs B2.loads, lst 3 1 kv B2.ps.length B2.kinds]) := M75.arr [6, 2, 0, 1, 3, 4, 5] (by decide)
            refine pe rfl (fun K hK => ?_)
            refine e_call 31 [.pointer (some ⟨kp, 0, none⟩), .slice a2 ((pgAt B2.ps j).2.length) c2] rfl rfl Try.call31 (keep_l (Mem.here hX78) (by omega) (by omega)) ?_
            rintro e w78 ⟨kxb, rfl, H78⟩
            have M78 : Mem w [] w78 [keeper (kn3 + 1) kp kxb, disk (E.rd r4) p pg mb qv2, blk f 96 (fC V2 p), blk b 48 (bC B2 ⟨lv, kv, vs⟩), rows lv vs B2.loads, lst 3 1 kv B2.ps.length B2.kinds] := Mem.frame hX78 H78
            refine ⟨_, rfl, ?_⟩
            refine hK.out _ _ ?_
            clear hK K
            simp only [Act.put, z1, z2, z3]
            refine wpList_nil ?_
            refine hK73 _ _ ?_
            clear hK73
            refine wp_region_lit ?_
            refine pl M78 (y_move (v := .int .i64 (t : Int)) rfl rfl rfl) ?_
            simp only [Act.put, z1, z2, z3]
            refine pl M78 (y_add (r := (t : Int) + 1) rfl rfl rfl rfl (rfl) (by omega)) ?_
            simp only [Act.put, z1, z2, z3]
            refine pl M78 (y_assign (v := .int .i64 ((t : Int) + 1)) rfl rfl rfl) ?_
            simp only [Act.put, z1, z2, z3]
            refine wpList_nil ?_
            refine ⟨⟨t + 1, r4, kn3 + 1, kxb, [(us68.getD 0 undef), .int .i64 ((pgAt B2.ps j).1 : Int), .slice a2 ((pgAt B2.ps j).2.length) c2, .int .i64 0, .int .i64 (t : Int), .bool true, .int .i64 (t : Int), .int .i64 ((t : Int) + 1), .tuple #[.int .i64 ((pgAt B2.ps j).1 : Int), .slice a2 ((pgAt B2.ps j).2.length) c2, .int .i64 0], .pointer (some ⟨f, 0, none⟩), .int .i64 (j : Int), .tuple #[.int .i64 ((pgAt B2.ps j).1 : Int), .slice a2 ((pgAt B2.ps j).2.length) c2, .int .i64 0], .int .i64 ((pgAt B2.ps j).1 : Int), .slice a2 ((pgAt B2.ps j).2.length) c2, .int .i64 0, .int .i64 0, .bool false, .bool false, .slice a2 ((pgAt B2.ps j).2.length) c2, .int .i64 (((pgAt B2.ps j).2.length : Nat) : Int), .pointer (some ⟨b, 0, none⟩), .pointer (some ⟨b, 0, none⟩), .pointer (some ⟨b, 0, none⟩), lv, .int .i64 (j : Int), .int .i64 ((j - 2 : Nat) : Int), .pointer (some ⟨gl, (j - 2), none⟩), .slice ao ((pgAt B2.ps j).2.length) nn, .int .i64 (((pgAt B2.ps j).2.length : Nat) : Int), .bool false, .bool false, .pointer (some ⟨kp, 0, none⟩), .slice a2 ((pgAt B2.ps j).2.length) c2, .tuple #[]], rfl, (by omega), (by omega), (M78.arr [1, 2, 3, 4, 5, 0] (by decide))⟩, ?_⟩
            simp [intOf]; omega
          · refine pl M69 (y_lss (b := false) rfl rfl rfl rfl (decide_eq_false h72)) ?_
            simp only [Act.put, z1, z2, z3]
            refine wpList_nil ?_
            refine hK71 _ _ ?_
            clear hK71
            refine wp_cond_false rfl ?_
            refine wp_exit ?_
            refine hK66 _ _ ?_
            clear hK66
            refine wp_region_lit ?_
            refine pl M69 (y_move (v := .int .i64 (j : Int)) rfl rfl rfl) ?_
            simp only [Act.put, z1, z2, z3]
            refine pl M69 (y_add (r := (j : Int) + 1) rfl rfl rfl rfl (rfl) (by omega)) ?_
            simp only [Act.put, z1, z2, z3]
            refine pl M69 (y_assign (v := .int .i64 ((j : Int) + 1)) rfl rfl rfl) ?_
            simp only [Act.put, z1, z2, z3]
            refine wpList_nil ?_
            refine ⟨⟨j + 1, r3, kn3, kx3, [(us68.getD 0 undef), .int .i64 (t : Int), (us68.getD 1 undef), (us68.getD 2 undef), (us68.getD 3 undef), .int .i64 (j : Int), .int .i64 V2.next, .bool true, .int .i64 (j : Int), .int .i64 ((j : Int) + 1), .int .i64 (t : Int), .bool false, (us68.getD 6 undef), (us68.getD 7 undef), (us68.getD 8 undef), (us68.getD 9 undef), (us68.getD 10 undef), (us68.getD 11 undef), (us68.getD 12 undef), (us68.getD 13 undef), (us68.getD 14 undef), (us68.getD 15 undef), (us68.getD 16 undef), (us68.getD 17 undef), (us68.getD 18 undef), (us68.getD 19 undef), (us68.getD 20 undef), (us68.getD 21 undef), (us68.getD 22 undef), (us68.getD 23 undef), (us68.getD 24 undef), (us68.getD 25 undef), (us68.getD 26 undef), (us68.getD 27 undef), (us68.getD 28 undef), (us68.getD 29 undef), (us68.getD 30 undef), (us68.getD 31 undef), (us68.getD 32 undef), (us68.getD 33 undef)], rfl, ⟨by omega, by omega⟩, (by omega), (M69.arr [0, 1, 2, 3, 4, 5] (by decide))⟩, ?_⟩
            simp [intOf]; omega
        · refine pl M62 (y_lss (b := false) rfl rfl rfl rfl (decide_eq_false h65)) ?_
          simp only [Act.put, z1, z2, z3]
          refine wpList_nil ?_
          refine hK64 _ _ ?_
          clear hK64
          refine wp_cond_false rfl ?_
          refine wp_exit ?_
          refine hK39 _ _ ?_
          clear hK39
          refine wp_region_lit ?_
          have M79 : Mem w [] w62 [book B2 b (⟨lv, kv, vs⟩), disk (E.rd rr) p pg mb qv2, blk f 96 (fC V2 p), keeper kn2 kp kx2] := book_close (x := ⟨lv, kv, vs⟩) (M62.arr [2, 3, 4, 0, 1, 5] (by decide))
          clear M62
          refine pl M79 (y_move (v := .int .i64 (i : Int)) rfl rfl rfl) ?_
          simp only [Act.put, z1, z2, z3]
          refine pl M79 (y_add (r := (i : Int) + 1) rfl rfl rfl rfl (rfl) (by omega)) ?_
          simp only [Act.put, z1, z2, z3]
          refine pl M79 (y_assign (v := .int .i64 ((i : Int) + 1)) rfl rfl rfl) ?_
          simp only [Act.put, z1, z2, z3]
          refine wpList_nil ?_
          refine ⟨⟨i + 1, (E.rd rr), V2, B2, qv2, ⟨lv, kv, vs⟩, kn2, kx2, [(us61.getD 0 undef), .int .i64 er, .bool true, .slice (some ⟨gia, 0, none⟩) (256 * k) cia, .int .i64 V2.next, .int .i64 (j : Int), (us61.getD 1 undef), (us61.getD 2 undef), (us61.getD 3 undef), (us61.getD 4 undef), .int .i64 (i : Int), .slice aa an ac, .int .i64 (an : Int), .bool true, .bool true, .int .i64 (i : Int), .bool true, .bool true, .int .i64 (i : Int), .int .i64 ((i : Int) + 1), .slice aa an ac, .int .i64 (i : Int), .pointer (some ⟨ga, oa + i * 3, none⟩), .pointer (some ⟨ga, oa + i * 3, none⟩), .int .i64 a.k, .bool false, .tuple #[.int .i64 er, .bool true], .pointer (some ⟨b, 0, none⟩), .pointer (some ⟨p, 0, none⟩), .pointer (some ⟨f, 0, none⟩), .slice aa an ac, .int .i64 (i : Int), .pointer (some ⟨ga, oa + i * 3, none⟩), .agg ((actC a)).toArray, .tuple #[.int .i64 er, .bool true], .int .i64 er, .bool true, .bool true, .bool false, .bool false, .pointer (some ⟨b, 0, none⟩), .pointer (some ⟨f, 0, none⟩), .pointer (some ⟨f, 0, none⟩), .int .i64 V2.next, .bool true, .bool false, .bool false, .pointer (some ⟨p, 0, none⟩), .slice (some ⟨gia, 0, none⟩) (256 * k) cia, .slice (some ⟨gia, 0, none⟩) (256 * k) cia, .int .i64 ((256 * k : Nat) : Int), .int .i64 (k : Int), .int .i64 ((256 * k : Nat) : Int), .bool false, .pointer (some ⟨kp, 0, none⟩), .slice (some ⟨gia, 0, none⟩) (256 * k) cia, .tuple #[], .pointer (some ⟨f, 0, none⟩), .int .i64 V2.next, .int .i64 V2.next, .int .i64 (V2.next - 2), .pointer (some ⟨b, 0, none⟩), .pointer (some ⟨b, 0, none⟩), .pointer (some ⟨b, 0, none⟩), lv, .int .i64 (B2.loads.length : Int), .bool false, .int .i64 (j : Int), .int .i64 V2.next, .bool false, (us61.getD 8 undef), (us61.getD 9 undef), (us61.getD 10 undef), (us61.getD 11 undef), (us61.getD 12 undef), (us61.getD 13 undef), (us61.getD 14 undef), (us61.getD 15 undef), (us61.getD 16 undef), (us61.getD 17 undef), (us61.getD 18 undef), (us61.getD 19 undef), (us61.getD 20 undef), (us61.getD 21 undef), (us61.getD 22 undef), (us61.getD 23 undef), (us61.getD 24 undef), (us61.getD 25 undef), (us61.getD 26 undef), (us61.getD 27 undef), (us61.getD 28 undef), (us61.getD 29 undef), (us61.getD 30 undef), (us61.getD 31 undef), (us61.getD 32 undef), (us61.getD 33 undef), (us61.getD 34 undef), (us61.getD 35 undef), (us61.getD 36 undef), (us61.getD 37 undef), (us61.getD 38 undef), (us61.getD 39 undef)], rfl, (by first | exact hB2.rdx _ | exact hB), (by first | exact ⟨by show E.q.length ≤ i + 1; have := hkept.que; omega, by omega, by show E.pages.length = k; have := hkept.pages; omega, harm2⟩ | exact ⟨by omega, by omega, hqi.2.2.1, hqi.2.2.2⟩), ⟨by first | (have := hkept.gen; omega) | omega, by first | (rw [hkept.width]; exact hgi.2) | exact hgi.2⟩, (by omega), (M79.arr [1, 2, 0, 3] (by decide))⟩, ?_⟩
          simp [intOf]; omega
    · refine pl M34 (y_lss (b := false) rfl rfl rfl rfl (decide_eq_false h38)) ?_
      simp only [Act.put, z1, z2, z3]
      refine pl M34 (y_pickT (v := .bool false) rfl rfl rfl rfl) ?_
      simp only [Act.put, z1, z2, z3]
      refine wpList_nil ?_
      refine hK36 _ _ ?_
      clear hK36
      refine wp_cond_false rfl ?_
      refine wp_exit ?_
      exact hcutK17 _ _ ⟨i, D, V, B, qv, bx, kn, kx0, [(us19.getD 0 undef), (us19.getD 1 undef), (us19.getD 2 undef), (us19.getD 3 undef), (us19.getD 4 undef), (us19.getD 5 undef), (us19.getD 6 undef), (us19.getD 7 undef), (us19.getD 8 undef), (us19.getD 9 undef), .int .i64 (i : Int), .slice aa an ac, .int .i64 (an : Int), .bool true, .bool true, .int .i64 (i : Int), .bool false, .bool false, (us19.getD 18 undef), (us19.getD 19 undef), (us19.getD 20 undef), (us19.getD 21 undef), (us19.getD 22 undef), (us19.getD 23 undef), (us19.getD 24 undef), (us19.getD 25 undef), (us19.getD 26 undef), (us19.getD 27 undef), (us19.getD 28 undef), (us19.getD 29 undef), (us19.getD 30 undef), (us19.getD 31 undef), (us19.getD 32 undef), (us19.getD 33 undef), (us19.getD 34 undef), (us19.getD 35 undef), (us19.getD 36 undef), (us19.getD 37 undef), (us19.getD 38 undef), (us19.getD 39 undef), (us19.getD 40 undef), (us19.getD 41 undef), (us19.getD 42 undef), (us19.getD 43 undef), (us19.getD 44 undef), (us19.getD 45 undef), (us19.getD 46 undef), (us19.getD 47 undef), (us19.getD 48 undef), (us19.getD 49 undef), (us19.getD 50 undef), (us19.getD 51 undef), (us19.getD 52 undef), (us19.getD 53 undef), (us19.getD 54 undef), (us19.getD 55 undef), (us19.getD 56 undef), (us19.getD 57 undef), (us19.getD 58 undef), (us19.getD 59 undef), (us19.getD 60 undef), (us19.getD 61 undef), (us19.getD 62 undef), (us19.getD 63 undef), (us19.getD 64 undef), (us19.getD 65 undef), (us19.getD 66 undef), (us19.getD 67 undef), (us19.getD 68 undef), (us19.getD 69 undef), (us19.getD 70 undef), (us19.getD 71 undef), (us19.getD 72 undef), (us19.getD 73 undef), (us19.getD 74 undef), (us19.getD 75 undef), (us19.getD 76 undef), (us19.getD 77 undef), (us19.getD 78 undef), (us19.getD 79 undef), (us19.getD 80 undef), (us19.getD 81 undef), (us19.getD 82 undef), (us19.getD 83 undef), (us19.getD 84 undef), (us19.getD 85 undef), (us19.getD 86 undef), (us19.getD 87 undef), (us19.getD 88 undef), (us19.getD 89 undef), (us19.getD 90 undef), (us19.getD 91 undef), (us19.getD 92 undef), (us19.getD 93 undef), (us19.getD 94 undef), (us19.getD 95 undef), (us19.getD 96 undef), (us19.getD 97 undef), (us19.getD 98 undef), (us19.getD 99 undef), (us19.getD 100 undef), (us19.getD 101 undef)], rfl, hB, hqi, hgi, hkn, (M34.arr [0, 1, 2, 3] (by decide))⟩
  · refine pl M34 (y_lss (b := false) rfl rfl rfl rfl (decide_eq_false h37)) ?_
    simp only [Act.put, z1, z2, z3]
    refine pl M34 (y_move (v := .bool false) rfl rfl rfl) ?_
    simp only [Act.put, z1, z2, z3]
    with_reducible refine pskip ?_ ?_
    · rfl
    simp only [Act.put, z1, z2, z3]
    with_reducible refine pskip ?_ ?_
    · rfl
    simp only [Act.put, z1, z2, z3]
    refine pl M34 (y_pickF (v := .bool false) rfl rfl rfl rfl) ?_
    simp only [Act.put, z1, z2, z3]
    refine wpList_nil ?_
    refine hK36 _ _ ?_
    clear hK36
    refine wp_cond_false rfl ?_
    refine wp_exit ?_
    exact hcutK17 _ _ ⟨i, D, V, B, qv, bx, kn, kx0, [(us19.getD 0 undef), (us19.getD 1 undef), (us19.getD 2 undef), (us19.getD 3 undef), (us19.getD 4 undef), (us19.getD 5 undef), (us19.getD 6 undef), (us19.getD 7 undef), (us19.getD 8 undef), (us19.getD 9 undef), .int .i64 (i : Int), .slice aa an ac, .int .i64 (an : Int), .bool false, .bool false, undef, undef, .bool false, (us19.getD 18 undef), (us19.getD 19 undef), (us19.getD 20 undef), (us19.getD 21 undef), (us19.getD 22 undef), (us19.getD 23 undef), (us19.getD 24 undef), (us19.getD 25 undef), (us19.getD 26 undef), (us19.getD 27 undef), (us19.getD 28 undef), (us19.getD 29 undef), (us19.getD 30 undef), (us19.getD 31 undef), (us19.getD 32 undef), (us19.getD 33 undef), (us19.getD 34 undef), (us19.getD 35 undef), (us19.getD 36 undef), (us19.getD 37 undef), (us19.getD 38 undef), (us19.getD 39 undef), (us19.getD 40 undef), (us19.getD 41 undef), (us19.getD 42 undef), (us19.getD 43 undef), (us19.getD 44 undef), (us19.getD 45 undef), (us19.getD 46 undef), (us19.getD 47 undef), (us19.getD 48 undef), (us19.getD 49 undef), (us19.getD 50 undef), (us19.getD 51 undef), (us19.getD 52 undef), (us19.getD 53 undef), (us19.getD 54 undef), (us19.getD 55 undef), (us19.getD 56 undef), (us19.getD 57 undef), (us19.getD 58 undef), (us19.getD 59 undef), (us19.getD 60 undef), (us19.getD 61 undef), (us19.getD 62 undef), (us19.getD 63 undef), (us19.getD 64 undef), (us19.getD 65 undef), (us19.getD 66 undef), (us19.getD 67 undef), (us19.getD 68 undef), (us19.getD 69 undef), (us19.getD 70 undef), (us19.getD 71 undef), (us19.getD 72 undef), (us19.getD 73 undef), (us19.getD 74 undef), (us19.getD 75 undef), (us19.getD 76 undef), (us19.getD 77 undef), (us19.getD 78 undef), (us19.getD 79 undef), (us19.getD 80 undef), (us19.getD 81 undef), (us19.getD 82 undef), (us19.getD 83 undef), (us19.getD 84 undef), (us19.getD 85 undef), (us19.getD 86 undef), (us19.getD 87 undef), (us19.getD 88 undef), (us19.getD 89 undef), (us19.getD 90 undef), (us19.getD 91 undef), (us19.getD 92 undef), (us19.getD 93 undef), (us19.getD 94 undef), (us19.getD 95 undef), (us19.getD 96 undef), (us19.getD 97 undef), (us19.getD 98 undef), (us19.getD 99 undef), (us19.getD 100 undef), (us19.getD 101 undef)], rfl, hB, hqi, hgi, hkn, (M34.arr [0, 1, 2, 3] (by decide))⟩
theorem ffresh_walk {w : World} (pages width : Int) (aa : Option Addr) (an ac : Nat) (avs : List AV) (hacts : ListIn actC 3 w aa an avs) (hok : ∀ a ∈ avs, ActIn w a) (han : an ≤ 4611686018427387904) : Calls Try.prog 5 #[.int .i64 pages, .int .i64 width, .slice aa an ac] w fun e w' => e = .returned (.bool true) ∧ Below w.heap.size w w' := by
  have fin : Calls Try.prog 5 #[.int .i64 pages, .int .i64 width, .slice aa an ac] w (fun e w' => e = .returned (.bool true) ∧ Mem w [] w' []) := by
    by_cases hf : Fits pages width
    · obtain ⟨h1, h2, h3, h4⟩ := hf
      obtain ⟨k, rfl⟩ := Int.eq_ofNat_of_zero_le (show 0 ≤ pages by omega)
      exact (by
        by_cases h12 : 12 < k
        · exact ffresh_many k width ⟨by omega, by omega⟩ ⟨h3, h4⟩ aa an ac h12 w
        · exact ffresh_fit k width ⟨by omega, by omega⟩ ⟨h3, h4⟩ h12 aa an ac avs hacts hok han)
    · exact ffresh_nofit pages width aa an ac hf w
  refine fin.mono ?_
  rintro e w' ⟨rfl, h⟩
  exact ⟨rfl, h.below⟩
end Go.Proofs.Ytehnnnohoaapdaa
