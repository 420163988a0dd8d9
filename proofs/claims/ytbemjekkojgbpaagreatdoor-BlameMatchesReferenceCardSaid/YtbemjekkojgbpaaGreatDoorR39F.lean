/-
  Walks: schismaref39.Judge.
-/
import Derived.Test.YtbemjekkojgbpaaGreatDoorR39A
import Derived.Test.YtbemjekkojgbpaaGreatDoorR39E
import Derived.Test.YtbemjekkojgbpaaGreatDoorAuD
set_option linter.unusedVariables false
namespace Go.Proofs.YtbemjekkojgbpaaGreatDoor
open Go.RowKit Go.Sx Go.Sx.Sz Go.Sx.Sc Go.Sx.Au

set_option maxRecDepth 100000 in
set_option maxHeartbeats 4000000 in
theorem rjudge_walk (vn vp vc vt : Value) (s : Sc) (l : List S2) (k : Int) (w : World) (S : ScR w vn vp vc s) (R : Sl w 2 encS vt l) : Calls Tryz.prog 22 #[.agg #[.int .i64 s.voices, vn, vp, vc], vt, .int .i64 k] w fun e w' =>
    e = .returned (.tuple #[.agg #[.int .i64 (judgeR s l k).1.i, .int .i64 (judgeR s l k).1.verdict, .int .i64 (judgeR s l k).1.bound], .int .i64 (judgeR s l k).2]) ∧ Ext w w' := by
  obtain ⟨an, cn, rfl, -, -, hln⟩ := S.nt.len
  obtain ⟨ap, cp, rfl, -, -, hlp⟩ := S.pr.len
  obtain ⟨ac, cc, rfl, -, -, hlc⟩ := S.cd.len
  obtain ⟨at', ct, rfl, -, -, hlt⟩ := R.len
  have X0 : Ext w ((w.alloc (.cells #[.int .i64 s.voices, .slice an s.notes.length cn, .slice ap s.pairs.length cp, .slice ac s.cads.length cc] 26)).alloc (.cells #[.int .i64 0, .int .i64 0, .int .i64 0] 73)) := (by repeat (first | with_reducible exact Ext.refl _ | with_reducible assumption | with_reducible apply Ext.alloc | with_reducible apply Ext.drew | (with_reducible refine Ext.setCell ?_ (by (try simp) <;> omega) _)))
  have b0_0 := block_alloc (block_new w (.cells #[.int .i64 s.voices, .slice an s.notes.length cn, .slice ap s.pairs.length cp, .slice ac s.cads.length cc] 26)) (.cells #[.int .i64 0, .int .i64 0, .int .i64 0] 73)
  have b0_1 := block_at (w := (w.alloc (.cells #[.int .i64 s.voices, .slice an s.notes.length cn, .slice ap s.pairs.length cp, .slice ac s.cads.length cc] 26))) (n := w.heap.size + 1) (by simp) (.cells #[.int .i64 0, .int .i64 0, .int .i64 0] 73)
  obtain ⟨W0, hW0⟩ : ∃ W, ((w.alloc (.cells #[.int .i64 s.voices, .slice an s.notes.length cn, .slice ap s.pairs.length cp, .slice ac s.cads.length cc] 26)).alloc (.cells #[.int .i64 0, .int .i64 0, .int .i64 0] 73)) = W := ⟨_, rfl⟩
  obtain ⟨B0, hB0⟩ : ∃ B, w.heap.size = B := ⟨_, rfl⟩
  rw [hW0] at X0 b0_0 b0_1
  rw [hB0] at b0_0 b0_1
  have HZ0 : Hid (w.heap.size ≤ B0) := Lib.hid (by omega)
  have HW0 := Lib.hid hW0; have HB0 := Lib.hid hB0
  clear hW0 hB0
  have S1 := S.ext X0; have R1 := R.ext X0
  clear S R
  have VW := Lib.hid fun w' (y : Ext W0 w') => rtones_walk (.slice an s.notes.length cn) (.slice ap s.pairs.length cp) (.slice ac s.cads.length cc) (.slice at' l.length ct) s l w' (S1.ext y) (R1.ext y)
  have HX := Lib.hid fun w' (y : Ext W0 w') cs => (X0.trans y).setRow (g := B0 + 1) (by have := HZ0.out; omega) cs
  have HBR := Lib.hid fun w' (y : Ext W0 w') => block_ext y b0_1
  have HT0 := Lib.hid fun w' (y : Ext W0 w') (u v r : Int) => block_cell (setRow_at (HBR.out w' y) #[.int .i64 u, .int .i64 v, .int .i64 r]) 0 _ rfl
  have HT1 := Lib.hid fun w' (y : Ext W0 w') (u v r : Int) => block_cell (setRow_at (HBR.out w' y) #[.int .i64 u, .int .i64 v, .int .i64 r]) 1 _ rfl
  have HT2 := Lib.hid fun w' (y : Ext W0 w') (u v r : Int) => block_cell (setRow_at (HBR.out w' y) #[.int .i64 u, .int .i64 v, .int .i64 r]) 2 _ rfl
  go_enter Tryz.func22, Tryz.ntmps22
  go_wp2_with fail
  rw [HW0.out, HB0.out]
  clear HW0 HB0
  refine (VW.out _ (Ext.refl _)).mono ?_
  cases hok : tonesB s l with
  | false =>
    have HJ : Hid (judgeR s l k = (noFd, 1)) := Lib.hid (by unfold judgeR; rw [hok, if_neg (by simp)])
    clear hok
    rintro e w1 ⟨rfl, x1⟩
    have X1 := Lib.hid x1
    clear b0_0 b0_1 X0
    go_wp2_with (first | (refine wpList_store_row rfl _ _ _ rfl (B0 + 1) _ rfl rfl _ _ (HBR.out _ X1.out) (by kernel_rfl) rfl (by simp [Value.oneCell']) ?_) | fail)
    have t0 := HT0.out _ x1; have t1 := HT1.out _ x1; have t2 := HT2.out _ x1
    exact bodyPost_ret (v := .tuple #[.agg #[.int .i64 0, .int .i64 0, .int .i64 0], .int .i64 1]) (by simp [results, Tryz.results22, go_sem, t0, t1, t2]) rfl ⟨by rw [HJ.out] <;> rfl, HX.out _ X1.out _⟩
  | true =>
    have HO := Lib.hid hok
    have HT := Lib.hid (tonesB_iff.1 hok)
    clear hok
    rintro e w1 ⟨rfl, x1⟩
    have X1 := Lib.hid x1
    by_cases g1 : k < 0
    · have HJ : Hid (judgeR s l k = (noFd, 1)) := Lib.hid (by unfold judgeR; rw [if_neg (by omega)])
      clear b0_0 b0_1 X0
      go_wp2_with (first | (refine wpList_store_row rfl _ _ _ rfl (B0 + 1) _ rfl rfl _ _ (HBR.out _ X1.out) (by kernel_rfl) rfl (by simp [Value.oneCell']) ?_) | fail)
      have t0 := HT0.out _ x1; have t1 := HT1.out _ x1; have t2 := HT2.out _ x1
      exact bodyPost_ret (v := .tuple #[.agg #[.int .i64 0, .int .i64 0, .int .i64 0], .int .i64 1]) (by simp [results, Tryz.results22, go_sem, t0, t1, t2]) rfl ⟨by rw [HJ.out] <;> rfl, HX.out _ X1.out _⟩
    have c2 := block_cell (block_ext x1 b0_0) 2 _ rfl
    by_cases g2 : (s.pairs.length : Int) ≤ k
    · have HJ : Hid (judgeR s l k = (noFd, 1)) := Lib.hid (by unfold judgeR; rw [if_neg (by omega)])
      clear b0_0 b0_1 X0
      go_wp2_with (first | (refine wpList_store_row rfl _ _ _ rfl (B0 + 1) _ rfl rfl _ _ (HBR.out _ X1.out) (by kernel_rfl) rfl (by simp [Value.oneCell']) ?_) | fail)
      have t0 := HT0.out _ x1; have t1 := HT1.out _ x1; have t2 := HT2.out _ x1
      exact bodyPost_ret (v := .tuple #[.agg #[.int .i64 0, .int .i64 0, .int .i64 0], .int .i64 1]) (by simp [results, Tryz.results22, go_sem, t0, t1, t2]) rfl ⟨by rw [HJ.out] <;> rfl, HX.out _ X1.out _⟩
    obtain ⟨m, rfl⟩ : ∃ m : Nat, k = m := ⟨k.toNat, by omega⟩
    have hm : m < s.pairs.length := by omega
    obtain ⟨hdk, hw, ⟨A, C, hA, hC, hA', hC'⟩, hbd, hlh⟩ := pairD_ok HT.out hm
    have HJ : Hid (judgeR s l (m : Int) = (findZ m (diffS (T l A) (T l C) (wantS (s.P m).want)) (s.P m).bound, 0)) := Lib.hid (by
      unfold judgeR fdOf pairD; rw [if_pos ⟨HO.out, by omega, by omega⟩, Int.toNat_natCast, hA, hC, Int.toNat_natCast, Int.toNat_natCast])
    unfold pairD at hdk hlh
    rw [hA, hC, Int.toNat_natCast, Int.toNat_natCast] at hdk hlh
    obtain ⟨bp, op, rfl, q⟩ := Sl.pr (S1.pr.ext x1) m hm
    rw [← Sc.P_eq hm] at q
    obtain ⟨p, hp⟩ : ∃ p, s.P m = p := ⟨_, rfl⟩
    rw [hp] at q hw hA hC hbd HJ hdk hlh
    obtain ⟨q0, q1, q2, q3, q4, q5, q6, q7, q8⟩ := q
    rw [hA] at q0; rw [hC] at q1
    have X2 : Ext w1 (w1.alloc (.cells #[.int .i64 (A : Int), .int .i64 (C : Int), .int .i64 p.want.a, .int .i64 p.want.b, .int .i64 p.want.c, .int .i64 p.want.d, .int .i64 p.want.e, .int .i64 p.want.f, .int .i64 p.bound] 69)) := (by repeat (first | with_reducible exact Ext.refl _ | with_reducible assumption | with_reducible apply Ext.alloc | with_reducible apply Ext.drew | (with_reducible refine Ext.setCell ?_ (by (try simp) <;> omega) _)))
    have b2_0 := block_new w1 (.cells #[.int .i64 (A : Int), .int .i64 (C : Int), .int .i64 p.want.a, .int .i64 p.want.b, .int .i64 p.want.c, .int .i64 p.want.d, .int .i64 p.want.e, .int .i64 p.want.f, .int .i64 p.bound] 69)
    obtain ⟨W2, hW2⟩ : ∃ W, (w1.alloc (.cells #[.int .i64 (A : Int), .int .i64 (C : Int), .int .i64 p.want.a, .int .i64 p.want.b, .int .i64 p.want.c, .int .i64 p.want.d, .int .i64 p.want.e, .int .i64 p.want.f, .int .i64 p.bound] 69)) = W := ⟨_, rfl⟩
    obtain ⟨B2, hB2⟩ : ∃ B, w1.heap.size = B := ⟨_, rfl⟩
    rw [hW2] at X2 b2_0
    rw [hB2] at b2_0
    have HZ2 : Hid (w1.heap.size ≤ B2) := Lib.hid (by omega)
    have HW2 := Lib.hid hW2; have HB2 := Lib.hid hB2
    clear hW2 hB2
    have X12 := x1.trans X2
    obtain ⟨z1, hz1⟩ : ∃ z, T l A = z := ⟨_, rfl⟩
    obtain ⟨z2, hz2⟩ : ∃ z, T l C = z := ⟨_, rfl⟩
    have ha := HT.out.2.2 _ (List.getElem_mem hA'); have hc := HT.out.2.2 _ (List.getElem_mem hC')
    rw [← T_eq hA', hz1] at ha; rw [← T_eq hC', hz2] at hc
    rw [hz1, hz2] at HJ hdk hlh
    obtain ⟨bb, oo, rfl, a0, a1⟩ := Sl.sz (R1.ext X12) A hA'
    obtain ⟨b2, o2, e', d0, d1⟩ := Sl.sz (R1.ext X12) C hC'
    obtain ⟨rfl, rfl⟩ : bb = b2 ∧ oo = o2 := by simp at e'; exact e'
    rw [← T_eq hA', hz1] at a0 a1
    rw [← T_eq hC', hz2] at d0 d1
    have DW := Lib.hid fun w' => rdiff_walk z1 z2 p.want ha hc hw w'
    obtain ⟨d, hd⟩ : ∃ d, diffS z1 z2 (wantS p.want) = d := ⟨_, rfl⟩
    rw [hd] at HJ DW hdk hlh
    have FN := Lib.hid fun w' => rfinding_walk d hdk hlh m p.bound (by omega) w'
    have i1 : (0 : Int) ≤ (m : Int) := by omega
    have i2 : (m : Int) < (s.pairs.length : Int) := by omega
    have j1 : (0 : Int) ≤ (A : Int) := by omega
    have j2 : (A : Int) < (l.length : Int) := by omega
    have j3 : (0 : Int) ≤ (C : Int) := by omega
    have j4 : (C : Int) < (l.length : Int) := by omega
    have f0 := ext_cells (block_cell b2_0 0 _ rfl); have f1 := ext_cells (block_cell b2_0 1 _ rfl); have f2 := ext_cells (block_cell b2_0 2 _ rfl); have f3 := ext_cells (block_cell b2_0 3 _ rfl); have f4 := ext_cells (block_cell b2_0 4 _ rfl); have f5 := ext_cells (block_cell b2_0 5 _ rfl); have f6 := ext_cells (block_cell b2_0 6 _ rfl); have f7 := ext_cells (block_cell b2_0 7 _ rfl); have f8 := ext_cells (block_cell b2_0 8 _ rfl)
    replace a0 := ext_cells a0; replace a1 := ext_cells a1; replace d0 := ext_cells d0; replace d1 := ext_cells d1
    have HX12 := Lib.hid X12
    clear hp hdk hlh hw hA hC hm b2_0 b0_0 b0_1 hd ha hc hz1 hz2 e' x1 X2 X12 X0 hA' hC'
    go_wp2
    rw [HW2.out, HB2.out]
    clear q0 q1 q2 q3 q4 q5 q6 q7 q8 c2
    refine wp_region_ord [(0,true), (1,true), (2,true), (3,true), (4,true), (5,true), (6,true), (7,true), (8,true), (9,true), (10,true), (11,true), (12,true), (13,true), (14,true), (15,true), (16,true)] 17 Ext (Ext W2) wide (by kernel_rfl) (stable_ext _) (Ext.drawn _ _) ?_
    iterate 13 (first | (apply wpOrd_no rfl; rfl; (simp only [List.getElem_toArray, List.getElem_cons_succ, List.getElem_cons_zero, Act.put, List.setIfInBounds_toArray, List.set_cons_succ, List.set_cons_zero]; rfl)) | (apply wpOrd_yes rfl; rfl; (intro w' hw'; unfold opR; go_simp; exact ⟨Ext.refl _, rfl⟩); (simp only [List.getElem_toArray, List.getElem_cons_succ, List.getElem_cons_zero, Act.put, List.setIfInBounds_toArray, List.set_cons_succ, List.set_cons_zero]; rfl)))
    (apply wpOrd_det rfl rfl; (intro w' hw'; refine opR_call rfl (Go.Proofs.enters_of Tryz.func39 (by kernel_rfl) rfl) (by simp only [List.map_toArray, List.map_cons, List.map_nil, Act.eval, Array.getD_eq_getD_getElem?, List.getElem?_toArray, List.getElem?_cons_succ, List.getElem?_cons_zero, Option.getD_some]; rfl) ?_; refine (DW.out _).mono ?_; rintro e w'' ⟨rfl, hx⟩; exact ⟨_, rfl, hx, rfl⟩); (simp only [List.getElem_toArray, List.getElem_cons_succ, List.getElem_cons_zero, Act.put, List.setIfInBounds_toArray, List.set_cons_succ, List.set_cons_zero]; rfl))
    iterate 2 (first | (apply wpOrd_no rfl; rfl; (simp only [List.getElem_toArray, List.getElem_cons_succ, List.getElem_cons_zero, Act.put, List.setIfInBounds_toArray, List.set_cons_succ, List.set_cons_zero]; rfl)) | (apply wpOrd_yes rfl; rfl; (intro w' hw'; unfold opR; go_simp; exact ⟨Ext.refl _, rfl⟩); (simp only [List.getElem_toArray, List.getElem_cons_succ, List.getElem_cons_zero, Act.put, List.setIfInBounds_toArray, List.set_cons_succ, List.set_cons_zero]; rfl)))
    (apply wpOrd_det rfl rfl; (intro w' hw'; refine opR_call rfl (Go.Proofs.enters_of Tryz.func38 (by kernel_rfl) rfl) (by simp only [List.map_toArray, List.map_cons, List.map_nil, Act.eval, Array.getD_eq_getD_getElem?, List.getElem?_toArray, List.getElem?_cons_succ, List.getElem?_cons_zero, Option.getD_some]; rfl) ?_; refine (FN.out _).mono ?_; rintro e w'' ⟨rfl, hx⟩; exact ⟨_, rfl, hx, rfl⟩); (simp only [List.getElem_toArray, List.getElem_cons_succ, List.getElem_cons_zero, Act.put, List.setIfInBounds_toArray, List.set_cons_succ, List.set_cons_zero]; rfl))
    refine wpOrd_nil rfl ?_
    intro w9 x9
    have X9 := HX12.out.trans x9
    obtain ⟨⟨i, v, r⟩, hv⟩ : ∃ v, findZ m d p.bound = v := ⟨_, rfl⟩
    have HJ2 : Hid (judgeR s l (m : Int) = (⟨i, v, r⟩, 0)) := Lib.hid (by rw [HJ.out, ← hv])
    rw [hv]
    have t0 := HT0.out _ X9; have t1 := HT1.out _ X9; have t2 := HT2.out _ X9
    clear hv f0 f1 f2 f3 f4 f5 f6 f7 f8 a0 a1 d0 d1
    refine wpList_store_row rfl _ _ _ rfl (B0 + 1) _ rfl rfl _ _ (HBR.out _ X9) (by kernel_rfl) rfl (by simp [Value.oneCell']) ?_
    go_wp2
    exact bodyPost_ret (v := .tuple #[.agg #[.int .i64 i, .int .i64 v, .int .i64 r], .int .i64 0]) (by simp [results, Tryz.results22, go_sem, t0, t1, t2]) rfl ⟨by rw [HJ2.out] <;> rfl, HX.out _ X9 _⟩
end Go.Proofs.YtbemjekkojgbpaaGreatDoor
