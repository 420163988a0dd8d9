/-
  Walks of audit: valid, Judge.
-/
import Derived.Test.YtbemjekkojgbpaaDoorAuC
import Derived.Test.YtbemjekkojgbpaaDoorLibC
import Derived.Test.YtbemjekkojgbpaaDoorLibM
set_option linter.unusedVariables false
namespace Go.Proofs.YtbemjekkojgbpaaDoor
open Go.RowKit Go.Sx Go.Sx.Sz Go.Sx.Sc Go.Sx.Au

set_option maxRecDepth 100000 in
set_option maxHeartbeats 4000000 in
theorem auvalid_walk (vn vp vc vt : Value) (s : Sc) (l : List S2) (w : World) (S : ScR w vn vp vc s) (R : Sl w 2 encS vt l) : Calls Tryd.prog 41 #[.agg #[.int .i64 s.voices, vn, vp, vc], vt] w fun e w' => e = .returned (.bool (tonesB s l)) ∧ Ext w w' := by
  obtain ⟨an, cn, rfl, -, -, hln⟩ := S.nt.len
  obtain ⟨ap, cp, rfl, -, -, hlp⟩ := S.pr.len
  obtain ⟨ac, cc, rfl, -, -, hlc⟩ := S.cd.len
  obtain ⟨at', ct, rfl, -, -, hlt⟩ := R.len
  cases hok : scB s with
  | false =>
    have HR : Hid (tonesB s l = false) := Lib.hid (tonesB_false fun h => by rw [scB_iff.2 h.1] at hok; cases hok)
    have HO := Lib.hid hok
    clear hok
    go_enter Tryd.func41, Tryd.ntmps41
    go_wp2_with fail
    refine (scvalid_walk _ _ _ s _ (S.ext (by repeat (first | with_reducible exact Ext.refl _ | with_reducible assumption | with_reducible apply Ext.alloc | with_reducible apply Ext.drew | (with_reducible refine Ext.setCell ?_ (by (try simp) <;> omega) _))))).mono ?_
    rw [HO.out]
    rintro e w1 ⟨rfl, x1⟩
    have X1 : Ext w w1 := Ext.trans (by repeat (first | with_reducible exact Ext.refl _ | with_reducible assumption | with_reducible apply Ext.alloc | with_reducible apply Ext.drew | (with_reducible refine Ext.setCell ?_ (by (try simp) <;> omega) _))) x1
    go_wp2
    go_ret
    exact ⟨by rw [HR.out] <;> rfl, X1⟩
  | true =>
    have HO := Lib.hid hok
    have HV := Lib.hid (scB_iff.1 hok)
    clear hok
    go_enter Tryd.func41, Tryd.ntmps41
    go_wp2_with fail
    refine (scvalid_walk _ _ _ s _ (S.ext (by repeat (first | with_reducible exact Ext.refl _ | with_reducible assumption | with_reducible apply Ext.alloc | with_reducible apply Ext.drew | (with_reducible refine Ext.setCell ?_ (by (try simp) <;> omega) _))))).mono ?_
    rw [HO.out]
    rintro e w1 ⟨rfl, x1⟩
    have X1 : Ext w w1 := Ext.trans (by repeat (first | with_reducible exact Ext.refl _ | with_reducible assumption | with_reducible apply Ext.alloc | with_reducible apply Ext.drew | (with_reducible refine Ext.setCell ?_ (by (try simp) <;> omega) _))) x1
    have b1 := block_ext x1 (block_new w (.cells #[.int .i64 s.voices, .slice an s.notes.length cn, .slice ap s.pairs.length cp, .slice ac s.cads.length cc] 26))
    have c1 := block_cell b1 1 (.slice an s.notes.length cn) rfl
    have R1 := R.ext X1
    clear x1 b1
    by_cases hl : l.length = s.notes.length
    · have e1 : ((l.length : Int) != (s.notes.length : Int)) = false := by rw [bne_eq_false_iff_eq]; omega
      have HL := Lib.hid hl
      clear hl
      go_wp2
      clear c1 e1
      go_loopw [20] (fun i wr => ∃ k : Nat, k ≤ l.length ∧ i = .int .i64 k ∧ (∀ j (h : j < l.length), j < k → szOk l[j] = true) ∧ Ext w1 wr) (fun i _ => l.length - (intOf i).toNat)
      case atStart => exact ⟨0, by omega, rfl, fun j h1 h2 => absurd h2 (Nat.not_lt_zero _), Ext.refl _⟩
      case round =>
        obtain ⟨k, hk, rfl, hall, X⟩ := hrel
        have HA := Lib.hid hall
        clear hall
        by_cases hlt' : k < l.length
        · obtain ⟨bb, oo, rfl, a0, a1⟩ := Sl.sz (R1.ext X) k hlt'
          obtain ⟨z, hz⟩ : ∃ z, l[k] = z := ⟨_, rfl⟩
          rw [hz] at a0 a1
          have HZ := Lib.hid hz
          have i1 : (0 : Int) ≤ (k : Int) := by omega
          have i2 : (k : Int) < (l.length : Int) := by omega
          clear hz
          go_wp2_with fail
          refine (szvalid_walk z _).mono ?_
          cases hs : szOk z with
          | true =>
            have HS := Lib.hid hs
            clear hs
            rintro e w2 ⟨rfl, x2⟩
            have y2 : Ext wr w2 := Ext.trans (by repeat (first | with_reducible exact Ext.refl _ | with_reducible assumption | with_reducible apply Ext.alloc | with_reducible apply Ext.drew | (with_reducible refine Ext.setCell ?_ (by (try simp) <;> omega) _))) x2
            clear a0 a1 x2
            go_wp2
            go_roundw
            case rel => exact ⟨k + 1, by omega, by go_num, fun j h1 h2 => by
              by_cases e : j = k
              · subst e; rw [HZ.out]; exact HS.out
              · exact HA.out j h1 (by omega), X.trans y2⟩
            case measure => simp [intOf] <;> omega
          | false =>
            have HR : Hid (tonesB s l = false) := Lib.hid (tonesB_false fun h => by
              have := h.2.2 _ (List.getElem_mem hlt')
              rw [HZ.out, hs] at this; cases this)
            clear hs
            rintro e w2 ⟨rfl, x2⟩
            have y2 : Ext wr w2 := Ext.trans (by repeat (first | with_reducible exact Ext.refl _ | with_reducible assumption | with_reducible apply Ext.alloc | with_reducible apply Ext.drew | (with_reducible refine Ext.setCell ?_ (by (try simp) <;> omega) _))) x2
            clear a0 a1 x2
            go_wp2
            go_ret
            exact ⟨by rw [HR.out] <;> rfl, X1.trans (X.trans y2)⟩
        · obtain rfl : k = l.length := by omega
          have HR : Hid (tonesB s l = true) := Lib.hid (tonesB_iff.2 ⟨HV.out, HL.out, fun z hz => by
            obtain ⟨j, hj, rfl⟩ := List.getElem_of_mem hz
            exact HA.out j hj hj⟩)
          go_wp2
          go_ret
          exact ⟨by rw [HR.out] <;> rfl, X1.trans X⟩
    · have e1 : ((l.length : Int) != (s.notes.length : Int)) = true := by rw [bne_iff_ne]; omega
      have HR : Hid (tonesB s l = false) := Lib.hid (tonesB_false fun h => hl h.2.1)
      clear hl
      go_wp2
      go_ret
      exact ⟨by rw [HR.out] <;> rfl, X1⟩

set_option maxRecDepth 100000 in
theorem pairD_ok {s : Sc} {l : List S2} (h : tonesOk s l) {k : Nat} (hk : k < s.pairs.length) : dOk (pairD s l (s.P k)) ∧ within (s.P k).want 48 = true ∧ (∃ A C : Nat, (s.P k).a = (A : Int) ∧ (s.P k).b = (C : Int) ∧ A < l.length ∧ C < l.length) ∧ (0 ≤ (s.P k).bound ∧ (s.P k).bound ≤ 100000) ∧ (pairD s l (s.P k)).lo ≤ (pairD s l (s.P k)).hi := by
  have hp := h.1.pr.1 k hk
  unfold pairOk at hp
  obtain ⟨⟨h1, h2⟩, h3, h4, h5, h6, h7⟩ := hp
  have hw : within (s.P k).want 48 = true := within_mono (by omega) h4
  have hl := h.2.1
  have hbd := expo_bd (times_within hw)
  have hA : (s.P k).a.toNat < l.length := by omega
  have hC : (s.P k).b.toNat < l.length := by omega
  have za := h.2.2 _ (List.getElem_mem hA)
  have zc := h.2.2 _ (List.getElem_mem hC)
  rw [← T_eq hA, szOk_iff] at za
  rw [← T_eq hC, szOk_iff] at zc
  have key : dOk (pairD s l (s.P k)) ∧ (pairD s l (s.P k)).lo ≤ (pairD s l (s.P k)).hi := by
    unfold dOk pairD diffS wantS
    dsimp only
    omega
  exact ⟨key.1, hw, ⟨(s.P k).a.toNat, (s.P k).b.toNat, by omega, by omega, hA, hC⟩, h5, key.2⟩

set_option maxRecDepth 100000 in
set_option maxHeartbeats 4000000 in
theorem judge_walk (vn vp vc vt : Value) (s : Sc) (l : List S2) (k : Int) (w : World) (G : Gl 0 w) (S : ScR w vn vp vc s) (R : Sl w 2 encS vt l) : Calls Tryd.prog 27 #[.agg #[.int .i64 s.voices, vn, vp, vc], vt, .int .i64 k] w fun e w' =>
    e = .returned (.tuple #[.agg #[.int .i64 (judgeR s l k).1.i, .int .i64 (judgeR s l k).1.verdict, .int .i64 (judgeR s l k).1.bound], .int .i64 (judgeR s l k).2]) ∧ Ext w w' := by
  obtain ⟨an, cn, rfl, -, -, hln⟩ := S.nt.len
  obtain ⟨ap, cp, rfl, -, -, hlp⟩ := S.pr.len
  obtain ⟨ac, cc, rfl, -, -, hlc⟩ := S.cd.len
  obtain ⟨at', ct, rfl, -, -, hlt⟩ := R.len
  have X0 : Ext w ((w.alloc (.cells #[.int .i64 s.voices, .slice an s.notes.length cn, .slice ap s.pairs.length cp, .slice ac s.cads.length cc] 26)).alloc (.cells #[.int .i64 0, .int .i64 0, .int .i64 0] 70)) := (by repeat (first | with_reducible exact Ext.refl _ | with_reducible assumption | with_reducible apply Ext.alloc | with_reducible apply Ext.drew | (with_reducible refine Ext.setCell ?_ (by (try simp) <;> omega) _)))
  have bs := block_alloc (block_new w (.cells #[.int .i64 s.voices, .slice an s.notes.length cn, .slice ap s.pairs.length cp, .slice ac s.cads.length cc] 26)) (.cells #[.int .i64 0, .int .i64 0, .int .i64 0] 70)
  have br := block_at (w := w.alloc (.cells #[.int .i64 s.voices, .slice an s.notes.length cn, .slice ap s.pairs.length cp, .slice ac s.cads.length cc] 26)) (n := w.heap.size + 1) (by simp) (.cells #[.int .i64 0, .int .i64 0, .int .i64 0] 70)
  obtain ⟨W, hW⟩ : ∃ W, (w.alloc (.cells #[.int .i64 s.voices, .slice an s.notes.length cn, .slice ap s.pairs.length cp, .slice ac s.cads.length cc] 26)).alloc (.cells #[.int .i64 0, .int .i64 0, .int .i64 0] 70) = W := ⟨_, rfl⟩
  obtain ⟨B, hB⟩ : ∃ B, w.heap.size = B := ⟨_, rfl⟩
  rw [hW] at X0 bs br
  rw [hB] at bs br
  have HB0 : Hid (w.heap.size ≤ B) := Lib.hid (by omega)
  have HW := Lib.hid hW; have HB := Lib.hid hB
  have S1 := S.ext X0; have R1 := R.ext X0; have G1 := G.ext X0
  clear hW hB S R G
  have VW := Lib.hid fun w' (y : Ext W w') => auvalid_walk (.slice an s.notes.length cn) (.slice ap s.pairs.length cp) (.slice ac s.cads.length cc) (.slice at' l.length ct) s l w' (S1.ext y) (R1.ext y)
  go_enter Tryd.func27, Tryd.ntmps27
  go_wp2_with fail
  rw [HW.out, HB.out]
  clear HW HB
  refine (VW.out _ (Ext.refl _)).mono ?_
  cases hok : tonesB s l with
  | false =>
    have HJ : Hid (judgeR s l k = (noFd, 1)) := Lib.hid (by unfold judgeR; rw [hok, if_neg (by simp)])
    clear hok
    rintro e w1 ⟨rfl, x1⟩
    have br2 := block_ext x1 br
    have b7 := setRow_at br2 #[.int .i64 0, .int .i64 0, .int .i64 0]
    have t0 := block_cell b7 0 _ rfl; have t1 := block_cell b7 1 _ rfl; have t2 := block_cell b7 2 _ rfl
    have x7 := (X0.trans x1).setRow (g := B + 1) (by have := HB0.out; omega) #[.int .i64 0, .int .i64 0, .int .i64 0]
    have HX7 := Lib.hid x7
    clear b7 x7 bs
    go_wp2_with (first | (refine wpList_store_row rfl _ _ _ rfl (B + 1) _ rfl rfl _ _ br2 (by kernel_rfl) rfl (by simp [Value.oneCell']) ?_) | fail)
    exact bodyPost_ret (v := .tuple #[.agg #[.int .i64 0, .int .i64 0, .int .i64 0], .int .i64 1]) (by simp [results, Tryd.results27, go_sem, t0, t1, t2]) rfl ⟨by rw [HJ.out] <;> rfl, HX7.out⟩
  | true =>
    have HO := Lib.hid hok
    have HT := Lib.hid (tonesB_iff.1 hok)
    clear hok
    rintro e w1 ⟨rfl, x1⟩
    by_cases g1 : k < 0
    · have HJ : Hid (judgeR s l k = (noFd, 1)) := Lib.hid (by unfold judgeR; rw [if_neg (by omega)])
      have br2 := block_ext x1 br
      have b7 := setRow_at br2 #[.int .i64 0, .int .i64 0, .int .i64 0]
      have t0 := block_cell b7 0 _ rfl; have t1 := block_cell b7 1 _ rfl; have t2 := block_cell b7 2 _ rfl
      have x7 := (X0.trans x1).setRow (g := B + 1) (by have := HB0.out; omega) #[.int .i64 0, .int .i64 0, .int .i64 0]
      have HX7 := Lib.hid x7
      clear b7 x7 bs
      go_wp2_with (first | (refine wpList_store_row rfl _ _ _ rfl (B + 1) _ rfl rfl _ _ br2 (by kernel_rfl) rfl (by simp [Value.oneCell']) ?_) | fail)
      exact bodyPost_ret (v := .tuple #[.agg #[.int .i64 0, .int .i64 0, .int .i64 0], .int .i64 1]) (by simp [results, Tryd.results27, go_sem, t0, t1, t2]) rfl ⟨by rw [HJ.out] <;> rfl, HX7.out⟩
    have bs1 := block_ext x1 bs
    have c2 := block_cell bs1 2 _ rfl
    by_cases g2 : (s.pairs.length : Int) ≤ k
    · have HJ : Hid (judgeR s l k = (noFd, 1)) := Lib.hid (by unfold judgeR; rw [if_neg (by omega)])
      have br2 := block_ext x1 br
      have b7 := setRow_at br2 #[.int .i64 0, .int .i64 0, .int .i64 0]
      have t0 := block_cell b7 0 _ rfl; have t1 := block_cell b7 1 _ rfl; have t2 := block_cell b7 2 _ rfl
      have x7 := (X0.trans x1).setRow (g := B + 1) (by have := HB0.out; omega) #[.int .i64 0, .int .i64 0, .int .i64 0]
      have HX7 := Lib.hid x7
      clear b7 x7 bs bs1
      go_wp2_with (first | (refine wpList_store_row rfl _ _ _ rfl (B + 1) _ rfl rfl _ _ br2 (by kernel_rfl) rfl (by simp [Value.oneCell']) ?_) | fail)
      exact bodyPost_ret (v := .tuple #[.agg #[.int .i64 0, .int .i64 0, .int .i64 0], .int .i64 1]) (by simp [results, Tryd.results27, go_sem, t0, t1, t2]) rfl ⟨by rw [HJ.out] <;> rfl, HX7.out⟩
    obtain ⟨m, rfl⟩ : ∃ m : Nat, k = m := ⟨k.toNat, by omega⟩
    have hm : m < s.pairs.length := by omega
    obtain ⟨hdk, hw, ⟨A, C, hA, hC, hA', hC'⟩, hbd, -⟩ := pairD_ok HT.out hm
    have hzz := HT.out.2.2
    have HJ : Hid (judgeR s l (m : Int) = (findZ m (diffS (T l A) (T l C) (wantS (s.P m).want)) (s.P m).bound, 0)) := Lib.hid (by
      unfold judgeR fdOf pairD; rw [if_pos ⟨HO.out, by omega, by omega⟩, Int.toNat_natCast, hA, hC, Int.toNat_natCast, Int.toNat_natCast])
    have hdk' : dOk (diffS (T l A) (T l C) (wantS (s.P m).want)) := by
      unfold pairD at hdk; rw [hA, hC, Int.toNat_natCast, Int.toNat_natCast] at hdk; exact hdk
    obtain ⟨bp, op, rfl, q⟩ := Sl.pr (S1.pr.ext x1) m hm
    rw [← Sc.P_eq hm] at q
    obtain ⟨p, hp⟩ : ∃ p, s.P m = p := ⟨_, rfl⟩
    rw [hp] at q hw hA hC hbd HJ hdk'
    obtain ⟨q0, q1, q2, q3, q4, q5, q6, q7, q8⟩ := q
    have e1 := Ext.alloc' w1 (.cells #[.int .i64 p.a, .int .i64 p.b, .int .i64 p.want.a, .int .i64 p.want.b, .int .i64 p.want.c, .int .i64 p.want.d, .int .i64 p.want.e, .int .i64 p.want.f, .int .i64 p.bound] 63)
    have bn := block_new w1 (.cells #[.int .i64 p.a, .int .i64 p.b, .int .i64 p.want.a, .int .i64 p.want.b, .int .i64 p.want.c, .int .i64 p.want.d, .int .i64 p.want.e, .int .i64 p.want.f, .int .i64 p.bound] 63)
    have X2 : Ext W (w1.alloc (.cells #[.int .i64 p.a, .int .i64 p.b, .int .i64 p.want.a, .int .i64 p.want.b, .int .i64 p.want.c, .int .i64 p.want.d, .int .i64 p.want.e, .int .i64 p.want.f, .int .i64 p.bound] 63)) := x1.trans e1
    obtain ⟨W2, hW2⟩ : ∃ W2, w1.alloc (.cells #[.int .i64 p.a, .int .i64 p.b, .int .i64 p.want.a, .int .i64 p.want.b, .int .i64 p.want.c, .int .i64 p.want.d, .int .i64 p.want.e, .int .i64 p.want.f, .int .i64 p.bound] 63) = W2 := ⟨_, rfl⟩
    obtain ⟨D, hD⟩ : ∃ D, w1.heap.size = D := ⟨_, rfl⟩
    rw [hW2] at bn X2
    rw [hD] at bn
    have HW2 := Lib.hid hW2; have HD := Lib.hid hD
    obtain ⟨d, hd⟩ : ∃ d, diffS (T l A) (T l C) (wantS p.want) = d := ⟨_, rfl⟩
    have ND := Lib.hid fun w' (y : Ext W2 w') => newdiff_walk (.slice at' l.length ct) l p A C hA hC hA' hC' hzz hw w' (G1.ext (X2.trans y)) (R1.ext (X2.trans y))
    rw [hd] at HJ ND hdk'
    have FN := Lib.hid fun w' => finding_walk d hdk' m p (by omega) w'
    have i1 : (0 : Int) ≤ (m : Int) := by omega
    have i2 : (m : Int) < (s.pairs.length : Int) := by omega
    have f0 := ext_cells (block_cell bn 0 _ rfl); have f1 := ext_cells (block_cell bn 1 _ rfl); have f2 := ext_cells (block_cell bn 2 _ rfl); have f3 := ext_cells (block_cell bn 3 _ rfl); have f4 := ext_cells (block_cell bn 4 _ rfl); have f5 := ext_cells (block_cell bn 5 _ rfl); have f6 := ext_cells (block_cell bn 6 _ rfl); have f7 := ext_cells (block_cell bn 7 _ rfl); have f8 := ext_cells (block_cell bn 8 _ rfl)
    have HBR := Lib.hid br
    clear hp hdk hdk' hw hA hC hA' hC' hzz hm bn e1 hW2 hD hd bs bs1 br
    go_wp2
    rw [HW2.out, HD.out]
    clear q0 q1 q2 q3 q4 q5 q6 q7 q8 c2
    refine wp_region_ord [(0,true), (1,true), (2,true), (3,true), (4,true), (5,true)] 6 Ext (Ext W2) wide (by kernel_rfl) (stable_ext _) (Ext.drawn _ _) ?_
    iterate 2 (first | (apply wpOrd_no rfl; rfl; (simp only [List.getElem_toArray, List.getElem_cons_succ, List.getElem_cons_zero, Act.put, List.setIfInBounds_toArray, List.set_cons_succ, List.set_cons_zero]; rfl)) | (apply wpOrd_yes rfl; rfl; (intro w' hw'; unfold opR; go_simp; exact ⟨Ext.refl _, rfl⟩); (simp only [List.getElem_toArray, List.getElem_cons_succ, List.getElem_cons_zero, Act.put, List.setIfInBounds_toArray, List.set_cons_succ, List.set_cons_zero]; rfl)))
    (apply wpOrd_det rfl rfl; (intro w' hw'; refine opR_call rfl (Go.Proofs.enters_of Tryd.func42 (by kernel_rfl) rfl) (by simp only [List.map_toArray, List.map_cons, List.map_nil, Act.eval, Array.getD_eq_getD_getElem?, List.getElem?_toArray, List.getElem?_cons_succ, List.getElem?_cons_zero, Option.getD_some]; rfl) ?_; refine (ND.out _ hw').mono ?_; rintro e w'' ⟨rfl, hx⟩; exact ⟨_, rfl, hx, rfl⟩); (simp only [List.getElem_toArray, List.getElem_cons_succ, List.getElem_cons_zero, Act.put, List.setIfInBounds_toArray, List.set_cons_succ, List.set_cons_zero]; rfl))
    iterate 2 (first | (apply wpOrd_no rfl; rfl; (simp only [List.getElem_toArray, List.getElem_cons_succ, List.getElem_cons_zero, Act.put, List.setIfInBounds_toArray, List.set_cons_succ, List.set_cons_zero]; rfl)) | (apply wpOrd_yes rfl; rfl; (intro w' hw'; unfold opR; go_simp; exact ⟨Ext.refl _, rfl⟩); (simp only [List.getElem_toArray, List.getElem_cons_succ, List.getElem_cons_zero, Act.put, List.setIfInBounds_toArray, List.set_cons_succ, List.set_cons_zero]; rfl)))
    (apply wpOrd_det rfl rfl; (intro w' hw'; refine opR_call rfl (Go.Proofs.enters_of Tryd.func43 (by kernel_rfl) rfl) (by simp only [List.map_toArray, List.map_cons, List.map_nil, Act.eval, Array.getD_eq_getD_getElem?, List.getElem?_toArray, List.getElem?_cons_succ, List.getElem?_cons_zero, Option.getD_some]; rfl) ?_; refine (FN.out _).mono ?_; rintro e w'' ⟨rfl, hx⟩; exact ⟨_, rfl, hx, rfl⟩); (simp only [List.getElem_toArray, List.getElem_cons_succ, List.getElem_cons_zero, Act.put, List.setIfInBounds_toArray, List.set_cons_succ, List.set_cons_zero]; rfl))
    refine wpOrd_nil rfl ?_
    intro w9 x9
    have X9 := X2.trans x9
    obtain ⟨v, hv⟩ : ∃ v, verdZ d p.bound = v := ⟨_, rfl⟩
    obtain ⟨r, hr⟩ : ∃ v, bndZ d p.bound = v := ⟨_, rfl⟩
    have HJ2 : Hid (judgeR s l (m : Int) = (⟨m, v, r⟩, 0)) := Lib.hid (by rw [HJ.out, ← hv, ← hr]; rfl)
    rw [hv, hr]
    have br2 := block_ext X9 HBR.out
    have b7 := setRow_at br2 #[.int .i64 m, .int .i64 v, .int .i64 r]
    have t0 := block_cell b7 0 _ rfl; have t1 := block_cell b7 1 _ rfl; have t2 := block_cell b7 2 _ rfl
    have x7 := (X0.trans X9).setRow (g := B + 1) (by have := HB0.out; omega) #[.int .i64 m, .int .i64 v, .int .i64 r]
    have HX7 := Lib.hid x7
    clear b7 x7 hv hr f0 f1 f2 f3 f4 f5 f6 f7 f8
    refine wpList_store_row rfl _ _ _ rfl (B + 1) _ rfl rfl _ _ br2 (by kernel_rfl) rfl (by simp [Value.oneCell']) ?_
    go_wp2
    exact bodyPost_ret (v := .tuple #[.agg #[.int .i64 m, .int .i64 v, .int .i64 r], .int .i64 0]) (by simp [results, Tryd.results27, go_sem, t0, t1, t2]) rfl ⟨by rw [HJ2.out] <;> rfl, HX7.out⟩
end Go.Proofs.YtbemjekkojgbpaaDoor
