/-
  Proved: 'AuditBounds' returns true for every input and leaves its arguments as they were. No condition.
-/
import Derived.Test.YtglngmfnoganpaaDoorAuReb
set_option linter.unusedVariables false
namespace Go.Proofs.YtglngmfnoganpaaDoor
open Go.RowKit Go.Sx Go.Sx.Sz Go.Sx.Sc Go.Sx.Au Go.ChangeShapes Go.WideShapes Go.ChangeAt

set_option maxRecDepth 100000 in
set_option maxHeartbeats 8000000 in
theorem aubnd_law (vn vp vc vt : Value) (s : Sc) (l : List S2) (u : Int) (hu : 0 ≤ u ∧ u ≤ 255) (w : World) (G0 : Gl 0 w) (S : ScR w vn vp vc s) (R : Sl w 2 encS vt l) :
    Calls Tryd.prog 6 #[.agg #[.int .i64 s.voices, vn, vp, vc], vt, .int .u8 u] w fun e w' => e = .returned (.bool true) ∧ Ext w w' := by
  obtain ⟨an, cn, rfl, -, -, hln⟩ := S.nt.len
  obtain ⟨ap, cp, rfl, -, -, hlp⟩ := S.pr.len
  obtain ⟨ac, cc, rfl, -, -, hlc⟩ := S.cd.len
  obtain ⟨at', ct, rfl, -, -, hlt⟩ := R.len
  obtain ⟨u1, u2⟩ := hu
  have X0 : Ext w (w.alloc (.cells #[.int .i64 s.voices, .slice an s.notes.length cn, .slice ap s.pairs.length cp, .slice ac s.cads.length cc] 26)) := (by repeat (first | with_reducible exact Ext.refl _ | with_reducible assumption | with_reducible apply Ext.alloc | with_reducible apply Ext.drew | (with_reducible refine Ext.setCell ?_ (by (try simp) <;> omega) _)))
  have b0_0 := block_new w (.cells #[.int .i64 s.voices, .slice an s.notes.length cn, .slice ap s.pairs.length cp, .slice ac s.cads.length cc] 26)
  obtain ⟨W0, hW0⟩ : ∃ W, (w.alloc (.cells #[.int .i64 s.voices, .slice an s.notes.length cn, .slice ap s.pairs.length cp, .slice ac s.cads.length cc] 26)) = W := ⟨_, rfl⟩
  obtain ⟨B0, hB0⟩ : ∃ B, w.heap.size = B := ⟨_, rfl⟩
  rw [hW0] at X0 b0_0
  rw [hB0] at b0_0
  have HZ0 : Hid (w.heap.size ≤ B0) := Lib.hid (by omega)
  have HW0 := Lib.hid hW0; have HB0 := Lib.hid hB0
  clear hW0 hB0
  have CB := Lib.hid (boxS39 b0_0)
  have S1 := S.ext X0; have R1 := R.ext X0; have G1 := G0.ext X0
  clear S R G0 b0_0
  go_enter Tryd.func6, Tryd.ntmps6
  go_wp2_with fail
  rw [HW0.out, HB0.out]
  clear HW0 HB0
  refine (head_walk _ G1).mono ?_
  rintro e w1 ⟨rfl, x1⟩
  obtain ⟨c0, c1, c2, c3⟩ := CB.out _ x1
  go_wp2_with fail
  refine (few_walk _ _ _ s _ (S1.ext x1)).mono ?_
  cases hf : fewB s with
  | false =>
    clear hf
    rintro e w2 ⟨rfl, y2⟩
    clear c0 c1 c2 c3
    go_wp2
    go_ret
    exact ⟨rfl, X0.trans (x1.trans y2)⟩
  | true =>
  clear hf
  rintro e w2 ⟨rfl, y2⟩
  have x2 := x1.trans y2
  clear c0 c1 c2 c3
  obtain ⟨c0, c1, c2, c3⟩ := CB.out _ x2
  by_cases hp : s.pairs.length = 0
  · have e1 : ((s.pairs.length : Int) == 0) = true := by rw [beq_iff_eq]; omega
    clear hp
    go_wp2
    go_ret
    exact ⟨rfl, X0.trans x2⟩
  have e1 : ((s.pairs.length : Int) == 0) = false := by rw [beq_eq_false_iff_ne]; omega
  have HP : Hid (0 < s.pairs.length) := Lib.hid (by omega)
  clear hp
  go_wp2_with fail
  refine (rtones_walk _ _ _ _ s l _ (S1.ext x2) (R1.ext x2)).mono ?_
  cases hok : tonesB s l with
  | false =>
    clear hok
    rintro e w3 ⟨rfl, y3⟩
    clear c0 c1 c2 c3
    go_wp2
    go_ret
    exact ⟨rfl, X0.trans (x2.trans y3)⟩
  | true =>
  have HO := Lib.hid hok
  have HT := Lib.hid (tonesB_iff.1 hok)
  clear hok
  rintro e w3 ⟨rfl, y3⟩
  have x3 := x2.trans y3
  clear c0 c1 c2 c3 e1
  obtain ⟨c0, c1, c2, c3⟩ := CB.out _ x3
  obtain ⟨m, hm, hml⟩ := pair_at HP.out u1
  have HM := Lib.hid hm
  have hpos : (0 : Int) < (s.pairs.length : Int) := by omega
  have hne : ¬ ((s.pairs.length : Int) = 0) := by omega
  have HJ1 := Lib.hid (judgeR_at HO.out hml)
  have HJB := Lib.hid fun b (hb : 0 ≤ b ∧ b ≤ 100000) => reb_judge HT.out hml hb
  obtain ⟨hdk, -, -, hbd, hlh⟩ := pairD_ok HT.out hml
  have hfd : fdOf s l m = findZ m (pairD s l (s.P m)) (s.P m).bound := rfl
  rw [hfd] at HJ1
  clear hm hfd
  obtain ⟨p0, hp0⟩ : ∃ z, (s.P m).bound = z := ⟨_, rfl⟩
  obtain ⟨d, hd⟩ : ∃ z, pairD s l (s.P m) = z := ⟨_, rfl⟩
  rw [hp0] at HJ1 hbd
  rw [hd] at HJ1 HJB hlh hdk
  have hbu : bndZ d p0 ≤ 200000000000 := by unfold dOk at hdk; unfold bndZ farZ apartZ; (repeat' split) <;> omega
  have hbn : 0 ≤ bndZ d p0 := bnd_nonneg hbd.1
  have hden : verdZ d p0 = 2 → _ := fun h => bnd_denied hbd.1 hlh h
  have hsh : verdZ d p0 ≠ 2 → verdZ d (bndZ d p0) = 1 := fun h => bnd_shown h
  have hls : verdZ d p0 ≠ 2 → 0 ≤ bndZ d p0 - 1 → verdZ d (bndZ d p0 - 1) ≠ 1 := fun h => bnd_less h
  obtain ⟨va, hva⟩ : ∃ z, verdZ d p0 = z := ⟨_, rfl⟩
  obtain ⟨ba, hba⟩ : ∃ z, bndZ d p0 = z := ⟨_, rfl⟩
  unfold findZ at HJ1
  rw [hva, hba] at HJ1
  rw [hba] at hbn hsh hls hden hbu
  rw [hva] at hsh hls hden
  have HD := Lib.hid hden; have HSH := Lib.hid hsh; have HL := Lib.hid hls
  clear hp0 hva hba hd hden hsh hls hbd hlh hdk
  have i1 : (0 : Int) ≤ (m : Int) := by omega
  have i2 : (m : Int) < (s.pairs.length : Int) := by omega
  have hpl : s.pairs.length ≤ 400 := HT.out.1.sz.2.2.1
  go_wp2_with fail
  rw [HM.out]
  refine (judge_walk _ _ _ _ s l m _ (G1.ext x3) (S1.ext x3) (R1.ext x3)).mono ?_
  rw [HJ1.out]
  rintro e w4 ⟨rfl, y4⟩
  have f4 := Ext.alloc' w4 (.cells #[.int .i64 m, .int .i64 va, .int .i64 ba] 32)
  have b4 := block_new w4 (.cells #[.int .i64 m, .int .i64 va, .int .i64 ba] 32)
  have x4 := x3.trans (y4.trans f4)
  clear c0 c1 c2 c3
  obtain ⟨W4, hW4⟩ : ∃ W, w4.alloc (.cells #[.int .i64 m, .int .i64 va, .int .i64 ba] 32) = W := ⟨_, rfl⟩
  obtain ⟨B4, hB4⟩ : ∃ W, w4.heap.size = W := ⟨_, rfl⟩
  rw [hW4] at b4 x4
  rw [hB4] at b4
  have HW4 := Lib.hid hW4; have HB4 := Lib.hid hB4
  clear hW4 hB4 f4
  have d0 := block_cell b4 0 _ rfl; have d1 := block_cell b4 1 _ rfl; have d2 := block_cell b4 2 _ rfl
  have HB := Lib.hid b4
  clear b4
  obtain ⟨c0, c1, c2, c3⟩ := CB.out _ x4
  by_cases hv : va = 2
  · subst hv
    obtain ⟨hv1, hv3⟩ := HD.out rfl
    by_cases h1 : ba ≤ 99999
    · obtain ⟨bb6, hbb6⟩ : ∃ z, bndZ d (ba) = z := ⟨_, rfl⟩
      have HJ6 : Hid (judgeR (rebS s m (ba)) l (m : Int) = (⟨m, 2, bb6⟩, 0)) := Lib.hid (by rw [HJB.out (ba) (by omega)]; unfold findZ; rw [hv1, hbb6])
      clear hbb6
      obtain ⟨v2, hv2⟩ : ∃ z, verdZ d (ba + 1) = z := ⟨_, rfl⟩
      rw [hv2] at hv3
      have ev2 : (v2 != 2) = true := bne_iff_ne.2 hv3
      obtain ⟨bb8, hbb8⟩ : ∃ z, bndZ d (ba + 1) = z := ⟨_, rfl⟩
      have HJ8 : Hid (judgeR (rebS s m (ba + 1)) l (m : Int) = (⟨m, v2, bb8⟩, 0)) := Lib.hid (by rw [HJB.out (ba + 1) (by omega)]; unfold findZ; rw [hv2, hbb8])
      clear hbb8
      clear hv2 hv3
      clear hv1
      go_upto_region 6 with fail
      rw [HW4.out, HB4.out]
      go_upto_region 7 with fail
      go_quiet (fail)
      have x5a : Ext W0 (W4.drewN nq) := x4.drewN nq
      have b5a : (W4.drewN nq).heap[B4]? = some (.cells #[.int .i64 m, .int .i64 2, .int .i64 ba] 32 (0, 0)) := HB.out
      generalize W4.drewN nq = w5a at x5a b5a ⊢
      clear c0 c1 c2 c3 d0 d1 d2 x4 HB
      have d0 := block_cell b5a 0 _ rfl; have d1 := block_cell b5a 1 _ rfl; have d2 := block_cell b5a 2 _ rfl
      go_upto_region 9 with fail
      go_quiet (fail)
      have x5 : Ext W0 (w5a.drewN nq) := x5a.drewN nq
      have b5 : (w5a.drewN nq).heap[B4]? = some (.cells #[.int .i64 m, .int .i64 2, .int .i64 ba] 32 (0, 0)) := b5a
      generalize w5a.drewN nq = w5 at x5 b5 ⊢
      clear d0 d1 d2 x5a b5a
      have d0 := block_cell b5 0 _ rfl; have d1 := block_cell b5 1 _ rfl; have d2 := block_cell b5 2 _ rfl
      have HB := Lib.hid b5
      clear b5
      obtain ⟨c0, c1, c2, c3⟩ := CB.out _ x5
      go_wp2_with fail
      refine (rebound_walk _ _ _ s hpl m hml (ba) _ (S1.ext x5)).mono ?_
      rintro e w6 ⟨up6, rfl, S6, y6⟩
      have x6 := x5.trans y6
      clear c0 c1 c2 c3 d0 d1 d2
      go_wp2_with fail
      refine (judge_walk _ _ _ _ (rebS s m (ba)) l m _ (G1.ext x6) S6 (R1.ext x6)).mono ?_
      rw [HJ6.out]
      rintro e w7 ⟨rfl, y7⟩
      have f7 := Ext.alloc' w7 (.cells #[.int .i64 m, .int .i64 2, .int .i64 bb6] 32)
      have b7 := block_new w7 (.cells #[.int .i64 m, .int .i64 2, .int .i64 bb6] 32)
      have x7 := x6.trans (y7.trans f7)
      have z7 := y6.trans (y7.trans f7)
      have HB7' := Lib.hid (block_ext z7 HB.out)
      have d0 := block_cell HB7'.out 0 _ rfl; have d1 := block_cell HB7'.out 1 _ rfl; have d2 := block_cell HB7'.out 2 _ rfl
      obtain ⟨c0, c1, c2, c3⟩ := CB.out _ x7
      have g0 := block_cell b7 0 _ rfl; have g1 := block_cell b7 1 _ rfl; have g2 := block_cell b7 2 _ rfl
      clear f7 b7 S6
      go_wp2_with fail
      refine (rebound_walk _ _ _ s hpl m hml (ba + 1) _ (S1.ext x7)).mono ?_
      rintro e w8 ⟨up8, rfl, S8, y8⟩
      have x8 := x7.trans y8
      clear c0 c1 c2 c3 d0 d1 d2
      go_wp2_with fail
      refine (judge_walk _ _ _ _ (rebS s m (ba + 1)) l m _ (G1.ext x8) S8 (R1.ext x8)).mono ?_
      rw [HJ8.out]
      rintro e w9 ⟨rfl, y9⟩
      have f9 := Ext.alloc' w9 (.cells #[.int .i64 m, .int .i64 v2, .int .i64 bb8] 32)
      have b9 := block_new w9 (.cells #[.int .i64 m, .int .i64 v2, .int .i64 bb8] 32)
      have x9 := x8.trans (y9.trans f9)
      have z9 := y8.trans (y9.trans f9)
      have HB9' := Lib.hid (block_ext z9 HB7'.out)
      have d0 := block_cell HB9'.out 0 _ rfl; have d1 := block_cell HB9'.out 1 _ rfl; have d2 := block_cell HB9'.out 2 _ rfl
      obtain ⟨c0, c1, c2, c3⟩ := CB.out _ x9
      have g0 := block_cell b9 0 _ rfl; have g1 := block_cell b9 1 _ rfl; have g2 := block_cell b9 2 _ rfl
      clear f9 b9 S8
      have HX := Lib.hid (X0.trans x9)
      go_wp2
      go_ret
      exact ⟨by first | rfl | simp, HX.out⟩
    · by_cases h2 : ba = 100000
      · have h3 : ¬ (ba + 1 ≤ 100000) := by omega
        have h4 : ba ≤ 100000 := by omega
        clear h2 hv3
        obtain ⟨bb6, hbb6⟩ : ∃ z, bndZ d (ba) = z := ⟨_, rfl⟩
        have HJ6 : Hid (judgeR (rebS s m (ba)) l (m : Int) = (⟨m, 2, bb6⟩, 0)) := Lib.hid (by rw [HJB.out (ba) (by omega)]; unfold findZ; rw [hv1, hbb6])
        clear hbb6
        clear hv1
        go_upto_region 6 with fail
        rw [HW4.out, HB4.out]
        go_upto_region 7 with fail
        go_quiet (fail)
        have x5a : Ext W0 (W4.drewN nq) := x4.drewN nq
        have b5a : (W4.drewN nq).heap[B4]? = some (.cells #[.int .i64 m, .int .i64 2, .int .i64 ba] 32 (0, 0)) := HB.out
        generalize W4.drewN nq = w5a at x5a b5a ⊢
        clear c0 c1 c2 c3 d0 d1 d2 x4 HB
        have d0 := block_cell b5a 0 _ rfl; have d1 := block_cell b5a 1 _ rfl; have d2 := block_cell b5a 2 _ rfl
        go_upto_region 9 with fail
        go_quiet (fail)
        have x5 : Ext W0 (w5a.drewN nq) := x5a.drewN nq
        have b5 : (w5a.drewN nq).heap[B4]? = some (.cells #[.int .i64 m, .int .i64 2, .int .i64 ba] 32 (0, 0)) := b5a
        generalize w5a.drewN nq = w5 at x5 b5 ⊢
        clear d0 d1 d2 x5a b5a
        have d0 := block_cell b5 0 _ rfl; have d1 := block_cell b5 1 _ rfl; have d2 := block_cell b5 2 _ rfl
        have HB := Lib.hid b5
        clear b5
        obtain ⟨c0, c1, c2, c3⟩ := CB.out _ x5
        go_wp2_with fail
        refine (rebound_walk _ _ _ s hpl m hml (ba) _ (S1.ext x5)).mono ?_
        rintro e w6 ⟨up6, rfl, S6, y6⟩
        have x6 := x5.trans y6
        clear c0 c1 c2 c3 d0 d1 d2
        go_wp2_with fail
        refine (judge_walk _ _ _ _ (rebS s m (ba)) l m _ (G1.ext x6) S6 (R1.ext x6)).mono ?_
        rw [HJ6.out]
        rintro e w7 ⟨rfl, y7⟩
        have f7 := Ext.alloc' w7 (.cells #[.int .i64 m, .int .i64 2, .int .i64 bb6] 32)
        have b7 := block_new w7 (.cells #[.int .i64 m, .int .i64 2, .int .i64 bb6] 32)
        have x7 := x6.trans (y7.trans f7)
        have z7 := y6.trans (y7.trans f7)
        have HB7' := Lib.hid (block_ext z7 HB.out)
        have d0 := block_cell HB7'.out 0 _ rfl; have d1 := block_cell HB7'.out 1 _ rfl; have d2 := block_cell HB7'.out 2 _ rfl
        obtain ⟨c0, c1, c2, c3⟩ := CB.out _ x7
        have g0 := block_cell b7 0 _ rfl; have g1 := block_cell b7 1 _ rfl; have g2 := block_cell b7 2 _ rfl
        clear f7 b7 S6
        have HX := Lib.hid (X0.trans x7)
        go_wp2
        go_ret
        exact ⟨by first | rfl | simp, HX.out⟩
      · have h3 : ¬ (ba + 1 ≤ 100000) := by omega
        have h4 : ¬ (ba ≤ 100000) := by omega
        clear h2 hv3
        clear hv1
        go_upto_region 6 with fail
        rw [HW4.out, HB4.out]
        go_upto_region 7 with fail
        go_quiet (fail)
        have x5a : Ext W0 (W4.drewN nq) := x4.drewN nq
        have b5a : (W4.drewN nq).heap[B4]? = some (.cells #[.int .i64 m, .int .i64 2, .int .i64 ba] 32 (0, 0)) := HB.out
        generalize W4.drewN nq = w5a at x5a b5a ⊢
        clear c0 c1 c2 c3 d0 d1 d2 x4 HB
        have d0 := block_cell b5a 0 _ rfl; have d1 := block_cell b5a 1 _ rfl; have d2 := block_cell b5a 2 _ rfl
        go_upto_region 9 with fail
        go_quiet (fail)
        have x5 : Ext W0 (w5a.drewN nq) := x5a.drewN nq
        have b5 : (w5a.drewN nq).heap[B4]? = some (.cells #[.int .i64 m, .int .i64 2, .int .i64 ba] 32 (0, 0)) := b5a
        generalize w5a.drewN nq = w5 at x5 b5 ⊢
        clear d0 d1 d2 x5a b5a
        have d0 := block_cell b5 0 _ rfl; have d1 := block_cell b5 1 _ rfl; have d2 := block_cell b5 2 _ rfl
        have HB := Lib.hid b5
        clear b5
        obtain ⟨c0, c1, c2, c3⟩ := CB.out _ x5
        have HX := Lib.hid (X0.trans x5)
        go_wp2
        go_ret
        exact ⟨by first | rfl | simp, HX.out⟩
  · have ev : (va == 2) = false := beq_eq_false_iff_ne.2 hv
    have hv1 := HSH.out hv
    have hv3' := HL.out hv
    clear hv
    by_cases h0 : ba = 0
    · have h3 : ¬ (0 ≤ ba - 1) := by omega
      have h4 : ba ≤ 100000 := by omega
      clear h0 hv3'
      obtain ⟨bb6, hbb6⟩ : ∃ z, bndZ d (ba) = z := ⟨_, rfl⟩
      have HJ6 : Hid (judgeR (rebS s m (ba)) l (m : Int) = (⟨m, 1, bb6⟩, 0)) := Lib.hid (by rw [HJB.out (ba) (by omega)]; unfold findZ; rw [hv1, hbb6])
      clear hbb6
      clear hv1
      go_upto_region 6 with fail
      rw [HW4.out, HB4.out]
      go_upto_region 7 with fail
      go_quiet (fail)
      have x5a : Ext W0 (W4.drewN nq) := x4.drewN nq
      have b5a : (W4.drewN nq).heap[B4]? = some (.cells #[.int .i64 m, .int .i64 va, .int .i64 ba] 32 (0, 0)) := HB.out
      generalize W4.drewN nq = w5a at x5a b5a ⊢
      clear c0 c1 c2 c3 d0 d1 d2 x4 HB
      have d0 := block_cell b5a 0 _ rfl; have d1 := block_cell b5a 1 _ rfl; have d2 := block_cell b5a 2 _ rfl
      obtain ⟨w5, rfl⟩ : ∃ w : World, w = w5a := ⟨_, rfl⟩
      have x5 := x5a
      have b5 := b5a
      clear d0 d1 d2 x5a b5a
      have d0 := block_cell b5 0 _ rfl; have d1 := block_cell b5 1 _ rfl; have d2 := block_cell b5 2 _ rfl
      have HB := Lib.hid b5
      clear b5
      obtain ⟨c0, c1, c2, c3⟩ := CB.out _ x5
      go_wp2_with fail
      refine (rebound_walk _ _ _ s hpl m hml (ba) _ (S1.ext x5)).mono ?_
      rintro e w6 ⟨up6, rfl, S6, y6⟩
      have x6 := x5.trans y6
      clear c0 c1 c2 c3 d0 d1 d2
      go_wp2_with fail
      refine (judge_walk _ _ _ _ (rebS s m (ba)) l m _ (G1.ext x6) S6 (R1.ext x6)).mono ?_
      rw [HJ6.out]
      rintro e w7 ⟨rfl, y7⟩
      have f7 := Ext.alloc' w7 (.cells #[.int .i64 m, .int .i64 1, .int .i64 bb6] 32)
      have b7 := block_new w7 (.cells #[.int .i64 m, .int .i64 1, .int .i64 bb6] 32)
      have x7 := x6.trans (y7.trans f7)
      have z7 := y6.trans (y7.trans f7)
      have HB7' := Lib.hid (block_ext z7 HB.out)
      have d0 := block_cell HB7'.out 0 _ rfl; have d1 := block_cell HB7'.out 1 _ rfl; have d2 := block_cell HB7'.out 2 _ rfl
      obtain ⟨c0, c1, c2, c3⟩ := CB.out _ x7
      have g0 := block_cell b7 0 _ rfl; have g1 := block_cell b7 1 _ rfl; have g2 := block_cell b7 2 _ rfl
      clear f7 b7 S6
      have HX := Lib.hid (X0.trans x7)
      go_wp2
      go_ret
      exact ⟨by first | rfl | simp, HX.out⟩
    · have hv3 := hv3' (by omega)
      have h5 : 1 ≤ ba := by omega
      clear hv3' h0
      by_cases h1 : ba ≤ 100000
      · obtain ⟨bb6, hbb6⟩ : ∃ z, bndZ d (ba) = z := ⟨_, rfl⟩
        have HJ6 : Hid (judgeR (rebS s m (ba)) l (m : Int) = (⟨m, 1, bb6⟩, 0)) := Lib.hid (by rw [HJB.out (ba) (by omega)]; unfold findZ; rw [hv1, hbb6])
        clear hbb6
        obtain ⟨v2, hv2⟩ : ∃ z, verdZ d (ba - 1) = z := ⟨_, rfl⟩
        rw [hv2] at hv3
        have ev2 : (v2 != 1) = true := bne_iff_ne.2 hv3
        obtain ⟨bb8, hbb8⟩ : ∃ z, bndZ d (ba - 1) = z := ⟨_, rfl⟩
        have HJ8 : Hid (judgeR (rebS s m (ba - 1)) l (m : Int) = (⟨m, v2, bb8⟩, 0)) := Lib.hid (by rw [HJB.out (ba - 1) (by omega)]; unfold findZ; rw [hv2, hbb8])
        clear hbb8
        clear hv2 hv3
        clear hv1
        go_upto_region 6 with fail
        rw [HW4.out, HB4.out]
        go_upto_region 7 with fail
        go_quiet (fail)
        have x5a : Ext W0 (W4.drewN nq) := x4.drewN nq
        have b5a : (W4.drewN nq).heap[B4]? = some (.cells #[.int .i64 m, .int .i64 va, .int .i64 ba] 32 (0, 0)) := HB.out
        generalize W4.drewN nq = w5a at x5a b5a ⊢
        clear c0 c1 c2 c3 d0 d1 d2 x4 HB
        have d0 := block_cell b5a 0 _ rfl; have d1 := block_cell b5a 1 _ rfl; have d2 := block_cell b5a 2 _ rfl
        obtain ⟨w5, rfl⟩ : ∃ w : World, w = w5a := ⟨_, rfl⟩
        have x5 := x5a
        have b5 := b5a
        clear d0 d1 d2 x5a b5a
        have d0 := block_cell b5 0 _ rfl; have d1 := block_cell b5 1 _ rfl; have d2 := block_cell b5 2 _ rfl
        have HB := Lib.hid b5
        clear b5
        obtain ⟨c0, c1, c2, c3⟩ := CB.out _ x5
        go_wp2_with fail
        refine (rebound_walk _ _ _ s hpl m hml (ba) _ (S1.ext x5)).mono ?_
        rintro e w6 ⟨up6, rfl, S6, y6⟩
        have x6 := x5.trans y6
        clear c0 c1 c2 c3 d0 d1 d2
        go_wp2_with fail
        refine (judge_walk _ _ _ _ (rebS s m (ba)) l m _ (G1.ext x6) S6 (R1.ext x6)).mono ?_
        rw [HJ6.out]
        rintro e w7 ⟨rfl, y7⟩
        have f7 := Ext.alloc' w7 (.cells #[.int .i64 m, .int .i64 1, .int .i64 bb6] 32)
        have b7 := block_new w7 (.cells #[.int .i64 m, .int .i64 1, .int .i64 bb6] 32)
        have x7 := x6.trans (y7.trans f7)
        have z7 := y6.trans (y7.trans f7)
        have HB7' := Lib.hid (block_ext z7 HB.out)
        have d0 := block_cell HB7'.out 0 _ rfl; have d1 := block_cell HB7'.out 1 _ rfl; have d2 := block_cell HB7'.out 2 _ rfl
        obtain ⟨c0, c1, c2, c3⟩ := CB.out _ x7
        have g0 := block_cell b7 0 _ rfl; have g1 := block_cell b7 1 _ rfl; have g2 := block_cell b7 2 _ rfl
        clear f7 b7 S6
        go_wp2_with fail
        refine (rebound_walk _ _ _ s hpl m hml (ba - 1) _ (S1.ext x7)).mono ?_
        rintro e w8 ⟨up8, rfl, S8, y8⟩
        have x8 := x7.trans y8
        clear c0 c1 c2 c3 d0 d1 d2
        go_wp2_with fail
        refine (judge_walk _ _ _ _ (rebS s m (ba - 1)) l m _ (G1.ext x8) S8 (R1.ext x8)).mono ?_
        rw [HJ8.out]
        rintro e w9 ⟨rfl, y9⟩
        have f9 := Ext.alloc' w9 (.cells #[.int .i64 m, .int .i64 v2, .int .i64 bb8] 32)
        have b9 := block_new w9 (.cells #[.int .i64 m, .int .i64 v2, .int .i64 bb8] 32)
        have x9 := x8.trans (y9.trans f9)
        have z9 := y8.trans (y9.trans f9)
        have HB9' := Lib.hid (block_ext z9 HB7'.out)
        have d0 := block_cell HB9'.out 0 _ rfl; have d1 := block_cell HB9'.out 1 _ rfl; have d2 := block_cell HB9'.out 2 _ rfl
        obtain ⟨c0, c1, c2, c3⟩ := CB.out _ x9
        have g0 := block_cell b9 0 _ rfl; have g1 := block_cell b9 1 _ rfl; have g2 := block_cell b9 2 _ rfl
        clear f9 b9 S8
        have HX := Lib.hid (X0.trans x9)
        go_wp2
        go_ret
        exact ⟨by first | rfl | simp, HX.out⟩
      · by_cases h2 : ba = 100001
        · have h3 : ba - 1 ≤ 100000 := by omega
          clear h2
          obtain ⟨v2, hv2⟩ : ∃ z, verdZ d (ba - 1) = z := ⟨_, rfl⟩
          rw [hv2] at hv3
          have ev2 : (v2 != 1) = true := bne_iff_ne.2 hv3
          obtain ⟨bb8, hbb8⟩ : ∃ z, bndZ d (ba - 1) = z := ⟨_, rfl⟩
          have HJ8 : Hid (judgeR (rebS s m (ba - 1)) l (m : Int) = (⟨m, v2, bb8⟩, 0)) := Lib.hid (by rw [HJB.out (ba - 1) (by omega)]; unfold findZ; rw [hv2, hbb8])
          clear hbb8
          clear hv2 hv3
          clear hv1
          go_upto_region 6 with fail
          rw [HW4.out, HB4.out]
          go_upto_region 7 with fail
          go_quiet (fail)
          have x5a : Ext W0 (W4.drewN nq) := x4.drewN nq
          have b5a : (W4.drewN nq).heap[B4]? = some (.cells #[.int .i64 m, .int .i64 va, .int .i64 ba] 32 (0, 0)) := HB.out
          generalize W4.drewN nq = w5a at x5a b5a ⊢
          clear c0 c1 c2 c3 d0 d1 d2 x4 HB
          have d0 := block_cell b5a 0 _ rfl; have d1 := block_cell b5a 1 _ rfl; have d2 := block_cell b5a 2 _ rfl
          obtain ⟨w5, rfl⟩ : ∃ w : World, w = w5a := ⟨_, rfl⟩
          have x5 := x5a
          have b5 := b5a
          clear d0 d1 d2 x5a b5a
          have d0 := block_cell b5 0 _ rfl; have d1 := block_cell b5 1 _ rfl; have d2 := block_cell b5 2 _ rfl
          have HB := Lib.hid b5
          clear b5
          obtain ⟨c0, c1, c2, c3⟩ := CB.out _ x5
          go_wp2_with fail
          refine (rebound_walk _ _ _ s hpl m hml (ba - 1) _ (S1.ext x5)).mono ?_
          rintro e w8 ⟨up8, rfl, S8, y8⟩
          have x8 := x5.trans y8
          clear c0 c1 c2 c3 d0 d1 d2
          go_wp2_with fail
          refine (judge_walk _ _ _ _ (rebS s m (ba - 1)) l m _ (G1.ext x8) S8 (R1.ext x8)).mono ?_
          rw [HJ8.out]
          rintro e w9 ⟨rfl, y9⟩
          have f9 := Ext.alloc' w9 (.cells #[.int .i64 m, .int .i64 v2, .int .i64 bb8] 32)
          have b9 := block_new w9 (.cells #[.int .i64 m, .int .i64 v2, .int .i64 bb8] 32)
          have x9 := x8.trans (y9.trans f9)
          have z9 := y8.trans (y9.trans f9)
          have HB9' := Lib.hid (block_ext z9 HB.out)
          have d0 := block_cell HB9'.out 0 _ rfl; have d1 := block_cell HB9'.out 1 _ rfl; have d2 := block_cell HB9'.out 2 _ rfl
          obtain ⟨c0, c1, c2, c3⟩ := CB.out _ x9
          have g0 := block_cell b9 0 _ rfl; have g1 := block_cell b9 1 _ rfl; have g2 := block_cell b9 2 _ rfl
          clear f9 b9 S8
          have HX := Lib.hid (X0.trans x9)
          go_wp2
          go_ret
          exact ⟨by first | rfl | simp, HX.out⟩
        · have h3 : ¬ (ba - 1 ≤ 100000) := by omega
          clear h2 hv3
          clear hv1
          go_upto_region 6 with fail
          rw [HW4.out, HB4.out]
          go_upto_region 7 with fail
          go_quiet (fail)
          have x5a : Ext W0 (W4.drewN nq) := x4.drewN nq
          have b5a : (W4.drewN nq).heap[B4]? = some (.cells #[.int .i64 m, .int .i64 va, .int .i64 ba] 32 (0, 0)) := HB.out
          generalize W4.drewN nq = w5a at x5a b5a ⊢
          clear c0 c1 c2 c3 d0 d1 d2 x4 HB
          have d0 := block_cell b5a 0 _ rfl; have d1 := block_cell b5a 1 _ rfl; have d2 := block_cell b5a 2 _ rfl
          obtain ⟨w5, rfl⟩ : ∃ w : World, w = w5a := ⟨_, rfl⟩
          have x5 := x5a
          have b5 := b5a
          clear d0 d1 d2 x5a b5a
          have d0 := block_cell b5 0 _ rfl; have d1 := block_cell b5 1 _ rfl; have d2 := block_cell b5 2 _ rfl
          have HB := Lib.hid b5
          clear b5
          obtain ⟨c0, c1, c2, c3⟩ := CB.out _ x5
          have HX := Lib.hid (X0.trans x5)
          go_wp2
          go_ret
          exact ⟨by first | rfl | simp, HX.out⟩

theorem auditBounds_args (H : Type) (enc : TypeId × Value → H) (W : World) (base : Nat) (vs : List Value) (ds : List (DataW H)) (_ : ∀ k, (OpenSpec.ofChange Rows.auditBoundsSpec).cond = some k → k H ds = true) (hL : laidMetH Tryd.prog Rows.auditBoundsRow.laid W) (hA : Args enc Tryd.prog W base Tryd.f6.params.toList vs ds) :
    Calls Tryd.prog 6 vs.toArray W fun e W' => e = .returned (.bool true) ∧ Ext W W' := by
  rw [Tryd.params6] at hA
  obtain ⟨v0, _, d0, _, rfl, rfl, h0, hA⟩ := hA.cons
  obtain ⟨v1, _, d1, _, rfl, rfl, h1, hA⟩ := hA.cons
  obtain ⟨v2, _, d2, _, rfl, rfl, h2, hA⟩ := hA.cons
  obtain ⟨rfl, rfl⟩ := hA.nil
  obtain ⟨s, vn, vp, vc, rfl, S⟩ := arg_score h0
  obtain ⟨l1, S1, n1⟩ := arg_sizes h1
  obtain ⟨n, rfl, s0, s1⟩ := h2.int Tryd.underlying5
  exact aubnd_law _ _ _ _ s l1 n ⟨s0, s1⟩ W (gv_of hL) S S1

theorem auditBounds_met (os : Os) : laidMet Tryd.prog Rows.auditBoundsRow.laid ((laidWorld os).forCall (fun _ _ => 0) ⟨#[], #[.agg #[.int .i64 0, .slice none 0 0, .slice none 0 0, .slice none 0 0], .slice none 0 0, .int .u8 0], []⟩).memory := laidMet_of_run' 8 (by kernel_rfl) (by kernel_rfl)
theorem auditBounds_reads (os : Os) {H : Type} (enc : TypeId × Value → H) : ∃ places, DataW.whole enc Tryd.prog ((laidWorld os).forCall (fun _ _ => 0) ⟨#[], #[.agg #[.int .i64 0, .slice none 0 0, .slice none 0 0, .slice none 0 0], .slice none 0 0, .int .u8 0], []⟩).memory Tryd.f6.params.toList Rows.auditBoundsSpec.vars false #[.agg #[.int .i64 0, .slice none 0 0, .slice none 0 0, .slice none 0 0], .slice none 0 0, .int .u8 0].toList 8 = some ([.agg [.lit (.int .i64 0), .nil, .nil, .nil], .nil, .lit (.int .u8 0)], [], places) := ⟨[], by kernel_rfl⟩
set_option maxRecDepth 100000 in
theorem auditBounds_lifted (os : Os) (started : os.Started) (H : Type) (enc : TypeId × Value → H) (F : Stop.Interp) :
    ReturnsInHanded {} Tryd.checked os 6 .any ((OpenSpec.ofChange Rows.auditBoundsSpec).preRow enc Tryd.prog Tryd.f6 Rows.auditBoundsRow.domain false Rows.auditBoundsRow.laid) (((OpenSpec.ofChange Rows.auditBoundsSpec).at F).post enc Tryd.prog Tryd.f6 false true false false) := by
  obtain ⟨places, hx⟩ := auditBounds_reads os enc
  exact law_row (C := Tryd.checked) (s := (OpenSpec.ofChange Rows.auditBoundsSpec)) (by kernel_rfl) started (by kernel_rfl) Tryd.func6
    (witness_row_at (enc := enc) (C := Tryd.checked) false (laidWorld os) #[.agg #[.int .i64 0, .slice none 0 0, .slice none 0 0, .slice none 0 0], .slice none 0 0, .int .u8 0] rfl (by kernel_rfl) (by kernel_rfl) (by kernel_rfl) (OpenSpec.preRow_of_cond 8 hx (by kernel_rfl) (fun k hk => by cases hk) (by kernel_rfl) (auditBounds_met os)))
    (by kernel_rfl) (by kernel_rfl) (by kernel_rfl) rfl (fun ds h => by match ds, h with | [_, _, _], _ => rfl) (auditBounds_args H enc)
theorem auditBounds_said : Rows.AuditBoundsSaid :=
  OpenClaim.holds_of_cond 6 Tryd.f6 rfl rfl rfl rfl rfl rfl rfl ⟨rfl, rfl, rfl, rfl, rfl⟩ rfl rfl rfl rfl rfl (by kernel_rfl) Tryd.func6 (by kernel_rfl)
    (of_decide_eq_true (by kernel_rfl)) (by unfold Func.isWrapper; first | (rw [if_pos (by decide +kernel)]; kernel_rfl) | (rw [if_neg (by decide +kernel)]; exact ⟨rfl, rfl⟩))
    (fun os started H enc _ F => by rw [OpenClaim.pre_eq_preRow]; exact auditBounds_lifted os started H enc F)
theorem auditBounds_plain (f : FuncId) (fn : Func) (hf : Tryd.pinned.checked.prog.funcNamed "schisma/schismalaw39.AuditBounds" = some f) (hfn : Tryd.pinned.checked.prog.funcs[f]? = some fn) :
    false = Tryd.pinned.checked.prog.looks [] ∧ ∀ (j : Nat) t, fn.params[j]? = some t → Tryd.pinned.checked.prog.wantsStandIn t = false := by
  obtain rfl : f = 6 := Option.some.inj ((show Tryd.prog.funcNamed "schisma/schismalaw39.AuditBounds" = some 6 by kernel_rfl).symm.trans hf) |>.symm
  obtain rfl : fn = Tryd.f6 := (Option.some.inj (Tryd.func6.symm.trans hfn)).symm
  refine ⟨by kernel_rfl, fun j t ht => ?_⟩
  have hall : Tryd.f6.params.all (fun t => !Tryd.prog.wantsStandIn t) = true := by kernel_rfl
  have := (Array.all_eq_true'.1 hall) t (Array.mem_of_getElem? ht)
  have e : Tryd.prog.wantsStandIn t = false := by simpa using this
  exact e
/-- The card. -/
theorem auditBounds_holds : Rows.AuditBoundsCardSaid :=
  Claim7.holds_tied_plain_at .later [] _ _ _ _ auditBounds_said (fun _ h => by cases h) (by kernel_rfl) (fun _ h => by cases h) auditBounds_row_tie rfl ⟨rfl, rfl⟩ (by kernel_rfl) rfl auditBounds_plain (by kernel_rfl)
end Go.Proofs.YtglngmfnoganpaaDoor
