/-
  Proved: 'AuditTruth' returns true for every input and leaves its arguments as they were. No condition.
-/
import Derived.Test.YtglngmfnoganpaaDoorAuReb
set_option linter.unusedVariables false
namespace Go.Proofs.YtglngmfnoganpaaDoor
open Go.RowKit Go.Sx Go.Sx.Sz Go.Sx.Sc Go.Sx.Au Go.ChangeShapes Go.WideShapes Go.ChangeAt

def withinF (a : S2) (y u : Int) : Int := if y.tmod 3 = 0 then a.lo + u % (a.hi - a.lo + 1) else if y.tmod 3 = 1 ∨ y.tmod 3 = -1 then a.lo else a.hi
theorem withinF_in {a : S2} (ha : szOk a = true) (y u : Int) : a.lo ≤ withinF a y u ∧ withinF a y u ≤ a.hi := by
  rw [szOk_iff] at ha
  unfold withinF
  split
  · have hm1 : 0 ≤ u % (a.hi - a.lo + 1) := Int.emod_nonneg _ (by omega)
    have hm2 : u % (a.hi - a.lo + 1) < a.hi - a.lo + 1 := Int.emod_lt_of_pos _ (by omega)
    omega
  · split <;> omega
set_option maxRecDepth 100000 in
set_option maxHeartbeats 4000000 in
theorem lw_walk (a : S2) (ha : szOk a = true) (y u : Int) (hb : -128 ≤ y ∧ y ≤ 127) (hu : 0 ≤ u ∧ u ≤ 4294967295) (w : World) : Calls Tryd.prog 26 #[.agg #[.int .i64 a.lo, .int .i64 a.hi], .int .i8 y, .int .u32 u] w fun e w' =>
    e = .returned (.int .i64 (withinF a y u)) ∧ Ext w w' := by
  obtain ⟨l, t⟩ := a
  rw [szOk_iff] at ha
  dsimp only at ha
  obtain ⟨a1, a2, a3⟩ := ha
  obtain ⟨u1, u2⟩ := hu
  obtain ⟨z, hz⟩ : ∃ z, withinF ⟨l, t⟩ y u = z := ⟨_, rfl⟩
  have HZ : Hid (z = if y.tmod 3 = 0 then l + u % (t - l + 1) else if y.tmod 3 = 1 ∨ y.tmod 3 = -1 then l else t) := Lib.hid (by rw [← hz]; rfl)
  rw [hz]
  clear hz
  obtain ⟨r, hr⟩ : ∃ r, y.tmod 3 = r := ⟨_, rfl⟩
  rw [hr] at HZ
  have hr2 : -2 ≤ r ∧ r ≤ 2 := by have h1 := Int.tmod_lt_of_pos y (show (0 : Int) < 3 by omega); have h2 := Int.lt_tmod_of_pos y (show (0 : Int) < 3 by omega); omega
  by_cases h0 : r = 0
  · subst h0
    have hm1 : 0 ≤ u % (t - l + 1) := Int.emod_nonneg _ (by omega)
    have hm2 : u % (t - l + 1) < t - l + 1 := Int.emod_lt_of_pos _ (by omega)
    have hne : ¬ (t - l + 1 = 0) := by omega
    have hpos : 0 < t - l + 1 := by omega
    have HV : Hid (l + u % (t - l + 1) = z) := Lib.hid (by rw [HZ.out, if_pos rfl])
    have X0 : Ext w (w.alloc (.cells #[.int .i64 l, .int .i64 t] 56)) := (by repeat (first | with_reducible exact Ext.refl _ | with_reducible assumption | with_reducible apply Ext.alloc | with_reducible apply Ext.drew | (with_reducible refine Ext.setCell ?_ (by (try simp) <;> omega) _)))
    have b0_0 := block_new w (.cells #[.int .i64 l, .int .i64 t] 56)
    obtain ⟨W0, hW0⟩ : ∃ W, (w.alloc (.cells #[.int .i64 l, .int .i64 t] 56)) = W := ⟨_, rfl⟩
    obtain ⟨B0, hB0⟩ : ∃ B, w.heap.size = B := ⟨_, rfl⟩
    rw [hW0] at X0 b0_0
    rw [hB0] at b0_0
    have HZ0 : Hid (w.heap.size ≤ B0) := Lib.hid (by omega)
    have HW0 := Lib.hid hW0; have HB0 := Lib.hid hB0
    clear hW0 hB0
    have c0 := block_cell b0_0 0 _ rfl; have c1 := block_cell b0_0 1 _ rfl
    go_enter Tryd.func26, Tryd.ntmps26
    go_wp2_with fail
    rw [HW0.out, HB0.out]
    clear HW0 HB0
    go_quiet (fail)
    go_wp2
    go_ret
    exact ⟨by rw [← HV.out] <;> rfl, X0.drewN _⟩
  · have HN : Hid (z = if r = 1 ∨ r = -1 then l else t) := Lib.hid (by rw [HZ.out, if_neg h0])
    rcases (show r = -2 ∨ r = -1 ∨ r = 1 ∨ r = 2 by omega) with rfl | rfl | rfl | rfl
    all_goals
      go_enter Tryd.func26, Tryd.ntmps26
      go_wp2
      go_ret
      exact ⟨by rw [HN.out] <;> rfl, (by repeat (first | with_reducible exact Ext.refl _ | with_reducible assumption | with_reducible apply Ext.alloc | with_reducible apply Ext.drew | (with_reducible refine Ext.setCell ?_ (by (try simp) <;> omega) _)))⟩

set_option maxRecDepth 100000 in
set_option maxHeartbeats 8000000 in
theorem autru_law (vn vp vc vt vy : Value) (s : Sc) (l : List S2) (u : Int) (hu : 0 ≤ u ∧ u ≤ 255) (ys : List Int) (hys : ∀ y ∈ ys, -128 ≤ y ∧ y ≤ 127) (q : Int) (hq : 0 ≤ q ∧ q ≤ 4294967295) (w : World) (G0 : Gl 0 w) (S : ScR w vn vp vc s) (R : Sl w 2 encS vt l) (Y : Sl w 1 (fun x => [.int .i8 x]) vy ys) :
    Calls Tryd.prog 4 #[.agg #[.int .i64 s.voices, vn, vp, vc], vt, .int .u8 u, vy, .int .u32 q] w fun e w' => e = .returned (.bool true) ∧ Ext w w' := by
  obtain ⟨an, cn, rfl, -, -, hln⟩ := S.nt.len
  obtain ⟨ap, cp, rfl, -, -, hlp⟩ := S.pr.len
  obtain ⟨ac, cc, rfl, -, -, hlc⟩ := S.cd.len
  obtain ⟨at', ct, rfl, -, -, hlt⟩ := R.len
  obtain ⟨ay, cy, rfl, -, -, hly⟩ := Y.len
  obtain ⟨u1, u2⟩ := hu
  obtain ⟨q1, q2⟩ := hq
  have X0 : Ext w (w.alloc (.cells #[.int .i64 s.voices, .slice an s.notes.length cn, .slice ap s.pairs.length cp, .slice ac s.cads.length cc] 26)) := (by repeat (first | with_reducible exact Ext.refl _ | with_reducible assumption | with_reducible apply Ext.alloc | with_reducible apply Ext.drew | (with_reducible refine Ext.setCell ?_ (by (try simp) <;> omega) _)))
  have b0_0 := block_new w (.cells #[.int .i64 s.voices, .slice an s.notes.length cn, .slice ap s.pairs.length cp, .slice ac s.cads.length cc] 26)
  obtain ⟨W0, hW0⟩ : ∃ W, (w.alloc (.cells #[.int .i64 s.voices, .slice an s.notes.length cn, .slice ap s.pairs.length cp, .slice ac s.cads.length cc] 26)) = W := ⟨_, rfl⟩
  obtain ⟨B0, hB0⟩ : ∃ B, w.heap.size = B := ⟨_, rfl⟩
  rw [hW0] at X0 b0_0
  rw [hB0] at b0_0
  have HZ0 : Hid (w.heap.size ≤ B0) := Lib.hid (by omega)
  have HW0 := Lib.hid hW0; have HB0 := Lib.hid hB0
  clear hW0 hB0
  have CB := Lib.hid (boxS39 b0_0)
  have S1 := S.ext X0; have R1 := R.ext X0; have G1 := G0.ext X0; have Y1 := Y.ext X0
  clear S R Y G0 b0_0
  go_enter Tryd.func4, Tryd.ntmps4
  go_wp2_with fail
  rw [HW0.out, HB0.out]
  clear HW0 HB0
  refine (head_walk _ G1).mono ?_
  rintro e w1 ⟨rfl, x1⟩
  obtain ⟨c0, c1, c2, c3⟩ := CB.out _ x1
  go_wp2_with fail
  refine (few_walk _ _ _ s _ (S1.ext x1)).mono ?_
  cases hf : fewB s with
  | false =>
    clear hf
    rintro e w2 ⟨rfl, y2⟩
    clear c0 c1 c2 c3
    go_wp2
    go_ret
    exact ⟨rfl, X0.trans (x1.trans y2)⟩
  | true =>
  clear hf
  rintro e w2 ⟨rfl, y2⟩
  have x2 := x1.trans y2
  clear c0 c1 c2 c3
  obtain ⟨c0, c1, c2, c3⟩ := CB.out _ x2
  by_cases hp : s.pairs.length = 0
  · have e1 : ((s.pairs.length : Int) == 0) = true := by rw [beq_iff_eq]; omega
    clear hp
    go_wp2
    go_ret
    exact ⟨rfl, X0.trans x2⟩
  have e1 : ((s.pairs.length : Int) == 0) = false := by rw [beq_eq_false_iff_ne]; omega
  have HP : Hid (0 < s.pairs.length) := Lib.hid (by omega)
  clear hp
  by_cases hy3 : (ys.length : Int) < 3
  · go_wp2
    go_ret
    exact ⟨rfl, X0.trans x2⟩
  go_wp2_with fail
  refine (rtones_walk _ _ _ _ s l _ (S1.ext x2) (R1.ext x2)).mono ?_
  cases hok : tonesB s l with
  | false =>
    clear hok
    rintro e w3 ⟨rfl, y3⟩
    clear c0 c1 c2 c3
    go_wp2
    go_ret
    exact ⟨rfl, X0.trans (x2.trans y3)⟩
  | true =>
  have HO := Lib.hid hok
  have HT := Lib.hid (tonesB_iff.1 hok)
  clear hok
  rintro e w3 ⟨rfl, y3⟩
  have x3 := x2.trans y3
  clear c0 c1 c2 c3 e1
  obtain ⟨c0, c1, c2, c3⟩ := CB.out _ x3
  obtain ⟨m, hm, hml⟩ := pair_at HP.out u1
  have HM := Lib.hid hm
  have hpos : (0 : Int) < (s.pairs.length : Int) := by omega
  have hne : ¬ ((s.pairs.length : Int) = 0) := by omega
  have HJ1 := Lib.hid (judgeR_at HO.out hml)
  obtain ⟨hdk, hw, ⟨A, C, hA, hC, hA', hC'⟩, hbd, hlh⟩ := pairD_ok HT.out hml
  have hfd : fdOf s l m = findZ m (diffS (T l A) (T l C) (wantS (s.P m).want)) (s.P m).bound := by unfold fdOf pairD; rw [hA, hC, Int.toNat_natCast, Int.toNat_natCast]
  have hzA := HT.out.2.2 _ (List.getElem_mem hA'); have hzC := HT.out.2.2 _ (List.getElem_mem hC')
  rw [← T_eq hA'] at hzA; rw [← T_eq hC'] at hzC
  rw [hfd] at HJ1
  unfold pairD at hdk hlh
  rw [hA, hC, Int.toNat_natCast, Int.toNat_natCast] at hdk hlh
  clear hm hfd
  obtain ⟨bp, op, rfl, qq⟩ := Sl.pr S1.pr m hml
  rw [← Sc.P_eq hml] at qq
  obtain ⟨p, hp0⟩ : ∃ z, s.P m = z := ⟨_, rfl⟩
  rw [hp0] at HJ1 hbd hw hA hC hdk hlh qq
  obtain ⟨t0, t1, t2, t3, t4, t5, t6, t7, t8⟩ := qq
  rw [hA] at t0; rw [hC] at t1
  obtain ⟨zA, hzA'⟩ : ∃ z, T l A = z := ⟨_, rfl⟩
  obtain ⟨zC, hzC'⟩ : ∃ z, T l C = z := ⟨_, rfl⟩
  rw [hzA'] at HJ1 hzA hdk hlh; rw [hzC'] at HJ1 hzC hdk hlh
  obtain ⟨by_, oy, rfl, hc0⟩ := Y1.at1 0 (by omega)
  obtain ⟨_, _, e1', hc1⟩ := Y1.at1 1 (by omega)
  obtain ⟨_, _, e2', hc2⟩ := Y1.at1 2 (by omega)
  cases e1'; cases e2'
  obtain ⟨y0, hy0⟩ : ∃ z, ys[0]'(by omega) = z := ⟨_, rfl⟩
  obtain ⟨y1, hy1⟩ : ∃ z, ys[1]'(by omega) = z := ⟨_, rfl⟩
  obtain ⟨y2', hy2⟩ : ∃ z, ys[2]'(by omega) = z := ⟨_, rfl⟩
  have r0 := hys _ (List.getElem_mem (show 0 < ys.length by omega)); have r1 := hys _ (List.getElem_mem (show 1 < ys.length by omega)); have r2 := hys _ (List.getElem_mem (show 2 < ys.length by omega))
  simp only [List.getD_cons_zero] at hc0 hc1 hc2
  rw [hy0] at hc0 r0; rw [hy1] at hc1 r1; rw [hy2] at hc2 r2
  have HOF := Lib.hid (ofR_ok hw)
  have HSZ := Lib.hid (sizeR_ok (times_within hw))
  have hwb := expo_bd (times_within hw)
  have hwok : szOk (expo (p.want.times 12)) = true := by rw [szOk_iff]; omega
  have hWS : wantS p.want = expo (p.want.times 12) := rfl
  obtain ⟨x, hx⟩ : ∃ x, p.want.times 12 = x := ⟨_, rfl⟩
  rw [hx] at HOF HSZ hwb hwok hWS
  obtain ⟨⟨wl, wh⟩, hwx⟩ : ∃ z, expo x = z := ⟨_, rfl⟩
  rw [hwx] at HSZ hwb hwok hWS
  rw [hWS] at HJ1 hdk hlh
  dsimp only at hwb
  have E3 : IntKind.u32.wrap (q.tdiv 3) = q / 3 := by rw [Int.tdiv_eq_ediv_of_nonneg q1]; exact IntWalk.u32_in _ (by omega)
  have E7 : IntKind.u32.wrap (q.tdiv 7) = q / 7 := by rw [Int.tdiv_eq_ediv_of_nonneg q1]; exact IntWalk.u32_in _ (by omega)
  have q3 : 0 ≤ q / 3 ∧ q / 3 ≤ 4294967295 := by omega
  have q7 : 0 ≤ q / 7 ∧ q / 7 ≤ 4294967295 := by omega
  have L1 := Lib.hid fun w' => lw_walk zC hzC y0 q r0 ⟨q1, q2⟩ w'
  have L2 := Lib.hid fun w' => lw_walk zA hzA y1 (q / 3) r1 q3 w'
  have L3 := Lib.hid fun w' => lw_walk ⟨wl, wh⟩ hwok y2' (q / 7) r2 q7 w'
  have n1 := withinF_in hzC y0 q
  have n2 := withinF_in hzA y1 (q / 3)
  have n3 := withinF_in hwok y2' (q / 7)
  rw [szOk_iff] at hzA hzC
  obtain ⟨k1, hk1⟩ : ∃ z, withinF zC y0 q = z := ⟨_, rfl⟩
  obtain ⟨k2, hk2⟩ : ∃ z, withinF zA y1 (q / 3) = z := ⟨_, rfl⟩
  obtain ⟨k3, hk3⟩ : ∃ z, withinF ⟨wl, wh⟩ y2' (q / 7) = z := ⟨_, rfl⟩
  rw [hk1] at L1 n1; rw [hk2] at L2 n2; rw [hk3] at L3 n3
  have hts := fun h => truth_shown (b := p.bound) n2 n1 n3 h
  have htd := fun h => truth_denied (b := p.bound) hbd.1 n2 n1 n3 h
  obtain ⟨d, hd⟩ : ∃ z, diffS zA zC ⟨wl, wh⟩ = z := ⟨_, rfl⟩
  rw [hd] at HJ1 hdk hlh hts htd
  have hvc := @verd_cases d p.bound
  unfold findZ at HJ1
  obtain ⟨va, hva⟩ : ∃ z, verdZ d p.bound = z := ⟨_, rfl⟩
  obtain ⟨ba, hba⟩ : ∃ z, bndZ d p.bound = z := ⟨_, rfl⟩
  rw [hva] at HJ1 hts htd hvc; rw [hba] at HJ1
  obtain ⟨pb, hpb⟩ : ∃ z, p.bound = z := ⟨_, rfl⟩
  rw [hpb] at hts htd hbd t8
  have HTS := Lib.hid hts; have HTD := Lib.hid htd
  dsimp only at n3
  obtain ⟨⟨hka, hkb⟩, ⟨hkc, hkd⟩, hke, hkf⟩ : (-200000000000000 ≤ k1 ∧ k1 ≤ 200000000000000) ∧ (-200000000000000 ≤ k2 ∧ k2 ≤ 200000000000000) ∧ (-200000000000000 ≤ k3 ∧ k3 ≤ 200000000000000) := by omega
  have HZA := Lib.hid hzA'; have HZC := Lib.hid hzC'
  clear hts htd hva hba hd hk1 hk2 hk3 hWS hwx hx hwok hw hdk hlh hp0 hys hy0 hy1 hy2 r0 r1 r2 hzA' hzC' n1 n2 n3
  have i1 : (0 : Int) ≤ (m : Int) := by omega
  have i2 : (m : Int) < (s.pairs.length : Int) := by omega
  have j1 : (0 : Int) ≤ (A : Int) := by omega
  have j2 : (A : Int) < (l.length : Int) := by omega
  have j3 : (0 : Int) ≤ (C : Int) := by omega
  have j4 : (C : Int) < (l.length : Int) := by omega
  have j5 : (2 : Int) < (ys.length : Int) := by omega
  have j6 : (1 : Int) < (ys.length : Int) := by omega
  have j7 : (0 : Int) < (ys.length : Int) := by omega
  have j8 : 0 < ys.length := by omega
  have j9 : 1 < ys.length := by omega
  have j10 : 2 < ys.length := by omega
  go_upto_region 5 with fail
  rw [HM.out]
  replace t0 := x3.cell t0; replace t1 := x3.cell t1; replace t2 := x3.cell t2; replace t3 := x3.cell t3; replace t4 := x3.cell t4; replace t5 := x3.cell t5; replace t6 := x3.cell t6; replace t7 := x3.cell t7; replace t8 := x3.cell t8
  have eP := Ext.alloc' w3 (.cells #[.int .i64 (A : Int), .int .i64 (C : Int), .int .i64 p.want.a, .int .i64 p.want.b, .int .i64 p.want.c, .int .i64 p.want.d, .int .i64 p.want.e, .int .i64 p.want.f, .int .i64 pb] 51)
  have d0 := eP.cell c0; have d1 := eP.cell c1; have d2 := eP.cell c2; have d3 := eP.cell c3
  have X3 : Ext w3 (w3.alloc (.cells #[.int .i64 (A : Int), .int .i64 (C : Int), .int .i64 p.want.a, .int .i64 p.want.b, .int .i64 p.want.c, .int .i64 p.want.d, .int .i64 p.want.e, .int .i64 p.want.f, .int .i64 pb] 51)) := (by repeat (first | with_reducible exact Ext.refl _ | with_reducible assumption | with_reducible apply Ext.alloc | with_reducible apply Ext.drew | (with_reducible refine Ext.setCell ?_ (by (try simp) <;> omega) _)))
  have b3_0 := block_new w3 (.cells #[.int .i64 (A : Int), .int .i64 (C : Int), .int .i64 p.want.a, .int .i64 p.want.b, .int .i64 p.want.c, .int .i64 p.want.d, .int .i64 p.want.e, .int .i64 p.want.f, .int .i64 pb] 51)
  obtain ⟨W3, hW3⟩ : ∃ W, (w3.alloc (.cells #[.int .i64 (A : Int), .int .i64 (C : Int), .int .i64 p.want.a, .int .i64 p.want.b, .int .i64 p.want.c, .int .i64 p.want.d, .int .i64 p.want.e, .int .i64 p.want.f, .int .i64 pb] 51)) = W := ⟨_, rfl⟩
  obtain ⟨B3, hB3⟩ : ∃ B, w3.heap.size = B := ⟨_, rfl⟩
  rw [hW3] at X3 b3_0
  rw [hB3] at b3_0
  have HZ3 : Hid (w3.heap.size ≤ B3) := Lib.hid (by omega)
  have HW3 := Lib.hid hW3; have HB3 := Lib.hid hB3
  clear hW3 hB3
  have x3' := x3.trans X3
  go_wp2_with fail
  rw [HW3.out, HB3.out]
  clear c0 c1 c2 c3 t0 t1 t2 t3 t4 t5 t6 t7 t8 d0 d1 d2 d3
  refine (judge_walk _ _ _ _ s l m _ (G1.ext x3') (S1.ext x3') (R1.ext x3')).mono ?_
  rw [HJ1.out]
  rintro e w4 ⟨rfl, y4⟩
  have f4 := Ext.alloc' w4 (.cells #[.int .i64 m, .int .i64 va, .int .i64 ba] 32)
  have b4 := block_new w4 (.cells #[.int .i64 m, .int .i64 va, .int .i64 ba] 32)
  have Y4 := y4.trans f4
  have x4 := x3'.trans Y4
  have p4 := block_ext Y4 b3_0
  have t0 := block_cell p4 0 _ rfl; have t1 := block_cell p4 1 _ rfl; have t2 := block_cell p4 2 _ rfl; have t3 := block_cell p4 3 _ rfl; have t4 := block_cell p4 4 _ rfl; have t5 := block_cell p4 5 _ rfl; have t6 := block_cell p4 6 _ rfl; have t7 := block_cell p4 7 _ rfl; have t8 := block_cell p4 8 _ rfl
  go_wp2_with fail
  refine (of_walk p.want _).mono ?_
  rw [HOF.out]
  rintro e w5 ⟨rfl, y5⟩
  have f5 := Ext.alloc' w5 (.cells (#[.int .i64 x.a, .int .i64 x.b, .int .i64 x.c, .int .i64 x.d, .int .i64 x.e, .int .i64 x.f] : Array Value) 52)
  have Y5 := y5.trans f5
  have x5 := x4.trans Y5
  clear t0 t1 t2 t3 t4 t5 t6 t7 t8
  go_wp2_with fail
  refine (sof_walk x _ (G1.ext x5)).mono ?_
  rw [HSZ.out]
  rintro e w6 ⟨rfl, y6⟩
  have f6 := Ext.alloc' w6 (.cells #[.int .i64 wl, .int .i64 wh] 56)
  have b6 := block_new w6 (.cells #[.int .i64 wl, .int .i64 wh] 56)
  have Y6 := y6.trans f6
  have x6 := x5.trans Y6
  have Z6 := Y5.trans Y6
  have p6 := block_ext Z6 p4
  have g6 := block_ext Z6 b4
  clear y4 f4 Y4 y5 f5 Y5 y6 f6 Y6 Z6 p4 b4 b3_0
  obtain ⟨W6, hW6⟩ : ∃ W, w6.alloc (.cells #[.int .i64 wl, .int .i64 wh] 56) = W := ⟨_, rfl⟩
  obtain ⟨B6, hB6⟩ : ∃ W, w6.heap.size = W := ⟨_, rfl⟩
  obtain ⟨B4, hB4⟩ : ∃ W, w4.heap.size = W := ⟨_, rfl⟩
  rw [hW6] at b6 x6 p6 g6
  rw [hB6] at b6
  rw [hB4] at g6
  have HW6 := Lib.hid hW6; have HB6 := Lib.hid hB6; have HB4 := Lib.hid hB4
  clear hW6 hB6 hB4
  have s0 := block_cell b6 0 _ rfl; have s1 := block_cell b6 1 _ rfl
  go_upto_region 11 with fail
  rw [HW6.out, HB6.out, HB4.out]
  obtain ⟨bb, oo, rfl, a0, a1⟩ := Sl.sz (R1.ext x6) A hA'
  obtain ⟨b2, o2, e', e0, e1⟩ := Sl.sz (R1.ext x6) C hC'
  obtain ⟨rfl, rfl⟩ : bb = b2 ∧ oo = o2 := by simp at e'; exact e'
  rw [← T_eq hA', HZA.out] at a0 a1
  rw [← T_eq hC', HZC.out] at e0 e1
  replace a0 := ext_cells a0; replace a1 := ext_cells a1; replace e0 := ext_cells e0; replace e1 := ext_cells e1
  have t0 := ext_cells (block_cell p6 0 _ rfl); have t1 := ext_cells (block_cell p6 1 _ rfl)
  simp only [Nat.add_zero] at hc0
  have hx0 := ext_cells (x6.cell hc0); have hx1 := ext_cells (x6.cell hc1); have hx2 := ext_cells (x6.cell hc2)
  replace s0 := ext_cells s0; replace s1 := ext_cells s1
  clear e' hc0 hc1 hc2
  have E1 : IntKind.i64.wrap (k1 - k2) = k1 - k2 := IntWalk.i64_in _ (by omega)
  have E2 : IntKind.i64.wrap (k1 - k2 - k3) = k1 - k2 - k3 := IntWalk.i64_in _ (by omega)
  refine wp_region_ord [(0,true), (1,true), (2,true), (3,true), (4,true), (5,true), (6,true), (7,true), (8,true), (9,true), (10,true), (11,true), (12,true), (13,true), (14,true), (15,true), (16,true), (17,true), (18,true), (19,true), (20,true), (21,true), (22,true), (23,true), (24,true), (25,true), (26,true), (27,true), (28,true), (29,true), (30,true)] 31 Ext (Ext W6) wide (by kernel_rfl) (stable_ext _) (Ext.drawn _ _) ?_
  iterate 9 (first | (apply wpOrd_no rfl; rfl; (simp only [List.getElem_toArray, List.getElem_cons_succ, List.getElem_cons_zero, Act.put, List.setIfInBounds_toArray, List.set_cons_succ, List.set_cons_zero]; rfl)) | (apply wpOrd_yes rfl; rfl; (intro w' hw'; unfold opR; go_simp; exact ⟨Ext.refl _, rfl⟩); (simp only [List.getElem_toArray, List.getElem_cons_succ, List.getElem_cons_zero, Act.put, List.setIfInBounds_toArray, List.set_cons_succ, List.set_cons_zero]; rfl)))
  (apply wpOrd_det rfl rfl; (intro w' hw'; refine opR_call rfl (Go.Proofs.enters_of Tryd.func26 (by kernel_rfl) rfl) (by simp only [List.map_toArray, List.map_cons, List.map_nil, Act.eval, Array.getD_eq_getD_getElem?, List.getElem?_toArray, List.getElem?_cons_succ, List.getElem?_cons_zero, Option.getD_some]; rfl) ?_; refine (L1.out _).mono ?_; rintro e w'' ⟨rfl, hx⟩; exact ⟨_, rfl, hx, rfl⟩); (simp only [List.getElem_toArray, List.getElem_cons_succ, List.getElem_cons_zero, Act.put, List.setIfInBounds_toArray, List.set_cons_succ, List.set_cons_zero]; rfl))
  iterate 9 (first | (apply wpOrd_no rfl; rfl; (simp only [List.getElem_toArray, List.getElem_cons_succ, List.getElem_cons_zero, Act.put, List.setIfInBounds_toArray, List.set_cons_succ, List.set_cons_zero]; rfl)) | (apply wpOrd_yes rfl; rfl; (intro w' hw'; unfold opR; go_simp; exact ⟨Ext.refl _, rfl⟩); (simp only [List.getElem_toArray, List.getElem_cons_succ, List.getElem_cons_zero, Act.put, List.setIfInBounds_toArray, List.set_cons_succ, List.set_cons_zero]; rfl)))
  (apply wpOrd_det (v := .int .u32 (q / 3)) rfl rfl; (intro w' hw'; unfold opR; go_simp; exact ⟨Ext.refl _, rfl⟩); (simp only [List.getElem_toArray, List.getElem_cons_succ, List.getElem_cons_zero, Act.put, List.setIfInBounds_toArray, List.set_cons_succ, List.set_cons_zero]; rfl))
  (apply wpOrd_det rfl rfl; (intro w' hw'; refine opR_call rfl (Go.Proofs.enters_of Tryd.func26 (by kernel_rfl) rfl) (by simp only [List.map_toArray, List.map_cons, List.map_nil, Act.eval, Array.getD_eq_getD_getElem?, List.getElem?_toArray, List.getElem?_cons_succ, List.getElem?_cons_zero, Option.getD_some]; rfl) ?_; refine (L2.out _).mono ?_; rintro e w'' ⟨rfl, hx⟩; exact ⟨_, rfl, hx, rfl⟩); (simp only [List.getElem_toArray, List.getElem_cons_succ, List.getElem_cons_zero, Act.put, List.setIfInBounds_toArray, List.set_cons_succ, List.set_cons_zero]; rfl))
  iterate 6 (first | (apply wpOrd_no rfl; rfl; (simp only [List.getElem_toArray, List.getElem_cons_succ, List.getElem_cons_zero, Act.put, List.setIfInBounds_toArray, List.set_cons_succ, List.set_cons_zero]; rfl)) | (apply wpOrd_yes rfl; rfl; (intro w' hw'; unfold opR; go_simp; exact ⟨Ext.refl _, rfl⟩); (simp only [List.getElem_toArray, List.getElem_cons_succ, List.getElem_cons_zero, Act.put, List.setIfInBounds_toArray, List.set_cons_succ, List.set_cons_zero]; rfl)))
  (apply wpOrd_det (v := .int .u32 (q / 7)) rfl rfl; (intro w' hw'; unfold opR; go_simp; exact ⟨Ext.refl _, rfl⟩); (simp only [List.getElem_toArray, List.getElem_cons_succ, List.getElem_cons_zero, Act.put, List.setIfInBounds_toArray, List.set_cons_succ, List.set_cons_zero]; rfl))
  (apply wpOrd_det rfl rfl; (intro w' hw'; refine opR_call rfl (Go.Proofs.enters_of Tryd.func26 (by kernel_rfl) rfl) (by simp only [List.map_toArray, List.map_cons, List.map_nil, Act.eval, Array.getD_eq_getD_getElem?, List.getElem?_toArray, List.getElem?_cons_succ, List.getElem?_cons_zero, Option.getD_some]; rfl) ?_; refine (L3.out _).mono ?_; rintro e w'' ⟨rfl, hx⟩; exact ⟨_, rfl, hx, rfl⟩); (simp only [List.getElem_toArray, List.getElem_cons_succ, List.getElem_cons_zero, Act.put, List.setIfInBounds_toArray, List.set_cons_succ, List.set_cons_zero]; rfl))
  iterate 2 (first | (apply wpOrd_no rfl; rfl; (simp only [List.getElem_toArray, List.getElem_cons_succ, List.getElem_cons_zero, Act.put, List.setIfInBounds_toArray, List.set_cons_succ, List.set_cons_zero]; rfl)) | (apply wpOrd_yes rfl; rfl; (intro w' hw'; unfold opR; go_simp; exact ⟨Ext.refl _, rfl⟩); (simp only [List.getElem_toArray, List.getElem_cons_succ, List.getElem_cons_zero, Act.put, List.setIfInBounds_toArray, List.set_cons_succ, List.set_cons_zero]; rfl)))
  refine wpOrd_nil (l := []) rfl ?_
  intro w7 x7
  have X7 := Lib.hid (X0.trans (x6.trans x7))
  have p7 := block_ext x7 p6
  have g7 := block_ext x7 g6
  clear a0 a1 e0 e1 t0 t1 s0 s1 hx0 hx1 hx2 p6 g6 b6
  have u8 := block_cell p7 8 _ rfl
  have v0 := block_cell g7 0 _ rfl; have v1 := block_cell g7 1 _ rfl
  clear p7 g7
  obtain ⟨D, hD⟩ : ∃ D, k1 - k2 - k3 = D := ⟨_, rfl⟩
  rw [hD] at HTS HTD ⊢
  have hDb : -1000000000000000 ≤ D ∧ D ≤ 1000000000000000 := by omega
  obtain ⟨F, hF⟩ : ∃ F, F = if 0 ≤ D then D else -D := ⟨_, rfl⟩
  have hFb : 0 ≤ F ∧ F ≤ 1000000000000000 := by rw [hF]; split <;> omega
  have hF1 : va = 1 → F ≤ pb * 10000 := fun h1 => by have := HTS.out h1; rw [hF]; split <;> omega
  have hF2 : va = 2 → ¬ F ≤ pb * 10000 := fun h1 => by have := HTD.out h1; rw [hF]; split <;> omega
  have HF := Lib.hid hF
  clear hF hD hka hkb hkc hkd hke hkf HTS HTD
  go_upto_region 12 with fail
  go_cut [21] (fun s wx => s = .int .i64 F ∧ wx = w7)
  case first =>
    rcases Int.lt_trichotomy D (-D) with n | n | n
    · have hv : F = -D := by rw [HF.out, if_neg (by omega)]
      subst hv
      go_wp2
      go_meet
      exact ⟨rfl, rfl⟩
    · obtain rfl : D = 0 := by omega
      have hv : F = 0 := by rw [HF.out]; rfl
      subst hv
      clear n hF1 hF2 hFb HF
      go_wp2
      go_meet
      exact ⟨rfl, rfl⟩
    · have hv : F = D := by rw [HF.out, if_pos (by omega)]
      subst hv
      go_wp2
      go_meet
      exact ⟨rfl, rfl⟩
  case rest =>
    obtain ⟨rfl, rfl⟩ := hcut
    obtain ⟨pb1, pb2⟩ := hbd
    have em : ((m : Int) == (m : Int)) = true := beq_self_eq_true _
    rcases hvc with rfl | rfl | rfl
    · have h1 := hF1 rfl
      go_wp2
      go_ret
      exact ⟨by first | rfl | simp, X7.out⟩
    · have h1 := hF2 rfl
      go_wp2
      go_ret
      exact ⟨by first | rfl | simp, X7.out⟩
    · go_wp2
      go_ret
      exact ⟨by first | rfl | simp, X7.out⟩

theorem el_i8 {H : Type} {enc : TypeId × Value → H} {W : World} : El enc Tryd.prog W 60 1 (fun x => [.int .i8 x]) (Fits .i8) := El.int Tryd.underlying60
theorem arg_i8 {H : Type} {enc : TypeId × Value → H} {W : World} {base : Nat} {v : Value} {d : DataW H} (h : Arg enc Tryd.prog W base 45 v d) : ∃ l, Sl W 1 (fun x => [.int .i8 x]) v l ∧ ∀ y ∈ l, -128 ≤ y ∧ y ≤ 127 := by
  have hb : Tryd.prog.bytesOf 60 = 1 := by kernel_rfl
  obtain ⟨l, a, b, c⟩ := Arg.slice (sz := 1) (enc := fun x => [.int .i8 x]) Tryd.underlying45 (by kernel_rfl) (by rw [hb]; decide) el_i8 h
  exact ⟨l, a, fun y hy => b y hy⟩

theorem auditTruth_args (H : Type) (enc : TypeId × Value → H) (W : World) (base : Nat) (vs : List Value) (ds : List (DataW H)) (_ : ∀ k, (OpenSpec.ofChange Rows.auditTruthSpec).cond = some k → k H ds = true) (hL : laidMetH Tryd.prog Rows.auditTruthRow.laid W) (hA : Args enc Tryd.prog W base Tryd.f4.params.toList vs ds) :
    Calls Tryd.prog 4 vs.toArray W fun e W' => e = .returned (.bool true) ∧ Ext W W' := by
  rw [Tryd.params4] at hA
  obtain ⟨v0, _, d0, _, rfl, rfl, h0, hA⟩ := hA.cons
  obtain ⟨v1, _, d1, _, rfl, rfl, h1, hA⟩ := hA.cons
  obtain ⟨v2, _, d2, _, rfl, rfl, h2, hA⟩ := hA.cons
  obtain ⟨v3, _, d3, _, rfl, rfl, h3, hA⟩ := hA.cons
  obtain ⟨v4, _, d4, _, rfl, rfl, h4, hA⟩ := hA.cons
  obtain ⟨rfl, rfl⟩ := hA.nil
  obtain ⟨s, vn, vp, vc, rfl, S⟩ := arg_score h0
  obtain ⟨l1, S1, n1⟩ := arg_sizes h1
  obtain ⟨n, rfl, s0, s1⟩ := h2.int Tryd.underlying5
  obtain ⟨l3, S3, n3⟩ := arg_i8 h3
  obtain ⟨q, rfl, t0, t1⟩ := h4.int Tryd.underlying46
  exact autru_law _ _ _ _ _ s l1 n ⟨s0, s1⟩ l3 n3 q ⟨t0, t1⟩ W (gv_of hL) S S1 S3

theorem auditTruth_met (os : Os) : laidMet Tryd.prog Rows.auditTruthRow.laid ((laidWorld os).forCall (fun _ _ => 0) ⟨#[], #[.agg #[.int .i64 0, .slice none 0 0, .slice none 0 0, .slice none 0 0], .slice none 0 0, .int .u8 0, .slice none 0 0, .int .u32 0], []⟩).memory := laidMet_of_run' 8 (by kernel_rfl) (by kernel_rfl)
theorem auditTruth_reads (os : Os) {H : Type} (enc : TypeId × Value → H) : ∃ places, DataW.whole enc Tryd.prog ((laidWorld os).forCall (fun _ _ => 0) ⟨#[], #[.agg #[.int .i64 0, .slice none 0 0, .slice none 0 0, .slice none 0 0], .slice none 0 0, .int .u8 0, .slice none 0 0, .int .u32 0], []⟩).memory Tryd.f4.params.toList Rows.auditTruthSpec.vars false #[.agg #[.int .i64 0, .slice none 0 0, .slice none 0 0, .slice none 0 0], .slice none 0 0, .int .u8 0, .slice none 0 0, .int .u32 0].toList 8 = some ([.agg [.lit (.int .i64 0), .nil, .nil, .nil], .nil, .lit (.int .u8 0), .nil, .lit (.int .u32 0)], [], places) := ⟨[], by kernel_rfl⟩
set_option maxRecDepth 100000 in
theorem auditTruth_lifted (os : Os) (started : os.Started) (H : Type) (enc : TypeId × Value → H) (F : Stop.Interp) :
    ReturnsInHanded {} Tryd.checked os 4 .any ((OpenSpec.ofChange Rows.auditTruthSpec).preRow enc Tryd.prog Tryd.f4 Rows.auditTruthRow.domain false Rows.auditTruthRow.laid) (((OpenSpec.ofChange Rows.auditTruthSpec).at F).post enc Tryd.prog Tryd.f4 false true false false) := by
  obtain ⟨places, hx⟩ := auditTruth_reads os enc
  exact law_row (C := Tryd.checked) (s := (OpenSpec.ofChange Rows.auditTruthSpec)) (by kernel_rfl) started (by kernel_rfl) Tryd.func4
    (witness_row_at (enc := enc) (C := Tryd.checked) false (laidWorld os) #[.agg #[.int .i64 0, .slice none 0 0, .slice none 0 0, .slice none 0 0], .slice none 0 0, .int .u8 0, .slice none 0 0, .int .u32 0] rfl (by kernel_rfl) (by kernel_rfl) (by kernel_rfl) (OpenSpec.preRow_of_cond 8 hx (by kernel_rfl) (fun k hk => by cases hk) (by kernel_rfl) (auditTruth_met os)))
    (by kernel_rfl) (by kernel_rfl) (by kernel_rfl) rfl (fun ds h => by match ds, h with | [_, _, _, _, _], _ => rfl) (auditTruth_args H enc)
theorem auditTruth_said : Rows.AuditTruthSaid :=
  OpenClaim.holds_of_cond 4 Tryd.f4 rfl rfl rfl rfl rfl rfl rfl ⟨rfl, rfl, rfl, rfl, rfl⟩ rfl rfl rfl rfl rfl (by kernel_rfl) Tryd.func4 (by kernel_rfl)
    (of_decide_eq_true (by kernel_rfl)) (by unfold Func.isWrapper; first | (rw [if_pos (by decide +kernel)]; kernel_rfl) | (rw [if_neg (by decide +kernel)]; exact ⟨rfl, rfl⟩))
    (fun os started H enc _ F => by rw [OpenClaim.pre_eq_preRow]; exact auditTruth_lifted os started H enc F)
theorem auditTruth_plain (f : FuncId) (fn : Func) (hf : Tryd.pinned.checked.prog.funcNamed "schisma/schismalaw39.AuditTruth" = some f) (hfn : Tryd.pinned.checked.prog.funcs[f]? = some fn) :
    false = Tryd.pinned.checked.prog.looks [] ∧ ∀ (j : Nat) t, fn.params[j]? = some t → Tryd.pinned.checked.prog.wantsStandIn t = false := by
  obtain rfl : f = 4 := Option.some.inj ((show Tryd.prog.funcNamed "schisma/schismalaw39.AuditTruth" = some 4 by kernel_rfl).symm.trans hf) |>.symm
  obtain rfl : fn = Tryd.f4 := (Option.some.inj (Tryd.func4.symm.trans hfn)).symm
  refine ⟨by kernel_rfl, fun j t ht => ?_⟩
  have hall : Tryd.f4.params.all (fun t => !Tryd.prog.wantsStandIn t) = true := by kernel_rfl
  have := (Array.all_eq_true'.1 hall) t (Array.mem_of_getElem? ht)
  have e : Tryd.prog.wantsStandIn t = false := by simpa using this
  exact e
/-- The card. -/
theorem auditTruth_holds : Rows.AuditTruthCardSaid :=
  Claim7.holds_tied_plain_at .later [] _ _ _ _ auditTruth_said (fun _ h => by cases h) (by kernel_rfl) (fun _ h => by cases h) auditTruth_row_tie rfl ⟨rfl, rfl⟩ (by kernel_rfl) rfl auditTruth_plain (by kernel_rfl)
end Go.Proofs.YtglngmfnoganpaaDoor
