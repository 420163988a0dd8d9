/-
  Walks of schismaref40: Charges, Voices.
-/
import Derived.Test.YtbemjekkojgbpaaGreatDoorR40D
import Derived.Test.YtbemjekkojgbpaaGreatDoorR23C
set_option linter.unusedVariables false
namespace Go.Proofs.YtbemjekkojgbpaaGreatDoor
open Go.RowKit Go.Sx Go.Sx.Sz Go.Sx.Sc Go.Sx.Au Go.Sx.Po Go.Sx.Bl

set_option maxRecDepth 100000 in
set_option maxHeartbeats 16000000 in
theorem rcharges_walk (vn vp vc vh vt : Value) (s : Sc) (h : List V6) (l : List S2) (w : World) (G : Gl 0 w) (S : ScR w vn vp vc s) (V : Sl w 6 V6.list vh h) (R : Sl w 2 encS vt l) :
    Calls Tryz.prog 10 #[.agg #[.int .i64 s.voices, vn, vp, vc], vh, vt] w fun e w' => ∃ v, e = .returned (.tuple #[v, .int .i64 (chgR s h l).2]) ∧ Sl w' 3 encCg v (chgR s h l).1 ∧ Ext w w' := by
  obtain ⟨an, cn, rfl, -, -, hln⟩ := S.nt.len
  obtain ⟨ap, cp, rfl, -, -, hlp⟩ := S.pr.len
  obtain ⟨ac, cc, rfl, -, -, hlc⟩ := S.cd.len
  obtain ⟨ah, ch, rfl, -, -, hlh⟩ := V.len
  obtain ⟨at', ct, rfl, -, -, hlt⟩ := R.len
  have PW := @rpitches_walk (.slice an s.notes.length cn) (.slice ap s.pairs.length cp) (.slice ac s.cads.length cc) (.slice ah h.length ch) (.slice at' l.length ct) s h l
  have JW := Lib.hid (@rjudge_walk (.slice an s.notes.length cn) (.slice ap s.pairs.length cp) (.slice ac s.cads.length cc) (.slice at' l.length ct) s l)
  have hpc := pit_cases s h l
  have hyes : hearE s h l = 0 → chgR s h l = (cgK s (tuneR s h).1 l s.pairs.length, 0) := fun e => by unfold chgR; rw [if_pos e]; rfl
  obtain ⟨⟨cl, ce⟩, ed⟩ : ∃ z, chgR s h l = z := ⟨_, rfl⟩
  obtain ⟨⟨pl, pe⟩, ep⟩ : ∃ z, pitR s h l = z := ⟨_, rfl⟩
  obtain ⟨xs, hxs⟩ : ∃ z, (tuneR s h).1 = z := ⟨_, rfl⟩
  obtain ⟨he, hhe⟩ : ∃ z, hearE s h l = z := ⟨_, rfl⟩
  rw [ep] at PW hpc; rw [ed] at hpc hyes ⊢
  rw [hxs] at hpc hyes; rw [hhe] at hpc hyes
  simp only at PW ⊢
  have HPW := Lib.hid PW; have HPC := Lib.hid hpc; have HYES := Lib.hid hyes
  clear PW hpc hyes ed ep hxs hhe
  have X0 : Ext w (w.alloc (.cells #[.int .i64 s.voices, .slice an s.notes.length cn, .slice ap s.pairs.length cp, .slice ac s.cads.length cc] 26)) := (by repeat (first | with_reducible exact Ext.refl _ | with_reducible assumption | with_reducible apply Ext.alloc | with_reducible apply Ext.drew | (with_reducible refine Ext.setCell ?_ (by (try simp) <;> omega) _)))
  have b0_0 := block_new w (.cells #[.int .i64 s.voices, .slice an s.notes.length cn, .slice ap s.pairs.length cp, .slice ac s.cads.length cc] 26)
  obtain ⟨W0, hW0⟩ : ∃ W, (w.alloc (.cells #[.int .i64 s.voices, .slice an s.notes.length cn, .slice ap s.pairs.length cp, .slice ac s.cads.length cc] 26)) = W := ⟨_, rfl⟩
  obtain ⟨B0, hB0⟩ : ∃ B, w.heap.size = B := ⟨_, rfl⟩
  rw [hW0] at X0 b0_0
  rw [hB0] at b0_0
  have HZ0 : Hid (w.heap.size ≤ B0) := Lib.hid (by omega)
  have HW0 := Lib.hid hW0; have HB0 := Lib.hid hB0
  clear hW0 hB0
  have CB := Lib.hid (boxS b0_0)
  have S1 := S.ext X0; have V1 := V.ext X0; have R1 := R.ext X0; have G1 := G.ext X0
  clear S V G R b0_0
  go_enter Tryz.func10, Tryz.ntmps10
  go_wp2_with fail
  rw [HW0.out, HB0.out]
  clear HW0 HB0
  refine (HPW.out _ G1 S1 V1 R1).mono ?_
  rintro e w1 ⟨v1, rfl, T1, x1⟩
  obtain ⟨a1, q1, rfl, -, -, -⟩ := T1.len
  rcases HPC.out with ⟨h0, hp, -, hd, -⟩ | ⟨h0, hp, ht, ha, hle⟩
  · obtain ⟨rfl, rfl⟩ := Prod.mk.inj hp
    obtain ⟨rfl, rfl⟩ := Prod.mk.inj hd
    have t1 : (ce != 0) = true := by rw [bne_iff_ne]; exact h0
    have HX := Lib.hid (X0.trans x1)
    clear h0 hp hd HPC HYES
    go_wp2
    go_ret2
    exact ⟨_, rfl, Sl.nil _ _ _, HX.out⟩
  obtain ⟨e1, rfl⟩ := Prod.mk.inj hp
  have e1 := e1.symm
  subst e1
  obtain ⟨rfl, rfl⟩ := Prod.mk.inj (HYES.out h0)
  have hxl : xs.length ≤ l.length := by rw [ht.2.1]; exact hle
  have hl2 : l.length ≤ 200 := by rw [ht.2.1]; exact ht.1.sz.2.1
  have hp400 := ht.1.sz.2.2.1
  have HA := Lib.hid ha; have HTO := Lib.hid ht
  clear h0 hp ht ha HPC HYES HPW hle
  have HT1 := Lib.hid T1; have HX1 := Lib.hid x1
  clear T1 x1
  go_wp2
  go_loopw [10, 11] (fun v i wr => ∃ k : Nat, k ≤ s.pairs.length ∧ i = .int .i64 k ∧ OwnR wr w1.heap.size 49 3 encCg v (cgK s xs l k) ∧ Ext w1 wr) (fun _ i _ => s.pairs.length - (intOf i).toNat)
  case atStart => exact ⟨0, by omega, by first | rfl | trivial, OwnR.nil, Ext.refl _⟩
  case round =>
    obtain ⟨k, hk, rfl, own, X⟩ := hrel
    have hkl := cgK_len s xs l k
    obtain ⟨c0, c1, c2, c3⟩ := CB.out _ (HX1.out.trans X)
    by_cases hlt : k < s.pairs.length
    case neg =>
      obtain rfl : k = s.pairs.length := by omega
      have SF := Lib.hid (own.sl (fun _ _ => rfl) (by omega))
      have HX := Lib.hid (X0.trans (HX1.out.trans X))
      clear own X
      go_wp2
      go_ret2
      exact ⟨_, rfl, SF.out, HX.out⟩
    case pos =>
    have hpo := HTO.out.1.pr.1 k hlt
    unfold pairOk at hpo
    have hJ : judgeR s l (k : Int) = (fdOf s l k, 0) := by unfold judgeR; rw [if_pos ⟨tonesB_iff.2 HTO.out, by omega, by omega⟩, Int.toNat_natCast]
    have hyy := @cgK_yes s xs l k; have hno := @cgK_no s xs l k
    have hcb : chgB s xs l k = (decide ((fdOf s l k).verdict = 2) && decide ((s.P k).b < xs.length)) := rfl
    rw [← chgX_eq] at hyy
    obtain ⟨bp, op, rfl, A⟩ := Sl.pr (S1.pr.ext (HX1.out.trans X)) k hlt
    rw [← Sc.P_eq hlt] at A
    have hbr : (s.P k).b < xs.length → brkT s xs k = brkB xs (s.P k) := fun h9 => by unfold brkT; rw [decide_eq_true h9, Bool.true_and]
    obtain ⟨p, hp⟩ : ∃ p, s.P k = p := ⟨_, rfl⟩
    rw [hp] at A hpo hcb hyy hbr
    obtain ⟨⟨h0a, hab⟩, hbn, hpw, ⟨hb0, hb1⟩, -⟩ := hpo
    obtain ⟨q0, q1, q2, q3, q4, q5, q6, q7, q8⟩ := A
    obtain ⟨⟨fi, vd, bd⟩, hfd⟩ : ∃ z, fdOf s l k = z := ⟨_, rfl⟩
    rw [hfd] at hJ hcb
    have JJ := Lib.hid fun w' (x : Ext w1 w') => JW.out (k : Int) w' (S1.ext (HX1.out.trans x)) (R1.ext (HX1.out.trans x))
    rw [hJ] at JJ
    simp only at JJ hcb
    have i1 : (0 : Int) ≤ (k : Int) := by omega
    have i2 : (k : Int) < (s.pairs.length : Int) := by omega
    obtain ⟨WA, rfl⟩ : ∃ z : World, z = wr := ⟨_, rfl⟩
    have HO := Lib.hid own; have HXX := Lib.hid X
    have HCB := Lib.hid hcb; have HYY := Lib.hid hyy; have HNO := Lib.hid hno; have HBR := Lib.hid hbr
    obtain ⟨va, vm, vd', rfl⟩ := own.shape
    have X4 : Ext WA (WA.alloc (.cells #[.int .i64 p.a, .int .i64 p.b, .int .i64 p.want.a, .int .i64 p.want.b, .int .i64 p.want.c, .int .i64 p.want.d, .int .i64 p.want.e, .int .i64 p.want.f, .int .i64 p.bound] 69)) := (by repeat (first | with_reducible exact Ext.refl _ | with_reducible assumption | with_reducible apply Ext.alloc | with_reducible apply Ext.drew | (with_reducible refine Ext.setCell ?_ (by (try simp) <;> omega) _)))
    have b4_0 := block_new WA (.cells #[.int .i64 p.a, .int .i64 p.b, .int .i64 p.want.a, .int .i64 p.want.b, .int .i64 p.want.c, .int .i64 p.want.d, .int .i64 p.want.e, .int .i64 p.want.f, .int .i64 p.bound] 69)
    obtain ⟨W4, hW4⟩ : ∃ W, (WA.alloc (.cells #[.int .i64 p.a, .int .i64 p.b, .int .i64 p.want.a, .int .i64 p.want.b, .int .i64 p.want.c, .int .i64 p.want.d, .int .i64 p.want.e, .int .i64 p.want.f, .int .i64 p.bound] 69)) = W := ⟨_, rfl⟩
    obtain ⟨B4, hB4⟩ : ∃ B, WA.heap.size = B := ⟨_, rfl⟩
    rw [hW4] at X4 b4_0
    rw [hB4] at b4_0
    have HZ4 : Hid (WA.heap.size ≤ B4) := Lib.hid (by omega)
    have HW4 := Lib.hid hW4; have HB4 := Lib.hid hB4
    clear hW4 hB4
    clear hJ hp hcb hyy hno hfd own hbr
    go_upto_region 9 with fail
    rw [HW4.out, HB4.out]
    clear HW4 HB4 c0 c1 c2 c3 q0 q1 q2 q3 q4 q5 q6 q7 q8
    have X4' := HXX.out.trans X4
    obtain ⟨c0, c1, c2, c3⟩ := CB.out _ (HX1.out.trans X4')
    go_wp2_with fail
    refine (JJ.out _ X4').mono ?_
    rintro e w5 ⟨rfl, y5⟩
    have X6 : Ext w5 (w5.alloc (.cells #[.int .i64 fi, .int .i64 vd, .int .i64 bd] 73)) := (by repeat (first | with_reducible exact Ext.refl _ | with_reducible assumption | with_reducible apply Ext.alloc | with_reducible apply Ext.drew | (with_reducible refine Ext.setCell ?_ (by (try simp) <;> omega) _)))
    have b6_0 := block_new w5 (.cells #[.int .i64 fi, .int .i64 vd, .int .i64 bd] 73)
    obtain ⟨W6, hW6⟩ : ∃ W, (w5.alloc (.cells #[.int .i64 fi, .int .i64 vd, .int .i64 bd] 73)) = W := ⟨_, rfl⟩
    obtain ⟨B6, hB6⟩ : ∃ B, w5.heap.size = B := ⟨_, rfl⟩
    rw [hW6] at X6 b6_0
    rw [hB6] at b6_0
    have HZ6 : Hid (w5.heap.size ≤ B6) := Lib.hid (by omega)
    have HW6 := Lib.hid hW6; have HB6 := Lib.hid hB6
    clear hW6 hB6
    have X46 := y5.trans X6
    have HY6 := Lib.hid (X4.trans X46)
    have P6 := Lib.hid (block_ext X46 b4_0)
    have p0 := block_cell P6.out 0 _ rfl; have p1 := block_cell P6.out 1 _ rfl
    have g1 := block_cell b6_0 1 _ rfl
    clear c0 c1 c2 c3 b4_0 b6_0 y5 X6 X46 X4 X X4'
    go_upto_region 10 with fail
    rw [HW6.out, HB6.out]
    clear HW6 HB6
    by_cases hvd : vd = 2
    case neg =>
      have HKK := Lib.hid (HNO.out (by rw [HCB.out, decide_eq_false hvd]; rfl))
      have t1 : (vd != 2) = true := by rw [bne_iff_ne]; exact hvd
      clear hvd
      go_wp2
      go_roundw
      case rel => exact ⟨k + 1, by omega, by go_num, by rw [HKK.out]; exact HO.out.ext HY6.out, HXX.out.trans HY6.out⟩
      case measure => simp [intOf] <;> omega
    subst hvd
    by_cases hax : p.a < xs.length
    case neg =>
      have HKK := Lib.hid (HNO.out (by rw [HCB.out, decide_eq_false (show ¬ p.b < (xs.length : Int) by omega), Bool.and_false]))
      have t1 : decide ((xs.length : Int) ≤ p.a) = true := decide_eq_true (by omega)
      clear hax
      go_wp2
      go_roundw
      case rel => exact ⟨k + 1, by omega, by go_num, by rw [HKK.out]; exact HO.out.ext HY6.out, HXX.out.trans HY6.out⟩
      case measure => simp [intOf] <;> omega
    have t1 : decide ((xs.length : Int) ≤ p.a) = false := decide_eq_false (by omega)
    by_cases hbx : p.b < xs.length
    case neg =>
      have HKK := Lib.hid (HNO.out (by rw [HCB.out, decide_eq_false hbx, Bool.and_false]))
      have t2 : decide ((xs.length : Int) ≤ p.b) = true := decide_eq_true (by omega)
      clear hax hbx
      go_wp2
      go_roundw
      case rel => exact ⟨k + 1, by omega, by go_num, by rw [HKK.out]; exact HO.out.ext HY6.out, HXX.out.trans HY6.out⟩
      case measure => simp [intOf] <;> omega
    have t2 : decide ((xs.length : Int) ≤ p.b) = false := decide_eq_false (by omega)
    have HKK := Lib.hid (HYY.out (by rw [HCB.out, decide_eq_true hbx, decide_eq_true rfl]; rfl))
    have HBB := Lib.hid (HBR.out hbx)
    obtain ⟨m, hm⟩ : ∃ m : Nat, p.a = m := ⟨p.a.toNat, by omega⟩
    obtain ⟨n, hn⟩ : ∃ n : Nat, p.b = n := ⟨p.b.toNat, by omega⟩
    have hmx : m < xs.length := by omega
    have hnx : n < xs.length := by omega
    have hml : m < l.length := by omega
    have hnl : n < l.length := by omega
    have HBW := Lib.hid fun w' (y : Ext w1 w') => rbreaks_walk (.slice a1 xs.length q1) xs HA.out p m n hm hn hmx hnx hpw hb0 hb1 w' (HT1.out.ext y)
    have hdm : devT xs l m = devB l[m] xs[m] := by unfold devT T; rw [xAt_get hmx, List.getD_eq_getElem?_getD, List.getElem?_eq_getElem hml]; rfl
    have hdn : devT xs l n = devB l[n] xs[n] := by unfold devT T; rw [xAt_get hnx, List.getD_eq_getElem?_getD, List.getElem?_eq_getElem hnl]; rfl
    have hwm := within_mono (A := 32) (B := 48) (by omega) (List.all_eq_true.1 HA.out _ (List.getElem_mem hmx))
    have hwn := within_mono (A := 32) (B := 48) (by omega) (List.all_eq_true.1 HA.out _ (List.getElem_mem hnx))
    rw [hm] at p0; rw [hn] at p1
    have hKK := HKK.out
    rw [show p.a.toNat = m by omega, show p.b.toNat = n by omega] at hKK
    have HKK := Lib.hid hKK
    have HMP := Lib.hid hm; have HNP := Lib.hid hn
    have X7 : Ext W6 (W6.alloc (.cells #[.int .i64 (k : Int), .int .i64 3, .int .i64 (-1)] 49)) := (by repeat (first | with_reducible exact Ext.refl _ | with_reducible assumption | with_reducible apply Ext.alloc | with_reducible apply Ext.drew | (with_reducible refine Ext.setCell ?_ (by (try simp) <;> omega) _)))
    have b7_0 := block_new W6 (.cells #[.int .i64 (k : Int), .int .i64 3, .int .i64 (-1)] 49)
    obtain ⟨W7, hW7⟩ : ∃ W, (W6.alloc (.cells #[.int .i64 (k : Int), .int .i64 3, .int .i64 (-1)] 49)) = W := ⟨_, rfl⟩
    obtain ⟨B7, hB7⟩ : ∃ B, W6.heap.size = B := ⟨_, rfl⟩
    rw [hW7] at X7 b7_0
    rw [hB7] at b7_0
    have HZ7 : Hid (W6.heap.size ≤ B7) := Lib.hid (by omega)
    have HW7 := Lib.hid hW7; have HB7 := Lib.hid hB7
    clear hW7 hB7
    have HB7C := Lib.hid b7_0
    have HZ7' : Hid (W6.heap.size ≤ B7) := HZ7
    have HX7 := Lib.hid (HY6.out.trans X7)
    have p0 := X7.cell p0
    have HP1 := Lib.hid (ext_cells (X7.cell p1))
    have HPC7 := Lib.hid (block_ext X7 P6.out)
    obtain ⟨bX, oX, e9, x0, x1, x2, x3, x4, x5⟩ := Sl.vec (HT1.out.ext (HXX.out.trans HX7.out)) m hmx
    obtain ⟨_, _, e8, y0, y1, y2, y3, y4, y5⟩ := Sl.vec (HT1.out.ext (HXX.out.trans HX7.out)) n hnx
    obtain rfl := e9
    obtain ⟨rfl, rfl⟩ : bX = _ ∧ oX = _ := by simpa using e8
    obtain ⟨bT, oT, e7, z0, z1⟩ := Sl.sz (R1.ext (HX1.out.trans (HXX.out.trans HX7.out))) m hml
    obtain ⟨_, _, e6, u0, u1⟩ := Sl.sz (R1.ext (HX1.out.trans (HXX.out.trans HX7.out))) n hnl
    obtain rfl := e7
    obtain ⟨rfl, rfl⟩ : bT = _ ∧ oT = _ := by simpa using e6
    obtain ⟨xm, hxm⟩ : ∃ u, xs[m] = u := ⟨_, rfl⟩
    obtain ⟨xn, hxn⟩ : ∃ u, xs[n] = u := ⟨_, rfl⟩
    obtain ⟨zm, hzm⟩ : ∃ u, l[m] = u := ⟨_, rfl⟩
    obtain ⟨zn, hzn⟩ : ∃ u, l[n] = u := ⟨_, rfl⟩
    rw [hxm] at x0 x1 x2 x3 x4 x5 hdm hwm; rw [hxn] at y0 y1 y2 y3 y4 y5 hdn hwn
    rw [hzm] at z0 z1 hdm; rw [hzn] at u0 u1 hdn
    have DM := Lib.hid fun w' => rdeviates_walk xm zm hwm w'
    have DN := Lib.hid fun w' => rdeviates_walk xn zn hwn w'
    rw [← hdm] at DM; rw [← hdn] at DN
    obtain ⟨d1, hd1⟩ : ∃ u, devT xs l m = u := ⟨_, rfl⟩
    obtain ⟨d2, hd2⟩ : ∃ u, devT xs l n = u := ⟨_, rfl⟩
    rw [hd1] at DM HKK; rw [hd2] at DN HKK
    have HKB := HKK.out
    rw [HBB.out] at HKB
    obtain ⟨bb, hbb⟩ : ∃ u, brkB xs p = u := ⟨_, rfl⟩
    rw [hbb] at HKB
    simp only [hbb] at HBW
    have HKB := Lib.hid HKB
    have x0 := ext_cells x0; have x1 := ext_cells x1; have x2 := ext_cells x2; have x3 := ext_cells x3; have x4 := ext_cells x4; have x5 := ext_cells x5
    have y0 := ext_cells y0; have y1 := ext_cells y1; have y2 := ext_cells y2; have y3 := ext_cells y3; have y4 := ext_cells y4; have y5 := ext_cells y5
    have z0 := ext_cells z0; have z1 := ext_cells z1; have u0 := ext_cells u0; have u1 := ext_cells u1
    have HU0 := Lib.hid u0; have HU1 := Lib.hid u1
    have HN0 := Lib.hid y0; have HN1 := Lib.hid y1; have HN2 := Lib.hid y2; have HN3 := Lib.hid y3; have HN4 := Lib.hid y4; have HN5 := Lib.hid y5
    have j1 : (0 : Int) ≤ (m : Int) := by omega
    have j2 : (m : Int) < (xs.length : Int) := by omega
    have j3 : (m : Int) < (l.length : Int) := by omega
    have j4 : (0 : Int) ≤ (n : Int) := by omega
    have j5 : (n : Int) < (xs.length : Int) := by omega
    have j6 : (n : Int) < (l.length : Int) := by omega
    clear b7_0 hdm hdn hwm hwn hxm hxn hzm hzn hd1 hd2 hbb HKK HBB HYY HNO HBR HCB hm hn hmx hnx hml hnl hax hbx hpw hb0 hb1 h0a hab hbn u0 u1 y0 y1 y2 y3 y4 y5 hKK
    go_upto_region 12 with fail
    rw [HW7.out, HB7.out]
    clear HW7 HB7 g1 t1 t2 p1
    have p0 := ext_cells p0
    refine wp_region_ord [(0,true), (1,true), (2,true), (3,true), (4,true), (5,true), (6,true), (7,true), (8,true), (9,true), (10,true)] 11 Ext (Ext W7) wide (by kernel_rfl) (stable_ext _) (Ext.drawn _ _) ?_
    iterate 10 (first | (apply wpOrd_no rfl; rfl; (simp only [List.getElem_toArray, List.getElem_cons_succ, List.getElem_cons_zero, Act.put, List.setIfInBounds_toArray, List.set_cons_succ, List.set_cons_zero]; rfl)) | (apply wpOrd_yes rfl; rfl; (intro w' hw'; unfold opR; go_simp; exact ⟨Ext.refl _, rfl⟩); (simp only [List.getElem_toArray, List.getElem_cons_succ, List.getElem_cons_zero, Act.put, List.setIfInBounds_toArray, List.set_cons_succ, List.set_cons_zero]; rfl)))
    (apply wpOrd_det rfl rfl; (intro w' hw'; refine opR_call rfl (Go.Proofs.enters_of Tryz.func19 (by kernel_rfl) rfl) (by simp only [List.map_toArray, List.map_cons, List.map_nil, Act.eval, Array.getD_eq_getD_getElem?, List.getElem?_toArray, List.getElem?_cons_succ, List.getElem?_cons_zero, Option.getD_some]; rfl) ?_; refine (DM.out w').mono ?_; rintro e w'' ⟨rfl, hx⟩; exact ⟨_, rfl, hx, rfl⟩); (simp only [List.getElem_toArray, List.getElem_cons_succ, List.getElem_cons_zero, Act.put, List.setIfInBounds_toArray, List.set_cons_succ, List.set_cons_zero]; rfl))
    refine wpOrd_nil (l := []) rfl ?_
    intro w9 x9
    have hb9 := block_ext x9 HB7C.out
    have k1 := block_cell hb9 1 _ rfl; have k2 := block_cell hb9 2 _ rfl
    have f1 := block_free hb9 1; have f2 := block_free hb9 2
    have p0 := p0 _ x9
    have HX9 := Lib.hid x9
    have HH9 := Lib.hid hb9
    clear x0 x1 x2 x3 x4 x5 z0 z1 hb9
    have HB1W : Hid (w1.heap.size ≤ B7) := Lib.hid (by have h1 := HXX.out.size; have h2 := HY6.out.size; have h3 := HZ7'.out; omega)
    have HFR : Hid ((Value.slice va vm vd').ownBlock ≠ some B7) := Lib.hid (HO.out.fresh (by have h2 := HY6.out.size; have h3 := HZ7'.out; omega))
    have l1 : ¬ B4 = B7 := by have h1 := (Array.getElem?_eq_some_iff.1 P6.out).1; have h3 := HZ7'.out; omega
    have l2 : ¬ B7 = B4 := fun h9 => l1 h9.symm
    cases d1 with
    | true =>
      have N := block_set (block_set HH9.out 1 (.int .i64 1)) 2 (.int .i64 (m : Int))
      have XT : Ext w1 ((w9.setCell ⟨B7, 1, none⟩ (.int .i64 1)).setCell ⟨B7, 2, none⟩ (.int .i64 (m : Int))) := ((HXX.out.trans (HX7.out.trans HX9.out)).setCell (p := ⟨B7, 1, none⟩) HB1W.out (.int .i64 1)).setCell (p := ⟨B7, 2, none⟩) HB1W.out (.int .i64 (m : Int))
      have OT := ((HO.out.ext (HX7.out.trans HX9.out)).stay HFR.out (j := 1) (.int .i64 1)).stay HFR.out (j := 2) (.int .i64 (m : Int))
      obtain ⟨WT, hWT⟩ : ∃ z, (w9.setCell ⟨B7, 1, none⟩ (.int .i64 1)).setCell ⟨B7, 2, none⟩ (.int .i64 (m : Int)) = z := ⟨_, rfl⟩
      rw [hWT] at N XT OT
      have HWT := Lib.hid hWT
      clear hWT
      go_upto_region 20 with fail
      rw [HWT.out]
      clear k1 k2 f1 f2
      have HKE : Hid (cgK s xs l (k + 1) = cgK s xs l k ++ [⟨(k : Int), 1, (m : Int)⟩]) := Lib.hid (by rw [HKB.out]; unfold chgX; simp [HMP.out, HNP.out])
      have e0 := block_cell N 0 _ rfl; have e1 := block_cell N 1 _ rfl; have e2 := block_cell N 2 _ rfl
      have hsz := XT.size
      have hlk : ((cgK s xs l k).length + 1) * 24 ≤ 140737488355328 := by omega
      have HXT := Lib.hid XT
      clear N XT
      go_wp2_with (first | (at_builtin; go_must (refine wpList_own1 et_cg rfl _ _ rfl OT rfl (⟨(k : Int), 1, (m : Int)⟩ : Chg) rfl rfl rfl (by simp [encCg, Value.oneCell']) hlk hsz ?_; intro v' w12 hown' hb' happ _)) | fail)
      rw [← HKE.out] at hown'
      have FIN := Lib.hid (And.intro hown' (Below.trans HXT.out hb'))
      clear hown' hb' happ OT e0 e1 e2
      go_roundw
      case rel => exact ⟨k + 1, by omega, by go_num, FIN.out.1, FIN.out.2⟩
      case measure => simp [intOf] <;> omega
    | false =>
    go_upto_region 15 with fail
    have p1 := HP1.out _ HX9.out
    clear k1 k2 f1 f2 p0
    have y0 := ext_cells (HN0.out _ HX9.out); have y1 := ext_cells (HN1.out _ HX9.out); have y2 := ext_cells (HN2.out _ HX9.out); have y3 := ext_cells (HN3.out _ HX9.out); have y4 := ext_cells (HN4.out _ HX9.out); have y5 := ext_cells (HN5.out _ HX9.out)
    have u0 := ext_cells (HU0.out _ HX9.out); have u1 := ext_cells (HU1.out _ HX9.out)
    have p1 := ext_cells p1
    refine wp_region_ord [(0,true), (1,true), (2,true), (3,true), (4,true), (5,true), (6,true), (7,true), (8,true), (9,true), (10,true)] 11 Ext (Ext w9) wide (by kernel_rfl) (stable_ext _) (Ext.drawn _ _) ?_
    iterate 10 (first | (apply wpOrd_no rfl; rfl; (simp only [List.getElem_toArray, List.getElem_cons_succ, List.getElem_cons_zero, Act.put, List.setIfInBounds_toArray, List.set_cons_succ, List.set_cons_zero]; rfl)) | (apply wpOrd_yes rfl; rfl; (intro w' hw'; unfold opR; go_simp; exact ⟨Ext.refl _, rfl⟩); (simp only [List.getElem_toArray, List.getElem_cons_succ, List.getElem_cons_zero, Act.put, List.setIfInBounds_toArray, List.set_cons_succ, List.set_cons_zero]; rfl)))
    (apply wpOrd_det rfl rfl; (intro w' hw'; refine opR_call rfl (Go.Proofs.enters_of Tryz.func19 (by kernel_rfl) rfl) (by simp only [List.map_toArray, List.map_cons, List.map_nil, Act.eval, Array.getD_eq_getD_getElem?, List.getElem?_toArray, List.getElem?_cons_succ, List.getElem?_cons_zero, Option.getD_some]; rfl) ?_; refine (DN.out w').mono ?_; rintro e w'' ⟨rfl, hx⟩; exact ⟨_, rfl, hx, rfl⟩); (simp only [List.getElem_toArray, List.getElem_cons_succ, List.getElem_cons_zero, Act.put, List.setIfInBounds_toArray, List.set_cons_succ, List.set_cons_zero]; rfl))
    refine wpOrd_nil (l := []) rfl ?_
    intro w10 x10
    have p1 := p1 _ x10
    have HX10 := Lib.hid (HX9.out.trans x10)
    have HH10 := Lib.hid (block_ext x10 HH9.out)
    have k1 := block_cell HH10.out 1 _ rfl; have k2 := block_cell HH10.out 2 _ rfl
    have f1 := block_free HH10.out 1; have f2 := block_free HH10.out 2
    clear y0 y1 y2 y3 y4 y5 u0 u1 x9 x10
    cases d2 with
    | true =>
      have N := block_set (block_set HH10.out 1 (.int .i64 1)) 2 (.int .i64 (n : Int))
      have XT : Ext w1 ((w10.setCell ⟨B7, 1, none⟩ (.int .i64 1)).setCell ⟨B7, 2, none⟩ (.int .i64 (n : Int))) := ((HXX.out.trans (HX7.out.trans HX10.out)).setCell (p := ⟨B7, 1, none⟩) HB1W.out (.int .i64 1)).setCell (p := ⟨B7, 2, none⟩) HB1W.out (.int .i64 (n : Int))
      have OT := ((HO.out.ext (HX7.out.trans HX10.out)).stay HFR.out (j := 1) (.int .i64 1)).stay HFR.out (j := 2) (.int .i64 (n : Int))
      obtain ⟨WT, hWT⟩ : ∃ z, (w10.setCell ⟨B7, 1, none⟩ (.int .i64 1)).setCell ⟨B7, 2, none⟩ (.int .i64 (n : Int)) = z := ⟨_, rfl⟩
      rw [hWT] at N XT OT
      have HWT := Lib.hid hWT
      clear hWT
      go_upto_region 20 with fail
      rw [HWT.out]
      clear k1 k2 f1 f2
      have HKE : Hid (cgK s xs l (k + 1) = cgK s xs l k ++ [⟨(k : Int), 1, (n : Int)⟩]) := Lib.hid (by rw [HKB.out]; unfold chgX; simp [HMP.out, HNP.out])
      have e0 := block_cell N 0 _ rfl; have e1 := block_cell N 1 _ rfl; have e2 := block_cell N 2 _ rfl
      have hsz := XT.size
      have hlk : ((cgK s xs l k).length + 1) * 24 ≤ 140737488355328 := by omega
      have HXT := Lib.hid XT
      clear N XT
      go_wp2_with (first | (at_builtin; go_must (refine wpList_own1 et_cg rfl _ _ rfl OT rfl (⟨(k : Int), 1, (n : Int)⟩ : Chg) rfl rfl rfl (by simp [encCg, Value.oneCell']) hlk hsz ?_; intro v' w12 hown' hb' happ _)) | fail)
      rw [← HKE.out] at hown'
      have FIN := Lib.hid (And.intro hown' (Below.trans HXT.out hb'))
      clear hown' hb' happ OT e0 e1 e2
      go_roundw
      case rel => exact ⟨k + 1, by omega, by go_num, FIN.out.1, FIN.out.2⟩
      case measure => simp [intOf] <;> omega
    | false =>
    have bb9 := block_ext HX10.out HPC7.out
    have r0 := block_cell bb9 0 _ rfl; have r1 := block_cell bb9 1 _ rfl; have r2 := block_cell bb9 2 _ rfl; have r3 := block_cell bb9 3 _ rfl; have r4 := block_cell bb9 4 _ rfl; have r5 := block_cell bb9 5 _ rfl; have r6 := block_cell bb9 6 _ rfl; have r7 := block_cell bb9 7 _ rfl; have r8 := block_cell bb9 8 _ rfl
    clear k1 k2 f1 f2 p1 bb9
    go_wp2_with fail
    refine (HBW.out _ (HXX.out.trans (HX7.out.trans HX10.out))).mono ?_
    rintro e w11 ⟨rfl, x11⟩
    have HX10 := Lib.hid (HX10.out.trans x11)
    have HH11 := Lib.hid (block_ext x11 HH10.out)
    clear r0 r1 r2 r3 r4 r5 r6 r7 r8 x11
    cases bb with
    | true =>
      have k1 := block_cell HH11.out 1 _ rfl
      have f1 := block_free HH11.out 1
      have N := block_set HH11.out 1 (.int .i64 2)
      have XT : Ext w1 (w11.setCell ⟨B7, 1, none⟩ (.int .i64 2)) := (HXX.out.trans (HX7.out.trans HX10.out)).setCell (p := ⟨B7, 1, none⟩) HB1W.out (.int .i64 2)
      have OT := (HO.out.ext (HX7.out.trans HX10.out)).stay HFR.out (j := 1) (.int .i64 2)
      obtain ⟨WT, hWT⟩ : ∃ z, w11.setCell ⟨B7, 1, none⟩ (.int .i64 2) = z := ⟨_, rfl⟩
      rw [hWT] at N XT OT
      have HWT := Lib.hid hWT
      clear hWT
      go_upto_region 20 with fail
      rw [HWT.out]
      clear k1 f1
      have HKE : Hid (cgK s xs l (k + 1) = cgK s xs l k ++ [⟨(k : Int), 2, -1⟩]) := Lib.hid (by rw [HKB.out]; unfold chgX; simp [HMP.out, HNP.out])
      have e0 := block_cell N 0 _ rfl; have e1 := block_cell N 1 _ rfl; have e2 := block_cell N 2 _ rfl
      have hsz := XT.size
      have hlk : ((cgK s xs l k).length + 1) * 24 ≤ 140737488355328 := by omega
      have HXT := Lib.hid XT
      clear N XT
      go_wp2_with (first | (at_builtin; go_must (refine wpList_own1 et_cg rfl _ _ rfl OT rfl (⟨(k : Int), 2, -1⟩ : Chg) rfl rfl rfl (by simp [encCg, Value.oneCell']) hlk hsz ?_; intro v' w12 hown' hb' happ _)) | fail)
      rw [← HKE.out] at hown'
      have FIN := Lib.hid (And.intro hown' (Below.trans HXT.out hb'))
      clear hown' hb' happ OT e0 e1 e2
      go_roundw
      case rel => exact ⟨k + 1, by omega, by go_num, FIN.out.1, FIN.out.2⟩
      case measure => simp [intOf] <;> omega
    | false =>
      have N := HH11.out
      have XT := HXX.out.trans (HX7.out.trans HX10.out)
      have OT := HO.out.ext (HX7.out.trans HX10.out)
      have HKE : Hid (cgK s xs l (k + 1) = cgK s xs l k ++ [⟨(k : Int), 3, -1⟩]) := Lib.hid (by rw [HKB.out]; unfold chgX; simp [HMP.out, HNP.out])
      have e0 := block_cell N 0 _ rfl; have e1 := block_cell N 1 _ rfl; have e2 := block_cell N 2 _ rfl
      have hsz := XT.size
      have hlk : ((cgK s xs l k).length + 1) * 24 ≤ 140737488355328 := by omega
      have HXT := Lib.hid XT
      clear N XT
      go_wp2_with (first | (at_builtin; go_must (refine wpList_own1 et_cg rfl _ _ rfl OT rfl (⟨(k : Int), 3, -1⟩ : Chg) rfl rfl rfl (by simp [encCg, Value.oneCell']) hlk hsz ?_; intro v' w12 hown' hb' happ _)) | fail)
      rw [← HKE.out] at hown'
      have FIN := Lib.hid (And.intro hown' (Below.trans HXT.out hb'))
      clear hown' hb' happ OT e0 e1 e2
      go_roundw
      case rel => exact ⟨k + 1, by omega, by go_num, FIN.out.1, FIN.out.2⟩
      case measure => simp [intOf] <;> omega

set_option maxRecDepth 100000 in
set_option maxHeartbeats 16000000 in
theorem rvoices_walk (vn vp vc vh vt : Value) (s : Sc) (h : List V6) (l : List S2) (w : World) (G : Gl 0 w) (S : ScR w vn vp vc s) (V : Sl w 6 V6.list vh h) (R : Sl w 2 encS vt l) :
    Calls Tryz.prog 13 #[.agg #[.int .i64 s.voices, vn, vp, vc], vh, vt] w fun e w' => ∃ v, e = .returned (.tuple #[v, .int .i64 (voiR s h l).2]) ∧ Sl w' 1 encZ v (voiR s h l).1 ∧ Ext w w' := by
  obtain ⟨an, cn, rfl, -, -, hln⟩ := S.nt.len
  obtain ⟨ap, cp, rfl, -, -, hlp⟩ := S.pr.len
  obtain ⟨ac, cc, rfl, -, -, hlc⟩ := S.cd.len
  obtain ⟨ah, ch, rfl, -, -, hlh⟩ := V.len
  obtain ⟨at', ct, rfl, -, -, hlt⟩ := R.len
  have X0 : Ext w (w.alloc (.cells #[.int .i64 s.voices, .slice an s.notes.length cn, .slice ap s.pairs.length cp, .slice ac s.cads.length cc] 26)) := (by repeat (first | with_reducible exact Ext.refl _ | with_reducible assumption | with_reducible apply Ext.alloc | with_reducible apply Ext.drew | (with_reducible refine Ext.setCell ?_ (by (try simp) <;> omega) _)))
  have b0_0 := block_new w (.cells #[.int .i64 s.voices, .slice an s.notes.length cn, .slice ap s.pairs.length cp, .slice ac s.cads.length cc] 26)
  obtain ⟨W0, hW0⟩ : ∃ W, (w.alloc (.cells #[.int .i64 s.voices, .slice an s.notes.length cn, .slice ap s.pairs.length cp, .slice ac s.cads.length cc] 26)) = W := ⟨_, rfl⟩
  obtain ⟨B0, hB0⟩ : ∃ B, w.heap.size = B := ⟨_, rfl⟩
  rw [hW0] at X0 b0_0
  rw [hB0] at b0_0
  have HZ0 : Hid (w.heap.size ≤ B0) := Lib.hid (by omega)
  have HW0 := Lib.hid hW0; have HB0 := Lib.hid hB0
  clear hW0 hB0
  have DW := Lib.hid (rdeviants_walk _ _ _ _ _ s h l W0 (G.ext X0) (S.ext X0) (V.ext X0) (R.ext X0))
  have CB := Lib.hid (boxS b0_0)
  have c0 := block_cell b0_0 0 _ rfl; have c1 := block_cell b0_0 1 _ rfl; have c2 := block_cell b0_0 2 _ rfl; have c3 := block_cell b0_0 3 _ rfl
  have HS := Lib.hid S
  have hin := @dev_in s h l; have hout := @dev_out s h l
  obtain ⟨he, hhe⟩ : ∃ z, hearE s h l = z := ⟨_, rfl⟩
  obtain ⟨ds, hds⟩ : ∃ z, devL (tuneR s h).1 l = z := ⟨_, rfl⟩
  obtain ⟨⟨dl, de⟩, hd⟩ : ∃ z, devR s h l = z := ⟨_, rfl⟩
  obtain ⟨⟨vl, ve⟩, hv⟩ : ∃ z, voiR s h l = z := ⟨_, rfl⟩
  rw [hd] at DW
  rw [hhe, hds, hd, hv] at hin
  rw [hhe, hd, hv] at hout
  rw [hv]
  have HIN := Lib.hid hin; have HOUT := Lib.hid hout; have HX0 := Lib.hid X0
  clear S V R G b0_0 hin hout hhe hds hd hv X0
  go_enter Tryz.func13, Tryz.ntmps13
  go_wp2_with fail
  rw [HW0.out, HB0.out]
  clear HW0 HB0
  refine DW.out.mono ?_
  rintro e w1 ⟨v1, rfl, D1, x1⟩
  obtain ⟨a1, q1, rfl, -, -, -⟩ := D1.len
  clear c0 c1 c2 c3
  by_cases h0 : he = 0
  case neg =>
    obtain ⟨⟨rfl, rfl⟩, rfl, rfl⟩ : (dl = [] ∧ de = he) ∧ vl = [] ∧ ve = he := by simpa using HOUT.out h0
    have t1 : (ve != 0) = true := by rw [bne_iff_ne]; exact h0
    have HX := Lib.hid (HX0.out.trans x1)
    clear h0 D1
    go_wp2
    go_ret2
    exact ⟨_, rfl, Sl.nil _ _ _, HX.out⟩
  case pos =>
  subst h0
  obtain ⟨h1, h2, hl, hvs, hmem⟩ := HIN.out rfl
  obtain ⟨rfl, rfl⟩ : dl = ds.map (fun i : Nat => (i : Int)) ∧ de = 0 := by simpa using h1
  obtain ⟨rfl, rfl⟩ : vl = voiL s ds ∧ ve = 0 := by simpa using h2
  obtain ⟨V, hV⟩ : ∃ V : Nat, s.voices = V := ⟨s.voices.toNat, by omega⟩
  have hVt : s.voices.toNat = V := by omega
  obtain ⟨c0, c1, c2, c3⟩ := CB.out _ x1
  rw [hV] at c0
  have HME := Lib.hid hmem
  have hvn := voi_nil s
  rw [hVt] at hvn
  have HVN := Lib.hid hvn; have HD1 := Lib.hid D1; have HVV := Lib.hid hV; have HVT := Lib.hid hVt
  have hV8 : V ≤ 8 := by omega
  clear h1 h2 hmem hvn D1 hV hVt hvs
  go_wp2_with (at_make; go_must (refine wpList_mk (e := 3) (sz := 1) (bytes := 8) (enc := encZ) (z := .int .i64 0) (0 : Int) Tryz.underlying24 (by kernel_rfl) rfl rfl rfl _ _ rfl V rfl rfl (by omega) (by omega) ?_); intro cs hbk)
  have hX2 := Ext.alloc' w1 (.cells cs 3)
  obtain ⟨g, hg⟩ : ∃ z, w1.heap.size = z := ⟨_, rfl⟩
  obtain ⟨W2, hW2⟩ : ∃ z, w1.alloc (.cells cs 3) = z := ⟨_, rfl⟩
  rw [hW2, hg] at hbk
  rw [hW2] at hX2 ⊢
  rw [hg]
  have HG := Lib.hid hg; have HX2 := Lib.hid hX2; have HX1 := Lib.hid x1
  rw [← HVN.out] at hbk
  clear hg hW2 hX2 c0 c1 c2 c3 x1
  go_loopw [11] (fun i wr => ∃ k : Nat, k ≤ ds.length ∧ i = .int .i64 k ∧ Bk wr g 3 encZ (voiL s (ds.take k)) ∧ Kb (some g) W2 wr) (fun i _ => ds.length - (intOf i).toNat)
  case atStart => exact ⟨0, by omega, by first | rfl | trivial, by rw [List.take_zero]; exact hbk, Kb.refl _ _⟩
  case round =>
    obtain ⟨k, hk, rfl, Bv, K⟩ := hrel
    have X : Ext w1 wr := Below.trans HX2.out (K.below (B := w1.heap.size) HX2.out.size (fun b e => by have := Option.some.inj e; have := HG.out; omega))
    by_cases hlt : k < ds.length
    case pos =>
      have hmk := HME.out _ (List.getElem_mem hlt)
      have hts := List.take_succ_eq_append_getElem hlt
      obtain ⟨bd, od, rfl, a0⟩ := Sl.num (HD1.out.ext X) k (by simpa using hlt)
      rw [List.getElem_map] at a0
      obtain ⟨n, hn⟩ : ∃ n, ds[k] = n := ⟨_, rfl⟩
      rw [hn] at a0 hmk hts
      obtain ⟨hnn, hv0, hv1⟩ := hmk
      obtain ⟨v, hv⟩ : ∃ v : Nat, (s.N n).v = v := ⟨(s.N n).v.toNat, by omega⟩
      have hvV : v < V := by have := HVV.out; omega
      have hvl : v < (voiL s (ds.take k)).length := by rw [voiL_len, HVT.out]; exact hvV
      obtain ⟨bn, on, rfl, A⟩ := Sl.nt (HS.out.nt.ext (HX0.out.trans (HX1.out.trans X))) n hnn
      rw [← Sc.N_eq hnn] at A
      have n0 := A.c0
      rw [hv] at n0
      obtain ⟨c0, c1, c2, c3⟩ := CB.out _ (HX1.out.trans X)
      have i1 : (0 : Int) ≤ (k : Int) := by omega
      have i2 : (k : Int) < (ds.length : Int) := by omega
      have i3 : (0 : Int) ≤ (n : Int) := by omega
      have i4 : (n : Int) < (s.notes.length : Int) := by omega
      have i5 : (0 : Int) ≤ (v : Int) := by omega
      have i6 : (v : Int) < (V : Int) := by omega
      have hst := voi_step (ds := ds.take k) hv hvl
      rw [← hts] at hst
      have HVL := Lib.hid hvl; have HST := Lib.hid hst; have HB := Lib.hid Bv; have HK := Lib.hid K
      have a0 := ext_cells a0; have n0 := ext_cells n0; have c1 := ext_cells c1
      clear hst hts hn hv hvV hv0 hv1 A Bv K hbk c0 c2 c3 X
      go_upto_region 8 with fail
      refine wp_region_ord [(0,true), (1,true), (2,true), (3,true), (4,true), (5,true), (6,true), (7,true), (8,true), (9,true)] 10 Ext (Ext wr) wide (by kernel_rfl) (stable_ext _) (Ext.drawn _ _) ?_
      iterate 10 (first | (apply wpOrd_no rfl; rfl; (simp only [List.getElem_toArray, List.getElem_cons_succ, List.getElem_cons_zero, Act.put, List.setIfInBounds_toArray, List.set_cons_succ, List.set_cons_zero]; rfl)) | (apply wpOrd_yes rfl; rfl; (intro w' hw'; unfold opR; go_simp; exact ⟨Ext.refl _, rfl⟩); (simp only [List.getElem_toArray, List.getElem_cons_succ, List.getElem_cons_zero, Act.put, List.setIfInBounds_toArray, List.set_cons_succ, List.set_cons_zero]; rfl)))
      refine wpOrd_nil (l := []) rfl ?_
      intro w9 x9
      have K9 := HK.out.trans (x9.kb (some g))
      have B9 := HB.out.ext x9
      have v0 := B9.cell (sz := 1) (fun _ _ => rfl) v 0 HVL.out (by omega)
      have hfr := B9.free v
      have BP := B9.put (sz := 1) (fun _ _ => rfl) ((voiL s (ds.take k))[v]'(HVL.out) + 1) rfl v HVL.out
      rw [HST.out] at BP
      obtain ⟨y, hy⟩ : ∃ y, (voiL s (ds.take k))[v]'(HVL.out) = y := ⟨_, rfl⟩
      have hyb : 0 ≤ y ∧ y ≤ 200 := by
        rw [← hy, voi_get HVL.out]
        have := List.length_filter_le (fun n => decide ((s.N n).v = (v : Int))) (ds.take k)
        rw [List.length_take] at this
        omega
      rw [hy] at v0 BP
      simp only [encZ, List.getD_cons_zero, Nat.mul_one, Nat.add_zero] at v0 BP
      have FIN := Lib.hid (And.intro (show Bk (w9.setCell ⟨g, v, none⟩ (.int .i64 (y + 1))) g 3 encZ (voiL s (ds.take (k + 1))) from BP) (K9.setCell v (.int .i64 (y + 1))))
      have E1 : IntKind.i64.wrap (y + 1) = y + 1 := IntWalk.i64_in _ (by omega)
      clear hy hyb BP K9 B9 a0 n0 c1 x9
      go_wp2
      go_roundw
      case rel => exact ⟨k + 1, by omega, by go_num, FIN.out.1, FIN.out.2⟩
      case measure => simp [intOf] <;> omega
    case neg =>
      obtain rfl : k = ds.length := by omega
      rw [List.take_length] at Bv
      have hvl : (voiL s ds).length = V := by rw [voiL_len, HVT.out]
      have SF := Lib.hid (Bv.sl (fun _ _ => rfl) (n := V) hvl.symm (by omega))
      have HX := Lib.hid (HX0.out.trans (HX1.out.trans X))
      clear Bv K X hvl hbk
      go_wp2
      go_ret2
      exact ⟨_, rfl, SF.out, HX.out⟩
end Go.Proofs.YtbemjekkojgbpaaGreatDoor
