/-
  Proved: 'TopOneRoot' returns true for every input and leaves its arguments as they were. No condition.
-/
import Derived.Test.YtgfaiihekibcbaaGreatDoorChX
import Derived.Test.YtgfaiihekibcbaaGreatDoorLibR
import Derived.Test.YtgfaiihekibcbaaGreatDoorPlG
import Derived.Test.YtgfaiihekibcbaaGreatDoorLibC
import Derived.Test.YtgfaiihekibcbaaGreatDoorLdB
set_option maxRecDepth 100000
set_option linter.unusedVariables false
namespace Go.Proofs.YtgfaiihekibcbaaGreatDoor
open Go.RowKit Go.Sx Go.Sx.Sz Go.Sx.Sc Go.Sx.Po Go.Sx.Ch Go.ChangeShapes Go.WideShapes Go.ChangeAt

def encBo (b : Bool) : List Value := [.bool b]
set_option maxHeartbeats 16000000 in
theorem topone_law (vn vp vc vh : Value) (s : Sc) (h : List V6) (w : World) (GL : Gl 0 w) (S : ScR w vn vp vc s) (V : Sl w 6 V6.list vh h) :
    Calls Tryz.prog 3 #[.agg #[.int .i64 s.voices, vn, vp, vc], vh] w fun e w' => e = .returned (.bool true) ∧ Ext w w' := by
  obtain ⟨an, cn, rfl, -, -, hln⟩ := S.nt.len
  obtain ⟨ap, cp, rfl, -, -, hlp⟩ := S.pr.len
  obtain ⟨ac, cc, rfl, -, -, hlc⟩ := S.cd.len
  obtain ⟨ah, ch, rfl, -, -, -⟩ := V.len
  have X0 : Ext w (w.alloc (.cells #[.int .i64 s.voices, .slice an s.notes.length cn, .slice ap s.pairs.length cp, .slice ac s.cads.length cc] 26)) := (by repeat (first | with_reducible exact Ext.refl _ | with_reducible assumption | with_reducible apply Ext.alloc | with_reducible apply Ext.drew | (with_reducible refine Ext.setCell ?_ (by (try simp) <;> omega) _)))
  have b0_0 := block_new w (.cells #[.int .i64 s.voices, .slice an s.notes.length cn, .slice ap s.pairs.length cp, .slice ac s.cads.length cc] 26)
  obtain ⟨W0, hW0⟩ : ∃ W, (w.alloc (.cells #[.int .i64 s.voices, .slice an s.notes.length cn, .slice ap s.pairs.length cp, .slice ac s.cads.length cc] 26)) = W := ⟨_, rfl⟩
  obtain ⟨B0, hB0⟩ : ∃ B, w.heap.size = B := ⟨_, rfl⟩
  rw [hW0] at X0 b0_0
  rw [hB0] at b0_0
  have HZ0 : Hid (w.heap.size ≤ B0) := Lib.hid (by omega)
  have HW0 := Lib.hid hW0; have HB0 := Lib.hid hB0
  clear hW0 hB0
  have CB := Lib.hid (boxS b0_0)
  have HS1 := Lib.hid fun w' (x : Ext W0 w') => (S.ext X0).ext x
  have HV1 := Lib.hid fun w' (x : Ext W0 w') => (V.ext X0).ext x
  have HG1 := Lib.hid fun w' (x : Ext W0 w') => (GL.ext X0).ext x
  clear S V GL b0_0
  go_enter Tryz.func3, Tryz.ntmps3
  go_wp2_with fail
  rw [HW0.out, HB0.out]
  clear HW0 HB0
  refine (head24_walk _ (HG1.out _ (Ext.refl _))).mono ?_
  rintro e w1 ⟨rfl, x1⟩
  obtain ⟨c0, c1, c2, c3⟩ := CB.out _ x1
  go_wp2_with fail
  refine (few21_walk _ _ _ s _ (HS1.out _ x1)).mono ?_
  obtain ⟨fw, hfw⟩ : ∃ z, (decide (s.notes.length ≤ 24) && decide (s.pairs.length ≤ 40)) = z := ⟨_, rfl⟩
  rw [hfw]
  have HFW := Lib.hid hfw
  clear hfw
  rintro e w2 ⟨rfl, y2⟩
  have x2 := x1.trans y2
  clear c0 c1 c2 c3
  cases fw with
  | false =>
    have HX := Lib.hid (X0.trans x2)
    go_wp2
    go_ret
    exact ⟨by first | rfl | simp, HX.out⟩
  | true =>
  obtain ⟨c0, c1, c2, c3⟩ := CB.out _ x2
  go_wp2_with fail
  refine (rvalid19_walk _ _ _ s _ (HS1.out _ x2)).mono ?_
  obtain ⟨vb, hvb⟩ : ∃ z, scB s = z := ⟨_, rfl⟩
  rw [hvb]
  rintro e w3 ⟨rfl, y3⟩
  have x3 := x2.trans y3
  clear c0 c1 c2 c3
  cases vb with
  | false =>
    have HX := Lib.hid (X0.trans x3)
    go_wp2
    go_ret
    exact ⟨by first | rfl | simp, HX.out⟩
  | true =>
  have HSB := Lib.hid hvb
  have HSO := Lib.hid (scB_iff.1 hvb)
  clear hvb
  obtain ⟨c0, c1, c2, c3⟩ := CB.out _ x3
  go_wp2_with fail
  refine (shortest_walk _ _ _ s HSB.out _ (HS1.out _ x3)).mono ?_
  rintro e w4 ⟨v4, rows, rfl, hr, hso, y4⟩
  obtain ⟨⟨rv, re⟩, hre⟩ : ∃ z, resR rows s.notes.length ((shortR rows s.notes.length).1.map Ed.st) = z := ⟨_, rfl⟩
  have hcs := res_cases HSO.out hr
  rw [hre] at hcs ⊢
  clear hre hso
  have x4 := x3.trans y4
  clear c0 c1 c2 c3
  dsimp only at hcs ⊢
  have X5 : Ext w4 (w4.alloc (.cells (#[.int .i64 rv.a, .int .i64 rv.b, .int .i64 rv.c, .int .i64 rv.d, .int .i64 rv.e, .int .i64 rv.f] : Array Value) 32)) := (by repeat (first | with_reducible exact Ext.refl _ | with_reducible assumption | with_reducible apply Ext.alloc | with_reducible apply Ext.drew | (with_reducible refine Ext.setCell ?_ (by (try simp) <;> omega) _)))
  have b5_0 := block_new w4 (.cells (#[.int .i64 rv.a, .int .i64 rv.b, .int .i64 rv.c, .int .i64 rv.d, .int .i64 rv.e, .int .i64 rv.f] : Array Value) 32)
  obtain ⟨W5, hW5⟩ : ∃ W, (w4.alloc (.cells (#[.int .i64 rv.a, .int .i64 rv.b, .int .i64 rv.c, .int .i64 rv.d, .int .i64 rv.e, .int .i64 rv.f] : Array Value) 32)) = W := ⟨_, rfl⟩
  obtain ⟨B5, hB5⟩ : ∃ B, w4.heap.size = B := ⟨_, rfl⟩
  rw [hW5] at X5 b5_0
  rw [hB5] at b5_0
  have HZ5 : Hid (w4.heap.size ≤ B5) := Lib.hid (by omega)
  have HW5 := Lib.hid hW5; have HB5 := Lib.hid hB5
  clear hW5 hB5
  have x5 := x4.trans X5
  have HX5 := Lib.hid x5
  rcases hcs with rfl | ⟨rfl, hz⟩
  · have HX := Lib.hid (X0.trans x5)
    clear y4 y3 y2 b5_0 X5 x4 x3 x2 x1 x5
    go_upto_region 5 with fail
    rw [HW5.out, HB5.out]
    clear HW5 HB5
    go_wp2
    go_ret
    exact ⟨by first | rfl | simp, HX.out⟩
  have HZ := Lib.hid hz
  have HR := Lib.hid hr
  obtain ⟨c0, c1, c2, c3⟩ := CB.out _ x5
  clear y4 y3 y2 b5_0 X5 x4 x3 x2 x1 x5 hz hr
  go_upto_region 5 with fail
  rw [HW5.out, HB5.out]
  clear HW5 HB5
  go_wp2_with fail
  refine (groups_walk _ _ _ s HSB.out _ (HS1.out _ HX5.out)).mono ?_
  rintro e w6 ⟨v6, rfl, L6, y6⟩
  have x6 := HX5.out.trans y6
  obtain ⟨al, cl, rfl, -, -, hll⟩ := L6.len
  rw [labL_len] at L6 ⊢
  clear c0 c1 c2 c3
  obtain ⟨c0, c1, c2, c3⟩ := CB.out _ x6
  have hn2 : s.notes.length ≤ 200 := HSO.out.sz.2.1
  have HL6 := Lib.hid fun w' (x : Ext w6 w') => L6.ext x
  have HX6 := Lib.hid x6
  clear L6 x6 y6 hll
  go_wp2_with (at_make; go_must (refine wpList_mk (e := 4) (sz := 1) (bytes := 1) (enc := encBo) (z := .bool false) false Tryz.underlying37 (by kernel_rfl) rfl rfl rfl _ _ rfl s.notes.length rfl rfl (by omega) (by omega) ?_); intro cs hbk; have d1 := (Ext.alloc' w6 (.cells cs 4)).cell c1)
  have X7 : Ext w6 (w6.alloc (.cells cs 4)) := Ext.alloc' _ _
  obtain ⟨B7, hB7⟩ : ∃ B7, w6.heap.size = B7 := ⟨_, rfl⟩
  obtain ⟨W7, hW7⟩ : ∃ W7, w6.alloc (.cells cs 4) = W7 := ⟨_, rfl⟩
  rw [hW7] at hbk X7 ⊢
  rw [hB7] at hbk ⊢
  have HB7 := Lib.hid hB7
  have HBK := Lib.hid hbk
  have HX7 := Lib.hid X7
  clear c0 c1 c2 c3 d1 hbk X7 hW7 hB7
  go_loopw [50] (fun i wr => ∃ (k : Nat) (R : List Bool), k ≤ s.notes.length ∧ i = .int .i64 k ∧ Bk wr B7 4 encBo R ∧ Hid (RootI s R k) ∧ Ext w6 wr) (fun i _ => s.notes.length - (intOf i).toNat)
  case atStart => exact ⟨0, _, Nat.zero_le _, rfl, HBK.out, Lib.hid (RootI.zero s), HX7.out⟩
  case round =>
    obtain ⟨k, R, hk, rfl, H, HR1, K⟩ := hrel
    clear HBK
    by_cases hlt : k < s.notes.length
    case neg =>
      have hkn : k = s.notes.length := by omega
      subst hkn
      obtain ⟨c0, c1, c2, c3⟩ := CB.out _ (HX6.out.trans K)
      have BW := Lib.hid (broken0_walk (.slice an s.notes.length cn) (.slice ap s.pairs.length cp) (.slice ac s.cads.length cc) (.slice ah h.length ch) s h wr (HG1.out _ (HX6.out.trans K)) (HS1.out _ (HX6.out.trans K)) (HV1.out _ (HX6.out.trans K)))
      have HCP := Lib.hid fun c (hc : c ∈ (brkR s h).1) => chain_pos HSO.out HR.out HZ.out HR1.out hc
      have HER := Lib.hid (brk_err s h)
      have HK := Lib.hid (HX6.out.trans K)
      clear H K HL6
      go_wp2_with fail
      refine BW.out.mono ?_
      obtain ⟨⟨l, er⟩, hl⟩ : ∃ z, brkR s h = z := ⟨_, rfl⟩
      rw [hl] at HCP HER ⊢
      rintro e w10 ⟨v10, rfl, C10, y10⟩
      obtain ⟨a10, q10, rfl, hl10, AT10⟩ := ChR.at C10
      dsimp only at HCP HER ⊢
      have HX10 := Lib.hid (HK.out.trans y10)
      have HFX := Lib.hid (X0.trans HX10.out)
      have HAT := Lib.hid AT10
      have HC := HCP.out
      clear hl BW C10 AT10 y10 c0 c1 c2 c3 HCP
      rcases HER.out with rfl | rfl | rfl
      case inr.inl =>
        go_wp2
        go_ret
        exact ⟨by first | rfl | simp, HFX.out⟩
      case inr.inr =>
        go_wp2
        go_ret
        exact ⟨by first | rfl | simp, HFX.out⟩
      go_wp2
      go_loopw [5, 98] (fun o i wr => ∃ k : Nat, k ≤ l.length ∧ o = .bool true ∧ i = .int .i64 k ∧ Ext w10 wr) (fun _ i _ => l.length - (intOf i).toNat)
      case atStart => exact ⟨0, Nat.zero_le _, rfl, rfl, Ext.refl _⟩
      case round =>
        obtain ⟨k, hk, rfl, rfl, K⟩ := hrel
        by_cases hlt : k < l.length
        case neg =>
          obtain rfl : k = l.length := by omega
          have HX := Lib.hid (HFX.out.trans K)
          clear K
          go_wp2
          go_ret
          exact ⟨by first | rfl | simp, HX.out⟩
        case pos =>
        obtain ⟨b, o, sv, rfl, p0, p1, p2, p3, p4, p5, p6, p7, Ss⟩ := HAT.out _ K k hlt
        obtain ⟨sa, sc, esv, -, -, -⟩ := Ss.len
        obtain ⟨sn, hsn⟩ : ∃ z, (l[k]).steps.length = z := ⟨_, rfl⟩
        rw [hsn] at esv
        subst esv
        clear Ss hsn
        obtain ⟨i, hi1, hi2, hi3⟩ := HC _ (List.getElem_mem hlt)
        rw [hi1] at p0
        have X11 : Ext wr (wr.alloc (.cells #[.int .i64 i, .slice sa sn sc, .int .i64 (l[k].comma.a), .int .i64 (l[k].comma.b), .int .i64 (l[k].comma.c), .int .i64 (l[k].comma.d), .int .i64 (l[k].comma.e), .int .i64 (l[k].comma.f)] 46)) := (by repeat (first | with_reducible exact Ext.refl _ | with_reducible assumption | with_reducible apply Ext.alloc | with_reducible apply Ext.drew | (with_reducible refine Ext.setCell ?_ (by (try simp) <;> omega) _)))
        have b11_0 := block_new wr (.cells #[.int .i64 i, .slice sa sn sc, .int .i64 (l[k].comma.a), .int .i64 (l[k].comma.b), .int .i64 (l[k].comma.c), .int .i64 (l[k].comma.d), .int .i64 (l[k].comma.e), .int .i64 (l[k].comma.f)] 46)
        obtain ⟨W11, hW11⟩ : ∃ W, (wr.alloc (.cells #[.int .i64 i, .slice sa sn sc, .int .i64 (l[k].comma.a), .int .i64 (l[k].comma.b), .int .i64 (l[k].comma.c), .int .i64 (l[k].comma.d), .int .i64 (l[k].comma.e), .int .i64 (l[k].comma.f)] 46)) = W := ⟨_, rfl⟩
        obtain ⟨B11, hB11⟩ : ∃ B, wr.heap.size = B := ⟨_, rfl⟩
        rw [hW11] at X11 b11_0
        rw [hB11] at b11_0
        have HZ11 : Hid (wr.heap.size ≤ B11) := Lib.hid (by omega)
        have HW11 := Lib.hid hW11; have HB11 := Lib.hid hB11
        clear hW11 hB11
        have X11' := K.trans X11
        obtain ⟨d0, d1, d2, d3⟩ := CB.out _ (HX10.out.trans X11')
        have e0 := block_cell b11_0 0 _ rfl
        obtain ⟨bp, op, rfl, q8⟩ : ∃ bp op, ap = some ⟨bp, op, none⟩ ∧ W11.cell? ⟨bp, op + i * 9 + 8, none⟩ = some (.int .i64 (s.pairs[i]).bound) := by
          obtain ⟨bp, op, e, hc⟩ := Sl.at (HS1.out _ (HX10.out.trans X11')).pr (by omega) i hi2
          exact ⟨bp, op, e, hc 8 (by omega)⟩
        have i1 : (0 : Int) ≤ (k : Int) := by omega
        have i2 : (k : Int) < (l.length : Int) := by omega
        have j1 : (0 : Int) ≤ (i : Int) := by omega
        have j2 : (i : Int) < (s.pairs.length : Int) := by omega
        have t1 : decide ((0 : Int) ≤ (i : Int)) = true := decide_eq_true j1
        have t2 : decide ((i : Int) < (s.pairs.length : Int)) = true := decide_eq_true j2
        have t3 : decide ((s.pairs[i]).bound > 0) = true := decide_eq_true hi3
        obtain ⟨bo, hbo⟩ : ∃ z, (s.pairs[i]).bound = z := ⟨_, rfl⟩
        rw [hbo] at q8 t3
        have HX11 := Lib.hid X11'
        clear K X11 X11' hbo hi1 hi2 hi3 b11_0
        go_upto_region 26 with fail
        rw [HW11.out, HB11.out]
        clear HW11 HB11
        go_wp2
        go_roundw
        case rel => exact ⟨k + 1, by omega, rfl, by go_num, HX11.out⟩
        case measure => simp [intOf] <;> omega
    case pos =>
    obtain ⟨c0, c1, c2, c3⟩ := CB.out _ (HX6.out.trans K)
    obtain ⟨g, hgl, hg0, hg1, hg2⟩ := lab_nat HSO.out hlt
    have HH := Lib.hid H; have HK := Lib.hid K
    clear H K
    go_wp2_with fail
    refine (parent_walk _ _ _ s k _ (HS1.out _ (HX6.out.trans HK.out))).mono ?_
    rw [show parR s (k : Int) = (upF s k, 0) by unfold parR; rw [if_pos ⟨HSB.out, by omega, by omega⟩, Int.toNat_natCast]]
    rintro e w8 ⟨rfl, y8⟩
    obtain ⟨⟨ua, ub, uk⟩, hu⟩ : ∃ z, upF s k = z := ⟨_, rfl⟩
    rw [hu]
    have HU := Lib.hid hu
    dsimp only
    have X9 : Ext w8 (w8.alloc (.cells #[.int .i64 ua, .int .i64 ub, .int .i64 uk] 39)) := (by repeat (first | with_reducible exact Ext.refl _ | with_reducible assumption | with_reducible apply Ext.alloc | with_reducible apply Ext.drew | (with_reducible refine Ext.setCell ?_ (by (try simp) <;> omega) _)))
    have b9_0 := block_new w8 (.cells #[.int .i64 ua, .int .i64 ub, .int .i64 uk] 39)
    obtain ⟨W9, hW9⟩ : ∃ W, (w8.alloc (.cells #[.int .i64 ua, .int .i64 ub, .int .i64 uk] 39)) = W := ⟨_, rfl⟩
    obtain ⟨B9, hB9⟩ : ∃ B, w8.heap.size = B := ⟨_, rfl⟩
    rw [hW9] at X9 b9_0
    rw [hB9] at b9_0
    have HZ9 : Hid (w8.heap.size ≤ B9) := Lib.hid (by omega)
    have HW9 := Lib.hid hW9; have HB9 := Lib.hid hB9
    clear hW9 hB9
    have X9' := HK.out.trans (y8.trans X9)
    have H9 := HH.out.ext (y8.trans X9)
    have e2 := block_cell b9_0 2 _ rfl
    have i1 : (0 : Int) ≤ (k : Int) := by omega
    have i2 : (k : Int) < (s.notes.length : Int) := by omega
    have HH9 := Lib.hid H9; have HX9 := Lib.hid X9'
    clear hu c0 c1 c2 c3 y8 X9 b9_0 H9 X9' HH HK
    by_cases h3 : uk = 3
    case neg =>
      have t1 : (uk != 3) = true := by rw [bne_iff_ne]; exact h3
      have HR2 := Lib.hid (HR1.out.skip (by rw [HU.out]; exact h3))
      clear h3
      go_upto_region 13 with fail
      rw [HW9.out, HB9.out]
      clear HW9 HB9
      go_wp2
      go_roundw
      case rel => exact ⟨k + 1, R, by omega, by go_num, HH9.out, HR2.out, HX9.out⟩
      case measure => simp [intOf] <;> omega
    case pos =>
    subst h3
    have hgR : g < R.length := by rw [HR1.out.len]; exact hg2
    have r0 := HH9.out.cell (sz := 1) (fun _ _ => rfl) g 0 hgR (by omega)
    have f0 := HH9.out.free g
    obtain ⟨bb, hbb⟩ : ∃ z, R[g] = z := ⟨_, rfl⟩
    rw [hbb] at r0
    simp only [encBo, List.getD_cons_zero, Nat.mul_one, Nat.add_zero] at r0
    obtain ⟨bl, ol, ela, l0⟩ := Sl.at1 (HL6.out _ HX9.out) k hgl
    rw [hg0] at l0
    simp only [encZ, List.getD_cons_zero] at l0
    have j1 : (0 : Int) ≤ (g : Int) := by omega
    have j2 : (g : Int) < (s.notes.length : Int) := by omega
    have HBB := Lib.hid (show R.getD g false = bb by rw [List.getD_eq_getElem?_getD, List.getElem?_eq_getElem hgR]; exact hbb)
    have HGR := Lib.hid hgR; have HG1' := Lib.hid hg1; have HG2 := Lib.hid hg2
    subst ela
    clear hbb hgR hg0 hg1 hg2 hgl
    go_upto_region 13 with fail
    rw [HW9.out, HB9.out]
    clear HW9 HB9
    cases bb with
    | true =>
      have HX := Lib.hid (X0.trans (HX6.out.trans HX9.out))
      go_wp2
      go_ret
      exact ⟨by first | rfl | simp, HX.out⟩
    | false =>
    have hput := HH9.out.put (sz := 1) (fun _ _ => rfl) true rfl g HGR.out
    rw [Nat.mul_one] at hput
    have hput : Bk (W9.setCell ⟨B7, g, none⟩ (.bool true)) B7 4 encBo (R.set g true) := hput
    have HP := Lib.hid hput
    have HR2 := Lib.hid (HR1.out.add HG1'.out HG2.out HBB.out)
    have HX2 := Lib.hid (Ext.setCell (a := w6) HX9.out (p := ⟨B7, g, none⟩) (by have := HB7.out; show _ ≤ B7; omega) (.bool true))
    clear hput
    go_wp2
    go_roundw
    case rel => exact ⟨k + 1, _, by omega, by go_num, HP.out, HR2.out, HX2.out⟩
    case measure => simp [intOf] <;> omega

theorem topOneRoot_args (H : Type) (enc : TypeId × Value → H) (W : World) (base : Nat) (vs : List Value) (ds : List (DataW H)) (_ : ∀ k, (OpenSpec.ofChange Rows.topOneRootSpec).cond = some k → k H ds = true) (hL : laidMetH Tryz.prog Rows.topOneRootRow.laid W) (hA : Args enc Tryz.prog W base Tryz.f3.params.toList vs ds) :
    Calls Tryz.prog 3 vs.toArray W fun e W' => e = .returned (.bool true) ∧ Ext W W' := by
  rw [Tryz.params3] at hA
  obtain ⟨v0, _, d0, _, rfl, rfl, h0, hA⟩ := hA.cons
  obtain ⟨v1, _, d1, _, rfl, rfl, h1, hA⟩ := hA.cons
  obtain ⟨rfl, rfl⟩ := hA.nil
  obtain ⟨s0, vn0, vp0, vc0, rfl, S0⟩ := arg_score h0
  obtain ⟨l1, S1, n1⟩ := arg_vecs h1
  exact topone_law _ _ _ _ s0 l1 W (gv_of hL) S0 S1

theorem topOneRoot_met (os : Os) : laidMet Tryz.prog Rows.topOneRootRow.laid ((laidWorld os).forCall (fun _ _ => 0) ⟨#[], #[.agg #[.int .i64 0, .slice none 0 0, .slice none 0 0, .slice none 0 0], .slice none 0 0], []⟩).memory := laidMet_of_run' 8 (by kernel_rfl) (by kernel_rfl)
theorem topOneRoot_reads (os : Os) {H : Type} (enc : TypeId × Value → H) : ∃ places, DataW.whole enc Tryz.prog ((laidWorld os).forCall (fun _ _ => 0) ⟨#[], #[.agg #[.int .i64 0, .slice none 0 0, .slice none 0 0, .slice none 0 0], .slice none 0 0], []⟩).memory Tryz.f3.params.toList Rows.topOneRootSpec.vars false #[.agg #[.int .i64 0, .slice none 0 0, .slice none 0 0, .slice none 0 0], .slice none 0 0].toList 8 = some ([.agg [.lit (.int .i64 0), .nil, .nil, .nil], .nil], [], places) := ⟨[], by kernel_rfl⟩
set_option maxRecDepth 100000 in
theorem topOneRoot_lifted (os : Os) (started : os.Started) (H : Type) (enc : TypeId × Value → H) (F : Stop.Interp) :
    ReturnsInHanded {} Tryz.checked os 3 .any ((OpenSpec.ofChange Rows.topOneRootSpec).preRow enc Tryz.prog Tryz.f3 Rows.topOneRootRow.domain false Rows.topOneRootRow.laid) (((OpenSpec.ofChange Rows.topOneRootSpec).at F).post enc Tryz.prog Tryz.f3 false true false false) := by
  obtain ⟨places, hx⟩ := topOneRoot_reads os enc
  exact law_row (C := Tryz.checked) (s := (OpenSpec.ofChange Rows.topOneRootSpec)) (by kernel_rfl) started (by kernel_rfl) Tryz.func3
    (witness_row_at (enc := enc) (C := Tryz.checked) false (laidWorld os) #[.agg #[.int .i64 0, .slice none 0 0, .slice none 0 0, .slice none 0 0], .slice none 0 0] rfl (by kernel_rfl) (by kernel_rfl) (by kernel_rfl) (OpenSpec.preRow_of_cond 8 hx (by kernel_rfl) (fun k hk => by cases hk) (by kernel_rfl) (topOneRoot_met os)))
    (by kernel_rfl) (by kernel_rfl) (by kernel_rfl) rfl (fun ds h => by match ds, h with | [_, _], _ => rfl) (topOneRoot_args H enc)
theorem topOneRoot_said : Rows.TopOneRootSaid :=
  OpenClaim.holds_of_cond 3 Tryz.f3 rfl rfl rfl rfl rfl rfl rfl ⟨rfl, rfl, rfl, rfl, rfl⟩ rfl rfl rfl rfl rfl (by kernel_rfl) Tryz.func3 (by kernel_rfl)
    (of_decide_eq_true (by kernel_rfl)) (by unfold Func.isWrapper; first | (rw [if_pos (by decide +kernel)]; kernel_rfl) | (rw [if_neg (by decide +kernel)]; exact ⟨rfl, rfl⟩))
    (fun os started H enc _ F => by rw [OpenClaim.pre_eq_preRow]; exact topOneRoot_lifted os started H enc F)
theorem topOneRoot_plain (f : FuncId) (fn : Func) (hf : Tryz.pinned.checked.prog.funcNamed "schisma/schismatop.TopOneRoot" = some f) (hfn : Tryz.pinned.checked.prog.funcs[f]? = some fn) :
    false = Tryz.pinned.checked.prog.looks [] ∧ ∀ (j : Nat) t, fn.params[j]? = some t → Tryz.pinned.checked.prog.wantsStandIn t = false := by
  obtain rfl : f = 3 := Option.some.inj ((show Tryz.prog.funcNamed "schisma/schismatop.TopOneRoot" = some 3 by kernel_rfl).symm.trans hf) |>.symm
  obtain rfl : fn = Tryz.f3 := (Option.some.inj (Tryz.func3.symm.trans hfn)).symm
  refine ⟨by kernel_rfl, fun j t ht => ?_⟩
  have hall : Tryz.f3.params.all (fun t => !Tryz.prog.wantsStandIn t) = true := by kernel_rfl
  have := (Array.all_eq_true'.1 hall) t (Array.mem_of_getElem? ht)
  have e : Tryz.prog.wantsStandIn t = false := by simpa using this
  exact e
/-- The card. -/
theorem topOneRoot_holds : Rows.TopOneRootCardSaid :=
  Claim7.holds_tied_plain_at .later [] _ _ _ _ topOneRoot_said (fun _ h => by cases h) (by kernel_rfl) (fun _ h => by cases h) topOneRoot_row_tie rfl ⟨rfl, rfl⟩ (by kernel_rfl) rfl topOneRoot_plain (by kernel_rfl)
end Go.Proofs.YtgfaiihekibcbaaGreatDoor
