/-
  Walks of the statements' helpers: example, head.
-/
import Derived.Test.YtdpegkkbhanjkaaDoorPlO
import Derived.Test.YtdpegkkbhanjkaaDoorPlG
import Derived.Test.YtdpegkkbhanjkaaDoorR23B
set_option linter.unusedVariables false
namespace Go.Sx.Po
open Go.Sx.Sz Go.Sx.Sc
def exP (b : Int) : Sc := ⟨2, [⟨0, 0, 8, ⟨0, 0, 0, 0, 0, 0⟩, false⟩, ⟨1, 0, 4, ⟨-2, 0, 1, 0, 0, 0⟩, false⟩, ⟨1, 4, 8, ⟨-1, 1, 0, 0, 0, 0⟩, false⟩],
  [⟨0, 1, ⟨-2, 0, 1, 0, 0, 0⟩, 0⟩, ⟨0, 2, ⟨3, -3, 1, 0, 0, 0⟩, b⟩], [4]⟩
def exH : List V6 := [⟨0, 0, 0, 0, 0, 0⟩, ⟨-4, 4, -1, 0, 0, 0⟩]
def exC : Cn := ⟨1, [⟨0, -1, 3⟩, ⟨-1, 2, 3⟩], ⟨-8, 8, -2, 0, 0, 0⟩⟩
def exX : List V6 := [⟨0, 0, 0, 0, 0, 0⟩, ⟨-2, 0, 1, 0, 0, 0⟩, ⟨3, -3, 1, 0, 0, 0⟩]
def exY : List V6 := [⟨0, 0, 0, 0, 0, 0⟩, ⟨-2, 0, 1, 0, 0, 0⟩, ⟨-5, 5, -1, 0, 0, 0⟩]
end Go.Sx.Po
namespace Go.Proofs.YtdpegkkbhanjkaaDoor
open Go.RowKit Go.Sx Go.Sx.Sz Go.Sx.Sc Go.Sx.Po
theorem exP_1 : parR (exP 0) 1 = (⟨0, 1, 2⟩, 0) := by kernel_rfl
theorem exP_2 : tuneR (exP 0) exH = (exX, 0) := by kernel_rfl
theorem exP_3 : brkR (exP 0) exH = ([], 0) := by kernel_rfl
theorem exP_4 : tuneR (exP 1000) exH = (exY, 0) := by kernel_rfl
theorem exP_5 : brkR (exP 1000) exH = ([exC], 0) := by kernel_rfl
theorem exP_6 : chkR (exP 1000) exH exC = (true, 0) := by kernel_rfl

set_option maxRecDepth 100000 in
set_option maxHeartbeats 4000000 in
theorem example_walk (b : Int) (w : World) : Calls Tryd.prog 27 #[.int .i64 b] w fun e w' => ∃ vn vp vc, e = .returned (.agg #[.int .i64 2, vn, vp, vc]) ∧ ScR w' vn vp vc (exP b) ∧ Ext w w' := by
  go_enter Tryd.func27, Tryd.ntmps27
  go_wp2
  refine bodyPost_ret (v := .agg #[.int .i64 2, .slice (some ⟨w.heap.size + 1, 0, none⟩) 3 3, .slice (some ⟨w.heap.size + 1 + 1, 0, none⟩) 2 2, .slice (some ⟨w.heap.size + 1 + 1 + 1, 0, none⟩) 1 1]) (by simp [results, Tryd.results27, go_sem]) rfl ⟨_, _, _, rfl, ⟨?_, ?_, ?_⟩, (by repeat (first | with_reducible exact Ext.refl _ | with_reducible assumption | with_reducible apply Ext.alloc | with_reducible apply Ext.drew | (with_reducible refine Ext.setCell ?_ (by (try simp) <;> omega) _)))⟩
  · exact Bk.sl (e := 44) (enc := encN) (xs := (exP b).notes) (sz := 10) ⟨_, block_alloc (block_alloc (block_at (by simp) _) _) _, rfl⟩ (fun _ _ => rfl) rfl (by simp [exP])
  · exact Bk.sl (e := 53) (enc := encP) (xs := (exP b).pairs) (sz := 9) ⟨_, block_alloc (block_at (by simp) _) _, rfl⟩ (fun _ _ => rfl) rfl (by simp [exP])
  · exact Bk.sl (e := 3) (enc := encZ) (xs := (exP b).cads) (sz := 1) ⟨_, block_at (by simp) _, rfl⟩ (fun _ _ => rfl) rfl (by simp [exP])

set_option maxRecDepth 100000 in
set_option maxHeartbeats 8000000 in
theorem head_walk (w : World) (GL : Gl 0 w) : Calls Tryd.prog 10 #[] w fun e w' => e = .returned (.bool true) ∧ Ext w w' := by
  have X0 : Ext w (w.alloc (.cells #[.int .i64 0, .int .i64 0, .int .i64 0, .int .i64 0, .int .i64 0, .int .i64 0, .int .i64 (-4), .int .i64 4, .int .i64 (-1), .int .i64 0, .int .i64 0, .int .i64 0] 41)) := (by repeat (first | with_reducible exact Ext.refl _ | with_reducible assumption | with_reducible apply Ext.alloc | with_reducible apply Ext.drew | (with_reducible refine Ext.setCell ?_ (by (try simp) <;> omega) _)))
  have b0_0 := block_new w (.cells #[.int .i64 0, .int .i64 0, .int .i64 0, .int .i64 0, .int .i64 0, .int .i64 0, .int .i64 (-4), .int .i64 4, .int .i64 (-1), .int .i64 0, .int .i64 0, .int .i64 0] 41)
  obtain ⟨W0, hW0⟩ : ∃ W, (w.alloc (.cells #[.int .i64 0, .int .i64 0, .int .i64 0, .int .i64 0, .int .i64 0, .int .i64 0, .int .i64 (-4), .int .i64 4, .int .i64 (-1), .int .i64 0, .int .i64 0, .int .i64 0] 41)) = W := ⟨_, rfl⟩
  obtain ⟨B0, hB0⟩ : ∃ B, w.heap.size = B := ⟨_, rfl⟩
  rw [hW0] at X0 b0_0
  rw [hB0] at b0_0
  have HZ0 : Hid (w.heap.size ≤ B0) := Lib.hid (by omega)
  have HW0 := Lib.hid hW0; have HB0 := Lib.hid hB0
  clear hW0 hB0
  have SH := Lib.hid fun w' (x : Ext W0 w') => show Sl w' 6 V6.list (.slice (some ⟨B0, 0, none⟩) 2 2) exH from Sl.ext (Bk.sl (e := 41) (enc := V6.list) (xs := exH) (sz := 6) ⟨_, b0_0, rfl⟩ (fun _ _ => rfl) rfl (by simp [exH])) x
  have GW := Lib.hid fun w' (x : Ext W0 w') => GL.ext (X0.trans x)
  clear b0_0 GL
  go_enter Tryd.func10, Tryd.ntmps10
  go_upto_region 2 with fail
  rw [HW0.out, HB0.out]
  clear HW0 HB0
  go_wp2_with fail
  refine (example_walk 0 _).mono ?_
  rintro e w1 ⟨vn, vp, vc, rfl, S1, x1⟩
  go_wp2_with fail
  refine (parent_walk _ _ _ (exP 0) 1 _ S1).mono ?_
  rw [exP_1]
  rintro e w2 ⟨rfl, y2⟩
  have x2 := x1.trans y2
  have X3 : Ext w2 (w2.alloc (.cells #[.int .i64 0, .int .i64 1, .int .i64 2] 35)) := (by repeat (first | with_reducible exact Ext.refl _ | with_reducible assumption | with_reducible apply Ext.alloc | with_reducible apply Ext.drew | (with_reducible refine Ext.setCell ?_ (by (try simp) <;> omega) _)))
  have b3_0 := block_new w2 (.cells #[.int .i64 0, .int .i64 1, .int .i64 2] 35)
  obtain ⟨W3, hW3⟩ : ∃ W, (w2.alloc (.cells #[.int .i64 0, .int .i64 1, .int .i64 2] 35)) = W := ⟨_, rfl⟩
  obtain ⟨B3, hB3⟩ : ∃ B, w2.heap.size = B := ⟨_, rfl⟩
  rw [hW3] at X3 b3_0
  rw [hB3] at b3_0
  have HZ3 : Hid (w2.heap.size ≤ B3) := Lib.hid (by omega)
  have HW3 := Lib.hid hW3; have HB3 := Lib.hid hB3
  clear hW3 hB3
  have x3 := x2.trans X3
  have HP3 := Lib.hid b3_0
  clear S1 b3_0 y2 x1 x2 X3
  go_upto_region 3 with fail
  rw [HW3.out, HB3.out]
  clear HW3 HB3
  go_wp2_with fail
  refine (example_walk 0 _).mono ?_
  rintro e w4 ⟨vn, vp, vc, rfl, S4, y4⟩
  have x4 := x3.trans y4
  go_wp2_with fail
  refine (tune_walk _ _ _ _ (exP 0) exH _ S4 (SH.out _ x4)).mono ?_
  rw [exP_2]
  rintro e w5 ⟨v5, rfl, V5, y5⟩
  have x5 := x4.trans y5
  have HV5 := Lib.hid V5
  obtain ⟨a5, c5, rfl, -, -, -⟩ := V5.len
  clear S4 V5
  go_wp2_with fail
  refine (example_walk 0 _).mono ?_
  rintro e w6 ⟨vn, vp, vc, rfl, S6, y6⟩
  have x6 := x5.trans y6
  go_wp2_with fail
  refine (broken0_walk _ _ _ _ (exP 0) exH _ (GW.out _ x6) S6 (SH.out _ x6)).mono ?_
  rw [exP_3]
  rintro e w7 ⟨v7, rfl, V7, y7⟩
  have x7 := x6.trans y7
  obtain ⟨a7, c7, rfl, -, -⟩ := V7.at
  clear S6 V7
  go_wp2_with fail
  refine (example_walk 1000 _).mono ?_
  rintro e w8 ⟨vn, vp, vc, rfl, S8, y8⟩
  have x8 := x7.trans y8
  go_wp2_with fail
  refine (tune_walk _ _ _ _ (exP 1000) exH _ S8 (SH.out _ x8)).mono ?_
  rw [exP_4]
  rintro e w9 ⟨v9, rfl, V9, y9⟩
  have x9 := x8.trans y9
  have HV9 := Lib.hid V9
  obtain ⟨a9, c9, rfl, -, -, -⟩ := V9.len
  clear S8 V9
  go_wp2_with fail
  refine (example_walk 1000 _).mono ?_
  rintro e w10 ⟨vn, vp, vc, rfl, S10, y10⟩
  have x10 := x9.trans y10
  go_wp2_with fail
  refine (broken0_walk _ _ _ _ (exP 1000) exH _ (GW.out _ x10) S10 (SH.out _ x10)).mono ?_
  rw [exP_5]
  rintro e w11 ⟨v11, rfl, V11, y11⟩
  have x11 := x10.trans y11
  have HV11 := Lib.hid V11
  obtain ⟨a11, c11, rfl, -, -⟩ := V11.at
  have bp := block_ext ((((((((y4.trans y5).trans y6).trans y7).trans y8).trans y9).trans y10).trans y11)) HP3.out
  have p0 := block_cell bp 0 _ rfl; have p1 := block_cell bp 1 _ rfl; have p2 := block_cell bp 2 _ rfl
  have HV5' := Lib.hid (HV5.out.ext ((((((y6.trans y7).trans y8).trans y9).trans y10).trans y11)))
  have HV9' := Lib.hid (HV9.out.ext (y10.trans y11))
  clear S10 V11 bp y4 y5 y6 y7 y8 y9 y10 y11 x3 x4 x5 x6 x7 x8 x9 x10 HV5 HV9
  simp only [exX, exY, List.length_cons, List.length_nil, Nat.reduceAdd]
  go_upto_region 8 with fail
  clear p0 p1 p2
  go_wp2_with fail
  have X12 : Ext w11 (w11.alloc (.cells #[.int .i64 0, .int .i64 0, .int .i64 0, .int .i64 0, .int .i64 0, .int .i64 0, .int .i64 (-2), .int .i64 0, .int .i64 1, .int .i64 0, .int .i64 0, .int .i64 0, .int .i64 3, .int .i64 (-3), .int .i64 1, .int .i64 0, .int .i64 0, .int .i64 0] 41)) := (by repeat (first | with_reducible exact Ext.refl _ | with_reducible assumption | with_reducible apply Ext.alloc | with_reducible apply Ext.drew | (with_reducible refine Ext.setCell ?_ (by (try simp) <;> omega) _)))
  have b12_0 := block_new w11 (.cells #[.int .i64 0, .int .i64 0, .int .i64 0, .int .i64 0, .int .i64 0, .int .i64 0, .int .i64 (-2), .int .i64 0, .int .i64 1, .int .i64 0, .int .i64 0, .int .i64 0, .int .i64 3, .int .i64 (-3), .int .i64 1, .int .i64 0, .int .i64 0, .int .i64 0] 41)
  obtain ⟨W12, hW12⟩ : ∃ W, (w11.alloc (.cells #[.int .i64 0, .int .i64 0, .int .i64 0, .int .i64 0, .int .i64 0, .int .i64 0, .int .i64 (-2), .int .i64 0, .int .i64 1, .int .i64 0, .int .i64 0, .int .i64 0, .int .i64 3, .int .i64 (-3), .int .i64 1, .int .i64 0, .int .i64 0, .int .i64 0] 41)) = W := ⟨_, rfl⟩
  obtain ⟨B12, hB12⟩ : ∃ B, w11.heap.size = B := ⟨_, rfl⟩
  rw [hW12] at X12 b12_0
  rw [hB12] at b12_0
  have HZ12 : Hid (w11.heap.size ≤ B12) := Lib.hid (by omega)
  have HW12 := Lib.hid hW12; have HB12 := Lib.hid hB12
  clear hW12 hB12
  rw [HW12.out, HB12.out]
  refine (rsamev_walk _ _ exX _ (HV5'.out.ext X12) (Bk.sl (e := 41) (enc := V6.list) (xs := exX) (sz := 6) ⟨_, b12_0, rfl⟩ (fun _ _ => rfl) rfl (by simp [exX]))).mono ?_
  rintro e w13 ⟨rfl, y13⟩
  have z13 := X12.trans y13
  clear b12_0 y13 X12
  go_wp2_with fail
  have X14 : Ext w13 (w13.alloc (.cells #[.int .i64 0, .int .i64 0, .int .i64 0, .int .i64 0, .int .i64 0, .int .i64 0, .int .i64 (-2), .int .i64 0, .int .i64 1, .int .i64 0, .int .i64 0, .int .i64 0, .int .i64 (-5), .int .i64 5, .int .i64 (-1), .int .i64 0, .int .i64 0, .int .i64 0] 41)) := (by repeat (first | with_reducible exact Ext.refl _ | with_reducible assumption | with_reducible apply Ext.alloc | with_reducible apply Ext.drew | (with_reducible refine Ext.setCell ?_ (by (try simp) <;> omega) _)))
  have b14_0 := block_new w13 (.cells #[.int .i64 0, .int .i64 0, .int .i64 0, .int .i64 0, .int .i64 0, .int .i64 0, .int .i64 (-2), .int .i64 0, .int .i64 1, .int .i64 0, .int .i64 0, .int .i64 0, .int .i64 (-5), .int .i64 5, .int .i64 (-1), .int .i64 0, .int .i64 0, .int .i64 0] 41)
  obtain ⟨W14, hW14⟩ : ∃ W, (w13.alloc (.cells #[.int .i64 0, .int .i64 0, .int .i64 0, .int .i64 0, .int .i64 0, .int .i64 0, .int .i64 (-2), .int .i64 0, .int .i64 1, .int .i64 0, .int .i64 0, .int .i64 0, .int .i64 (-5), .int .i64 5, .int .i64 (-1), .int .i64 0, .int .i64 0, .int .i64 0] 41)) = W := ⟨_, rfl⟩
  obtain ⟨B14, hB14⟩ : ∃ B, w13.heap.size = B := ⟨_, rfl⟩
  rw [hW14] at X14 b14_0
  rw [hB14] at b14_0
  have HZ14 : Hid (w13.heap.size ≤ B14) := Lib.hid (by omega)
  have HW14 := Lib.hid hW14; have HB14 := Lib.hid hB14
  clear hW14 hB14
  rw [HW14.out, HB14.out]
  have z14 := z13.trans X14
  refine (rsamev_walk _ _ exY _ (HV9'.out.ext z14) (Bk.sl (e := 41) (enc := V6.list) (xs := exY) (sz := 6) ⟨_, b14_0, rfl⟩ (fun _ _ => rfl) rfl (by simp [exY]))).mono ?_
  rintro e w15 ⟨rfl, y15⟩
  have z15 := z14.trans y15
  clear b14_0 X14 y15
  have X16 : Ext w15 ((w15.alloc (.cells #[.int .i64 0, .int .i64 (-1), .int .i64 3, .int .i64 (-1), .int .i64 2, .int .i64 3] 35)).alloc (.cells #[.int .i64 1, .slice (some ⟨w15.heap.size, 0, none⟩) 2 2, .int .i64 (-8), .int .i64 8, .int .i64 (-2), .int .i64 0, .int .i64 0, .int .i64 0] 60)) := (by repeat (first | with_reducible exact Ext.refl _ | with_reducible assumption | with_reducible apply Ext.alloc | with_reducible apply Ext.drew | (with_reducible refine Ext.setCell ?_ (by (try simp) <;> omega) _)))
  have b16_0 := block_alloc (block_new w15 (.cells #[.int .i64 0, .int .i64 (-1), .int .i64 3, .int .i64 (-1), .int .i64 2, .int .i64 3] 35)) (.cells #[.int .i64 1, .slice (some ⟨w15.heap.size, 0, none⟩) 2 2, .int .i64 (-8), .int .i64 8, .int .i64 (-2), .int .i64 0, .int .i64 0, .int .i64 0] 60)
  have b16_1 := block_at (w := (w15.alloc (.cells #[.int .i64 0, .int .i64 (-1), .int .i64 3, .int .i64 (-1), .int .i64 2, .int .i64 3] 35))) (n := w15.heap.size + 1) (by simp) (.cells #[.int .i64 1, .slice (some ⟨w15.heap.size, 0, none⟩) 2 2, .int .i64 (-8), .int .i64 8, .int .i64 (-2), .int .i64 0, .int .i64 0, .int .i64 0] 60)
  obtain ⟨W16, hW16⟩ : ∃ W, ((w15.alloc (.cells #[.int .i64 0, .int .i64 (-1), .int .i64 3, .int .i64 (-1), .int .i64 2, .int .i64 3] 35)).alloc (.cells #[.int .i64 1, .slice (some ⟨w15.heap.size, 0, none⟩) 2 2, .int .i64 (-8), .int .i64 8, .int .i64 (-2), .int .i64 0, .int .i64 0, .int .i64 0] 60)) = W := ⟨_, rfl⟩
  obtain ⟨B16, hB16⟩ : ∃ B, w15.heap.size = B := ⟨_, rfl⟩
  rw [hW16] at X16 b16_0 b16_1
  rw [hB16] at b16_0 b16_1
  have HZ16 : Hid (w15.heap.size ≤ B16) := Lib.hid (by omega)
  have HW16 := Lib.hid hW16; have HB16 := Lib.hid hB16
  clear hW16 hB16
  have z16 := z15.trans X16
  have ST := Lib.hid fun w' (x : Ext W16 w') => show Sl w' 3 encSt (.slice (some ⟨B16, 0, none⟩) 2 2) exC.steps from Sl.ext (Bk.sl (e := 35) (enc := encSt) (xs := exC.steps) (sz := 3) ⟨_, b16_0, rfl⟩ (fun _ _ => rfl) rfl (by simp [exC])) x
  have CW := Lib.hid fun w' (x : Ext W16 w') => show ChR w' (.slice (some ⟨B16 + 1, 0, none⟩) 1 1) [exC] from
    ⟨[(.slice (some ⟨B16, 0, none⟩) 2 2, exC)], rfl, Sl.ext (Bk.sl (e := 60) (enc := encCk) (xs := [(.slice (some ⟨B16, 0, none⟩) 2 2, exC)]) (sz := 8) ⟨_, b16_1, rfl⟩ (fun _ _ => rfl) rfl (by simp)) x, fun z hz => by rw [List.mem_singleton.1 hz]; exact ST.out w' x⟩
  have c0 := ext_cells (block_cell b16_1 0 _ rfl); have c1 := ext_cells (block_cell b16_1 1 _ rfl); have c2 := ext_cells (block_cell b16_1 2 _ rfl); have c3 := ext_cells (block_cell b16_1 3 _ rfl); have c4 := ext_cells (block_cell b16_1 4 _ rfl); have c5' := ext_cells (block_cell b16_1 5 _ rfl); have c6 := ext_cells (block_cell b16_1 6 _ rfl); have c7' := ext_cells (block_cell b16_1 7 _ rfl)
  have X11 := x11.trans z16
  have HV11' := Lib.hid fun w' (x : Ext W16 w') => HV11.out.ext (z16.trans x)
  have HXX := Lib.hid (X0.trans X11)
  have HS16 := Lib.hid fun w' (x : Ext W16 w') => SH.out w' (X11.trans x)
  have HG16 := Lib.hid fun w' (x : Ext W16 w') => GW.out w' (X11.trans x)
  clear b16_0 b16_1 z13 z14 z15 z16 X16 X11 x11
  go_upto_region 10 with fail
  rw [HW16.out, HB16.out]
  clear HW16 HB16
  apply Z.wp_region_ordZ [(0, .new (fun v => ∃ vn vp vc, v = .agg #[.int .i64 2, vn, vp, vc]) (fun v w' => ∃ vn vp vc, v = .agg #[.int .i64 2, vn, vp, vc] ∧ ScR w' vn vp vc (exP 1000)) (.agg #[.int .i64 2, undef, undef, undef]) ⟨_, _, _, rfl⟩), (1,.det _),(2,.det _),(3,.det _),(4,.det _),
    (5, .fn [0] (fun _ => .tuple #[.bool true, .int .i64 0])),(6,.det _),(7,.det _),(8,.det _),(9,.det _),(10,.det _)] 11 Ext Ext (Ext W16) (fun _ => True) wide
    [(0,true),(1,true),(2,true),(3,true),(4,true),(5,true),(6,true),(7,true),(8,true),(9,true),(10,true)] [(0,[]),(1,[]),(2,[]),(3,[]),(4,[]),(5,[0]),(6,[]),(7,[]),(8,[]),(9,[]),(10,[])] (by kernel_rfl) (by kernel_rfl) rfl rfl (by simp [Z.Kd.new, Z.Kd.det, Z.Kd.one, Z.Kd.fn, Z.kdOf]) (by decide) (fun _ _ h => h) (stable_ext _) (fun _ _ _ _ => trivial) (Ext.drawn _ _) trivial ?main10
  case main10 =>
    apply Z.ordX_new (fun v w1 w2 ⟨vn, vp, vc, e, h1⟩ k => ⟨vn, vp, vc, e, h1.ext k⟩) rfl rfl
    · intro w' hw' _
      refine opR_call rfl (Go.Proofs.enters_of Tryd.func27 (by kernel_rfl) rfl) (by simp only [List.map_toArray, List.map_cons, List.map_nil, Act.eval, Array.getD_eq_getD_getElem?, List.getElem?_toArray, List.getElem?_cons_succ, List.getElem?_cons_zero, Option.getD_some]; rfl) ?_
      refine (example_walk 1000 w').mono ?_
      rintro e w'' ⟨vn, vp, vc, rfl, S, x⟩
      exact ⟨_, rfl, x, ⟨_, _, _, rfl⟩, _, _, _, rfl, S⟩
    · intro v; (simp only [List.getElem_toArray, List.getElem_cons_succ, List.getElem_cons_zero, Act.put, List.setIfInBounds_toArray, List.set_cons_succ, List.set_cons_zero]; rfl)
    rintro _ ⟨vn, vp, vc, rfl⟩
    iterate 4 (apply Z.ordX_det rfl rfl; (intro w' hw'; unfold opR; go_simp; exact ⟨Ext.refl _, rfl⟩); (simp only [List.getElem_toArray, List.getElem_cons_succ, List.getElem_cons_zero, Act.put, List.setIfInBounds_toArray, List.set_cons_succ, List.set_cons_zero]; rfl))
    apply Z.ordX_fn (v := .tuple #[.bool true, .int .i64 0]) rfl rfl
    · intro w' hw' hN
      have h0 := hN 0 (by simp)
      simp only [Z.upd, Nat.reduceEqDiff, if_false, if_true] at h0
      obtain ⟨un, up, uc, he, S⟩ := h0
      obtain ⟨rfl, rfl, rfl⟩ : vn = un ∧ vp = up ∧ vc = uc := by simpa using he
      refine opR_call rfl (Go.Proofs.enters_of Tryd.func22 (by kernel_rfl) rfl) (by simp only [List.map_toArray, List.map_cons, List.map_nil, Act.eval, Array.getD_eq_getD_getElem?, List.getElem?_toArray, List.getElem?_cons_succ, List.getElem?_cons_zero, Option.getD_some]; rfl) ?_
      refine (check_walk vn vp vc _ _ (exP 1000) exH exC w' (HG16.out w' hw') S (HS16.out w' hw') (ST.out w' hw')).mono ?_
      rw [exP_6]
      rintro e w'' ⟨rfl, hx⟩
      exact ⟨_, rfl, hx, rfl⟩
    · rfl
    · (simp only [List.getElem_toArray, List.getElem_cons_succ, List.getElem_cons_zero, Act.put, List.setIfInBounds_toArray, List.set_cons_succ, List.set_cons_zero]; rfl)
    iterate 5 (apply Z.ordX_det rfl rfl; (intro w' hw'; unfold opR; go_simp; exact ⟨Ext.refl _, rfl⟩); (simp only [List.getElem_toArray, List.getElem_cons_succ, List.getElem_cons_zero, Act.put, List.setIfInBounds_toArray, List.set_cons_succ, List.set_cons_zero]; rfl))
    refine Z.ordX_nil (l := []) rfl ?_
    rintro w17 x17 - -
    clear c0 c1 c2 c3 c4 c5' c6 c7'
    go_wp2_with fail
    refine (rchains_walk _ _ [exC] _ (HV11'.out _ x17) (CW.out _ x17)).mono ?_
    rintro e w18 ⟨rfl, x18⟩
    go_wp2
    go_ret
    exact ⟨by first | rfl | simp, HXX.out.trans (x17.trans x18)⟩

set_option maxRecDepth 100000 in
set_option maxHeartbeats 2000000 in
theorem find_walk (v : Value) (l : List Cn) (p : Int) (w : World) (S : ChR w v l) :
    Calls Tryd.prog 20 #[v, .int .i64 p] w fun e w' => e = .returned (.int .i64 (fndC l p)) ∧ Ext w w' := by
  obtain ⟨a?, ca, rfl, h3, SA⟩ := S.at
  have hf : ∀ k (hk : k < l.length), (∀ x ∈ l.take k, decide (x.pair = p) = false) → l[k].pair = p → fndC l p = k := fun k hk h1 h2 => by
    unfold fndC; rw [idx_hit hk (decide_eq_true h2) h1]
  have hn : (∀ x ∈ l.take l.length, decide (x.pair = p) = false) → fndC l p = -1 := fun h1 => by
    unfold fndC; rw [idx_miss h1]
  obtain ⟨r, hr⟩ : ∃ r, fndC l p = r := ⟨_, rfl⟩
  rw [hr] at hf hn ⊢
  have HF := Lib.hid hf; have HN := Lib.hid hn
  clear S hf hn hr
  go_enter Tryd.func20, Tryd.ntmps20
  go_wp2
  go_loopw [5] (fun i wr => ∃ k : Nat, k ≤ l.length ∧ i = .int .i64 k ∧ Hid (∀ x ∈ l.take k, decide (x.pair = p) = false) ∧ Ext w wr) (fun i _ => l.length - (intOf i).toNat)
  case atStart => exact ⟨0, by omega, rfl, Lib.hid (fun x hx => by simp at hx), Ext.refl _⟩
  case round =>
    obtain ⟨k, hk, rfl, HT, hx⟩ := hrel
    by_cases hlt : k < l.length
    · obtain ⟨b0, o0, sv, rfl, c0, -, -, -, -, -, -, -, -⟩ := SA wr hx k hlt
      have ht := List.take_succ_eq_append_getElem hlt
      have HF2 := Lib.hid (HF.out k hlt HT.out)
      obtain ⟨x, hxx⟩ : ∃ x, l[k] = x := ⟨_, rfl⟩
      rw [hxx] at c0 ht
      have HX2 := Lib.hid hxx
      have HTT := Lib.hid ht
      have i1 : (0 : Int) ≤ (k : Int) := by omega
      have i2 : (k : Int) < (l.length : Int) := by omega
      clear SA hxx ht
      by_cases he : x.pair = p
      · have e1 : (x.pair == p) = true := beq_iff_eq.2 he
        have HR := Lib.hid (HF2.out (by rw [HX2.out]; exact he))
        clear he
        go_wp2
        go_ret
        exact ⟨by rw [HR.out] <;> rfl, hx⟩
      · have e1 : (x.pair == p) = false := beq_eq_false_iff_ne.2 he
        have HT2 : Hid (∀ y ∈ l.take (k + 1), decide (y.pair = p) = false) := Lib.hid (fun y hy => by
          rw [HTT.out] at hy
          rcases List.mem_append.1 hy with h | h
          · exact HT.out y h
          · rw [List.mem_singleton.1 h]; exact decide_eq_false he)
        clear he
        go_wp2
        go_roundw
        case rel => exact ⟨k + 1, by omega, by go_num, HT2, hx⟩
        case measure => simp [intOf] <;> omega
    · obtain rfl : k = l.length := by omega
      have HR := Lib.hid (HN.out HT.out)
      clear SA
      go_wp2
      go_ret
      exact ⟨by rw [HR.out] <;> rfl, hx⟩
end Go.Proofs.YtdpegkkbhanjkaaDoor
