/-
  Walks of audit: newDifference.
-/
import Derived.Test.YthpfalbeieloaaaGreatDoorAuB
import Derived.BigQuiet
import Derived.Deep.RegionHeld3
set_option linter.unusedVariables false
namespace Go.Proofs.YthpfalbeieloaaaGreatDoor
open Go.RowKit Go.Sx Go.Sx.Sz Go.Sx.Sc Go.Sx.Au

def encS (z : S2) : List Value := [.int .i64 z.lo, .int .i64 z.hi]
set_option maxRecDepth 100000 in
theorem Sl.sz {w : World} {a? : Option Addr} {n cap : Nat} {xs : List S2} (h : Sl w 2 encS (.slice a? n cap) xs) (k : Nat) (hk : k < xs.length) : ∃ b o, a? = some ⟨b, o, none⟩ ∧ w.cell? ⟨b, o + k * 2, none⟩ = some (.int .i64 xs[k].lo) ∧ w.cell? ⟨b, o + k * 2 + 1, none⟩ = some (.int .i64 xs[k].hi) := by
  obtain ⟨b, o, e, hc⟩ := h.at (by omega) k hk
  exact ⟨b, o, e, hc 0 (by omega), hc 1 (by omega)⟩
set_option maxRecDepth 100000 in
theorem T_eq {l : List S2} {k : Nat} (h : k < l.length) : T l k = l[k] := by
  unfold T; rw [List.getD_eq_getElem?_getD, List.getElem?_eq_getElem h]; rfl

set_option maxRecDepth 100000 in
set_option maxHeartbeats 4000000 in
theorem newdiff_walk (vt : Value) (l : List S2) (p : Pr) (A C : Nat) (hA : p.a = (A : Int)) (hC : p.b = (C : Int)) (hA' : A < l.length) (hC' : C < l.length) (hz : ∀ z ∈ l, szOk z = true) (hw : within p.want 48 = true) (w : World) (G : Gl 1 w) (S : Sl w 2 encS vt l) :
    Calls Tryz.prog 93 #[.agg #[.int .i64 p.a, .int .i64 p.b, .int .i64 p.want.a, .int .i64 p.want.b, .int .i64 p.want.c, .int .i64 p.want.d, .int .i64 p.want.e, .int .i64 p.want.f, .int .i64 p.bound], vt] w fun e w' =>
      e = .returned (.agg #[.int .i64 (diffS (T l A) (T l C) (wantS p.want)).lo, .int .i64 (diffS (T l A) (T l C) (wantS p.want)).hi]) ∧ Ext w w' := by
  obtain ⟨at', ct, rfl, -, -, hll⟩ := S.len
  have hof := ofR_ok hw
  have hsz := sizeR_ok (times_within hw)
  have hbd := expo_bd (times_within hw)
  have hza := hz _ (List.getElem_mem hA')
  have hzc := hz _ (List.getElem_mem hC')
  rw [← T_eq hA', szOk_iff] at hza
  rw [← T_eq hC', szOk_iff] at hzc
  obtain ⟨⟨alo, ahi⟩, ha⟩ : ∃ z, T l A = z := ⟨_, rfl⟩
  obtain ⟨⟨clo, chi⟩, hc⟩ : ∃ z, T l C = z := ⟨_, rfl⟩
  have hwe : wantS p.want = expo (p.want.times 12) := rfl
  obtain ⟨⟨wlo, whi⟩, hww⟩ : ∃ z, expo (p.want.times 12) = z := ⟨_, rfl⟩
  rw [hww] at hwe hbd hsz
  rw [ha] at hza ⊢
  rw [hc] at hzc ⊢
  rw [hwe]
  dsimp only at hza hzc hbd
  have HOF := Lib.hid hof; have HSZ := Lib.hid hsz
  have HA := Lib.hid ha; have HC := Lib.hid hc
  rw [hA, hC]
  clear hof hsz hww hwe hz ha hc hA hC
  obtain ⟨x, hx⟩ : ∃ x, p.want.times 12 = x := ⟨_, rfl⟩
  rw [hx] at HOF HSZ
  clear hx
  go_enter Tryz.func93, Tryz.ntmps93
  go_wp2_with fail
  have X0 : Ext w ((w.alloc (.cells #[.int .i64 (A : Int), .int .i64 (C : Int), .int .i64 p.want.a, .int .i64 p.want.b, .int .i64 p.want.c, .int .i64 p.want.d, .int .i64 p.want.e, .int .i64 p.want.f, .int .i64 p.bound] 117)).alloc (.cells #[.int .i64 0, .int .i64 0] 183)) := (by repeat (first | with_reducible exact Ext.refl _ | with_reducible assumption | with_reducible apply Ext.alloc | with_reducible apply Ext.drew | (with_reducible refine Ext.setCell ?_ (by (try simp) <;> omega) _)))
  have bp := block_alloc (block_new w (.cells #[.int .i64 (A : Int), .int .i64 (C : Int), .int .i64 p.want.a, .int .i64 p.want.b, .int .i64 p.want.c, .int .i64 p.want.d, .int .i64 p.want.e, .int .i64 p.want.f, .int .i64 p.bound] 117)) (.cells #[.int .i64 0, .int .i64 0] 183)
  have br := block_at (w := w.alloc (.cells #[.int .i64 (A : Int), .int .i64 (C : Int), .int .i64 p.want.a, .int .i64 p.want.b, .int .i64 p.want.c, .int .i64 p.want.d, .int .i64 p.want.e, .int .i64 p.want.f, .int .i64 p.bound] 117)) (n := w.heap.size + 1) (by simp) (.cells #[.int .i64 0, .int .i64 0] 183)
  obtain ⟨W, hW⟩ : ∃ W, (w.alloc (.cells #[.int .i64 (A : Int), .int .i64 (C : Int), .int .i64 p.want.a, .int .i64 p.want.b, .int .i64 p.want.c, .int .i64 p.want.d, .int .i64 p.want.e, .int .i64 p.want.f, .int .i64 p.bound] 117)).alloc (.cells #[.int .i64 0, .int .i64 0] 183) = W := ⟨_, rfl⟩
  obtain ⟨B, hB⟩ : ∃ B, w.heap.size = B := ⟨_, rfl⟩
  have HB0 : Hid (w.heap.size ≤ B) := Lib.hid (by omega)
  rw [hW] at X0 bp br ⊢
  rw [hB] at bp br ⊢
  clear hW hB
  refine (of_walk p.want _).mono ?_
  rw [HOF.out]
  rintro e w1 ⟨rfl, x1⟩
  have e1 := Ext.alloc' w1 (.cells (#[.int .i64 x.a, .int .i64 x.b, .int .i64 x.c, .int .i64 x.d, .int .i64 x.e, .int .i64 x.f] : Array Value) 79)
  have G1 := G.ext (X0.trans (x1.trans e1))
  go_wp2_with fail
  refine (sof_walk x _ G1).mono ?_
  rw [HSZ.out]
  rintro e w2 ⟨rfl, x2⟩
  have e3 := Ext.alloc' w2 (.cells #[.int .i64 wlo, .int .i64 whi] 50)
  have bw := block_new w2 (.cells #[.int .i64 wlo, .int .i64 whi] 50)
  have hDB : B + 1 < w2.heap.size := by have := block_lt br; have h1 := x1.size; have h2 := e1.size; have h3 := x2.size; omega
  obtain ⟨W3, hW3⟩ : ∃ W, w2.alloc (.cells #[.int .i64 wlo, .int .i64 whi] 50) = W := ⟨_, rfl⟩
  obtain ⟨D, hD⟩ : ∃ B, w2.heap.size = B := ⟨_, rfl⟩
  rw [hW3] at e3 bw
  rw [hD] at bw hDB
  have X3 : Ext W W3 := x1.trans (e1.trans (x2.trans e3))
  have HW3 := Lib.hid hW3; have HD := Lib.hid hD; have HDB := Lib.hid hDB
  have bp3 := block_ext X3 bp
  have br3 := block_ext X3 br
  have S3 := S.ext (X0.trans X3)
  have HXX := Lib.hid (X0.trans X3)
  obtain ⟨bb, oo, rfl, a0, a1⟩ := Sl.sz S3 A hA'
  obtain ⟨b2, o2, e', d0, d1⟩ := Sl.sz S3 C hC'
  obtain ⟨rfl, rfl⟩ : bb = b2 ∧ oo = o2 := by simp at e'; exact e'
  rw [← T_eq hA', HA.out] at a0 a1
  rw [← T_eq hC', HC.out] at d0 d1
  dsimp only at a0 a1 d0 d1
  have p0 := block_cell bp3 0 _ rfl; have p1 := block_cell bp3 1 _ rfl
  have q0 := block_cell bw 0 _ rfl; have q1 := block_cell bw 1 _ rfl
  have i1 : (0 : Int) ≤ (A : Int) := by omega
  have i2 : (A : Int) < (l.length : Int) := by omega
  have i3 : (0 : Int) ≤ (C : Int) := by omega
  have i4 : (C : Int) < (l.length : Int) := by omega
  have HBR := Lib.hid br3
  clear e' hW3 hD hDB S3 x1 e1 x2 e3 X3 bp br bp3 br3 bw G1 X0 S hA' hC'
  go_wp2
  rw [HW3.out, HD.out]
  obtain ⟨wo, rfl⟩ : ∃ wo : World, wo = W3 := ⟨_, rfl⟩
  go_region_held3 (fun w' => w'.cell? ⟨B, 0, none⟩ = some (.int .i64 (A : Int)) ∧ w'.cell? ⟨B, 1, none⟩ = some (.int .i64 (C : Int)) ∧ w'.cell? ⟨bb, oo + A * 2, none⟩ = some (.int .i64 alo) ∧ w'.cell? ⟨bb, oo + A * 2 + 1, none⟩ = some (.int .i64 ahi) ∧ w'.cell? ⟨bb, oo + C * 2, none⟩ = some (.int .i64 clo) ∧ w'.cell? ⟨bb, oo + C * 2 + 1, none⟩ = some (.int .i64 chi) ∧ w'.cell? ⟨D, 0, none⟩ = some (.int .i64 wlo) ∧ w'.cell? ⟨D, 1, none⟩ = some (.int .i64 whi)) (go_keep) (fail)
  · have y5 : Ext wo (((wo.alloc (.cells #[.int .i64 alo, .int .i64 ahi] 50)).alloc (.cells #[.int .i64 clo, .int .i64 chi] 50)).drew) := Ext.drew ((Ext.alloc' wo _).alloc _)
    have b5 : (((wo.alloc (.cells #[.int .i64 alo, .int .i64 ahi] 50)).alloc (.cells #[.int .i64 clo, .int .i64 chi] 50)).drew).heap[wo.heap.size]? = _ := block_alloc (block_new wo (.cells #[.int .i64 alo, .int .i64 ahi] 50)) (.cells #[.int .i64 clo, .int .i64 chi] 50)
    have b6 : (((wo.alloc (.cells #[.int .i64 alo, .int .i64 ahi] 50)).alloc (.cells #[.int .i64 clo, .int .i64 chi] 50)).drew).heap[wo.heap.size + 1]? = _ := block_at (w := wo.alloc (.cells #[.int .i64 alo, .int .i64 ahi] 50)) (n := wo.heap.size + 1) (by simp) (.cells #[.int .i64 clo, .int .i64 chi] 50)
    have m0 := block_cell b5 0 _ rfl; have m1 := block_cell b5 1 _ rfl
    have n0 := block_cell b6 0 _ rfl; have n1 := block_cell b6 1 _ rfl
    have k0 := y5.cell q0; have k1 := y5.cell q1
    have br5 := block_ext y5 HBR.out
    have b7 := setRow_at br5 #[.int .i64 (clo - ahi - whi), .int .i64 (chi - alo - wlo)]
    have t0 := block_cell b7 0 _ rfl; have t1 := block_cell b7 1 _ rfl
    have x7 := (HXX.out.trans y5).setRow (g := B + 1) (by have := HB0.out; omega) #[.int .i64 (clo - ahi - whi), .int .i64 (chi - alo - wlo)]
    have HX7 := Lib.hid x7
    clear a0 a1 d0 d1 p0 p1 q0 q1 b5 b6 b7 x7 y5
    go_wp2_with (first | (refine wpList_store_row rfl _ _ _ rfl (B + 1) _ rfl rfl _ _ br5 (by kernel_rfl) rfl (by simp [Value.oneCell']) ?_) | fail)
    exact bodyPost_ret (v := .agg #[.int .i64 (clo - ahi - whi), .int .i64 (chi - alo - wlo)]) (by simp [results, Tryz.results93, go_sem, t0, t1]) rfl ⟨rfl, HX7.out⟩
  · have y5 : Ext wo (((wo.alloc (.cells #[.int .i64 clo, .int .i64 chi] 50)).alloc (.cells #[.int .i64 alo, .int .i64 ahi] 50)).drew) := Ext.drew ((Ext.alloc' wo _).alloc _)
    have b5 : (((wo.alloc (.cells #[.int .i64 clo, .int .i64 chi] 50)).alloc (.cells #[.int .i64 alo, .int .i64 ahi] 50)).drew).heap[wo.heap.size]? = _ := block_alloc (block_new wo (.cells #[.int .i64 clo, .int .i64 chi] 50)) (.cells #[.int .i64 alo, .int .i64 ahi] 50)
    have b6 : (((wo.alloc (.cells #[.int .i64 clo, .int .i64 chi] 50)).alloc (.cells #[.int .i64 alo, .int .i64 ahi] 50)).drew).heap[wo.heap.size + 1]? = _ := block_at (w := wo.alloc (.cells #[.int .i64 clo, .int .i64 chi] 50)) (n := wo.heap.size + 1) (by simp) (.cells #[.int .i64 alo, .int .i64 ahi] 50)
    have m0 := block_cell b5 0 _ rfl; have m1 := block_cell b5 1 _ rfl
    have n0 := block_cell b6 0 _ rfl; have n1 := block_cell b6 1 _ rfl
    have k0 := y5.cell q0; have k1 := y5.cell q1
    have br5 := block_ext y5 HBR.out
    have b7 := setRow_at br5 #[.int .i64 (clo - ahi - whi), .int .i64 (chi - alo - wlo)]
    have t0 := block_cell b7 0 _ rfl; have t1 := block_cell b7 1 _ rfl
    have x7 := (HXX.out.trans y5).setRow (g := B + 1) (by have := HB0.out; omega) #[.int .i64 (clo - ahi - whi), .int .i64 (chi - alo - wlo)]
    have HX7 := Lib.hid x7
    clear a0 a1 d0 d1 p0 p1 q0 q1 b5 b6 b7 x7 y5
    go_wp2_with (first | (refine wpList_store_row rfl _ _ _ rfl (B + 1) _ rfl rfl _ _ br5 (by kernel_rfl) rfl (by simp [Value.oneCell']) ?_) | fail)
    exact bodyPost_ret (v := .agg #[.int .i64 (clo - ahi - whi), .int .i64 (chi - alo - wlo)]) (by simp [results, Tryz.results93, go_sem, t0, t1]) rfl ⟨rfl, HX7.out⟩
end Go.Proofs.YthpfalbeieloaaaGreatDoor
