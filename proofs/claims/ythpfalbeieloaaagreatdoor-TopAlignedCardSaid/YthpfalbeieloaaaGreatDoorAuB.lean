/-
  Walks of audit: finding, newDifference.
-/
import Derived.Test.YthpfalbeieloaaaGreatDoorAuA
import Derived.Test.YthpfalbeieloaaaGreatDoorLibM
import Derived.Test.YthpfalbeieloaaaGreatDoorLibC
set_option linter.unusedVariables false
namespace Go.Proofs.YthpfalbeieloaaaGreatDoor
open Go.RowKit Go.Sx Go.Sx.Sz Go.Sx.Sc Go.Sx.Au

set_option maxRecDepth 100000 in
set_option maxHeartbeats 2000000 in
theorem finding_walk (d : S2) (hd : dOk d) (i : Int) (p : Pr) (hb : 0 ≤ p.bound ∧ p.bound ≤ 100000000) (w : World) : Calls Tryz.prog 94 #[.agg #[.int .i64 d.lo, .int .i64 d.hi], .int .i64 i, .agg #[.int .i64 p.a, .int .i64 p.b, .int .i64 p.want.a, .int .i64 p.want.b, .int .i64 p.want.c, .int .i64 p.want.d, .int .i64 p.want.e, .int .i64 p.want.f, .int .i64 p.bound]] w fun e w' =>
    e = .returned (.agg #[.int .i64 i, .int .i64 (verdZ d p.bound), .int .i64 (bndZ d p.bound)]) ∧ Ext w w' := by
  have VW := Lib.hid fun w => verdict_walk d hd p.bound (by omega) w
  have FW := Lib.hid fun w => far_walk d hd w
  have AW := Lib.hid fun w => apart_walk d hd w
  have hz : farZ d ≤ 1000000000000000 ∧ -1000000000000000 ≤ farZ d := by unfold dOk at hd; unfold farZ; split <;> omega
  have ha : apartZ d ≤ 1000000000000000 := by unfold dOk at hd; unfold apartZ; repeat' split; all_goals omega
  have hda := @den_apart d p.bound
  have hB : bndZ d p.bound = if verdZ d p.bound = 2 then (apartZ d - 1) / 10000 else ((if 0 ≤ farZ d then farZ d else 0) + 9999) / 10000 := rfl
  obtain ⟨v, hv⟩ : ∃ v, verdZ d p.bound = v := ⟨_, rfl⟩
  obtain ⟨f, hf⟩ : ∃ v, farZ d = v := ⟨_, rfl⟩
  obtain ⟨q, hq⟩ : ∃ v, apartZ d = v := ⟨_, rfl⟩
  obtain ⟨r, hr⟩ : ∃ v, bndZ d p.bound = v := ⟨_, rfl⟩
  rw [hv] at hda hB ⊢
  rw [hf] at hz hB
  rw [hq] at ha hda hB
  rw [hr] at hB ⊢
  have HV := Lib.hid hv; have HF := Lib.hid hf; have HQ := Lib.hid hq; have HB := Lib.hid hB
  clear hv hf hq hr hB hd
  by_cases h2 : v = 2
  · have e2 : (v == 2) = true := by rw [beq_iff_eq]; exact h2
    have h3 := hda h2
    have HR : Hid ((q - 1) / 10000 = r) := Lib.hid (by rw [HB.out, if_pos h2])
    have hq1 : 0 ≤ q - 1 := by omega
    have hq2 : 1 ≤ q := by omega
    clear h2 hda
    go_enter Tryz.func94, Tryz.ntmps94
    go_wp2_with fail
    have XW : Ext w (((w.alloc (.cells (#[.int .i64 d.lo, .int .i64 d.hi] : Array Value) 183)).alloc (.cells #[.int .i64 p.a, .int .i64 p.b, .int .i64 p.want.a, .int .i64 p.want.b, .int .i64 p.want.c, .int .i64 p.want.d, .int .i64 p.want.e, .int .i64 p.want.f, .int .i64 p.bound] 117)).alloc (.cells #[.int .i64 0, .int .i64 0, .int .i64 0] 120)) := (by repeat (first | with_reducible exact Ext.refl _ | with_reducible assumption | with_reducible apply Ext.alloc | with_reducible apply Ext.drew | (with_reducible refine Ext.setCell ?_ (by (try simp) <;> omega) _)))
    have bd := block_alloc (block_alloc (block_new w (.cells (#[.int .i64 d.lo, .int .i64 d.hi] : Array Value) 183)) (.cells #[.int .i64 p.a, .int .i64 p.b, .int .i64 p.want.a, .int .i64 p.want.b, .int .i64 p.want.c, .int .i64 p.want.d, .int .i64 p.want.e, .int .i64 p.want.f, .int .i64 p.bound] 117)) (.cells #[.int .i64 0, .int .i64 0, .int .i64 0] 120)
    have br := block_at (w := (w.alloc (.cells (#[.int .i64 d.lo, .int .i64 d.hi] : Array Value) 183)).alloc (.cells #[.int .i64 p.a, .int .i64 p.b, .int .i64 p.want.a, .int .i64 p.want.b, .int .i64 p.want.c, .int .i64 p.want.d, .int .i64 p.want.e, .int .i64 p.want.f, .int .i64 p.bound] 117)) (n := w.heap.size + 1 + 1) (by simp) (.cells #[.int .i64 0, .int .i64 0, .int .i64 0] 120)
    obtain ⟨W, hW⟩ : ∃ W, ((w.alloc (.cells (#[.int .i64 d.lo, .int .i64 d.hi] : Array Value) 183)).alloc (.cells #[.int .i64 p.a, .int .i64 p.b, .int .i64 p.want.a, .int .i64 p.want.b, .int .i64 p.want.c, .int .i64 p.want.d, .int .i64 p.want.e, .int .i64 p.want.f, .int .i64 p.bound] 117)).alloc (.cells #[.int .i64 0, .int .i64 0, .int .i64 0] 120) = W := ⟨_, rfl⟩
    obtain ⟨B, hB⟩ : ∃ B, w.heap.size = B := ⟨_, rfl⟩
    have HB0 : Hid (w.heap.size ≤ B) := Lib.hid (by omega)
    rw [hW] at bd br XW ⊢
    rw [hB] at bd br ⊢
    clear hW hB
    refine (VW.out _).mono ?_
    rw [HV.out]
    rintro e w1 ⟨rfl, x1⟩
    have HS1 : Hid (w.heap.size ≤ w1.heap.size) := Lib.hid (Nat.le_trans XW.size x1.size)
    have e1 := Ext.alloc' w1 (.cells #[.int .i64 i, .int .i64 v, .int .i64 0] 120)
    have bn := block_new w1 (.cells #[.int .i64 i, .int .i64 v, .int .i64 0] 120)
    have bd1 := block_ext (x1.trans e1) bd
    have br1 := block_ext (x1.trans e1) br
    have c0 := block_cell bd1 0 _ rfl; have c1 := block_cell bd1 1 _ rfl
    have X1 := x1.trans e1
    have HBN := Lib.hid bn; have HBR := Lib.hid br1; have HX1 := Lib.hid X1; have HXW := Lib.hid XW
    have HNE : Hid (B + 1 + 1 ≠ w1.heap.size) := Lib.hid (by have := block_lt (block_ext x1 br); omega)
    clear bd br bn br1 bd1 X1 x1 e1 XW
    go_wp2_with fail
    refine (AW.out _).mono ?_
    rw [HQ.out]
    rintro e w2 ⟨rfl, x2⟩
    have bn2 := block_ext x2 HBN.out
    have br2 := block_ext x2 HBR.out
    have z1 := block_cell bn2 2 _ rfl
    have z2 := block_free bn2 2
    have bn3 := block_set bn2 2 (.int .i64 r)
    have br3 := block_ne br2 2 (.int .i64 r) HNE.out
    have m0 := block_cell bn3 0 _ rfl; have m1 := block_cell bn3 1 _ rfl; have m2 := block_cell bn3 2 _ rfl
    have x3 : Ext w ((w2.setCell ⟨w1.heap.size, 2, none⟩ (.int .i64 r)).setRow (B + 1 + 1) #[.int .i64 i, .int .i64 v, .int .i64 r]) := ((HXW.out.trans (HX1.out.trans x2)).setCell HS1.out _).setRow (by have := HB0.out; omega) _
    have HX3 := Lib.hid x3
    have eq1 := HR.out
    clear c0 c1 bn2 br2 bn3 x3
    go_wp2_with (first | (refine wpList_store_row rfl _ _ _ rfl (B + 1 + 1) _ rfl rfl _ _ br3 (by kernel_rfl) rfl (by simp [Value.oneCell']) ?_) | fail)
    have b4 := setRow_at br3 #[.int .i64 i, .int .i64 v, .int .i64 r]
    have t0 := block_cell b4 0 _ rfl; have t1 := block_cell b4 1 _ rfl; have t2 := block_cell b4 2 _ rfl
    exact bodyPost_ret (v := .agg #[.int .i64 i, .int .i64 v, .int .i64 r]) (by simp [results, Tryz.results94, go_sem, t0, t1, t2]) rfl ⟨rfl, HX3.out⟩
  · have e2 : (v == 2) = false := by rw [beq_eq_false_iff_ne]; exact h2
    rcases Int.lt_trichotomy f 0 with m | m | m
    · obtain rfl : r = 0 := by rw [HB.out, if_neg h2, if_neg (by omega)]; rfl
      have HR : Hid ((0 : Int) = 0) := Lib.hid rfl
      clear h2 hda
      go_enter Tryz.func94, Tryz.ntmps94
      go_wp2_with fail
      have XW : Ext w (((w.alloc (.cells (#[.int .i64 d.lo, .int .i64 d.hi] : Array Value) 183)).alloc (.cells #[.int .i64 p.a, .int .i64 p.b, .int .i64 p.want.a, .int .i64 p.want.b, .int .i64 p.want.c, .int .i64 p.want.d, .int .i64 p.want.e, .int .i64 p.want.f, .int .i64 p.bound] 117)).alloc (.cells #[.int .i64 0, .int .i64 0, .int .i64 0] 120)) := (by repeat (first | with_reducible exact Ext.refl _ | with_reducible assumption | with_reducible apply Ext.alloc | with_reducible apply Ext.drew | (with_reducible refine Ext.setCell ?_ (by (try simp) <;> omega) _)))
      have bd := block_alloc (block_alloc (block_new w (.cells (#[.int .i64 d.lo, .int .i64 d.hi] : Array Value) 183)) (.cells #[.int .i64 p.a, .int .i64 p.b, .int .i64 p.want.a, .int .i64 p.want.b, .int .i64 p.want.c, .int .i64 p.want.d, .int .i64 p.want.e, .int .i64 p.want.f, .int .i64 p.bound] 117)) (.cells #[.int .i64 0, .int .i64 0, .int .i64 0] 120)
      have br := block_at (w := (w.alloc (.cells (#[.int .i64 d.lo, .int .i64 d.hi] : Array Value) 183)).alloc (.cells #[.int .i64 p.a, .int .i64 p.b, .int .i64 p.want.a, .int .i64 p.want.b, .int .i64 p.want.c, .int .i64 p.want.d, .int .i64 p.want.e, .int .i64 p.want.f, .int .i64 p.bound] 117)) (n := w.heap.size + 1 + 1) (by simp) (.cells #[.int .i64 0, .int .i64 0, .int .i64 0] 120)
      obtain ⟨W, hW⟩ : ∃ W, ((w.alloc (.cells (#[.int .i64 d.lo, .int .i64 d.hi] : Array Value) 183)).alloc (.cells #[.int .i64 p.a, .int .i64 p.b, .int .i64 p.want.a, .int .i64 p.want.b, .int .i64 p.want.c, .int .i64 p.want.d, .int .i64 p.want.e, .int .i64 p.want.f, .int .i64 p.bound] 117)).alloc (.cells #[.int .i64 0, .int .i64 0, .int .i64 0] 120) = W := ⟨_, rfl⟩
      obtain ⟨B, hB⟩ : ∃ B, w.heap.size = B := ⟨_, rfl⟩
      have HB0 : Hid (w.heap.size ≤ B) := Lib.hid (by omega)
      rw [hW] at bd br XW ⊢
      rw [hB] at bd br ⊢
      clear hW hB
      refine (VW.out _).mono ?_
      rw [HV.out]
      rintro e w1 ⟨rfl, x1⟩
      have HS1 : Hid (w.heap.size ≤ w1.heap.size) := Lib.hid (Nat.le_trans XW.size x1.size)
      have e1 := Ext.alloc' w1 (.cells #[.int .i64 i, .int .i64 v, .int .i64 0] 120)
      have bn := block_new w1 (.cells #[.int .i64 i, .int .i64 v, .int .i64 0] 120)
      have bd1 := block_ext (x1.trans e1) bd
      have br1 := block_ext (x1.trans e1) br
      have c0 := block_cell bd1 0 _ rfl; have c1 := block_cell bd1 1 _ rfl
      have X1 := x1.trans e1
      have HBN := Lib.hid bn; have HBR := Lib.hid br1; have HX1 := Lib.hid X1; have HXW := Lib.hid XW
      have HNE : Hid (B + 1 + 1 ≠ w1.heap.size) := Lib.hid (by have := block_lt (block_ext x1 br); omega)
      clear bd br bn br1 bd1 X1 x1 e1 XW
      go_wp2_with fail
      refine (FW.out _).mono ?_
      rw [HF.out]
      rintro e w2 ⟨rfl, x2⟩
      have bn2 := block_ext x2 HBN.out
      have br2 := block_ext x2 HBR.out
      have z1 := block_cell bn2 2 _ rfl
      have z2 := block_free bn2 2
      have bn3 := block_set bn2 2 (.int .i64 0)
      have br3 := block_ne br2 2 (.int .i64 0) HNE.out
      have m0 := block_cell bn3 0 _ rfl; have m1 := block_cell bn3 1 _ rfl; have m2 := block_cell bn3 2 _ rfl
      have x3 : Ext w ((w2.setCell ⟨w1.heap.size, 2, none⟩ (.int .i64 0)).setRow (B + 1 + 1) #[.int .i64 i, .int .i64 v, .int .i64 0]) := ((HXW.out.trans (HX1.out.trans x2)).setCell HS1.out _).setRow (by have := HB0.out; omega) _
      have HX3 := Lib.hid x3
      have eq1 := HR.out
      clear c0 c1 bn2 br2 bn3 x3
      go_wp2_with (first | (refine wpList_store_row rfl _ _ _ rfl (B + 1 + 1) _ rfl rfl _ _ br3 (by kernel_rfl) rfl (by simp [Value.oneCell']) ?_) | fail)
      have b4 := setRow_at br3 #[.int .i64 i, .int .i64 v, .int .i64 0]
      have t0 := block_cell b4 0 _ rfl; have t1 := block_cell b4 1 _ rfl; have t2 := block_cell b4 2 _ rfl
      exact bodyPost_ret (v := .agg #[.int .i64 i, .int .i64 v, .int .i64 0]) (by simp [results, Tryz.results94, go_sem, t0, t1, t2]) rfl ⟨rfl, HX3.out⟩
    · subst m
      obtain rfl : r = 0 := by rw [HB.out, if_neg h2, if_pos (by omega)]; rfl
      have HR : Hid ((0 : Int) = 0) := Lib.hid rfl
      clear h2 hda
      go_enter Tryz.func94, Tryz.ntmps94
      go_wp2_with fail
      have XW : Ext w (((w.alloc (.cells (#[.int .i64 d.lo, .int .i64 d.hi] : Array Value) 183)).alloc (.cells #[.int .i64 p.a, .int .i64 p.b, .int .i64 p.want.a, .int .i64 p.want.b, .int .i64 p.want.c, .int .i64 p.want.d, .int .i64 p.want.e, .int .i64 p.want.f, .int .i64 p.bound] 117)).alloc (.cells #[.int .i64 0, .int .i64 0, .int .i64 0] 120)) := (by repeat (first | with_reducible exact Ext.refl _ | with_reducible assumption | with_reducible apply Ext.alloc | with_reducible apply Ext.drew | (with_reducible refine Ext.setCell ?_ (by (try simp) <;> omega) _)))
      have bd := block_alloc (block_alloc (block_new w (.cells (#[.int .i64 d.lo, .int .i64 d.hi] : Array Value) 183)) (.cells #[.int .i64 p.a, .int .i64 p.b, .int .i64 p.want.a, .int .i64 p.want.b, .int .i64 p.want.c, .int .i64 p.want.d, .int .i64 p.want.e, .int .i64 p.want.f, .int .i64 p.bound] 117)) (.cells #[.int .i64 0, .int .i64 0, .int .i64 0] 120)
      have br := block_at (w := (w.alloc (.cells (#[.int .i64 d.lo, .int .i64 d.hi] : Array Value) 183)).alloc (.cells #[.int .i64 p.a, .int .i64 p.b, .int .i64 p.want.a, .int .i64 p.want.b, .int .i64 p.want.c, .int .i64 p.want.d, .int .i64 p.want.e, .int .i64 p.want.f, .int .i64 p.bound] 117)) (n := w.heap.size + 1 + 1) (by simp) (.cells #[.int .i64 0, .int .i64 0, .int .i64 0] 120)
      obtain ⟨W, hW⟩ : ∃ W, ((w.alloc (.cells (#[.int .i64 d.lo, .int .i64 d.hi] : Array Value) 183)).alloc (.cells #[.int .i64 p.a, .int .i64 p.b, .int .i64 p.want.a, .int .i64 p.want.b, .int .i64 p.want.c, .int .i64 p.want.d, .int .i64 p.want.e, .int .i64 p.want.f, .int .i64 p.bound] 117)).alloc (.cells #[.int .i64 0, .int .i64 0, .int .i64 0] 120) = W := ⟨_, rfl⟩
      obtain ⟨B, hB⟩ : ∃ B, w.heap.size = B := ⟨_, rfl⟩
      have HB0 : Hid (w.heap.size ≤ B) := Lib.hid (by omega)
      rw [hW] at bd br XW ⊢
      rw [hB] at bd br ⊢
      clear hW hB
      refine (VW.out _).mono ?_
      rw [HV.out]
      rintro e w1 ⟨rfl, x1⟩
      have HS1 : Hid (w.heap.size ≤ w1.heap.size) := Lib.hid (Nat.le_trans XW.size x1.size)
      have e1 := Ext.alloc' w1 (.cells #[.int .i64 i, .int .i64 v, .int .i64 0] 120)
      have bn := block_new w1 (.cells #[.int .i64 i, .int .i64 v, .int .i64 0] 120)
      have bd1 := block_ext (x1.trans e1) bd
      have br1 := block_ext (x1.trans e1) br
      have c0 := block_cell bd1 0 _ rfl; have c1 := block_cell bd1 1 _ rfl
      have X1 := x1.trans e1
      have HBN := Lib.hid bn; have HBR := Lib.hid br1; have HX1 := Lib.hid X1; have HXW := Lib.hid XW
      have HNE : Hid (B + 1 + 1 ≠ w1.heap.size) := Lib.hid (by have := block_lt (block_ext x1 br); omega)
      clear bd br bn br1 bd1 X1 x1 e1 XW
      go_wp2_with fail
      refine (FW.out _).mono ?_
      rw [HF.out]
      rintro e w2 ⟨rfl, x2⟩
      have bn2 := block_ext x2 HBN.out
      have br2 := block_ext x2 HBR.out
      have z1 := block_cell bn2 2 _ rfl
      have z2 := block_free bn2 2
      have bn3 := block_set bn2 2 (.int .i64 0)
      have br3 := block_ne br2 2 (.int .i64 0) HNE.out
      have m0 := block_cell bn3 0 _ rfl; have m1 := block_cell bn3 1 _ rfl; have m2 := block_cell bn3 2 _ rfl
      have x3 : Ext w ((w2.setCell ⟨w1.heap.size, 2, none⟩ (.int .i64 0)).setRow (B + 1 + 1) #[.int .i64 i, .int .i64 v, .int .i64 0]) := ((HXW.out.trans (HX1.out.trans x2)).setCell HS1.out _).setRow (by have := HB0.out; omega) _
      have HX3 := Lib.hid x3
      have eq1 := HR.out
      clear c0 c1 bn2 br2 bn3 x3
      go_wp2_with (first | (refine wpList_store_row rfl _ _ _ rfl (B + 1 + 1) _ rfl rfl _ _ br3 (by kernel_rfl) rfl (by simp [Value.oneCell']) ?_) | fail)
      have b4 := setRow_at br3 #[.int .i64 i, .int .i64 v, .int .i64 0]
      have t0 := block_cell b4 0 _ rfl; have t1 := block_cell b4 1 _ rfl; have t2 := block_cell b4 2 _ rfl
      exact bodyPost_ret (v := .agg #[.int .i64 i, .int .i64 v, .int .i64 0]) (by simp [results, Tryz.results94, go_sem, t0, t1, t2]) rfl ⟨rfl, HX3.out⟩
    · have HR : Hid ((f + 10000 - 1) / 10000 = r) := Lib.hid (by rw [HB.out, if_neg h2, if_pos (by omega)]; congr 1; omega)
      clear h2 hda
      go_enter Tryz.func94, Tryz.ntmps94
      go_wp2_with fail
      have XW : Ext w (((w.alloc (.cells (#[.int .i64 d.lo, .int .i64 d.hi] : Array Value) 183)).alloc (.cells #[.int .i64 p.a, .int .i64 p.b, .int .i64 p.want.a, .int .i64 p.want.b, .int .i64 p.want.c, .int .i64 p.want.d, .int .i64 p.want.e, .int .i64 p.want.f, .int .i64 p.bound] 117)).alloc (.cells #[.int .i64 0, .int .i64 0, .int .i64 0] 120)) := (by repeat (first | with_reducible exact Ext.refl _ | with_reducible assumption | with_reducible apply Ext.alloc | with_reducible apply Ext.drew | (with_reducible refine Ext.setCell ?_ (by (try simp) <;> omega) _)))
      have bd := block_alloc (block_alloc (block_new w (.cells (#[.int .i64 d.lo, .int .i64 d.hi] : Array Value) 183)) (.cells #[.int .i64 p.a, .int .i64 p.b, .int .i64 p.want.a, .int .i64 p.want.b, .int .i64 p.want.c, .int .i64 p.want.d, .int .i64 p.want.e, .int .i64 p.want.f, .int .i64 p.bound] 117)) (.cells #[.int .i64 0, .int .i64 0, .int .i64 0] 120)
      have br := block_at (w := (w.alloc (.cells (#[.int .i64 d.lo, .int .i64 d.hi] : Array Value) 183)).alloc (.cells #[.int .i64 p.a, .int .i64 p.b, .int .i64 p.want.a, .int .i64 p.want.b, .int .i64 p.want.c, .int .i64 p.want.d, .int .i64 p.want.e, .int .i64 p.want.f, .int .i64 p.bound] 117)) (n := w.heap.size + 1 + 1) (by simp) (.cells #[.int .i64 0, .int .i64 0, .int .i64 0] 120)
      obtain ⟨W, hW⟩ : ∃ W, ((w.alloc (.cells (#[.int .i64 d.lo, .int .i64 d.hi] : Array Value) 183)).alloc (.cells #[.int .i64 p.a, .int .i64 p.b, .int .i64 p.want.a, .int .i64 p.want.b, .int .i64 p.want.c, .int .i64 p.want.d, .int .i64 p.want.e, .int .i64 p.want.f, .int .i64 p.bound] 117)).alloc (.cells #[.int .i64 0, .int .i64 0, .int .i64 0] 120) = W := ⟨_, rfl⟩
      obtain ⟨B, hB⟩ : ∃ B, w.heap.size = B := ⟨_, rfl⟩
      have HB0 : Hid (w.heap.size ≤ B) := Lib.hid (by omega)
      rw [hW] at bd br XW ⊢
      rw [hB] at bd br ⊢
      clear hW hB
      refine (VW.out _).mono ?_
      rw [HV.out]
      rintro e w1 ⟨rfl, x1⟩
      have HS1 : Hid (w.heap.size ≤ w1.heap.size) := Lib.hid (Nat.le_trans XW.size x1.size)
      have e1 := Ext.alloc' w1 (.cells #[.int .i64 i, .int .i64 v, .int .i64 0] 120)
      have bn := block_new w1 (.cells #[.int .i64 i, .int .i64 v, .int .i64 0] 120)
      have bd1 := block_ext (x1.trans e1) bd
      have br1 := block_ext (x1.trans e1) br
      have c0 := block_cell bd1 0 _ rfl; have c1 := block_cell bd1 1 _ rfl
      have X1 := x1.trans e1
      have HBN := Lib.hid bn; have HBR := Lib.hid br1; have HX1 := Lib.hid X1; have HXW := Lib.hid XW
      have HNE : Hid (B + 1 + 1 ≠ w1.heap.size) := Lib.hid (by have := block_lt (block_ext x1 br); omega)
      clear bd br bn br1 bd1 X1 x1 e1 XW
      go_wp2_with fail
      refine (FW.out _).mono ?_
      rw [HF.out]
      rintro e w2 ⟨rfl, x2⟩
      have bn2 := block_ext x2 HBN.out
      have br2 := block_ext x2 HBR.out
      have z1 := block_cell bn2 2 _ rfl
      have z2 := block_free bn2 2
      have bn3 := block_set bn2 2 (.int .i64 r)
      have br3 := block_ne br2 2 (.int .i64 r) HNE.out
      have m0 := block_cell bn3 0 _ rfl; have m1 := block_cell bn3 1 _ rfl; have m2 := block_cell bn3 2 _ rfl
      have x3 : Ext w ((w2.setCell ⟨w1.heap.size, 2, none⟩ (.int .i64 r)).setRow (B + 1 + 1) #[.int .i64 i, .int .i64 v, .int .i64 r]) := ((HXW.out.trans (HX1.out.trans x2)).setCell HS1.out _).setRow (by have := HB0.out; omega) _
      have HX3 := Lib.hid x3
      have eq1 := HR.out
      clear c0 c1 bn2 br2 bn3 x3
      go_wp2_with (first | (refine wpList_store_row rfl _ _ _ rfl (B + 1 + 1) _ rfl rfl _ _ br3 (by kernel_rfl) rfl (by simp [Value.oneCell']) ?_) | fail)
      have b4 := setRow_at br3 #[.int .i64 i, .int .i64 v, .int .i64 r]
      have t0 := block_cell b4 0 _ rfl; have t1 := block_cell b4 1 _ rfl; have t2 := block_cell b4 2 _ rfl
      exact bodyPost_ret (v := .agg #[.int .i64 i, .int .i64 v, .int .i64 r]) (by simp [results, Tryz.results94, go_sem, t0, t1, t2]) rfl ⟨rfl, HX3.out⟩
end Go.Proofs.YthpfalbeieloaaaGreatDoor
