/-
  Walks: schismaref39.finding, Difference.
-/
import Derived.Test.YtbemjekkojgbpaaGreatDoorAuC
import Derived.Test.YtbemjekkojgbpaaGreatDoorLibR
import Derived.Deep.DeepCutAuto
set_option linter.unusedVariables false
namespace Go.Proofs.YtbemjekkojgbpaaGreatDoor
open Go.RowKit Go.Sx Go.Sx.Sz Go.Sx.Sc Go.Sx.Au

set_option maxRecDepth 100000 in
/-- The greatest of -lo, hi and 0. -/
theorem far_max (d : S2) (h : d.lo ≤ d.hi) : (if 0 ≤ farZ d then farZ d else 0) = farZ d := by unfold farZ; split <;> split <;> omega
set_option maxRecDepth 100000 in
theorem findZ_open (i : Int) {d : S2} {b : Int} (hb : 0 ≤ b) (h : d.lo ≤ d.hi) (h1 : ¬ (-(b * 10000) ≤ d.lo ∧ d.hi ≤ b * 10000)) (h2 : ¬ b * 10000 < d.lo) (h3 : ¬ d.hi < -(b * 10000)) : findZ i d b = ⟨i, 3, (farZ d + 9999) / 10000⟩ := by
  have hv : verdZ d b = 3 := by
    rcases @verd_cases d b with h | h' | h
    · have := shown_iff.1 h; omega
    · have := (denied_iff hb h).1 h'; omega
    · exact h
  unfold findZ bndZ
  rw [hv, if_neg (by omega), far_max d h]
set_option maxRecDepth 100000 in
theorem findZ_shown (i : Int) {d : S2} {b : Int} (h : d.lo ≤ d.hi) (h1 : -(b * 10000) ≤ d.lo ∧ d.hi ≤ b * 10000) : findZ i d b = ⟨i, 1, (farZ d + 9999) / 10000⟩ := by
  have hv : verdZ d b = 1 := shown_iff.2 ⟨h1.2, h1.1⟩
  unfold findZ bndZ
  rw [hv, if_neg (by omega), far_max d h]
set_option maxRecDepth 100000 in
theorem findZ_above (i : Int) {d : S2} {b : Int} (hb : 0 ≤ b) (h : d.lo ≤ d.hi) (h1 : b * 10000 < d.lo) : findZ i d b = ⟨i, 2, (d.lo - 1) / 10000⟩ := by
  have hv : verdZ d b = 2 := (denied_iff hb h).2 (.inl h1)
  unfold findZ bndZ
  rw [hv, if_pos rfl]
  have : apartZ d = d.lo := by unfold apartZ; rw [if_pos (by omega)]
  rw [this]
set_option maxRecDepth 100000 in
theorem findZ_below (i : Int) {d : S2} {b : Int} (hb : 0 ≤ b) (h : d.lo ≤ d.hi) (h1 : d.hi < -(b * 10000)) : findZ i d b = ⟨i, 2, (-d.hi - 1) / 10000⟩ := by
  have hv : verdZ d b = 2 := (denied_iff hb h).2 (.inr (by omega))
  unfold findZ bndZ
  rw [hv, if_pos rfl]
  have : apartZ d = -d.hi := by unfold apartZ; rw [if_neg (by omega), if_pos (by omega)]
  rw [this]

set_option maxRecDepth 100000 in
set_option maxHeartbeats 4000000 in
theorem rfinding_walk (d : S2) (hd : dOk d) (hlh : d.lo ≤ d.hi) (i b : Int) (hb : 0 ≤ b ∧ b ≤ 100000000) (w : World) : Calls Tryz.prog 38 #[.int .i64 i, .agg #[.int .i64 d.lo, .int .i64 d.hi], .int .i64 b] w fun e w' =>
    e = .returned (.agg #[.int .i64 (findZ i d b).i, .int .i64 (findZ i d b).verdict, .int .i64 (findZ i d b).bound]) ∧ Ext w w' := by
  obtain ⟨l, u⟩ := d
  unfold dOk at hd
  dsimp only at hd hlh
  obtain ⟨⟨d1, d2⟩, d3, d4⟩ := hd
  obtain ⟨b1, b2⟩ := hb
  have HO := Lib.hid fun h1 h2 h3 => findZ_open (d := ⟨l, u⟩) i b1 hlh h1 h2 h3
  have HS := Lib.hid fun h1 => findZ_shown (d := ⟨l, u⟩) (b := b) i hlh h1
  have HA := Lib.hid fun h1 => findZ_above (d := ⟨l, u⟩) i b1 hlh h1
  have HBE := Lib.hid fun h1 => findZ_below (d := ⟨l, u⟩) i b1 hlh h1
  dsimp only at HO HS HA HBE
  obtain ⟨f, hf⟩ : ∃ f, farZ ⟨l, u⟩ = f := ⟨_, rfl⟩
  have hfr : f = if -l ≤ u then u else -l := hf.symm
  rw [hf] at HO HS
  obtain ⟨q, hq⟩ : ∃ q, (f + 9999) / 10000 = q := ⟨_, rfl⟩
  rw [hq] at HO HS
  have HF := Lib.hid hfr; have HQ := Lib.hid hq
  clear hf hfr hq
  have hm0 : 0 ≤ b * 10000 ∧ b * 10000 ≤ 1000000000000 := by omega
  have X0 : Ext w ((w.alloc (.cells #[.int .i64 l, .int .i64 u] 47)).alloc (.cells #[.int .i64 0, .int .i64 0, .int .i64 0] 73)) := (by repeat (first | with_reducible exact Ext.refl _ | with_reducible assumption | with_reducible apply Ext.alloc | with_reducible apply Ext.drew | (with_reducible refine Ext.setCell ?_ (by (try simp) <;> omega) _)))
  have b0_0 := block_alloc (block_new w (.cells #[.int .i64 l, .int .i64 u] 47)) (.cells #[.int .i64 0, .int .i64 0, .int .i64 0] 73)
  have b0_1 := block_at (w := (w.alloc (.cells #[.int .i64 l, .int .i64 u] 47))) (n := w.heap.size + 1) (by simp) (.cells #[.int .i64 0, .int .i64 0, .int .i64 0] 73)
  obtain ⟨W0, hW0⟩ : ∃ W, ((w.alloc (.cells #[.int .i64 l, .int .i64 u] 47)).alloc (.cells #[.int .i64 0, .int .i64 0, .int .i64 0] 73)) = W := ⟨_, rfl⟩
  obtain ⟨B0, hB0⟩ : ∃ B, w.heap.size = B := ⟨_, rfl⟩
  rw [hW0] at X0 b0_0 b0_1
  rw [hB0] at b0_0 b0_1
  have HZ0 : Hid (w.heap.size ≤ B0) := Lib.hid (by omega)
  have HW0 := Lib.hid hW0; have HB0 := Lib.hid hB0
  clear hW0 hB0
  go_enter Tryz.func38, Tryz.ntmps38
  go_upto_region 2 with fail
  rw [HW0.out, HB0.out]
  obtain ⟨m, hm⟩ : ∃ m, b * 10000 = m := ⟨_, rfl⟩
  rw [hm] at hm0 HO HS HA HBE ⊢
  have c0 := block_cell b0_0 0 _ rfl; have c1 := block_cell b0_0 1 _ rfl
  clear hm HW0 HB0
  go_cut [8] (fun s8 wx => s8 = .int .i64 q ∧ wx = W0)
  case first =>
    rcases Int.lt_trichotomy (-l) u with n | n | n
    all_goals rcases Int.lt_trichotomy u 0 with k | k | k
    all_goals (try (exfalso; omega))
    all_goals (try subst k)
    all_goals
      go_wp2
      go_meet
      refine ⟨congrArg (Value.int .i64) ?_, rfl⟩
      rw [← HQ.out, HF.out]
      (repeat' split) <;> omega
  case rest =>
    obtain ⟨rfl, rfl⟩ := hcut
    have t0 := fun (u v r : Int) => block_cell (setRow_at b0_1 #[.int .i64 u, .int .i64 v, .int .i64 r]) 0 _ rfl
    have t1 := fun (u v r : Int) => block_cell (setRow_at b0_1 #[.int .i64 u, .int .i64 v, .int .i64 r]) 1 _ rfl
    have t2 := fun (u v r : Int) => block_cell (setRow_at b0_1 #[.int .i64 u, .int .i64 v, .int .i64 r]) 2 _ rfl
    have HT0 := Lib.hid t0; have HT1 := Lib.hid t1; have HT2 := Lib.hid t2
    have HX := Lib.hid fun cs => X0.setRow (g := B0 + 1) (by have := HZ0.out; omega) cs
    clear t0 t1 t2 HF HQ X0
    have HR : Hid (findZ i ⟨l, u⟩ b = if -m ≤ l ∧ u ≤ m then ⟨i, 1, q⟩ else if m < l then ⟨i, 2, (l - 1) / 10000⟩ else if u < -m then ⟨i, 2, (-u - 1) / 10000⟩ else ⟨i, 3, q⟩) := Lib.hid (by
      split
      · next h1 => exact HS.out h1
      · next h1 =>
        split
        · next h2 => exact HA.out h2
        · next h2 =>
          split
          · next h3 => exact HBE.out h3
          · next h3 => exact HO.out h1 h2 h3)
    clear HO HS HA HBE
    by_cases g1 : -m ≤ l
    all_goals by_cases g2 : u ≤ m
    all_goals by_cases g3 : m < l
    all_goals (try (exfalso; omega))
    all_goals by_cases g4 : u < -m
    all_goals (try (exfalso; omega))
    all_goals
      go_wp2_with (first | (refine wpList_store_row rfl _ _ _ rfl (B0 + 1) _ rfl rfl _ _ (b0_1) (by kernel_rfl) rfl (by simp [Value.oneCell']) ?_) | fail)
      have t0 := HT0.out
      have t1 := HT1.out
      have t2 := HT2.out
      refine bodyPost_ret (by simp [results, Tryz.results38, go_sem, t0, t1, t2]; rfl) rfl ⟨?_, HX.out _⟩
      rw [HR.out]
      (repeat' split) <;> first | rfl | omega

set_option maxRecDepth 100000 in
set_option maxHeartbeats 4000000 in
theorem rdiff_walk (a b : S2) (v : V6) (ha : szOk a = true) (hb : szOk b = true) (hw : within v 48 = true) (w : World) : Calls Tryz.prog 39 #[.agg #[.int .i64 a.lo, .int .i64 a.hi], .agg #[.int .i64 b.lo, .int .i64 b.hi], .agg #[.int .i64 v.a, .int .i64 v.b, .int .i64 v.c, .int .i64 v.d, .int .i64 v.e, .int .i64 v.f]] w fun e w' =>
    e = .returned (.agg #[.int .i64 (diffS a b (wantS v)).lo, .int .i64 (diffS a b (wantS v)).hi]) ∧ Ext w w' := by
  have hbd := expo_bd (times_within hw)
  rw [szOk_iff] at ha hb
  obtain ⟨al, ah⟩ := a
  obtain ⟨bl, bh⟩ := b
  have HOF := Lib.hid (ofR_ok hw)
  have HSZ := Lib.hid (sizeR_ok (times_within hw))
  have HWE : Hid (wantS v = expo (v.times 12)) := Lib.hid rfl
  obtain ⟨x, hx⟩ : ∃ x, v.times 12 = x := ⟨_, rfl⟩
  rw [hx] at HOF HSZ HWE hbd
  obtain ⟨⟨wl, wh⟩, hww⟩ : ∃ z, expo x = z := ⟨_, rfl⟩
  rw [hww] at HSZ HWE hbd
  dsimp only at ha hb hbd
  rw [HWE.out]
  clear hx hww HWE hw
  have X0 : Ext w ((((w.alloc (.cells #[.int .i64 al, .int .i64 ah] 47)).alloc (.cells #[.int .i64 bl, .int .i64 bh] 47)).alloc (.cells (#[.int .i64 v.a, .int .i64 v.b, .int .i64 v.c, .int .i64 v.d, .int .i64 v.e, .int .i64 v.f] : Array Value) 45)).alloc (.cells #[.int .i64 0, .int .i64 0] 47)) := (by repeat (first | with_reducible exact Ext.refl _ | with_reducible assumption | with_reducible apply Ext.alloc | with_reducible apply Ext.drew | (with_reducible refine Ext.setCell ?_ (by (try simp) <;> omega) _)))
  have b0_0 := block_alloc (block_alloc (block_alloc (block_new w (.cells #[.int .i64 al, .int .i64 ah] 47)) (.cells #[.int .i64 bl, .int .i64 bh] 47)) (.cells (#[.int .i64 v.a, .int .i64 v.b, .int .i64 v.c, .int .i64 v.d, .int .i64 v.e, .int .i64 v.f] : Array Value) 45)) (.cells #[.int .i64 0, .int .i64 0] 47)
  have b0_1 := block_alloc (block_alloc (block_at (w := (w.alloc (.cells #[.int .i64 al, .int .i64 ah] 47))) (n := w.heap.size + 1) (by simp) (.cells #[.int .i64 bl, .int .i64 bh] 47)) (.cells (#[.int .i64 v.a, .int .i64 v.b, .int .i64 v.c, .int .i64 v.d, .int .i64 v.e, .int .i64 v.f] : Array Value) 45)) (.cells #[.int .i64 0, .int .i64 0] 47)
  have b0_2 := block_alloc (block_at (w := ((w.alloc (.cells #[.int .i64 al, .int .i64 ah] 47)).alloc (.cells #[.int .i64 bl, .int .i64 bh] 47))) (n := w.heap.size + 1 + 1) (by simp) (.cells (#[.int .i64 v.a, .int .i64 v.b, .int .i64 v.c, .int .i64 v.d, .int .i64 v.e, .int .i64 v.f] : Array Value) 45)) (.cells #[.int .i64 0, .int .i64 0] 47)
  have b0_3 := block_at (w := (((w.alloc (.cells #[.int .i64 al, .int .i64 ah] 47)).alloc (.cells #[.int .i64 bl, .int .i64 bh] 47)).alloc (.cells (#[.int .i64 v.a, .int .i64 v.b, .int .i64 v.c, .int .i64 v.d, .int .i64 v.e, .int .i64 v.f] : Array Value) 45))) (n := w.heap.size + 1 + 1 + 1) (by simp) (.cells #[.int .i64 0, .int .i64 0] 47)
  obtain ⟨W0, hW0⟩ : ∃ W, ((((w.alloc (.cells #[.int .i64 al, .int .i64 ah] 47)).alloc (.cells #[.int .i64 bl, .int .i64 bh] 47)).alloc (.cells (#[.int .i64 v.a, .int .i64 v.b, .int .i64 v.c, .int .i64 v.d, .int .i64 v.e, .int .i64 v.f] : Array Value) 45)).alloc (.cells #[.int .i64 0, .int .i64 0] 47)) = W := ⟨_, rfl⟩
  obtain ⟨B0, hB0⟩ : ∃ B, w.heap.size = B := ⟨_, rfl⟩
  rw [hW0] at X0 b0_0 b0_1 b0_2 b0_3
  rw [hB0] at b0_0 b0_1 b0_2 b0_3
  have HZ0 : Hid (w.heap.size ≤ B0) := Lib.hid (by omega)
  have HW0 := Lib.hid hW0; have HB0 := Lib.hid hB0
  clear hW0 hB0
  go_enter Tryz.func39, Tryz.ntmps39
  go_wp2_with fail
  rw [HW0.out, HB0.out]
  clear HW0 HB0
  refine (rof_walk v _).mono ?_
  rw [HOF.out]
  rintro e w1 ⟨rfl, x1⟩
  have e1 := Ext.alloc' w1 (.cells (#[.int .i64 x.a, .int .i64 x.b, .int .i64 x.c, .int .i64 x.d, .int .i64 x.e, .int .i64 x.f] : Array Value) 79)
  go_wp2_with fail
  refine (rsof_walk x _).mono ?_
  rw [HSZ.out]
  rintro e w2 ⟨rfl, x2⟩
  have e3 := Ext.alloc' w2 (.cells #[.int .i64 wl, .int .i64 wh] 47)
  have X3 := x1.trans (e1.trans (x2.trans e3))
  have y0 := block_ext X3 b0_0; have y1 := block_ext X3 b0_1; have y3 := block_ext X3 b0_3
  have c0 := block_cell y0 0 _ rfl; have c1 := block_cell y0 1 _ rfl
  have d0 := block_cell y1 0 _ rfl; have d1 := block_cell y1 1 _ rfl
  have b7 := setRow_at y3 #[.int .i64 (bl - ah - wh), .int .i64 (bh - al - wl)]
  have t0 := block_cell b7 0 _ rfl; have t1 := block_cell b7 1 _ rfl
  have HX7 := Lib.hid ((X0.trans X3).setRow (g := B0 + 1 + 1 + 1) (by have := HZ0.out; omega) #[.int .i64 (bl - ah - wh), .int .i64 (bh - al - wl)])
  clear x1 e1 x2 e3 X3 b0_0 b0_1 b0_2 b0_3 b7 y0 y1 X0
  go_wp2_with (first | (refine wpList_store_row rfl _ _ _ rfl (B0 + 1 + 1 + 1) _ rfl rfl _ _ (y3) (by kernel_rfl) rfl (by simp [Value.oneCell']) ?_) | fail)
  exact bodyPost_ret (v := .agg #[.int .i64 (bl - ah - wh), .int .i64 (bh - al - wl)]) (by simp [results, Tryz.results39, go_sem, t0, t1]) rfl ⟨rfl, HX7.out⟩
end Go.Proofs.YtbemjekkojgbpaaGreatDoor
