/-
  Walks of sing: needed.
-/
import Derived.Test.YtigigcbondhmmaaDoorSgC
import Derived.Test.YtigigcbondhmmaaDoorSzG
set_option linter.unusedVariables false
namespace Go.Proofs.YtigigcbondhmmaaDoor
open Go.RowKit Go.Sx Go.Sx.Sz Go.Sx.Sc Go.Sx.Sg Go.Sx.Au

theorem retZ_eq {x y : Int} (h : x = y) : Ending.returned (.int .i64 x) = .returned (.int .i64 y) := by rw [h]
theorem X_within {xs : List V6} {n : Nat} (hn : n < xs.length) (hw : ∀ x ∈ xs, within x 48 = true) : within (X xs n) 48 = true := by
  rw [X_eq hn]; exact hw _ (List.getElem_mem hn)
theorem zero_within : within V6.zero 48 = true := by decide
theorem atX_within {xs : List V6} {i : Int} (hi : i = -1 ∨ (0 ≤ i ∧ i < xs.length)) (hw : ∀ x ∈ xs, within x 48 = true) : within (atX xs i) 48 = true := by
  unfold atX
  split
  · exact zero_within
  · exact X_within (by omega) hw
theorem gap_bd {a b : V6} (ha : within a 576 = true) (hb : within b 576 = true) : (-100000000000000 ≤ (expo (a.sub b)).lo ∧ (expo (a.sub b)).hi ≤ 100000000000000) ∧ (expo (a.sub b)).lo ≤ (expo (a.sub b)).hi := by
  have := expo_bd (sub_within ha hb)
  omega

set_option maxRecDepth 100000 in
set_option maxHeartbeats 4000000 in
theorem needed_walk (v0 vn vp vc vx : Value) (hv : ∃ a n c, vn = .slice a n c) (xs : List V6) (hw : ∀ x ∈ xs, within x 48 = true) (n : Nat) (hn : n < xs.length) (i : Int) (hi : i = -1 ∨ (0 ≤ i ∧ i < xs.length)) (w : World) (G : Gl 0 w) (R : Sl w 6 V6.list vx xs) :
    Calls Tryd.prog 35 #[.agg #[v0, vn, vp, vc, vx], .int .i64 n, .int .i64 i] w fun e w' => e = .returned (.int .i64 (needF xs n i)) ∧ Ext w w' := by
  obtain ⟨an, nn, cn, rfl⟩ := hv
  obtain ⟨ax, cx, rfl, -, -, hlx⟩ := R.len
  have hwy := X_within hn hw
  have hwx := atX_within hi hw
  have hRx : i ≠ -1 → atX xs i = X xs i.toNat := fun h => by unfold atX; rw [if_neg h]
  have hR0 : i = -1 → atX xs i = V6.zero := fun h => by unfold atX; rw [if_pos h]
  have hneed : needF xs n i = (farZ (expo (((X xs n).times 12).sub ((atX xs i).times 12))) + 9999) / 10000 := rfl
  have hXY := X_eq hn
  obtain ⟨y, hy⟩ : ∃ y, X xs n = y := ⟨_, rfl⟩
  obtain ⟨x, hx⟩ : ∃ x, atX xs i = x := ⟨_, rfl⟩
  rw [hy] at hwy hneed hXY; rw [hx] at hwx hneed hRx hR0
  have HO1 := Lib.hid (ofR_ok hwy); have HO2 := Lib.hid (ofR_ok hwx)
  have hwy' := times_within hwy; have hwx' := times_within hwx
  obtain ⟨p, hp⟩ : ∃ p, y.times 12 = p := ⟨_, rfl⟩
  obtain ⟨q, hq⟩ : ∃ q, x.times 12 = q := ⟨_, rfl⟩
  rw [hp] at hwy' hneed HO1; rw [hq] at hwx' hneed HO2
  have GW := Lib.hid fun w' (e : Ext w w') => gap_walk p q hwy' hwx' w' (G.ext e)
  obtain ⟨bd1, bd2⟩ := gap_bd hwy' hwx'
  obtain ⟨⟨zl, zh⟩, hz⟩ : ∃ z, expo (p.sub q) = z := ⟨_, rfl⟩
  rw [hz] at GW hneed bd1 bd2
  have HN := Lib.hid hneed; have HXY := Lib.hid hXY; have HRX := Lib.hid hRx; have HR0 := Lib.hid hR0
  clear hneed hXY hRx hR0 hy hx hwy hwx hp hq hwy' hwx' hz hw G
  have X0 : Ext w ((w.alloc (.cells #[v0, .slice an nn cn, vp, vc, .slice ax xs.length cx] 58)).alloc (.cells #[.int .i64 0, .int .i64 0, .int .i64 0, .int .i64 0, .int .i64 0, .int .i64 0] 41)) := (by repeat (first | with_reducible exact Ext.refl _ | with_reducible assumption | with_reducible apply Ext.alloc | with_reducible apply Ext.drew | (with_reducible refine Ext.setCell ?_ (by (try simp) <;> omega) _)))
  have b0_0 := block_alloc (block_new w (.cells #[v0, .slice an nn cn, vp, vc, .slice ax xs.length cx] 58)) (.cells #[.int .i64 0, .int .i64 0, .int .i64 0, .int .i64 0, .int .i64 0, .int .i64 0] 41)
  have b0_1 := block_at (w := (w.alloc (.cells #[v0, .slice an nn cn, vp, vc, .slice ax xs.length cx] 58))) (n := w.heap.size + 1) (by simp) (.cells #[.int .i64 0, .int .i64 0, .int .i64 0, .int .i64 0, .int .i64 0, .int .i64 0] 41)
  obtain ⟨W0, hW0⟩ : ∃ W, ((w.alloc (.cells #[v0, .slice an nn cn, vp, vc, .slice ax xs.length cx] 58)).alloc (.cells #[.int .i64 0, .int .i64 0, .int .i64 0, .int .i64 0, .int .i64 0, .int .i64 0] 41)) = W := ⟨_, rfl⟩
  obtain ⟨B0, hB0⟩ : ∃ B, w.heap.size = B := ⟨_, rfl⟩
  rw [hW0] at X0 b0_0 b0_1
  rw [hB0] at b0_0 b0_1
  have HZ0 : Hid (w.heap.size ≤ B0) := Lib.hid (by omega)
  have HW0 := Lib.hid hW0; have HB0 := Lib.hid hB0
  clear hW0 hB0
  have S0 := R.ext X0
  have j1 : (0 : Int) ≤ (n : Int) := by omega
  have j2 : (n : Int) < (xs.length : Int) := by omega
  go_enter Tryd.func35, Tryd.ntmps35
  go_upto_if 15 with fail
  rw [HW0.out, HB0.out]
  go_cut [] (fun wx => wx.heap[B0 + 1]? = some (.cells (#[.int .i64 x.a, .int .i64 x.b, .int .i64 x.c, .int .i64 x.d, .int .i64 x.e, .int .i64 x.f] : Array Value) 41 (0, 0)) ∧ wx.heap[B0]? = some (.cells #[v0, .slice an nn cn, vp, vc, .slice ax xs.length cx] 58 (0, 0)) ∧ Ext w wx)
  case first =>
    clear HW0 HB0
    by_cases hi1 : i = -1
    · have e1 : (i != -1) = false := by rw [bne_eq_false_iff_eq]; exact hi1
      obtain rfl := HR0.out hi1
      clear hi hi1
      go_wp2
      go_meet
      exact ⟨b0_1, b0_0, X0⟩
    · have e1 : (i != -1) = true := by rw [bne_iff_ne]; exact hi1
      have hxi := HRX.out hi1
      obtain ⟨k, rfl⟩ : ∃ k : Nat, i = (k : Int) := ⟨i.toNat, by omega⟩
      have hk : k < xs.length := by omega
      obtain ⟨b, o, rfl, a0, a1, a2, a3, a4, a5⟩ := Sl.vec S0 k hk
      rw [Int.toNat_natCast, X_eq hk] at hxi
      rw [← hxi] at a0 a1 a2 a3 a4 a5
      have q0 := block_cell b0_0 4 _ rfl
      have i1 : (0 : Int) ≤ (k : Int) := by omega
      have i2 : (k : Int) < (xs.length : Int) := by omega
      have n1 := setRow_at b0_1 (#[.int .i64 x.a, .int .i64 x.b, .int .i64 x.c, .int .i64 x.d, .int .i64 x.e, .int .i64 x.f] : Array Value)
      have n0 := setRow_ne b0_0 (g := B0 + 1) (by omega) (#[.int .i64 x.a, .int .i64 x.b, .int .i64 x.c, .int .i64 x.d, .int .i64 x.e, .int .i64 x.f] : Array Value)
      have N := Lib.hid (And.intro n1 (And.intro n0 (X0.setRow (g := B0 + 1) (by have := HZ0.out; omega) (#[.int .i64 x.a, .int .i64 x.b, .int .i64 x.c, .int .i64 x.d, .int .i64 x.e, .int .i64 x.f] : Array Value))))
      have HB := Lib.hid b0_1
      clear hi hi1 hxi n1 n0 b0_0 b0_1
      go_wp2_with (first | (refine wpList_store_row rfl _ _ _ rfl (B0 + 1) _ rfl rfl _ _ HB.out (by kernel_rfl) rfl (by simp [Value.oneCell']) ?_) | fail)
      go_meet
      exact N.out
  case rest =>
    obtain ⟨p1, p0, XC⟩ := hcut
    clear HW0 HB0 b0_0 b0_1
    have SC := R.ext XC
    obtain ⟨b, o, rfl, a0, a1, a2, a3, a4, a5⟩ := Sl.vec SC n hn
    rw [← HXY.out] at a0 a1 a2 a3 a4 a5
    have q0 := block_cell p0 4 _ rfl
    have P1 := Lib.hid p1
    clear p1 p0 SC S0
    go_wp2_with fail
    refine (of_walk y _).mono ?_
    rw [HO1.out]
    rintro e w1 ⟨rfl, x1⟩
    clear a0 a1 a2 a3 a4 a5 q0
    have e1 := Ext.alloc' w1 (.cells (#[.int .i64 p.a, .int .i64 p.b, .int .i64 p.c, .int .i64 p.d, .int .i64 p.e, .int .i64 p.f] : Array Value) 70)
    have d1 := block_ext (x1.trans e1) P1.out
    have d1 := (block_rules d1).1
    have f1 := block_new w1 (.cells (#[.int .i64 p.a, .int .i64 p.b, .int .i64 p.c, .int .i64 p.d, .int .i64 p.e, .int .i64 p.f] : Array Value) 70)
    have X1 := XC.trans (x1.trans e1)
    clear P1
    go_wp2_with fail
    refine (of_walk x _).mono ?_
    rw [HO2.out]
    rintro e w2 ⟨rfl, x2⟩
    have e2 := Ext.alloc' w2 (.cells (#[.int .i64 q.a, .int .i64 q.b, .int .i64 q.c, .int .i64 q.d, .int .i64 q.e, .int .i64 q.f] : Array Value) 70)
    have f1 := (block_rules (block_ext (x2.trans e2) f1)).1
    have f2 := (block_rules (block_new w2 (.cells (#[.int .i64 q.a, .int .i64 q.b, .int .i64 q.c, .int .i64 q.d, .int .i64 q.e, .int .i64 q.f] : Array Value) 70))).1
    have X2 := X1.trans (x2.trans e2)
    clear d1
    go_wp2_with fail
    refine (GW.out _ X2).mono ?_
    rintro e w3 ⟨rfl, x3⟩
    have X3 := X2.trans x3
    have f3 := (block_rules (block_new w3 (.cells #[.int .i64 zl, .int .i64 zh] 79))).1
    have e3 := Ext.alloc' w3 (.cells #[.int .i64 zl, .int .i64 zh] 79)
    have HX := Lib.hid (X3.trans e3)
    clear f1 f2 x1 x2 x3 e1 e2 e3 X1 X2 X3 XC X0
    obtain ⟨bl1, bl2⟩ := bd1
    have bl3 : zl ≤ zh := bd2
    have hzz : farZ ⟨zl, zh⟩ = if -zl ≤ zh then zh else -zl := rfl
    have HZZ := Lib.hid hzz
    clear hzz
    rcases Int.lt_trichotomy zh (-zl) with m | rfl | m
    all_goals
      go_wp2
      go_ret
      refine ⟨retZ_eq ?_, HX.out⟩
      have h1 := HN.out; have h2 := HZZ.out
      rw [h1, h2]
      split <;> omega
end Go.Proofs.YtigigcbondhmmaaDoor
