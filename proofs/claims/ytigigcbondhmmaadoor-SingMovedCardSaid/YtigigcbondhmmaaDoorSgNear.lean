/-
  Walk: schismalaw22.near; what is near, in steps.
-/
import Derived.Test.YtigigcbondhmmaaDoorSgStp0
set_option linter.unusedVariables false
namespace Go.Proofs.YtigigcbondhmmaaDoor
open Go.RowKit Go.Sx Go.Sx.Sz Go.Sx.Sc Go.Sx.Sg Go.Sx.Au

theorem surely_need {z : S2} (hz : z.lo ≤ z.hi) (m : Int) : decide (surelyF z (-10000 * m) (10000 * m) = 1) = decide ((farZ z + 9999) / 10000 ≤ m) := by
  refine decide_eq_decide.2 ?_
  unfold surelyF farZ
  by_cases h1 : -10000 * m ≤ z.lo ∧ z.hi ≤ 10000 * m
  · rw [if_pos h1]
    refine ⟨fun _ => ?_, fun _ => rfl⟩
    split <;> omega
  · rw [if_neg h1]
    refine ⟨fun h => ?_, fun h => ?_⟩
    · split at h <;> simp at h
    · exfalso; apply h1; split at h <;> omega

set_option maxRecDepth 100000 in
set_option maxHeartbeats 4000000 in
theorem lnear_walk (vx : Value) (xs : List V6) (hw : ∀ x ∈ xs, within x 48 = true) (n : Nat) (hn : n < xs.length) (i : Int) (hi : i = -1 ∨ (0 ≤ i ∧ i < xs.length)) (st : Int) (hst : 0 ≤ st ∧ st ≤ 2400000) (w : World) (G : Gl 0 w) (R : Sl w 6 V6.list vx xs) :
    Calls Tryd.prog 24 #[vx, .int .i64 n, .int .i64 i, .int .i64 st] w fun e w' => e = .returned (.bool (decide (needF xs n i ≤ st))) ∧ Ext w w' := by
  obtain ⟨ax, cx, rfl, -, -, hlx⟩ := R.len
  have hwy := X_within hn hw
  have hwx := atX_within hi hw
  have hRx : i ≠ -1 → atX xs i = X xs i.toNat := fun h => by unfold atX; rw [if_neg h]
  have hR0 : i = -1 → atX xs i = V6.zero := fun h => by unfold atX; rw [if_pos h]
  have hneed : needF xs n i = (farZ (expo (((X xs n).times 12).sub ((atX xs i).times 12))) + 9999) / 10000 := rfl
  have hXY := X_eq hn
  obtain ⟨y, hy⟩ : ∃ y, X xs n = y := ⟨_, rfl⟩
  obtain ⟨x, hx⟩ : ∃ x, atX xs i = x := ⟨_, rfl⟩
  rw [hy] at hwy hneed hXY; rw [hx] at hwx hneed hRx hR0
  have HO1 := Lib.hid (ofR_ok hwy); have HO2 := Lib.hid (ofR_ok hwx)
  have hwy' := times_within hwy; have hwx' := times_within hwx
  obtain ⟨p, hp⟩ : ∃ p, y.times 12 = p := ⟨_, rfl⟩
  obtain ⟨q, hq⟩ : ∃ q, x.times 12 = q := ⟨_, rfl⟩
  rw [hp] at hwy' hneed HO1; rw [hq] at hwx' hneed HO2
  have NW := Lib.hid fun w' (e : Ext w w') => near_walk p q hwy' hwx' st hst w' (G.ext e)
  have hsn := surely_need (expo_le (p.sub q)) st
  rw [← hneed] at hsn
  obtain ⟨r, hr⟩ : ∃ r, surelyF (expo (p.sub q)) (-10000 * st) (10000 * st) = r := ⟨_, rfl⟩
  rw [hr] at hsn NW
  rw [← hsn]
  have HXY := Lib.hid hXY; have HRX := Lib.hid hRx; have HR0 := Lib.hid hR0
  clear hneed hXY hRx hR0 hy hx hwy hwx hp hq hwy' hwx' hw G hr hsn
  have X0 : Ext w (w.alloc (.cells #[.int .i64 0, .int .i64 0, .int .i64 0, .int .i64 0, .int .i64 0, .int .i64 0] 41)) := (by repeat (first | with_reducible exact Ext.refl _ | with_reducible assumption | with_reducible apply Ext.alloc | with_reducible apply Ext.drew | (with_reducible refine Ext.setCell ?_ (by (try simp) <;> omega) _)))
  have b0_0 := block_new w (.cells #[.int .i64 0, .int .i64 0, .int .i64 0, .int .i64 0, .int .i64 0, .int .i64 0] 41)
  obtain ⟨W0, hW0⟩ : ∃ W, (w.alloc (.cells #[.int .i64 0, .int .i64 0, .int .i64 0, .int .i64 0, .int .i64 0, .int .i64 0] 41)) = W := ⟨_, rfl⟩
  obtain ⟨B0, hB0⟩ : ∃ B, w.heap.size = B := ⟨_, rfl⟩
  rw [hW0] at X0 b0_0
  rw [hB0] at b0_0
  have HZ0 : Hid (w.heap.size ≤ B0) := Lib.hid (by omega)
  have HW0 := Lib.hid hW0; have HB0 := Lib.hid hB0
  clear hW0 hB0
  have S0 := R.ext X0
  have j1 : (0 : Int) ≤ (n : Int) := by omega
  have j2 : (n : Int) < (xs.length : Int) := by omega
  go_enter Tryd.func24, Tryd.ntmps24
  go_upto_region 2 with fail
  rw [HW0.out, HB0.out]
  obtain ⟨c, hc⟩ : ∃ c, decide (0 ≤ i) = c := ⟨_, rfl⟩
  have HC := Lib.hid hc
  go_cut [24] (fun s24 wx => s24 = .bool c ∧ W0 = wx)
  case first =>
    clear HW0 HB0
    by_cases h0 : 0 ≤ i
    · have e1 : decide (0 ≤ i) = true := decide_eq_true h0
      have e2 : decide (i < (xs.length : Int)) = true := decide_eq_true (by omega)
      have HC2 : Hid (c = true) := Lib.hid (by rw [← HC.out]; exact e1)
      clear hc h0
      go_wp2_with fail
      go_meet
      exact ⟨by rw [HC2.out], rfl⟩
    · have e1 : decide (0 ≤ i) = false := decide_eq_false h0
      have HC2 : Hid (c = false) := Lib.hid (by rw [← HC.out]; exact e1)
      clear hc h0
      go_wp2_with fail
      go_meet
      exact ⟨by rw [HC2.out], rfl⟩
  obtain ⟨rfl, hww⟩ := hcut
  subst hww
  clear hc
  go_upto_if 24 with fail
  go_cut [] (fun wx => wx.heap[B0]? = some (.cells (#[.int .i64 x.a, .int .i64 x.b, .int .i64 x.c, .int .i64 x.d, .int .i64 x.e, .int .i64 x.f] : Array Value) 41 (0, 0)) ∧ Ext w wx)
  case first =>
    clear HW0 HB0
    by_cases hi1 : i = -1
    · obtain rfl := HR0.out hi1
      obtain rfl : c = false := by rw [← HC.out, hi1]; rfl
      clear hi hi1
      go_wp2
      go_meet
      exact ⟨b0_0, X0⟩
    · have hxi := HRX.out hi1
      obtain ⟨k, rfl⟩ : ∃ k : Nat, i = (k : Int) := ⟨i.toNat, by omega⟩
      obtain rfl : c = true := by rw [← HC.out]; exact decide_eq_true (by omega)
      have hk : k < xs.length := by omega
      obtain ⟨b, o, rfl, a0, a1, a2, a3, a4, a5⟩ := Sl.vec S0 k hk
      rw [Int.toNat_natCast, X_eq hk] at hxi
      rw [← hxi] at a0 a1 a2 a3 a4 a5
      have i1 : (0 : Int) ≤ (k : Int) := by omega
      have i2 : (k : Int) < (xs.length : Int) := by omega
      have n1 := setRow_at b0_0 (#[.int .i64 x.a, .int .i64 x.b, .int .i64 x.c, .int .i64 x.d, .int .i64 x.e, .int .i64 x.f] : Array Value)
      have N := Lib.hid (And.intro n1 (X0.setRow (g := B0) (by have := HZ0.out; omega) (#[.int .i64 x.a, .int .i64 x.b, .int .i64 x.c, .int .i64 x.d, .int .i64 x.e, .int .i64 x.f] : Array Value)))
      have HB := Lib.hid b0_0
      clear hi hi1 hxi n1 b0_0
      go_wp2_with (first | (refine wpList_store_row rfl _ _ _ rfl B0 _ rfl rfl _ _ HB.out (by kernel_rfl) rfl (by simp [Value.oneCell']) ?_) | fail)
      go_meet
      exact N.out
  case rest =>
    obtain ⟨p1, XC⟩ := hcut
    clear HW0 HB0 b0_0
    have SC := R.ext XC
    obtain ⟨b, o, rfl, a0, a1, a2, a3, a4, a5⟩ := Sl.vec SC n hn
    rw [← HXY.out] at a0 a1 a2 a3 a4 a5
    have P1 := Lib.hid p1
    clear p1 SC S0
    go_wp2_with fail
    refine (of_walk y _).mono ?_
    rw [HO1.out]
    rintro e w1 ⟨rfl, x1⟩
    clear a0 a1 a2 a3 a4 a5
    have e1 := Ext.alloc' w1 (.cells (#[.int .i64 p.a, .int .i64 p.b, .int .i64 p.c, .int .i64 p.d, .int .i64 p.e, .int .i64 p.f] : Array Value) 70)
    have d1 := block_ext (x1.trans e1) P1.out
    have d1 := (block_rules d1).1
    have f1 := block_new w1 (.cells (#[.int .i64 p.a, .int .i64 p.b, .int .i64 p.c, .int .i64 p.d, .int .i64 p.e, .int .i64 p.f] : Array Value) 70)
    have X1 := XC.trans (x1.trans e1)
    clear P1
    go_wp2_with fail
    refine (of_walk x _).mono ?_
    rw [HO2.out]
    rintro e w2 ⟨rfl, x2⟩
    have e2 := Ext.alloc' w2 (.cells (#[.int .i64 q.a, .int .i64 q.b, .int .i64 q.c, .int .i64 q.d, .int .i64 q.e, .int .i64 q.f] : Array Value) 70)
    have f1 := (block_rules (block_ext (x2.trans e2) f1)).1
    have f2 := (block_rules (block_new w2 (.cells (#[.int .i64 q.a, .int .i64 q.b, .int .i64 q.c, .int .i64 q.d, .int .i64 q.e, .int .i64 q.f] : Array Value) 70))).1
    have X2 := X1.trans (x2.trans e2)
    clear d1
    go_wp2_with fail
    refine (NW.out _ X2).mono ?_
    rintro e w3 ⟨rfl, x3⟩
    have HX := Lib.hid (X2.trans x3)
    clear f1 f2 x1 x2 x3 e1 e2 X1 X2 XC X0
    by_cases hr : r = 1
    · subst hr
      go_wp2
      go_ret
      exact ⟨by first | rfl | simp, HX.out⟩
    · have e9 : (r == 1) = false := by rw [beq_eq_false_iff_ne]; exact hr
      have E8 : Hid (decide (r = 1) = false) := Lib.hid (decide_eq_false hr)
      clear hr
      go_wp2
      go_ret
      exact ⟨by rw [E8.out] <;> rfl, HX.out⟩
end Go.Proofs.YtigigcbondhmmaaDoor
