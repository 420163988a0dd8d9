/-
  Walks: size.Of, plus, minus, combine, Add, Sub, Cmp, Meet.
-/
import Derived.Test.YthhkpgbfefakeaaDoorSzB
set_option linter.unusedVariables false
namespace Go.Proofs.YthhkpgbfefakeaaDoor
open Go.RowKit Go.Sx Go.Sx.Sz


set_option maxHeartbeats 1000000 in
theorem sof_walk (p : V6) (w : World) (G : Gv 0 1 w) : Calls Tryd.prog 27 #[.agg #[.int .i64 p.a, .int .i64 p.b, .int .i64 p.c, .int .i64 p.d, .int .i64 p.e, .int .i64 p.f]] w fun e w' => e = .returned (.tuple #[.agg #[.int .i64 (sizeR p).1.lo, .int .i64 (sizeR p).1.hi], .int .i64 (sizeR p).2]) ∧ Ext w w' := by
  cases hv : within p 576 with
  | false =>
    have HV := Lib.hid hv; clear hv
    go_enter Tryd.func27, Tryd.ntmps27
    go_wp2_with fail
    refine (pvalid_walk p _).mono ?_
    rw [HV.out]
    rintro e w1 ⟨rfl, x1⟩
    obtain ⟨hc1, hf1⟩ := x1.rules
    have hz1 : w.heap.size + 1 < w1.heap.size := by have := x1.size; (try simp at this); omega
    have X1 : Ext w w1 := Ext.trans (by repeat (first | with_reducible exact Ext.refl _ | with_reducible assumption | with_reducible apply Ext.alloc | with_reducible apply Ext.drew | (with_reducible refine Ext.setCell ?_ (by (try simp) <;> omega) _))) x1
    go_wp2
    exact bodyPost_ret (v := .tuple #[.agg #[.int .i64 zeroS.lo, .int .i64 zeroS.hi], .int .i64 1]) (by simp [results, Tryd.results27, go_sem, hc1, hz1, zeroS]) rfl ⟨by rw [sizeR, if_neg (by rw [HV.out]; decide)], (by repeat (first | with_reducible exact Ext.refl _ | with_reducible assumption | with_reducible apply Ext.alloc | with_reducible apply Ext.drew | (with_reducible refine Ext.setCell ?_ (by (try simp) <;> omega) _)))⟩
  | true =>
    have HV := Lib.hid hv
    have hw := within_mono (A := 576) (B := 4000) (by omega) hv
    have HW := Lib.hid hw
    clear hv hw
    go_enter Tryd.func27, Tryd.ntmps27
    go_wp2_with fail
    refine (pvalid_walk p _).mono ?_
    rw [HV.out]
    rintro e w1 ⟨rfl, x1⟩
    obtain ⟨hc1, hf1⟩ := x1.rules
    have hz1 : w.heap.size + 1 < w1.heap.size := by have := x1.size; (try simp at this); omega
    have X1 : Ext w w1 := Ext.trans (by repeat (first | with_reducible exact Ext.refl _ | with_reducible assumption | with_reducible apply Ext.alloc | with_reducible apply Ext.drew | (with_reducible refine Ext.setCell ?_ (by (try simp) <;> omega) _))) x1
    go_wp2_with fail
    refine (expo_walk p HW.out _ (G.ext X1)).mono ?_
    rintro e w2 ⟨rfl, x2⟩
    obtain ⟨hc2, hf2⟩ := x2.rules
    have hz2 : w.heap.size + 1 < w2.heap.size := by have := x2.size; omega
    have X2 : Ext w w2 := Ext.trans X1 x2
    go_wp2
    exact bodyPost_ret (v := .tuple #[.agg #[.int .i64 (expo p).lo, .int .i64 (expo p).hi], .int .i64 0]) (by simp [results, Tryd.results27, go_sem, hc1, hc2, hz1, hz2]) rfl ⟨by rw [sizeR, if_pos HV.out] <;> rfl, (by repeat (first | with_reducible exact Ext.refl _ | with_reducible assumption | with_reducible apply Ext.alloc | with_reducible apply Ext.drew | (with_reducible refine Ext.setCell ?_ (by (try simp) <;> omega) _)))⟩

set_option maxHeartbeats 1000000 in
theorem plus_walk (a b : S2) (ha : szOk a = true) (hb : szOk b = true) (w : World) : Calls Tryd.prog 54 #[.agg #[.int .i64 a.lo, .int .i64 a.hi], .agg #[.int .i64 b.lo, .int .i64 b.hi]] w fun e w' => e = .returned (.agg #[.int .i64 (addS a b).lo, .int .i64 (addS a b).hi]) ∧ Ext w w' := by
  obtain ⟨a1, a2, a3⟩ := szOk_iff.1 ha
  obtain ⟨b1, b2, b3⟩ := szOk_iff.1 hb
  clear ha hb
  go_enter Tryd.func54, Tryd.ntmps54
  go_wp2
  exact bodyPost_ret (v := .agg #[.int .i64 (addS a b).lo, .int .i64 (addS a b).hi]) (by simp [results, Tryd.results54, go_sem, addS]) rfl ⟨rfl, (by repeat (first | with_reducible exact Ext.refl _ | with_reducible assumption | with_reducible apply Ext.alloc | with_reducible apply Ext.drew | (with_reducible refine Ext.setCell ?_ (by (try simp) <;> omega) _)))⟩

set_option maxHeartbeats 1000000 in
theorem minus_walk (a b : S2) (ha : szOk a = true) (hb : szOk b = true) (w : World) : Calls Tryd.prog 50 #[.agg #[.int .i64 a.lo, .int .i64 a.hi], .agg #[.int .i64 b.lo, .int .i64 b.hi]] w fun e w' => e = .returned (.agg #[.int .i64 (subS a b).lo, .int .i64 (subS a b).hi]) ∧ Ext w w' := by
  obtain ⟨a1, a2, a3⟩ := szOk_iff.1 ha
  obtain ⟨b1, b2, b3⟩ := szOk_iff.1 hb
  clear ha hb
  go_enter Tryd.func50, Tryd.ntmps50
  go_wp2
  exact bodyPost_ret (v := .agg #[.int .i64 (subS a b).lo, .int .i64 (subS a b).hi]) (by simp [results, Tryd.results50, go_sem, subS]) rfl ⟨rfl, (by repeat (first | with_reducible exact Ext.refl _ | with_reducible assumption | with_reducible apply Ext.alloc | with_reducible apply Ext.drew | (with_reducible refine Ext.setCell ?_ (by (try simp) <;> omega) _)))⟩

theorem addR_a {a b : S2} (h : szOk a = false) : addR a b = (zeroS, 1) := by simp [addR, combR, h]
theorem addR_b {a b : S2} (h : szOk b = false) : addR a b = (zeroS, 1) := by simp [addR, combR, h]
theorem addR_c {a b : S2} (h : szOk a = true) (k : szOk b = true) (l : szOk (addS a b) = false) : addR a b = (zeroS, 3) := by simp [addR, combR, h, k, l]
theorem addR_d {a b : S2} (h : szOk a = true) (k : szOk b = true) (l : szOk (addS a b) = true) : addR a b = (addS a b, 0) := by simp [addR, combR, h, k, l]

set_option maxHeartbeats 2000000 in
theorem comb_plus_walk (a b : S2) (w : World) : Calls Tryd.prog 49 #[.func (.func 54) #[] #[], .agg #[.int .i64 a.lo, .int .i64 a.hi], .agg #[.int .i64 b.lo, .int .i64 b.hi]] w fun e w' => e = .returned (.tuple #[.agg #[.int .i64 (addR a b).1.lo, .int .i64 (addR a b).1.hi], .int .i64 (addR a b).2]) ∧ Ext w w' := by
  cases ha : szOk a with
  | false =>
    have HA := Lib.hid ha; clear ha
    go_enter Tryd.func49, Tryd.ntmps49
    go_wp2_with fail
    refine (szvalid_walk a _).mono ?_
    rw [HA.out]
    rintro e w1 ⟨rfl, x1⟩
    obtain ⟨hc1, hf1⟩ := x1.rules
    obtain ⟨hz1_0, hz1_1, hz1_2⟩ : w.heap.size < w1.heap.size ∧ w.heap.size + 1 < w1.heap.size ∧ w.heap.size + 1 + 1 < w1.heap.size := by have := x1.size; (try simp at this); omega
    obtain ⟨hl1_0, hl1_1, hl1_2, hl1_3, hl1_4, hl1_5, hl1_6, hl1_7, hl1_8, hl1_9, hl1_10, hl1_11⟩ : w.heap.size < w1.heap.size + 1 ∧ w.heap.size < w1.heap.size + 1 + 1 ∧ w.heap.size < w1.heap.size + 1 + 1 + 1 ∧ w.heap.size + 1 < w1.heap.size + 1 ∧ w.heap.size + 1 < w1.heap.size + 1 + 1 ∧ w.heap.size + 1 < w1.heap.size + 1 + 1 + 1 ∧ w.heap.size + 1 + 1 < w1.heap.size + 1 ∧ w.heap.size + 1 + 1 < w1.heap.size + 1 + 1 ∧ w.heap.size + 1 + 1 < w1.heap.size + 1 + 1 + 1 ∧ ¬ w.heap.size = w1.heap.size ∧ ¬ w.heap.size + 1 = w1.heap.size ∧ ¬ w.heap.size + 1 + 1 = w1.heap.size := by omega
    have X1 : Ext w w1 := Ext.trans (by repeat (first | with_reducible exact Ext.refl _ | with_reducible assumption | with_reducible apply Ext.alloc | with_reducible apply Ext.drew | (with_reducible refine Ext.setCell ?_ (by (try simp) <;> omega) _))) x1
    go_wp2
    refine bodyPost_ret (v := .tuple #[.agg #[.int .i64 0, .int .i64 0], .int .i64 1]) (by simp [results, Tryd.results49, go_sem, *]) rfl ⟨?_, (by repeat (first | with_reducible exact Ext.refl _ | with_reducible assumption | with_reducible apply Ext.alloc | with_reducible apply Ext.drew | (with_reducible refine Ext.setCell ?_ (by (try simp) <;> omega) _)))⟩
    rw [addR_a HA.out] <;> rfl
  | true =>
  cases hb : szOk b with
  | false =>
    have HA := Lib.hid ha; clear ha
    have HB := Lib.hid hb; clear hb
    go_enter Tryd.func49, Tryd.ntmps49
    go_wp2_with fail
    refine (szvalid_walk a _).mono ?_
    rw [HA.out]
    rintro e w1 ⟨rfl, x1⟩
    obtain ⟨hc1, hf1⟩ := x1.rules
    obtain ⟨hz1_0, hz1_1, hz1_2⟩ : w.heap.size < w1.heap.size ∧ w.heap.size + 1 < w1.heap.size ∧ w.heap.size + 1 + 1 < w1.heap.size := by have := x1.size; (try simp at this); omega
    obtain ⟨hl1_0, hl1_1, hl1_2, hl1_3, hl1_4, hl1_5, hl1_6, hl1_7, hl1_8, hl1_9, hl1_10, hl1_11⟩ : w.heap.size < w1.heap.size + 1 ∧ w.heap.size < w1.heap.size + 1 + 1 ∧ w.heap.size < w1.heap.size + 1 + 1 + 1 ∧ w.heap.size + 1 < w1.heap.size + 1 ∧ w.heap.size + 1 < w1.heap.size + 1 + 1 ∧ w.heap.size + 1 < w1.heap.size + 1 + 1 + 1 ∧ w.heap.size + 1 + 1 < w1.heap.size + 1 ∧ w.heap.size + 1 + 1 < w1.heap.size + 1 + 1 ∧ w.heap.size + 1 + 1 < w1.heap.size + 1 + 1 + 1 ∧ ¬ w.heap.size = w1.heap.size ∧ ¬ w.heap.size + 1 = w1.heap.size ∧ ¬ w.heap.size + 1 + 1 = w1.heap.size := by omega
    have X1 : Ext w w1 := Ext.trans (by repeat (first | with_reducible exact Ext.refl _ | with_reducible assumption | with_reducible apply Ext.alloc | with_reducible apply Ext.drew | (with_reducible refine Ext.setCell ?_ (by (try simp) <;> omega) _))) x1
    go_wp2_with fail
    refine (szvalid_walk b _).mono ?_
    rw [HB.out]
    rintro e w2 ⟨rfl, x2⟩
    obtain ⟨hc2, hf2⟩ := x2.rules
    obtain ⟨hz2_0, hz2_1, hz2_2⟩ : w.heap.size < w2.heap.size ∧ w.heap.size + 1 < w2.heap.size ∧ w.heap.size + 1 + 1 < w2.heap.size := by have := x2.size; (try simp at this); omega
    obtain ⟨hl2_0, hl2_1, hl2_2, hl2_3, hl2_4, hl2_5, hl2_6, hl2_7, hl2_8, hl2_9, hl2_10, hl2_11⟩ : w.heap.size < w2.heap.size + 1 ∧ w.heap.size < w2.heap.size + 1 + 1 ∧ w.heap.size < w2.heap.size + 1 + 1 + 1 ∧ w.heap.size + 1 < w2.heap.size + 1 ∧ w.heap.size + 1 < w2.heap.size + 1 + 1 ∧ w.heap.size + 1 < w2.heap.size + 1 + 1 + 1 ∧ w.heap.size + 1 + 1 < w2.heap.size + 1 ∧ w.heap.size + 1 + 1 < w2.heap.size + 1 + 1 ∧ w.heap.size + 1 + 1 < w2.heap.size + 1 + 1 + 1 ∧ ¬ w.heap.size = w2.heap.size ∧ ¬ w.heap.size + 1 = w2.heap.size ∧ ¬ w.heap.size + 1 + 1 = w2.heap.size := by omega
    have X2 : Ext w w2 := Ext.trans (by repeat (first | with_reducible exact Ext.refl _ | with_reducible assumption | with_reducible apply Ext.alloc | with_reducible apply Ext.drew | (with_reducible refine Ext.setCell ?_ (by (try simp) <;> omega) _))) x2
    go_wp2
    refine bodyPost_ret (v := .tuple #[.agg #[.int .i64 0, .int .i64 0], .int .i64 1]) (by simp [results, Tryd.results49, go_sem, *]) rfl ⟨?_, (by repeat (first | with_reducible exact Ext.refl _ | with_reducible assumption | with_reducible apply Ext.alloc | with_reducible apply Ext.drew | (with_reducible refine Ext.setCell ?_ (by (try simp) <;> omega) _)))⟩
    rw [addR_b HB.out] <;> rfl
  | true =>
  cases hc : szOk (addS a b) with
  | false =>
    have HA := Lib.hid ha; clear ha
    have HB := Lib.hid hb; clear hb
    have HC := Lib.hid hc; clear hc
    go_enter Tryd.func49, Tryd.ntmps49
    go_wp2_with fail
    refine (szvalid_walk a _).mono ?_
    rw [HA.out]
    rintro e w1 ⟨rfl, x1⟩
    obtain ⟨hc1, hf1⟩ := x1.rules
    obtain ⟨hz1_0, hz1_1, hz1_2⟩ : w.heap.size < w1.heap.size ∧ w.heap.size + 1 < w1.heap.size ∧ w.heap.size + 1 + 1 < w1.heap.size := by have := x1.size; (try simp at this); omega
    obtain ⟨hl1_0, hl1_1, hl1_2, hl1_3, hl1_4, hl1_5, hl1_6, hl1_7, hl1_8, hl1_9, hl1_10, hl1_11⟩ : w.heap.size < w1.heap.size + 1 ∧ w.heap.size < w1.heap.size + 1 + 1 ∧ w.heap.size < w1.heap.size + 1 + 1 + 1 ∧ w.heap.size + 1 < w1.heap.size + 1 ∧ w.heap.size + 1 < w1.heap.size + 1 + 1 ∧ w.heap.size + 1 < w1.heap.size + 1 + 1 + 1 ∧ w.heap.size + 1 + 1 < w1.heap.size + 1 ∧ w.heap.size + 1 + 1 < w1.heap.size + 1 + 1 ∧ w.heap.size + 1 + 1 < w1.heap.size + 1 + 1 + 1 ∧ ¬ w.heap.size = w1.heap.size ∧ ¬ w.heap.size + 1 = w1.heap.size ∧ ¬ w.heap.size + 1 + 1 = w1.heap.size := by omega
    have X1 : Ext w w1 := Ext.trans (by repeat (first | with_reducible exact Ext.refl _ | with_reducible assumption | with_reducible apply Ext.alloc | with_reducible apply Ext.drew | (with_reducible refine Ext.setCell ?_ (by (try simp) <;> omega) _))) x1
    go_wp2_with fail
    refine (szvalid_walk b _).mono ?_
    rw [HB.out]
    rintro e w2 ⟨rfl, x2⟩
    obtain ⟨hc2, hf2⟩ := x2.rules
    obtain ⟨hz2_0, hz2_1, hz2_2⟩ : w.heap.size < w2.heap.size ∧ w.heap.size + 1 < w2.heap.size ∧ w.heap.size + 1 + 1 < w2.heap.size := by have := x2.size; (try simp at this); omega
    obtain ⟨hl2_0, hl2_1, hl2_2, hl2_3, hl2_4, hl2_5, hl2_6, hl2_7, hl2_8, hl2_9, hl2_10, hl2_11⟩ : w.heap.size < w2.heap.size + 1 ∧ w.heap.size < w2.heap.size + 1 + 1 ∧ w.heap.size < w2.heap.size + 1 + 1 + 1 ∧ w.heap.size + 1 < w2.heap.size + 1 ∧ w.heap.size + 1 < w2.heap.size + 1 + 1 ∧ w.heap.size + 1 < w2.heap.size + 1 + 1 + 1 ∧ w.heap.size + 1 + 1 < w2.heap.size + 1 ∧ w.heap.size + 1 + 1 < w2.heap.size + 1 + 1 ∧ w.heap.size + 1 + 1 < w2.heap.size + 1 + 1 + 1 ∧ ¬ w.heap.size = w2.heap.size ∧ ¬ w.heap.size + 1 = w2.heap.size ∧ ¬ w.heap.size + 1 + 1 = w2.heap.size := by omega
    have X2 : Ext w w2 := Ext.trans (by repeat (first | with_reducible exact Ext.refl _ | with_reducible assumption | with_reducible apply Ext.alloc | with_reducible apply Ext.drew | (with_reducible refine Ext.setCell ?_ (by (try simp) <;> omega) _))) x2
    go_wp2_with fail
    refine (plus_walk a b HA.out HB.out _).mono ?_
    rintro e w3 ⟨rfl, x3⟩
    obtain ⟨hc3, hf3⟩ := x3.rules
    obtain ⟨hz3_0, hz3_1, hz3_2⟩ : w.heap.size < w3.heap.size ∧ w.heap.size + 1 < w3.heap.size ∧ w.heap.size + 1 + 1 < w3.heap.size := by have := x3.size; (try simp at this); omega
    obtain ⟨hl3_0, hl3_1, hl3_2, hl3_3, hl3_4, hl3_5, hl3_6, hl3_7, hl3_8, hl3_9, hl3_10, hl3_11⟩ : w.heap.size < w3.heap.size + 1 ∧ w.heap.size < w3.heap.size + 1 + 1 ∧ w.heap.size < w3.heap.size + 1 + 1 + 1 ∧ w.heap.size + 1 < w3.heap.size + 1 ∧ w.heap.size + 1 < w3.heap.size + 1 + 1 ∧ w.heap.size + 1 < w3.heap.size + 1 + 1 + 1 ∧ w.heap.size + 1 + 1 < w3.heap.size + 1 ∧ w.heap.size + 1 + 1 < w3.heap.size + 1 + 1 ∧ w.heap.size + 1 + 1 < w3.heap.size + 1 + 1 + 1 ∧ ¬ w.heap.size = w3.heap.size ∧ ¬ w.heap.size + 1 = w3.heap.size ∧ ¬ w.heap.size + 1 + 1 = w3.heap.size := by omega
    have X3 : Ext w w3 := Ext.trans (by repeat (first | with_reducible exact Ext.refl _ | with_reducible assumption | with_reducible apply Ext.alloc | with_reducible apply Ext.drew | (with_reducible refine Ext.setCell ?_ (by (try simp) <;> omega) _))) x3
    go_wp2_with fail
    refine (szvalid_walk (addS a b) _).mono ?_
    rw [HC.out]
    rintro e w4 ⟨rfl, x4⟩
    obtain ⟨hc4, hf4⟩ := x4.rules
    obtain ⟨hz4_0, hz4_1, hz4_2⟩ : w.heap.size < w4.heap.size ∧ w.heap.size + 1 < w4.heap.size ∧ w.heap.size + 1 + 1 < w4.heap.size := by have := x4.size; (try simp at this); omega
    obtain ⟨hl4_0, hl4_1, hl4_2, hl4_3, hl4_4, hl4_5, hl4_6, hl4_7, hl4_8, hl4_9, hl4_10, hl4_11⟩ : w.heap.size < w4.heap.size + 1 ∧ w.heap.size < w4.heap.size + 1 + 1 ∧ w.heap.size < w4.heap.size + 1 + 1 + 1 ∧ w.heap.size + 1 < w4.heap.size + 1 ∧ w.heap.size + 1 < w4.heap.size + 1 + 1 ∧ w.heap.size + 1 < w4.heap.size + 1 + 1 + 1 ∧ w.heap.size + 1 + 1 < w4.heap.size + 1 ∧ w.heap.size + 1 + 1 < w4.heap.size + 1 + 1 ∧ w.heap.size + 1 + 1 < w4.heap.size + 1 + 1 + 1 ∧ ¬ w.heap.size = w4.heap.size ∧ ¬ w.heap.size + 1 = w4.heap.size ∧ ¬ w.heap.size + 1 + 1 = w4.heap.size := by omega
    have X4 : Ext w w4 := Ext.trans (by repeat (first | with_reducible exact Ext.refl _ | with_reducible assumption | with_reducible apply Ext.alloc | with_reducible apply Ext.drew | (with_reducible refine Ext.setCell ?_ (by (try simp) <;> omega) _))) x4
    go_wp2
    refine bodyPost_ret (v := .tuple #[.agg #[.int .i64 0, .int .i64 0], .int .i64 3]) (by simp [results, Tryd.results49, go_sem, *]) rfl ⟨?_, (by repeat (first | with_reducible exact Ext.refl _ | with_reducible assumption | with_reducible apply Ext.alloc | with_reducible apply Ext.drew | (with_reducible refine Ext.setCell ?_ (by (try simp) <;> omega) _)))⟩
    rw [addR_c HA.out HB.out HC.out] <;> rfl
  | true =>
    have HA := Lib.hid ha; clear ha
    have HB := Lib.hid hb; clear hb
    have HC := Lib.hid hc; clear hc
    go_enter Tryd.func49, Tryd.ntmps49
    go_wp2_with fail
    refine (szvalid_walk a _).mono ?_
    rw [HA.out]
    rintro e w1 ⟨rfl, x1⟩
    obtain ⟨hc1, hf1⟩ := x1.rules
    obtain ⟨hz1_0, hz1_1, hz1_2⟩ : w.heap.size < w1.heap.size ∧ w.heap.size + 1 < w1.heap.size ∧ w.heap.size + 1 + 1 < w1.heap.size := by have := x1.size; (try simp at this); omega
    obtain ⟨hl1_0, hl1_1, hl1_2, hl1_3, hl1_4, hl1_5, hl1_6, hl1_7, hl1_8, hl1_9, hl1_10, hl1_11⟩ : w.heap.size < w1.heap.size + 1 ∧ w.heap.size < w1.heap.size + 1 + 1 ∧ w.heap.size < w1.heap.size + 1 + 1 + 1 ∧ w.heap.size + 1 < w1.heap.size + 1 ∧ w.heap.size + 1 < w1.heap.size + 1 + 1 ∧ w.heap.size + 1 < w1.heap.size + 1 + 1 + 1 ∧ w.heap.size + 1 + 1 < w1.heap.size + 1 ∧ w.heap.size + 1 + 1 < w1.heap.size + 1 + 1 ∧ w.heap.size + 1 + 1 < w1.heap.size + 1 + 1 + 1 ∧ ¬ w.heap.size = w1.heap.size ∧ ¬ w.heap.size + 1 = w1.heap.size ∧ ¬ w.heap.size + 1 + 1 = w1.heap.size := by omega
    have X1 : Ext w w1 := Ext.trans (by repeat (first | with_reducible exact Ext.refl _ | with_reducible assumption | with_reducible apply Ext.alloc | with_reducible apply Ext.drew | (with_reducible refine Ext.setCell ?_ (by (try simp) <;> omega) _))) x1
    go_wp2_with fail
    refine (szvalid_walk b _).mono ?_
    rw [HB.out]
    rintro e w2 ⟨rfl, x2⟩
    obtain ⟨hc2, hf2⟩ := x2.rules
    obtain ⟨hz2_0, hz2_1, hz2_2⟩ : w.heap.size < w2.heap.size ∧ w.heap.size + 1 < w2.heap.size ∧ w.heap.size + 1 + 1 < w2.heap.size := by have := x2.size; (try simp at this); omega
    obtain ⟨hl2_0, hl2_1, hl2_2, hl2_3, hl2_4, hl2_5, hl2_6, hl2_7, hl2_8, hl2_9, hl2_10, hl2_11⟩ : w.heap.size < w2.heap.size + 1 ∧ w.heap.size < w2.heap.size + 1 + 1 ∧ w.heap.size < w2.heap.size + 1 + 1 + 1 ∧ w.heap.size + 1 < w2.heap.size + 1 ∧ w.heap.size + 1 < w2.heap.size + 1 + 1 ∧ w.heap.size + 1 < w2.heap.size + 1 + 1 + 1 ∧ w.heap.size + 1 + 1 < w2.heap.size + 1 ∧ w.heap.size + 1 + 1 < w2.heap.size + 1 + 1 ∧ w.heap.size + 1 + 1 < w2.heap.size + 1 + 1 + 1 ∧ ¬ w.heap.size = w2.heap.size ∧ ¬ w.heap.size + 1 = w2.heap.size ∧ ¬ w.heap.size + 1 + 1 = w2.heap.size := by omega
    have X2 : Ext w w2 := Ext.trans (by repeat (first | with_reducible exact Ext.refl _ | with_reducible assumption | with_reducible apply Ext.alloc | with_reducible apply Ext.drew | (with_reducible refine Ext.setCell ?_ (by (try simp) <;> omega) _))) x2
    go_wp2_with fail
    refine (plus_walk a b HA.out HB.out _).mono ?_
    rintro e w3 ⟨rfl, x3⟩
    obtain ⟨hc3, hf3⟩ := x3.rules
    obtain ⟨hz3_0, hz3_1, hz3_2⟩ : w.heap.size < w3.heap.size ∧ w.heap.size + 1 < w3.heap.size ∧ w.heap.size + 1 + 1 < w3.heap.size := by have := x3.size; (try simp at this); omega
    obtain ⟨hl3_0, hl3_1, hl3_2, hl3_3, hl3_4, hl3_5, hl3_6, hl3_7, hl3_8, hl3_9, hl3_10, hl3_11⟩ : w.heap.size < w3.heap.size + 1 ∧ w.heap.size < w3.heap.size + 1 + 1 ∧ w.heap.size < w3.heap.size + 1 + 1 + 1 ∧ w.heap.size + 1 < w3.heap.size + 1 ∧ w.heap.size + 1 < w3.heap.size + 1 + 1 ∧ w.heap.size + 1 < w3.heap.size + 1 + 1 + 1 ∧ w.heap.size + 1 + 1 < w3.heap.size + 1 ∧ w.heap.size + 1 + 1 < w3.heap.size + 1 + 1 ∧ w.heap.size + 1 + 1 < w3.heap.size + 1 + 1 + 1 ∧ ¬ w.heap.size = w3.heap.size ∧ ¬ w.heap.size + 1 = w3.heap.size ∧ ¬ w.heap.size + 1 + 1 = w3.heap.size := by omega
    have X3 : Ext w w3 := Ext.trans (by repeat (first | with_reducible exact Ext.refl _ | with_reducible assumption | with_reducible apply Ext.alloc | with_reducible apply Ext.drew | (with_reducible refine Ext.setCell ?_ (by (try simp) <;> omega) _))) x3
    go_wp2_with fail
    refine (szvalid_walk (addS a b) _).mono ?_
    rw [HC.out]
    rintro e w4 ⟨rfl, x4⟩
    obtain ⟨hc4, hf4⟩ := x4.rules
    obtain ⟨hz4_0, hz4_1, hz4_2⟩ : w.heap.size < w4.heap.size ∧ w.heap.size + 1 < w4.heap.size ∧ w.heap.size + 1 + 1 < w4.heap.size := by have := x4.size; (try simp at this); omega
    obtain ⟨hl4_0, hl4_1, hl4_2, hl4_3, hl4_4, hl4_5, hl4_6, hl4_7, hl4_8, hl4_9, hl4_10, hl4_11⟩ : w.heap.size < w4.heap.size + 1 ∧ w.heap.size < w4.heap.size + 1 + 1 ∧ w.heap.size < w4.heap.size + 1 + 1 + 1 ∧ w.heap.size + 1 < w4.heap.size + 1 ∧ w.heap.size + 1 < w4.heap.size + 1 + 1 ∧ w.heap.size + 1 < w4.heap.size + 1 + 1 + 1 ∧ w.heap.size + 1 + 1 < w4.heap.size + 1 ∧ w.heap.size + 1 + 1 < w4.heap.size + 1 + 1 ∧ w.heap.size + 1 + 1 < w4.heap.size + 1 + 1 + 1 ∧ ¬ w.heap.size = w4.heap.size ∧ ¬ w.heap.size + 1 = w4.heap.size ∧ ¬ w.heap.size + 1 + 1 = w4.heap.size := by omega
    have X4 : Ext w w4 := Ext.trans (by repeat (first | with_reducible exact Ext.refl _ | with_reducible assumption | with_reducible apply Ext.alloc | with_reducible apply Ext.drew | (with_reducible refine Ext.setCell ?_ (by (try simp) <;> omega) _))) x4
    go_wp2
    refine bodyPost_ret (v := .tuple #[.agg #[.int .i64 (addS a b).lo, .int .i64 (addS a b).hi], .int .i64 0]) (by simp [results, Tryd.results49, go_sem, *]) rfl ⟨?_, (by repeat (first | with_reducible exact Ext.refl _ | with_reducible assumption | with_reducible apply Ext.alloc | with_reducible apply Ext.drew | (with_reducible refine Ext.setCell ?_ (by (try simp) <;> omega) _)))⟩
    rw [addR_d HA.out HB.out HC.out] <;> rfl

theorem subR_a {a b : S2} (h : szOk a = false) : subR a b = (zeroS, 1) := by simp [subR, combR, h]
theorem subR_b {a b : S2} (h : szOk b = false) : subR a b = (zeroS, 1) := by simp [subR, combR, h]
theorem subR_c {a b : S2} (h : szOk a = true) (k : szOk b = true) (l : szOk (subS a b) = false) : subR a b = (zeroS, 3) := by simp [subR, combR, h, k, l]
theorem subR_d {a b : S2} (h : szOk a = true) (k : szOk b = true) (l : szOk (subS a b) = true) : subR a b = (subS a b, 0) := by simp [subR, combR, h, k, l]

set_option maxHeartbeats 2000000 in
theorem comb_minus_walk (a b : S2) (w : World) : Calls Tryd.prog 49 #[.func (.func 50) #[] #[], .agg #[.int .i64 a.lo, .int .i64 a.hi], .agg #[.int .i64 b.lo, .int .i64 b.hi]] w fun e w' => e = .returned (.tuple #[.agg #[.int .i64 (subR a b).1.lo, .int .i64 (subR a b).1.hi], .int .i64 (subR a b).2]) ∧ Ext w w' := by
  cases ha : szOk a with
  | false =>
    have HA := Lib.hid ha; clear ha
    go_enter Tryd.func49, Tryd.ntmps49
    go_wp2_with fail
    refine (szvalid_walk a _).mono ?_
    rw [HA.out]
    rintro e w1 ⟨rfl, x1⟩
    obtain ⟨hc1, hf1⟩ := x1.rules
    obtain ⟨hz1_0, hz1_1, hz1_2⟩ : w.heap.size < w1.heap.size ∧ w.heap.size + 1 < w1.heap.size ∧ w.heap.size + 1 + 1 < w1.heap.size := by have := x1.size; (try simp at this); omega
    obtain ⟨hl1_0, hl1_1, hl1_2, hl1_3, hl1_4, hl1_5, hl1_6, hl1_7, hl1_8, hl1_9, hl1_10, hl1_11⟩ : w.heap.size < w1.heap.size + 1 ∧ w.heap.size < w1.heap.size + 1 + 1 ∧ w.heap.size < w1.heap.size + 1 + 1 + 1 ∧ w.heap.size + 1 < w1.heap.size + 1 ∧ w.heap.size + 1 < w1.heap.size + 1 + 1 ∧ w.heap.size + 1 < w1.heap.size + 1 + 1 + 1 ∧ w.heap.size + 1 + 1 < w1.heap.size + 1 ∧ w.heap.size + 1 + 1 < w1.heap.size + 1 + 1 ∧ w.heap.size + 1 + 1 < w1.heap.size + 1 + 1 + 1 ∧ ¬ w.heap.size = w1.heap.size ∧ ¬ w.heap.size + 1 = w1.heap.size ∧ ¬ w.heap.size + 1 + 1 = w1.heap.size := by omega
    have X1 : Ext w w1 := Ext.trans (by repeat (first | with_reducible exact Ext.refl _ | with_reducible assumption | with_reducible apply Ext.alloc | with_reducible apply Ext.drew | (with_reducible refine Ext.setCell ?_ (by (try simp) <;> omega) _))) x1
    go_wp2
    refine bodyPost_ret (v := .tuple #[.agg #[.int .i64 0, .int .i64 0], .int .i64 1]) (by simp [results, Tryd.results49, go_sem, *]) rfl ⟨?_, (by repeat (first | with_reducible exact Ext.refl _ | with_reducible assumption | with_reducible apply Ext.alloc | with_reducible apply Ext.drew | (with_reducible refine Ext.setCell ?_ (by (try simp) <;> omega) _)))⟩
    rw [subR_a HA.out] <;> rfl
  | true =>
  cases hb : szOk b with
  | false =>
    have HA := Lib.hid ha; clear ha
    have HB := Lib.hid hb; clear hb
    go_enter Tryd.func49, Tryd.ntmps49
    go_wp2_with fail
    refine (szvalid_walk a _).mono ?_
    rw [HA.out]
    rintro e w1 ⟨rfl, x1⟩
    obtain ⟨hc1, hf1⟩ := x1.rules
    obtain ⟨hz1_0, hz1_1, hz1_2⟩ : w.heap.size < w1.heap.size ∧ w.heap.size + 1 < w1.heap.size ∧ w.heap.size + 1 + 1 < w1.heap.size := by have := x1.size; (try simp at this); omega
    obtain ⟨hl1_0, hl1_1, hl1_2, hl1_3, hl1_4, hl1_5, hl1_6, hl1_7, hl1_8, hl1_9, hl1_10, hl1_11⟩ : w.heap.size < w1.heap.size + 1 ∧ w.heap.size < w1.heap.size + 1 + 1 ∧ w.heap.size < w1.heap.size + 1 + 1 + 1 ∧ w.heap.size + 1 < w1.heap.size + 1 ∧ w.heap.size + 1 < w1.heap.size + 1 + 1 ∧ w.heap.size + 1 < w1.heap.size + 1 + 1 + 1 ∧ w.heap.size + 1 + 1 < w1.heap.size + 1 ∧ w.heap.size + 1 + 1 < w1.heap.size + 1 + 1 ∧ w.heap.size + 1 + 1 < w1.heap.size + 1 + 1 + 1 ∧ ¬ w.heap.size = w1.heap.size ∧ ¬ w.heap.size + 1 = w1.heap.size ∧ ¬ w.heap.size + 1 + 1 = w1.heap.size := by omega
    have X1 : Ext w w1 := Ext.trans (by repeat (first | with_reducible exact Ext.refl _ | with_reducible assumption | with_reducible apply Ext.alloc | with_reducible apply Ext.drew | (with_reducible refine Ext.setCell ?_ (by (try simp) <;> omega) _))) x1
    go_wp2_with fail
    refine (szvalid_walk b _).mono ?_
    rw [HB.out]
    rintro e w2 ⟨rfl, x2⟩
    obtain ⟨hc2, hf2⟩ := x2.rules
    obtain ⟨hz2_0, hz2_1, hz2_2⟩ : w.heap.size < w2.heap.size ∧ w.heap.size + 1 < w2.heap.size ∧ w.heap.size + 1 + 1 < w2.heap.size := by have := x2.size; (try simp at this); omega
    obtain ⟨hl2_0, hl2_1, hl2_2, hl2_3, hl2_4, hl2_5, hl2_6, hl2_7, hl2_8, hl2_9, hl2_10, hl2_11⟩ : w.heap.size < w2.heap.size + 1 ∧ w.heap.size < w2.heap.size + 1 + 1 ∧ w.heap.size < w2.heap.size + 1 + 1 + 1 ∧ w.heap.size + 1 < w2.heap.size + 1 ∧ w.heap.size + 1 < w2.heap.size + 1 + 1 ∧ w.heap.size + 1 < w2.heap.size + 1 + 1 + 1 ∧ w.heap.size + 1 + 1 < w2.heap.size + 1 ∧ w.heap.size + 1 + 1 < w2.heap.size + 1 + 1 ∧ w.heap.size + 1 + 1 < w2.heap.size + 1 + 1 + 1 ∧ ¬ w.heap.size = w2.heap.size ∧ ¬ w.heap.size + 1 = w2.heap.size ∧ ¬ w.heap.size + 1 + 1 = w2.heap.size := by omega
    have X2 : Ext w w2 := Ext.trans (by repeat (first | with_reducible exact Ext.refl _ | with_reducible assumption | with_reducible apply Ext.alloc | with_reducible apply Ext.drew | (with_reducible refine Ext.setCell ?_ (by (try simp) <;> omega) _))) x2
    go_wp2
    refine bodyPost_ret (v := .tuple #[.agg #[.int .i64 0, .int .i64 0], .int .i64 1]) (by simp [results, Tryd.results49, go_sem, *]) rfl ⟨?_, (by repeat (first | with_reducible exact Ext.refl _ | with_reducible assumption | with_reducible apply Ext.alloc | with_reducible apply Ext.drew | (with_reducible refine Ext.setCell ?_ (by (try simp) <;> omega) _)))⟩
    rw [subR_b HB.out] <;> rfl
  | true =>
  cases hc : szOk (subS a b) with
  | false =>
    have HA := Lib.hid ha; clear ha
    have HB := Lib.hid hb; clear hb
    have HC := Lib.hid hc; clear hc
    go_enter Tryd.func49, Tryd.ntmps49
    go_wp2_with fail
    refine (szvalid_walk a _).mono ?_
    rw [HA.out]
    rintro e w1 ⟨rfl, x1⟩
    obtain ⟨hc1, hf1⟩ := x1.rules
    obtain ⟨hz1_0, hz1_1, hz1_2⟩ : w.heap.size < w1.heap.size ∧ w.heap.size + 1 < w1.heap.size ∧ w.heap.size + 1 + 1 < w1.heap.size := by have := x1.size; (try simp at this); omega
    obtain ⟨hl1_0, hl1_1, hl1_2, hl1_3, hl1_4, hl1_5, hl1_6, hl1_7, hl1_8, hl1_9, hl1_10, hl1_11⟩ : w.heap.size < w1.heap.size + 1 ∧ w.heap.size < w1.heap.size + 1 + 1 ∧ w.heap.size < w1.heap.size + 1 + 1 + 1 ∧ w.heap.size + 1 < w1.heap.size + 1 ∧ w.heap.size + 1 < w1.heap.size + 1 + 1 ∧ w.heap.size + 1 < w1.heap.size + 1 + 1 + 1 ∧ w.heap.size + 1 + 1 < w1.heap.size + 1 ∧ w.heap.size + 1 + 1 < w1.heap.size + 1 + 1 ∧ w.heap.size + 1 + 1 < w1.heap.size + 1 + 1 + 1 ∧ ¬ w.heap.size = w1.heap.size ∧ ¬ w.heap.size + 1 = w1.heap.size ∧ ¬ w.heap.size + 1 + 1 = w1.heap.size := by omega
    have X1 : Ext w w1 := Ext.trans (by repeat (first | with_reducible exact Ext.refl _ | with_reducible assumption | with_reducible apply Ext.alloc | with_reducible apply Ext.drew | (with_reducible refine Ext.setCell ?_ (by (try simp) <;> omega) _))) x1
    go_wp2_with fail
    refine (szvalid_walk b _).mono ?_
    rw [HB.out]
    rintro e w2 ⟨rfl, x2⟩
    obtain ⟨hc2, hf2⟩ := x2.rules
    obtain ⟨hz2_0, hz2_1, hz2_2⟩ : w.heap.size < w2.heap.size ∧ w.heap.size + 1 < w2.heap.size ∧ w.heap.size + 1 + 1 < w2.heap.size := by have := x2.size; (try simp at this); omega
    obtain ⟨hl2_0, hl2_1, hl2_2, hl2_3, hl2_4, hl2_5, hl2_6, hl2_7, hl2_8, hl2_9, hl2_10, hl2_11⟩ : w.heap.size < w2.heap.size + 1 ∧ w.heap.size < w2.heap.size + 1 + 1 ∧ w.heap.size < w2.heap.size + 1 + 1 + 1 ∧ w.heap.size + 1 < w2.heap.size + 1 ∧ w.heap.size + 1 < w2.heap.size + 1 + 1 ∧ w.heap.size + 1 < w2.heap.size + 1 + 1 + 1 ∧ w.heap.size + 1 + 1 < w2.heap.size + 1 ∧ w.heap.size + 1 + 1 < w2.heap.size + 1 + 1 ∧ w.heap.size + 1 + 1 < w2.heap.size + 1 + 1 + 1 ∧ ¬ w.heap.size = w2.heap.size ∧ ¬ w.heap.size + 1 = w2.heap.size ∧ ¬ w.heap.size + 1 + 1 = w2.heap.size := by omega
    have X2 : Ext w w2 := Ext.trans (by repeat (first | with_reducible exact Ext.refl _ | with_reducible assumption | with_reducible apply Ext.alloc | with_reducible apply Ext.drew | (with_reducible refine Ext.setCell ?_ (by (try simp) <;> omega) _))) x2
    go_wp2_with fail
    refine (minus_walk a b HA.out HB.out _).mono ?_
    rintro e w3 ⟨rfl, x3⟩
    obtain ⟨hc3, hf3⟩ := x3.rules
    obtain ⟨hz3_0, hz3_1, hz3_2⟩ : w.heap.size < w3.heap.size ∧ w.heap.size + 1 < w3.heap.size ∧ w.heap.size + 1 + 1 < w3.heap.size := by have := x3.size; (try simp at this); omega
    obtain ⟨hl3_0, hl3_1, hl3_2, hl3_3, hl3_4, hl3_5, hl3_6, hl3_7, hl3_8, hl3_9, hl3_10, hl3_11⟩ : w.heap.size < w3.heap.size + 1 ∧ w.heap.size < w3.heap.size + 1 + 1 ∧ w.heap.size < w3.heap.size + 1 + 1 + 1 ∧ w.heap.size + 1 < w3.heap.size + 1 ∧ w.heap.size + 1 < w3.heap.size + 1 + 1 ∧ w.heap.size + 1 < w3.heap.size + 1 + 1 + 1 ∧ w.heap.size + 1 + 1 < w3.heap.size + 1 ∧ w.heap.size + 1 + 1 < w3.heap.size + 1 + 1 ∧ w.heap.size + 1 + 1 < w3.heap.size + 1 + 1 + 1 ∧ ¬ w.heap.size = w3.heap.size ∧ ¬ w.heap.size + 1 = w3.heap.size ∧ ¬ w.heap.size + 1 + 1 = w3.heap.size := by omega
    have X3 : Ext w w3 := Ext.trans (by repeat (first | with_reducible exact Ext.refl _ | with_reducible assumption | with_reducible apply Ext.alloc | with_reducible apply Ext.drew | (with_reducible refine Ext.setCell ?_ (by (try simp) <;> omega) _))) x3
    go_wp2_with fail
    refine (szvalid_walk (subS a b) _).mono ?_
    rw [HC.out]
    rintro e w4 ⟨rfl, x4⟩
    obtain ⟨hc4, hf4⟩ := x4.rules
    obtain ⟨hz4_0, hz4_1, hz4_2⟩ : w.heap.size < w4.heap.size ∧ w.heap.size + 1 < w4.heap.size ∧ w.heap.size + 1 + 1 < w4.heap.size := by have := x4.size; (try simp at this); omega
    obtain ⟨hl4_0, hl4_1, hl4_2, hl4_3, hl4_4, hl4_5, hl4_6, hl4_7, hl4_8, hl4_9, hl4_10, hl4_11⟩ : w.heap.size < w4.heap.size + 1 ∧ w.heap.size < w4.heap.size + 1 + 1 ∧ w.heap.size < w4.heap.size + 1 + 1 + 1 ∧ w.heap.size + 1 < w4.heap.size + 1 ∧ w.heap.size + 1 < w4.heap.size + 1 + 1 ∧ w.heap.size + 1 < w4.heap.size + 1 + 1 + 1 ∧ w.heap.size + 1 + 1 < w4.heap.size + 1 ∧ w.heap.size + 1 + 1 < w4.heap.size + 1 + 1 ∧ w.heap.size + 1 + 1 < w4.heap.size + 1 + 1 + 1 ∧ ¬ w.heap.size = w4.heap.size ∧ ¬ w.heap.size + 1 = w4.heap.size ∧ ¬ w.heap.size + 1 + 1 = w4.heap.size := by omega
    have X4 : Ext w w4 := Ext.trans (by repeat (first | with_reducible exact Ext.refl _ | with_reducible assumption | with_reducible apply Ext.alloc | with_reducible apply Ext.drew | (with_reducible refine Ext.setCell ?_ (by (try simp) <;> omega) _))) x4
    go_wp2
    refine bodyPost_ret (v := .tuple #[.agg #[.int .i64 0, .int .i64 0], .int .i64 3]) (by simp [results, Tryd.results49, go_sem, *]) rfl ⟨?_, (by repeat (first | with_reducible exact Ext.refl _ | with_reducible assumption | with_reducible apply Ext.alloc | with_reducible apply Ext.drew | (with_reducible refine Ext.setCell ?_ (by (try simp) <;> omega) _)))⟩
    rw [subR_c HA.out HB.out HC.out] <;> rfl
  | true =>
    have HA := Lib.hid ha; clear ha
    have HB := Lib.hid hb; clear hb
    have HC := Lib.hid hc; clear hc
    go_enter Tryd.func49, Tryd.ntmps49
    go_wp2_with fail
    refine (szvalid_walk a _).mono ?_
    rw [HA.out]
    rintro e w1 ⟨rfl, x1⟩
    obtain ⟨hc1, hf1⟩ := x1.rules
    obtain ⟨hz1_0, hz1_1, hz1_2⟩ : w.heap.size < w1.heap.size ∧ w.heap.size + 1 < w1.heap.size ∧ w.heap.size + 1 + 1 < w1.heap.size := by have := x1.size; (try simp at this); omega
    obtain ⟨hl1_0, hl1_1, hl1_2, hl1_3, hl1_4, hl1_5, hl1_6, hl1_7, hl1_8, hl1_9, hl1_10, hl1_11⟩ : w.heap.size < w1.heap.size + 1 ∧ w.heap.size < w1.heap.size + 1 + 1 ∧ w.heap.size < w1.heap.size + 1 + 1 + 1 ∧ w.heap.size + 1 < w1.heap.size + 1 ∧ w.heap.size + 1 < w1.heap.size + 1 + 1 ∧ w.heap.size + 1 < w1.heap.size + 1 + 1 + 1 ∧ w.heap.size + 1 + 1 < w1.heap.size + 1 ∧ w.heap.size + 1 + 1 < w1.heap.size + 1 + 1 ∧ w.heap.size + 1 + 1 < w1.heap.size + 1 + 1 + 1 ∧ ¬ w.heap.size = w1.heap.size ∧ ¬ w.heap.size + 1 = w1.heap.size ∧ ¬ w.heap.size + 1 + 1 = w1.heap.size := by omega
    have X1 : Ext w w1 := Ext.trans (by repeat (first | with_reducible exact Ext.refl _ | with_reducible assumption | with_reducible apply Ext.alloc | with_reducible apply Ext.drew | (with_reducible refine Ext.setCell ?_ (by (try simp) <;> omega) _))) x1
    go_wp2_with fail
    refine (szvalid_walk b _).mono ?_
    rw [HB.out]
    rintro e w2 ⟨rfl, x2⟩
    obtain ⟨hc2, hf2⟩ := x2.rules
    obtain ⟨hz2_0, hz2_1, hz2_2⟩ : w.heap.size < w2.heap.size ∧ w.heap.size + 1 < w2.heap.size ∧ w.heap.size + 1 + 1 < w2.heap.size := by have := x2.size; (try simp at this); omega
    obtain ⟨hl2_0, hl2_1, hl2_2, hl2_3, hl2_4, hl2_5, hl2_6, hl2_7, hl2_8, hl2_9, hl2_10, hl2_11⟩ : w.heap.size < w2.heap.size + 1 ∧ w.heap.size < w2.heap.size + 1 + 1 ∧ w.heap.size < w2.heap.size + 1 + 1 + 1 ∧ w.heap.size + 1 < w2.heap.size + 1 ∧ w.heap.size + 1 < w2.heap.size + 1 + 1 ∧ w.heap.size + 1 < w2.heap.size + 1 + 1 + 1 ∧ w.heap.size + 1 + 1 < w2.heap.size + 1 ∧ w.heap.size + 1 + 1 < w2.heap.size + 1 + 1 ∧ w.heap.size + 1 + 1 < w2.heap.size + 1 + 1 + 1 ∧ ¬ w.heap.size = w2.heap.size ∧ ¬ w.heap.size + 1 = w2.heap.size ∧ ¬ w.heap.size + 1 + 1 = w2.heap.size := by omega
    have X2 : Ext w w2 := Ext.trans (by repeat (first | with_reducible exact Ext.refl _ | with_reducible assumption | with_reducible apply Ext.alloc | with_reducible apply Ext.drew | (with_reducible refine Ext.setCell ?_ (by (try simp) <;> omega) _))) x2
    go_wp2_with fail
    refine (minus_walk a b HA.out HB.out _).mono ?_
    rintro e w3 ⟨rfl, x3⟩
    obtain ⟨hc3, hf3⟩ := x3.rules
    obtain ⟨hz3_0, hz3_1, hz3_2⟩ : w.heap.size < w3.heap.size ∧ w.heap.size + 1 < w3.heap.size ∧ w.heap.size + 1 + 1 < w3.heap.size := by have := x3.size; (try simp at this); omega
    obtain ⟨hl3_0, hl3_1, hl3_2, hl3_3, hl3_4, hl3_5, hl3_6, hl3_7, hl3_8, hl3_9, hl3_10, hl3_11⟩ : w.heap.size < w3.heap.size + 1 ∧ w.heap.size < w3.heap.size + 1 + 1 ∧ w.heap.size < w3.heap.size + 1 + 1 + 1 ∧ w.heap.size + 1 < w3.heap.size + 1 ∧ w.heap.size + 1 < w3.heap.size + 1 + 1 ∧ w.heap.size + 1 < w3.heap.size + 1 + 1 + 1 ∧ w.heap.size + 1 + 1 < w3.heap.size + 1 ∧ w.heap.size + 1 + 1 < w3.heap.size + 1 + 1 ∧ w.heap.size + 1 + 1 < w3.heap.size + 1 + 1 + 1 ∧ ¬ w.heap.size = w3.heap.size ∧ ¬ w.heap.size + 1 = w3.heap.size ∧ ¬ w.heap.size + 1 + 1 = w3.heap.size := by omega
    have X3 : Ext w w3 := Ext.trans (by repeat (first | with_reducible exact Ext.refl _ | with_reducible assumption | with_reducible apply Ext.alloc | with_reducible apply Ext.drew | (with_reducible refine Ext.setCell ?_ (by (try simp) <;> omega) _))) x3
    go_wp2_with fail
    refine (szvalid_walk (subS a b) _).mono ?_
    rw [HC.out]
    rintro e w4 ⟨rfl, x4⟩
    obtain ⟨hc4, hf4⟩ := x4.rules
    obtain ⟨hz4_0, hz4_1, hz4_2⟩ : w.heap.size < w4.heap.size ∧ w.heap.size + 1 < w4.heap.size ∧ w.heap.size + 1 + 1 < w4.heap.size := by have := x4.size; (try simp at this); omega
    obtain ⟨hl4_0, hl4_1, hl4_2, hl4_3, hl4_4, hl4_5, hl4_6, hl4_7, hl4_8, hl4_9, hl4_10, hl4_11⟩ : w.heap.size < w4.heap.size + 1 ∧ w.heap.size < w4.heap.size + 1 + 1 ∧ w.heap.size < w4.heap.size + 1 + 1 + 1 ∧ w.heap.size + 1 < w4.heap.size + 1 ∧ w.heap.size + 1 < w4.heap.size + 1 + 1 ∧ w.heap.size + 1 < w4.heap.size + 1 + 1 + 1 ∧ w.heap.size + 1 + 1 < w4.heap.size + 1 ∧ w.heap.size + 1 + 1 < w4.heap.size + 1 + 1 ∧ w.heap.size + 1 + 1 < w4.heap.size + 1 + 1 + 1 ∧ ¬ w.heap.size = w4.heap.size ∧ ¬ w.heap.size + 1 = w4.heap.size ∧ ¬ w.heap.size + 1 + 1 = w4.heap.size := by omega
    have X4 : Ext w w4 := Ext.trans (by repeat (first | with_reducible exact Ext.refl _ | with_reducible assumption | with_reducible apply Ext.alloc | with_reducible apply Ext.drew | (with_reducible refine Ext.setCell ?_ (by (try simp) <;> omega) _))) x4
    go_wp2
    refine bodyPost_ret (v := .tuple #[.agg #[.int .i64 (subS a b).lo, .int .i64 (subS a b).hi], .int .i64 0]) (by simp [results, Tryd.results49, go_sem, *]) rfl ⟨?_, (by repeat (first | with_reducible exact Ext.refl _ | with_reducible assumption | with_reducible apply Ext.alloc | with_reducible apply Ext.drew | (with_reducible refine Ext.setCell ?_ (by (try simp) <;> omega) _)))⟩
    rw [subR_d HA.out HB.out HC.out] <;> rfl
end Go.Proofs.YthhkpgbfefakeaaDoor
