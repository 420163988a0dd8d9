/-
  Walks: size.Add, Sub, Cmp, Meet.
-/
import Derived.Test.YtglngmfnoganpaaDoorSzC
set_option linter.unusedVariables false
namespace Go.Proofs.YtglngmfnoganpaaDoor
open Go.RowKit Go.Sx Go.Sx.Sz

theorem cmpR_a {a b : S2} (h : szOk a = false) : cmpR a b = (0, 1) := by simp [cmpR, h]
theorem cmpR_b {a b : S2} (h : szOk b = false) : cmpR a b = (0, 1) := by simp [cmpR, h]
theorem meetR_a {a b : S2} (h : szOk a = false) : meetR a b = (zeroS, 1) := by simp [meetR, h]
theorem meetR_b {a b : S2} (h : szOk b = false) : meetR a b = (zeroS, 1) := by simp [meetR, h]

set_option maxHeartbeats 1000000 in
theorem meet_walk_0 (a b : S2) (HA : Hid (szOk a = true)) (HB : Hid (szOk b = true)) (h1 : a.lo < b.lo) (h2 : b.hi < a.hi) (h3 : b.lo ≤ b.hi) (w : World) : Calls Tryd.prog 41 #[.agg #[.int .i64 a.lo, .int .i64 a.hi], .agg #[.int .i64 b.lo, .int .i64 b.hi]] w fun e w' => e = .returned (.tuple #[.agg #[.int .i64 (meetR a b).1.lo, .int .i64 (meetR a b).1.hi], .int .i64 (meetR a b).2]) ∧ Ext w w' := by
  have HM : Hid (meetR a b = (⟨b.lo, b.hi⟩, 0)) := by
    have e : meet a b = ⟨b.lo, b.hi⟩ := by rw [meet, if_pos h1, if_pos h2]
    rw [meetR, if_pos ⟨HA.out, HB.out⟩, e]
    exact Lib.hid (if_pos h3)
  go_enter Tryd.func41, Tryd.ntmps41
  go_wp2_with fail
  refine (szvalid_walk a _).mono ?_
  rw [HA.out]
  rintro e w1 ⟨rfl, x1⟩
  obtain ⟨hc1, hf1⟩ := x1.rules
  obtain ⟨hz1_0, hz1_1, hz1_2⟩ : w.heap.size < w1.heap.size ∧ w.heap.size + 1 < w1.heap.size ∧ w.heap.size + 1 + 1 < w1.heap.size := by have := x1.size; (try simp at this); omega
  obtain ⟨hl1_0, hl1_1, hl1_2, hl1_3, hl1_4, hl1_5, hl1_6, hl1_7, hl1_8, hl1_9, hl1_10, hl1_11⟩ : w.heap.size < w1.heap.size + 1 ∧ w.heap.size < w1.heap.size + 1 + 1 ∧ w.heap.size < w1.heap.size + 1 + 1 + 1 ∧ w.heap.size + 1 < w1.heap.size + 1 ∧ w.heap.size + 1 < w1.heap.size + 1 + 1 ∧ w.heap.size + 1 < w1.heap.size + 1 + 1 + 1 ∧ w.heap.size + 1 + 1 < w1.heap.size + 1 ∧ w.heap.size + 1 + 1 < w1.heap.size + 1 + 1 ∧ w.heap.size + 1 + 1 < w1.heap.size + 1 + 1 + 1 ∧ ¬ w.heap.size = w1.heap.size ∧ ¬ w.heap.size + 1 = w1.heap.size ∧ ¬ w.heap.size + 1 + 1 = w1.heap.size := by omega
  have X1 : Ext w w1 := Ext.trans (by repeat (first | with_reducible exact Ext.refl _ | with_reducible assumption | with_reducible apply Ext.alloc | with_reducible apply Ext.drew | (with_reducible refine Ext.setCell ?_ (by (try simp) <;> omega) _))) x1
  go_wp2_with fail
  refine (szvalid_walk b _).mono ?_
  rw [HB.out]
  rintro e w2 ⟨rfl, x2⟩
  obtain ⟨hc2, hf2⟩ := x2.rules
  obtain ⟨hz2_0, hz2_1, hz2_2⟩ : w.heap.size < w2.heap.size ∧ w.heap.size + 1 < w2.heap.size ∧ w.heap.size + 1 + 1 < w2.heap.size := by have := x2.size; (try simp at this); omega
  obtain ⟨hl2_0, hl2_1, hl2_2, hl2_3, hl2_4, hl2_5, hl2_6, hl2_7, hl2_8, hl2_9, hl2_10, hl2_11⟩ : w.heap.size < w2.heap.size + 1 ∧ w.heap.size < w2.heap.size + 1 + 1 ∧ w.heap.size < w2.heap.size + 1 + 1 + 1 ∧ w.heap.size + 1 < w2.heap.size + 1 ∧ w.heap.size + 1 < w2.heap.size + 1 + 1 ∧ w.heap.size + 1 < w2.heap.size + 1 + 1 + 1 ∧ w.heap.size + 1 + 1 < w2.heap.size + 1 ∧ w.heap.size + 1 + 1 < w2.heap.size + 1 + 1 ∧ w.heap.size + 1 + 1 < w2.heap.size + 1 + 1 + 1 ∧ ¬ w.heap.size = w2.heap.size ∧ ¬ w.heap.size + 1 = w2.heap.size ∧ ¬ w.heap.size + 1 + 1 = w2.heap.size := by omega
  have X2 : Ext w w2 := Ext.trans (by repeat (first | with_reducible exact Ext.refl _ | with_reducible assumption | with_reducible apply Ext.alloc | with_reducible apply Ext.drew | (with_reducible refine Ext.setCell ?_ (by (try simp) <;> omega) _))) x2
  have hne : w.heap.size + 1 + 1 ≠ w2.heap.size := by omega
  go_wp2
  refine bodyPost_ret (v := .tuple #[.agg #[.int .i64 b.lo, .int .i64 b.hi], .int .i64 0]) (by simp [results, Tryd.results41, go_sem, *]) rfl ⟨?_, (by repeat (first | with_reducible exact Ext.refl _ | with_reducible assumption | with_reducible apply Ext.alloc | with_reducible apply Ext.drew | (with_reducible refine Ext.setCell ?_ (by (try simp) <;> omega) _)))⟩
  rw [HM.out] <;> rfl

set_option maxHeartbeats 1000000 in
theorem meet_walk_1 (a b : S2) (HA : Hid (szOk a = true)) (HB : Hid (szOk b = true)) (h1 : a.lo < b.lo) (h2 : b.hi < a.hi) (h3 : ¬ b.lo ≤ b.hi) (w : World) : Calls Tryd.prog 41 #[.agg #[.int .i64 a.lo, .int .i64 a.hi], .agg #[.int .i64 b.lo, .int .i64 b.hi]] w fun e w' => e = .returned (.tuple #[.agg #[.int .i64 (meetR a b).1.lo, .int .i64 (meetR a b).1.hi], .int .i64 (meetR a b).2]) ∧ Ext w w' := by
  have HM : Hid (meetR a b = (zeroS, 4)) := by
    have e : meet a b = ⟨b.lo, b.hi⟩ := by rw [meet, if_pos h1, if_pos h2]
    rw [meetR, if_pos ⟨HA.out, HB.out⟩, e]
    exact Lib.hid (if_neg h3)
  go_enter Tryd.func41, Tryd.ntmps41
  go_wp2_with fail
  refine (szvalid_walk a _).mono ?_
  rw [HA.out]
  rintro e w1 ⟨rfl, x1⟩
  obtain ⟨hc1, hf1⟩ := x1.rules
  obtain ⟨hz1_0, hz1_1, hz1_2⟩ : w.heap.size < w1.heap.size ∧ w.heap.size + 1 < w1.heap.size ∧ w.heap.size + 1 + 1 < w1.heap.size := by have := x1.size; (try simp at this); omega
  obtain ⟨hl1_0, hl1_1, hl1_2, hl1_3, hl1_4, hl1_5, hl1_6, hl1_7, hl1_8, hl1_9, hl1_10, hl1_11⟩ : w.heap.size < w1.heap.size + 1 ∧ w.heap.size < w1.heap.size + 1 + 1 ∧ w.heap.size < w1.heap.size + 1 + 1 + 1 ∧ w.heap.size + 1 < w1.heap.size + 1 ∧ w.heap.size + 1 < w1.heap.size + 1 + 1 ∧ w.heap.size + 1 < w1.heap.size + 1 + 1 + 1 ∧ w.heap.size + 1 + 1 < w1.heap.size + 1 ∧ w.heap.size + 1 + 1 < w1.heap.size + 1 + 1 ∧ w.heap.size + 1 + 1 < w1.heap.size + 1 + 1 + 1 ∧ ¬ w.heap.size = w1.heap.size ∧ ¬ w.heap.size + 1 = w1.heap.size ∧ ¬ w.heap.size + 1 + 1 = w1.heap.size := by omega
  have X1 : Ext w w1 := Ext.trans (by repeat (first | with_reducible exact Ext.refl _ | with_reducible assumption | with_reducible apply Ext.alloc | with_reducible apply Ext.drew | (with_reducible refine Ext.setCell ?_ (by (try simp) <;> omega) _))) x1
  go_wp2_with fail
  refine (szvalid_walk b _).mono ?_
  rw [HB.out]
  rintro e w2 ⟨rfl, x2⟩
  obtain ⟨hc2, hf2⟩ := x2.rules
  obtain ⟨hz2_0, hz2_1, hz2_2⟩ : w.heap.size < w2.heap.size ∧ w.heap.size + 1 < w2.heap.size ∧ w.heap.size + 1 + 1 < w2.heap.size := by have := x2.size; (try simp at this); omega
  obtain ⟨hl2_0, hl2_1, hl2_2, hl2_3, hl2_4, hl2_5, hl2_6, hl2_7, hl2_8, hl2_9, hl2_10, hl2_11⟩ : w.heap.size < w2.heap.size + 1 ∧ w.heap.size < w2.heap.size + 1 + 1 ∧ w.heap.size < w2.heap.size + 1 + 1 + 1 ∧ w.heap.size + 1 < w2.heap.size + 1 ∧ w.heap.size + 1 < w2.heap.size + 1 + 1 ∧ w.heap.size + 1 < w2.heap.size + 1 + 1 + 1 ∧ w.heap.size + 1 + 1 < w2.heap.size + 1 ∧ w.heap.size + 1 + 1 < w2.heap.size + 1 + 1 ∧ w.heap.size + 1 + 1 < w2.heap.size + 1 + 1 + 1 ∧ ¬ w.heap.size = w2.heap.size ∧ ¬ w.heap.size + 1 = w2.heap.size ∧ ¬ w.heap.size + 1 + 1 = w2.heap.size := by omega
  have X2 : Ext w w2 := Ext.trans (by repeat (first | with_reducible exact Ext.refl _ | with_reducible assumption | with_reducible apply Ext.alloc | with_reducible apply Ext.drew | (with_reducible refine Ext.setCell ?_ (by (try simp) <;> omega) _))) x2
  have hne : w.heap.size + 1 + 1 ≠ w2.heap.size := by omega
  go_wp2
  refine bodyPost_ret (v := .tuple #[.agg #[.int .i64 0, .int .i64 0], .int .i64 4]) (by simp [results, Tryd.results41, go_sem, *]) rfl ⟨?_, (by repeat (first | with_reducible exact Ext.refl _ | with_reducible assumption | with_reducible apply Ext.alloc | with_reducible apply Ext.drew | (with_reducible refine Ext.setCell ?_ (by (try simp) <;> omega) _)))⟩
  rw [HM.out] <;> rfl

set_option maxHeartbeats 1000000 in
theorem meet_walk_2 (a b : S2) (HA : Hid (szOk a = true)) (HB : Hid (szOk b = true)) (h1 : a.lo < b.lo) (h2 : ¬ b.hi < a.hi) (h3 : b.lo ≤ a.hi) (w : World) : Calls Tryd.prog 41 #[.agg #[.int .i64 a.lo, .int .i64 a.hi], .agg #[.int .i64 b.lo, .int .i64 b.hi]] w fun e w' => e = .returned (.tuple #[.agg #[.int .i64 (meetR a b).1.lo, .int .i64 (meetR a b).1.hi], .int .i64 (meetR a b).2]) ∧ Ext w w' := by
  have HM : Hid (meetR a b = (⟨b.lo, a.hi⟩, 0)) := by
    have e : meet a b = ⟨b.lo, a.hi⟩ := by rw [meet, if_pos h1, if_neg h2]
    rw [meetR, if_pos ⟨HA.out, HB.out⟩, e]
    exact Lib.hid (if_pos h3)
  go_enter Tryd.func41, Tryd.ntmps41
  go_wp2_with fail
  refine (szvalid_walk a _).mono ?_
  rw [HA.out]
  rintro e w1 ⟨rfl, x1⟩
  obtain ⟨hc1, hf1⟩ := x1.rules
  obtain ⟨hz1_0, hz1_1, hz1_2⟩ : w.heap.size < w1.heap.size ∧ w.heap.size + 1 < w1.heap.size ∧ w.heap.size + 1 + 1 < w1.heap.size := by have := x1.size; (try simp at this); omega
  obtain ⟨hl1_0, hl1_1, hl1_2, hl1_3, hl1_4, hl1_5, hl1_6, hl1_7, hl1_8, hl1_9, hl1_10, hl1_11⟩ : w.heap.size < w1.heap.size + 1 ∧ w.heap.size < w1.heap.size + 1 + 1 ∧ w.heap.size < w1.heap.size + 1 + 1 + 1 ∧ w.heap.size + 1 < w1.heap.size + 1 ∧ w.heap.size + 1 < w1.heap.size + 1 + 1 ∧ w.heap.size + 1 < w1.heap.size + 1 + 1 + 1 ∧ w.heap.size + 1 + 1 < w1.heap.size + 1 ∧ w.heap.size + 1 + 1 < w1.heap.size + 1 + 1 ∧ w.heap.size + 1 + 1 < w1.heap.size + 1 + 1 + 1 ∧ ¬ w.heap.size = w1.heap.size ∧ ¬ w.heap.size + 1 = w1.heap.size ∧ ¬ w.heap.size + 1 + 1 = w1.heap.size := by omega
  have X1 : Ext w w1 := Ext.trans (by repeat (first | with_reducible exact Ext.refl _ | with_reducible assumption | with_reducible apply Ext.alloc | with_reducible apply Ext.drew | (with_reducible refine Ext.setCell ?_ (by (try simp) <;> omega) _))) x1
  go_wp2_with fail
  refine (szvalid_walk b _).mono ?_
  rw [HB.out]
  rintro e w2 ⟨rfl, x2⟩
  obtain ⟨hc2, hf2⟩ := x2.rules
  obtain ⟨hz2_0, hz2_1, hz2_2⟩ : w.heap.size < w2.heap.size ∧ w.heap.size + 1 < w2.heap.size ∧ w.heap.size + 1 + 1 < w2.heap.size := by have := x2.size; (try simp at this); omega
  obtain ⟨hl2_0, hl2_1, hl2_2, hl2_3, hl2_4, hl2_5, hl2_6, hl2_7, hl2_8, hl2_9, hl2_10, hl2_11⟩ : w.heap.size < w2.heap.size + 1 ∧ w.heap.size < w2.heap.size + 1 + 1 ∧ w.heap.size < w2.heap.size + 1 + 1 + 1 ∧ w.heap.size + 1 < w2.heap.size + 1 ∧ w.heap.size + 1 < w2.heap.size + 1 + 1 ∧ w.heap.size + 1 < w2.heap.size + 1 + 1 + 1 ∧ w.heap.size + 1 + 1 < w2.heap.size + 1 ∧ w.heap.size + 1 + 1 < w2.heap.size + 1 + 1 ∧ w.heap.size + 1 + 1 < w2.heap.size + 1 + 1 + 1 ∧ ¬ w.heap.size = w2.heap.size ∧ ¬ w.heap.size + 1 = w2.heap.size ∧ ¬ w.heap.size + 1 + 1 = w2.heap.size := by omega
  have X2 : Ext w w2 := Ext.trans (by repeat (first | with_reducible exact Ext.refl _ | with_reducible assumption | with_reducible apply Ext.alloc | with_reducible apply Ext.drew | (with_reducible refine Ext.setCell ?_ (by (try simp) <;> omega) _))) x2
  have hne : w.heap.size + 1 + 1 ≠ w2.heap.size := by omega
  go_wp2
  refine bodyPost_ret (v := .tuple #[.agg #[.int .i64 b.lo, .int .i64 a.hi], .int .i64 0]) (by simp [results, Tryd.results41, go_sem, *]) rfl ⟨?_, (by repeat (first | with_reducible exact Ext.refl _ | with_reducible assumption | with_reducible apply Ext.alloc | with_reducible apply Ext.drew | (with_reducible refine Ext.setCell ?_ (by (try simp) <;> omega) _)))⟩
  rw [HM.out] <;> rfl

set_option maxHeartbeats 1000000 in
theorem meet_walk_3 (a b : S2) (HA : Hid (szOk a = true)) (HB : Hid (szOk b = true)) (h1 : a.lo < b.lo) (h2 : ¬ b.hi < a.hi) (h3 : ¬ b.lo ≤ a.hi) (w : World) : Calls Tryd.prog 41 #[.agg #[.int .i64 a.lo, .int .i64 a.hi], .agg #[.int .i64 b.lo, .int .i64 b.hi]] w fun e w' => e = .returned (.tuple #[.agg #[.int .i64 (meetR a b).1.lo, .int .i64 (meetR a b).1.hi], .int .i64 (meetR a b).2]) ∧ Ext w w' := by
  have HM : Hid (meetR a b = (zeroS, 4)) := by
    have e : meet a b = ⟨b.lo, a.hi⟩ := by rw [meet, if_pos h1, if_neg h2]
    rw [meetR, if_pos ⟨HA.out, HB.out⟩, e]
    exact Lib.hid (if_neg h3)
  go_enter Tryd.func41, Tryd.ntmps41
  go_wp2_with fail
  refine (szvalid_walk a _).mono ?_
  rw [HA.out]
  rintro e w1 ⟨rfl, x1⟩
  obtain ⟨hc1, hf1⟩ := x1.rules
  obtain ⟨hz1_0, hz1_1, hz1_2⟩ : w.heap.size < w1.heap.size ∧ w.heap.size + 1 < w1.heap.size ∧ w.heap.size + 1 + 1 < w1.heap.size := by have := x1.size; (try simp at this); omega
  obtain ⟨hl1_0, hl1_1, hl1_2, hl1_3, hl1_4, hl1_5, hl1_6, hl1_7, hl1_8, hl1_9, hl1_10, hl1_11⟩ : w.heap.size < w1.heap.size + 1 ∧ w.heap.size < w1.heap.size + 1 + 1 ∧ w.heap.size < w1.heap.size + 1 + 1 + 1 ∧ w.heap.size + 1 < w1.heap.size + 1 ∧ w.heap.size + 1 < w1.heap.size + 1 + 1 ∧ w.heap.size + 1 < w1.heap.size + 1 + 1 + 1 ∧ w.heap.size + 1 + 1 < w1.heap.size + 1 ∧ w.heap.size + 1 + 1 < w1.heap.size + 1 + 1 ∧ w.heap.size + 1 + 1 < w1.heap.size + 1 + 1 + 1 ∧ ¬ w.heap.size = w1.heap.size ∧ ¬ w.heap.size + 1 = w1.heap.size ∧ ¬ w.heap.size + 1 + 1 = w1.heap.size := by omega
  have X1 : Ext w w1 := Ext.trans (by repeat (first | with_reducible exact Ext.refl _ | with_reducible assumption | with_reducible apply Ext.alloc | with_reducible apply Ext.drew | (with_reducible refine Ext.setCell ?_ (by (try simp) <;> omega) _))) x1
  go_wp2_with fail
  refine (szvalid_walk b _).mono ?_
  rw [HB.out]
  rintro e w2 ⟨rfl, x2⟩
  obtain ⟨hc2, hf2⟩ := x2.rules
  obtain ⟨hz2_0, hz2_1, hz2_2⟩ : w.heap.size < w2.heap.size ∧ w.heap.size + 1 < w2.heap.size ∧ w.heap.size + 1 + 1 < w2.heap.size := by have := x2.size; (try simp at this); omega
  obtain ⟨hl2_0, hl2_1, hl2_2, hl2_3, hl2_4, hl2_5, hl2_6, hl2_7, hl2_8, hl2_9, hl2_10, hl2_11⟩ : w.heap.size < w2.heap.size + 1 ∧ w.heap.size < w2.heap.size + 1 + 1 ∧ w.heap.size < w2.heap.size + 1 + 1 + 1 ∧ w.heap.size + 1 < w2.heap.size + 1 ∧ w.heap.size + 1 < w2.heap.size + 1 + 1 ∧ w.heap.size + 1 < w2.heap.size + 1 + 1 + 1 ∧ w.heap.size + 1 + 1 < w2.heap.size + 1 ∧ w.heap.size + 1 + 1 < w2.heap.size + 1 + 1 ∧ w.heap.size + 1 + 1 < w2.heap.size + 1 + 1 + 1 ∧ ¬ w.heap.size = w2.heap.size ∧ ¬ w.heap.size + 1 = w2.heap.size ∧ ¬ w.heap.size + 1 + 1 = w2.heap.size := by omega
  have X2 : Ext w w2 := Ext.trans (by repeat (first | with_reducible exact Ext.refl _ | with_reducible assumption | with_reducible apply Ext.alloc | with_reducible apply Ext.drew | (with_reducible refine Ext.setCell ?_ (by (try simp) <;> omega) _))) x2
  have hne : w.heap.size + 1 + 1 ≠ w2.heap.size := by omega
  go_wp2
  refine bodyPost_ret (v := .tuple #[.agg #[.int .i64 0, .int .i64 0], .int .i64 4]) (by simp [results, Tryd.results41, go_sem, *]) rfl ⟨?_, (by repeat (first | with_reducible exact Ext.refl _ | with_reducible assumption | with_reducible apply Ext.alloc | with_reducible apply Ext.drew | (with_reducible refine Ext.setCell ?_ (by (try simp) <;> omega) _)))⟩
  rw [HM.out] <;> rfl

set_option maxHeartbeats 1000000 in
theorem meet_walk_4 (a b : S2) (HA : Hid (szOk a = true)) (HB : Hid (szOk b = true)) (h1 : ¬ a.lo < b.lo) (h2 : b.hi < a.hi) (h3 : a.lo ≤ b.hi) (w : World) : Calls Tryd.prog 41 #[.agg #[.int .i64 a.lo, .int .i64 a.hi], .agg #[.int .i64 b.lo, .int .i64 b.hi]] w fun e w' => e = .returned (.tuple #[.agg #[.int .i64 (meetR a b).1.lo, .int .i64 (meetR a b).1.hi], .int .i64 (meetR a b).2]) ∧ Ext w w' := by
  have HM : Hid (meetR a b = (⟨a.lo, b.hi⟩, 0)) := by
    have e : meet a b = ⟨a.lo, b.hi⟩ := by rw [meet, if_neg h1, if_pos h2]
    rw [meetR, if_pos ⟨HA.out, HB.out⟩, e]
    exact Lib.hid (if_pos h3)
  go_enter Tryd.func41, Tryd.ntmps41
  go_wp2_with fail
  refine (szvalid_walk a _).mono ?_
  rw [HA.out]
  rintro e w1 ⟨rfl, x1⟩
  obtain ⟨hc1, hf1⟩ := x1.rules
  obtain ⟨hz1_0, hz1_1, hz1_2⟩ : w.heap.size < w1.heap.size ∧ w.heap.size + 1 < w1.heap.size ∧ w.heap.size + 1 + 1 < w1.heap.size := by have := x1.size; (try simp at this); omega
  obtain ⟨hl1_0, hl1_1, hl1_2, hl1_3, hl1_4, hl1_5, hl1_6, hl1_7, hl1_8, hl1_9, hl1_10, hl1_11⟩ : w.heap.size < w1.heap.size + 1 ∧ w.heap.size < w1.heap.size + 1 + 1 ∧ w.heap.size < w1.heap.size + 1 + 1 + 1 ∧ w.heap.size + 1 < w1.heap.size + 1 ∧ w.heap.size + 1 < w1.heap.size + 1 + 1 ∧ w.heap.size + 1 < w1.heap.size + 1 + 1 + 1 ∧ w.heap.size + 1 + 1 < w1.heap.size + 1 ∧ w.heap.size + 1 + 1 < w1.heap.size + 1 + 1 ∧ w.heap.size + 1 + 1 < w1.heap.size + 1 + 1 + 1 ∧ ¬ w.heap.size = w1.heap.size ∧ ¬ w.heap.size + 1 = w1.heap.size ∧ ¬ w.heap.size + 1 + 1 = w1.heap.size := by omega
  have X1 : Ext w w1 := Ext.trans (by repeat (first | with_reducible exact Ext.refl _ | with_reducible assumption | with_reducible apply Ext.alloc | with_reducible apply Ext.drew | (with_reducible refine Ext.setCell ?_ (by (try simp) <;> omega) _))) x1
  go_wp2_with fail
  refine (szvalid_walk b _).mono ?_
  rw [HB.out]
  rintro e w2 ⟨rfl, x2⟩
  obtain ⟨hc2, hf2⟩ := x2.rules
  obtain ⟨hz2_0, hz2_1, hz2_2⟩ : w.heap.size < w2.heap.size ∧ w.heap.size + 1 < w2.heap.size ∧ w.heap.size + 1 + 1 < w2.heap.size := by have := x2.size; (try simp at this); omega
  obtain ⟨hl2_0, hl2_1, hl2_2, hl2_3, hl2_4, hl2_5, hl2_6, hl2_7, hl2_8, hl2_9, hl2_10, hl2_11⟩ : w.heap.size < w2.heap.size + 1 ∧ w.heap.size < w2.heap.size + 1 + 1 ∧ w.heap.size < w2.heap.size + 1 + 1 + 1 ∧ w.heap.size + 1 < w2.heap.size + 1 ∧ w.heap.size + 1 < w2.heap.size + 1 + 1 ∧ w.heap.size + 1 < w2.heap.size + 1 + 1 + 1 ∧ w.heap.size + 1 + 1 < w2.heap.size + 1 ∧ w.heap.size + 1 + 1 < w2.heap.size + 1 + 1 ∧ w.heap.size + 1 + 1 < w2.heap.size + 1 + 1 + 1 ∧ ¬ w.heap.size = w2.heap.size ∧ ¬ w.heap.size + 1 = w2.heap.size ∧ ¬ w.heap.size + 1 + 1 = w2.heap.size := by omega
  have X2 : Ext w w2 := Ext.trans (by repeat (first | with_reducible exact Ext.refl _ | with_reducible assumption | with_reducible apply Ext.alloc | with_reducible apply Ext.drew | (with_reducible refine Ext.setCell ?_ (by (try simp) <;> omega) _))) x2
  have hne : w.heap.size + 1 + 1 ≠ w2.heap.size := by omega
  go_wp2
  refine bodyPost_ret (v := .tuple #[.agg #[.int .i64 a.lo, .int .i64 b.hi], .int .i64 0]) (by simp [results, Tryd.results41, go_sem, *]) rfl ⟨?_, (by repeat (first | with_reducible exact Ext.refl _ | with_reducible assumption | with_reducible apply Ext.alloc | with_reducible apply Ext.drew | (with_reducible refine Ext.setCell ?_ (by (try simp) <;> omega) _)))⟩
  rw [HM.out] <;> rfl

set_option maxHeartbeats 1000000 in
theorem meet_walk_5 (a b : S2) (HA : Hid (szOk a = true)) (HB : Hid (szOk b = true)) (h1 : ¬ a.lo < b.lo) (h2 : b.hi < a.hi) (h3 : ¬ a.lo ≤ b.hi) (w : World) : Calls Tryd.prog 41 #[.agg #[.int .i64 a.lo, .int .i64 a.hi], .agg #[.int .i64 b.lo, .int .i64 b.hi]] w fun e w' => e = .returned (.tuple #[.agg #[.int .i64 (meetR a b).1.lo, .int .i64 (meetR a b).1.hi], .int .i64 (meetR a b).2]) ∧ Ext w w' := by
  have HM : Hid (meetR a b = (zeroS, 4)) := by
    have e : meet a b = ⟨a.lo, b.hi⟩ := by rw [meet, if_neg h1, if_pos h2]
    rw [meetR, if_pos ⟨HA.out, HB.out⟩, e]
    exact Lib.hid (if_neg h3)
  go_enter Tryd.func41, Tryd.ntmps41
  go_wp2_with fail
  refine (szvalid_walk a _).mono ?_
  rw [HA.out]
  rintro e w1 ⟨rfl, x1⟩
  obtain ⟨hc1, hf1⟩ := x1.rules
  obtain ⟨hz1_0, hz1_1, hz1_2⟩ : w.heap.size < w1.heap.size ∧ w.heap.size + 1 < w1.heap.size ∧ w.heap.size + 1 + 1 < w1.heap.size := by have := x1.size; (try simp at this); omega
  obtain ⟨hl1_0, hl1_1, hl1_2, hl1_3, hl1_4, hl1_5, hl1_6, hl1_7, hl1_8, hl1_9, hl1_10, hl1_11⟩ : w.heap.size < w1.heap.size + 1 ∧ w.heap.size < w1.heap.size + 1 + 1 ∧ w.heap.size < w1.heap.size + 1 + 1 + 1 ∧ w.heap.size + 1 < w1.heap.size + 1 ∧ w.heap.size + 1 < w1.heap.size + 1 + 1 ∧ w.heap.size + 1 < w1.heap.size + 1 + 1 + 1 ∧ w.heap.size + 1 + 1 < w1.heap.size + 1 ∧ w.heap.size + 1 + 1 < w1.heap.size + 1 + 1 ∧ w.heap.size + 1 + 1 < w1.heap.size + 1 + 1 + 1 ∧ ¬ w.heap.size = w1.heap.size ∧ ¬ w.heap.size + 1 = w1.heap.size ∧ ¬ w.heap.size + 1 + 1 = w1.heap.size := by omega
  have X1 : Ext w w1 := Ext.trans (by repeat (first | with_reducible exact Ext.refl _ | with_reducible assumption | with_reducible apply Ext.alloc | with_reducible apply Ext.drew | (with_reducible refine Ext.setCell ?_ (by (try simp) <;> omega) _))) x1
  go_wp2_with fail
  refine (szvalid_walk b _).mono ?_
  rw [HB.out]
  rintro e w2 ⟨rfl, x2⟩
  obtain ⟨hc2, hf2⟩ := x2.rules
  obtain ⟨hz2_0, hz2_1, hz2_2⟩ : w.heap.size < w2.heap.size ∧ w.heap.size + 1 < w2.heap.size ∧ w.heap.size + 1 + 1 < w2.heap.size := by have := x2.size; (try simp at this); omega
  obtain ⟨hl2_0, hl2_1, hl2_2, hl2_3, hl2_4, hl2_5, hl2_6, hl2_7, hl2_8, hl2_9, hl2_10, hl2_11⟩ : w.heap.size < w2.heap.size + 1 ∧ w.heap.size < w2.heap.size + 1 + 1 ∧ w.heap.size < w2.heap.size + 1 + 1 + 1 ∧ w.heap.size + 1 < w2.heap.size + 1 ∧ w.heap.size + 1 < w2.heap.size + 1 + 1 ∧ w.heap.size + 1 < w2.heap.size + 1 + 1 + 1 ∧ w.heap.size + 1 + 1 < w2.heap.size + 1 ∧ w.heap.size + 1 + 1 < w2.heap.size + 1 + 1 ∧ w.heap.size + 1 + 1 < w2.heap.size + 1 + 1 + 1 ∧ ¬ w.heap.size = w2.heap.size ∧ ¬ w.heap.size + 1 = w2.heap.size ∧ ¬ w.heap.size + 1 + 1 = w2.heap.size := by omega
  have X2 : Ext w w2 := Ext.trans (by repeat (first | with_reducible exact Ext.refl _ | with_reducible assumption | with_reducible apply Ext.alloc | with_reducible apply Ext.drew | (with_reducible refine Ext.setCell ?_ (by (try simp) <;> omega) _))) x2
  have hne : w.heap.size + 1 + 1 ≠ w2.heap.size := by omega
  go_wp2
  refine bodyPost_ret (v := .tuple #[.agg #[.int .i64 0, .int .i64 0], .int .i64 4]) (by simp [results, Tryd.results41, go_sem, *]) rfl ⟨?_, (by repeat (first | with_reducible exact Ext.refl _ | with_reducible assumption | with_reducible apply Ext.alloc | with_reducible apply Ext.drew | (with_reducible refine Ext.setCell ?_ (by (try simp) <;> omega) _)))⟩
  rw [HM.out] <;> rfl

set_option maxHeartbeats 1000000 in
theorem meet_walk_6 (a b : S2) (HA : Hid (szOk a = true)) (HB : Hid (szOk b = true)) (h1 : ¬ a.lo < b.lo) (h2 : ¬ b.hi < a.hi) (h3 : a.lo ≤ a.hi) (w : World) : Calls Tryd.prog 41 #[.agg #[.int .i64 a.lo, .int .i64 a.hi], .agg #[.int .i64 b.lo, .int .i64 b.hi]] w fun e w' => e = .returned (.tuple #[.agg #[.int .i64 (meetR a b).1.lo, .int .i64 (meetR a b).1.hi], .int .i64 (meetR a b).2]) ∧ Ext w w' := by
  have HM : Hid (meetR a b = (⟨a.lo, a.hi⟩, 0)) := by
    have e : meet a b = ⟨a.lo, a.hi⟩ := by rw [meet, if_neg h1, if_neg h2]
    rw [meetR, if_pos ⟨HA.out, HB.out⟩, e]
    exact Lib.hid (if_pos h3)
  go_enter Tryd.func41, Tryd.ntmps41
  go_wp2_with fail
  refine (szvalid_walk a _).mono ?_
  rw [HA.out]
  rintro e w1 ⟨rfl, x1⟩
  obtain ⟨hc1, hf1⟩ := x1.rules
  obtain ⟨hz1_0, hz1_1, hz1_2⟩ : w.heap.size < w1.heap.size ∧ w.heap.size + 1 < w1.heap.size ∧ w.heap.size + 1 + 1 < w1.heap.size := by have := x1.size; (try simp at this); omega
  obtain ⟨hl1_0, hl1_1, hl1_2, hl1_3, hl1_4, hl1_5, hl1_6, hl1_7, hl1_8, hl1_9, hl1_10, hl1_11⟩ : w.heap.size < w1.heap.size + 1 ∧ w.heap.size < w1.heap.size + 1 + 1 ∧ w.heap.size < w1.heap.size + 1 + 1 + 1 ∧ w.heap.size + 1 < w1.heap.size + 1 ∧ w.heap.size + 1 < w1.heap.size + 1 + 1 ∧ w.heap.size + 1 < w1.heap.size + 1 + 1 + 1 ∧ w.heap.size + 1 + 1 < w1.heap.size + 1 ∧ w.heap.size + 1 + 1 < w1.heap.size + 1 + 1 ∧ w.heap.size + 1 + 1 < w1.heap.size + 1 + 1 + 1 ∧ ¬ w.heap.size = w1.heap.size ∧ ¬ w.heap.size + 1 = w1.heap.size ∧ ¬ w.heap.size + 1 + 1 = w1.heap.size := by omega
  have X1 : Ext w w1 := Ext.trans (by repeat (first | with_reducible exact Ext.refl _ | with_reducible assumption | with_reducible apply Ext.alloc | with_reducible apply Ext.drew | (with_reducible refine Ext.setCell ?_ (by (try simp) <;> omega) _))) x1
  go_wp2_with fail
  refine (szvalid_walk b _).mono ?_
  rw [HB.out]
  rintro e w2 ⟨rfl, x2⟩
  obtain ⟨hc2, hf2⟩ := x2.rules
  obtain ⟨hz2_0, hz2_1, hz2_2⟩ : w.heap.size < w2.heap.size ∧ w.heap.size + 1 < w2.heap.size ∧ w.heap.size + 1 + 1 < w2.heap.size := by have := x2.size; (try simp at this); omega
  obtain ⟨hl2_0, hl2_1, hl2_2, hl2_3, hl2_4, hl2_5, hl2_6, hl2_7, hl2_8, hl2_9, hl2_10, hl2_11⟩ : w.heap.size < w2.heap.size + 1 ∧ w.heap.size < w2.heap.size + 1 + 1 ∧ w.heap.size < w2.heap.size + 1 + 1 + 1 ∧ w.heap.size + 1 < w2.heap.size + 1 ∧ w.heap.size + 1 < w2.heap.size + 1 + 1 ∧ w.heap.size + 1 < w2.heap.size + 1 + 1 + 1 ∧ w.heap.size + 1 + 1 < w2.heap.size + 1 ∧ w.heap.size + 1 + 1 < w2.heap.size + 1 + 1 ∧ w.heap.size + 1 + 1 < w2.heap.size + 1 + 1 + 1 ∧ ¬ w.heap.size = w2.heap.size ∧ ¬ w.heap.size + 1 = w2.heap.size ∧ ¬ w.heap.size + 1 + 1 = w2.heap.size := by omega
  have X2 : Ext w w2 := Ext.trans (by repeat (first | with_reducible exact Ext.refl _ | with_reducible assumption | with_reducible apply Ext.alloc | with_reducible apply Ext.drew | (with_reducible refine Ext.setCell ?_ (by (try simp) <;> omega) _))) x2
  have hne : w.heap.size + 1 + 1 ≠ w2.heap.size := by omega
  go_wp2
  refine bodyPost_ret (v := .tuple #[.agg #[.int .i64 a.lo, .int .i64 a.hi], .int .i64 0]) (by simp [results, Tryd.results41, go_sem, *]) rfl ⟨?_, (by repeat (first | with_reducible exact Ext.refl _ | with_reducible assumption | with_reducible apply Ext.alloc | with_reducible apply Ext.drew | (with_reducible refine Ext.setCell ?_ (by (try simp) <;> omega) _)))⟩
  rw [HM.out] <;> rfl

set_option maxHeartbeats 1000000 in
theorem meet_walk_7 (a b : S2) (HA : Hid (szOk a = true)) (HB : Hid (szOk b = true)) (h1 : ¬ a.lo < b.lo) (h2 : ¬ b.hi < a.hi) (h3 : ¬ a.lo ≤ a.hi) (w : World) : Calls Tryd.prog 41 #[.agg #[.int .i64 a.lo, .int .i64 a.hi], .agg #[.int .i64 b.lo, .int .i64 b.hi]] w fun e w' => e = .returned (.tuple #[.agg #[.int .i64 (meetR a b).1.lo, .int .i64 (meetR a b).1.hi], .int .i64 (meetR a b).2]) ∧ Ext w w' := by
  have HM : Hid (meetR a b = (zeroS, 4)) := by
    have e : meet a b = ⟨a.lo, a.hi⟩ := by rw [meet, if_neg h1, if_neg h2]
    rw [meetR, if_pos ⟨HA.out, HB.out⟩, e]
    exact Lib.hid (if_neg h3)
  go_enter Tryd.func41, Tryd.ntmps41
  go_wp2_with fail
  refine (szvalid_walk a _).mono ?_
  rw [HA.out]
  rintro e w1 ⟨rfl, x1⟩
  obtain ⟨hc1, hf1⟩ := x1.rules
  obtain ⟨hz1_0, hz1_1, hz1_2⟩ : w.heap.size < w1.heap.size ∧ w.heap.size + 1 < w1.heap.size ∧ w.heap.size + 1 + 1 < w1.heap.size := by have := x1.size; (try simp at this); omega
  obtain ⟨hl1_0, hl1_1, hl1_2, hl1_3, hl1_4, hl1_5, hl1_6, hl1_7, hl1_8, hl1_9, hl1_10, hl1_11⟩ : w.heap.size < w1.heap.size + 1 ∧ w.heap.size < w1.heap.size + 1 + 1 ∧ w.heap.size < w1.heap.size + 1 + 1 + 1 ∧ w.heap.size + 1 < w1.heap.size + 1 ∧ w.heap.size + 1 < w1.heap.size + 1 + 1 ∧ w.heap.size + 1 < w1.heap.size + 1 + 1 + 1 ∧ w.heap.size + 1 + 1 < w1.heap.size + 1 ∧ w.heap.size + 1 + 1 < w1.heap.size + 1 + 1 ∧ w.heap.size + 1 + 1 < w1.heap.size + 1 + 1 + 1 ∧ ¬ w.heap.size = w1.heap.size ∧ ¬ w.heap.size + 1 = w1.heap.size ∧ ¬ w.heap.size + 1 + 1 = w1.heap.size := by omega
  have X1 : Ext w w1 := Ext.trans (by repeat (first | with_reducible exact Ext.refl _ | with_reducible assumption | with_reducible apply Ext.alloc | with_reducible apply Ext.drew | (with_reducible refine Ext.setCell ?_ (by (try simp) <;> omega) _))) x1
  go_wp2_with fail
  refine (szvalid_walk b _).mono ?_
  rw [HB.out]
  rintro e w2 ⟨rfl, x2⟩
  obtain ⟨hc2, hf2⟩ := x2.rules
  obtain ⟨hz2_0, hz2_1, hz2_2⟩ : w.heap.size < w2.heap.size ∧ w.heap.size + 1 < w2.heap.size ∧ w.heap.size + 1 + 1 < w2.heap.size := by have := x2.size; (try simp at this); omega
  obtain ⟨hl2_0, hl2_1, hl2_2, hl2_3, hl2_4, hl2_5, hl2_6, hl2_7, hl2_8, hl2_9, hl2_10, hl2_11⟩ : w.heap.size < w2.heap.size + 1 ∧ w.heap.size < w2.heap.size + 1 + 1 ∧ w.heap.size < w2.heap.size + 1 + 1 + 1 ∧ w.heap.size + 1 < w2.heap.size + 1 ∧ w.heap.size + 1 < w2.heap.size + 1 + 1 ∧ w.heap.size + 1 < w2.heap.size + 1 + 1 + 1 ∧ w.heap.size + 1 + 1 < w2.heap.size + 1 ∧ w.heap.size + 1 + 1 < w2.heap.size + 1 + 1 ∧ w.heap.size + 1 + 1 < w2.heap.size + 1 + 1 + 1 ∧ ¬ w.heap.size = w2.heap.size ∧ ¬ w.heap.size + 1 = w2.heap.size ∧ ¬ w.heap.size + 1 + 1 = w2.heap.size := by omega
  have X2 : Ext w w2 := Ext.trans (by repeat (first | with_reducible exact Ext.refl _ | with_reducible assumption | with_reducible apply Ext.alloc | with_reducible apply Ext.drew | (with_reducible refine Ext.setCell ?_ (by (try simp) <;> omega) _))) x2
  have hne : w.heap.size + 1 + 1 ≠ w2.heap.size := by omega
  go_wp2
  refine bodyPost_ret (v := .tuple #[.agg #[.int .i64 0, .int .i64 0], .int .i64 4]) (by simp [results, Tryd.results41, go_sem, *]) rfl ⟨?_, (by repeat (first | with_reducible exact Ext.refl _ | with_reducible assumption | with_reducible apply Ext.alloc | with_reducible apply Ext.drew | (with_reducible refine Ext.setCell ?_ (by (try simp) <;> omega) _)))⟩
  rw [HM.out] <;> rfl

set_option maxHeartbeats 2000000 in
theorem meet_walk (a b : S2) (w : World) : Calls Tryd.prog 41 #[.agg #[.int .i64 a.lo, .int .i64 a.hi], .agg #[.int .i64 b.lo, .int .i64 b.hi]] w fun e w' => e = .returned (.tuple #[.agg #[.int .i64 (meetR a b).1.lo, .int .i64 (meetR a b).1.hi], .int .i64 (meetR a b).2]) ∧ Ext w w' := by
  cases ha : szOk a with
  | false =>
    have HA := Lib.hid ha; clear ha
    go_enter Tryd.func41, Tryd.ntmps41
    go_wp2_with fail
    refine (szvalid_walk a _).mono ?_
    rw [HA.out]
    rintro e w1 ⟨rfl, x1⟩
    obtain ⟨hc1, hf1⟩ := x1.rules
    obtain ⟨hz1_0, hz1_1, hz1_2⟩ : w.heap.size < w1.heap.size ∧ w.heap.size + 1 < w1.heap.size ∧ w.heap.size + 1 + 1 < w1.heap.size := by have := x1.size; (try simp at this); omega
    obtain ⟨hl1_0, hl1_1, hl1_2, hl1_3, hl1_4, hl1_5, hl1_6, hl1_7, hl1_8, hl1_9, hl1_10, hl1_11⟩ : w.heap.size < w1.heap.size + 1 ∧ w.heap.size < w1.heap.size + 1 + 1 ∧ w.heap.size < w1.heap.size + 1 + 1 + 1 ∧ w.heap.size + 1 < w1.heap.size + 1 ∧ w.heap.size + 1 < w1.heap.size + 1 + 1 ∧ w.heap.size + 1 < w1.heap.size + 1 + 1 + 1 ∧ w.heap.size + 1 + 1 < w1.heap.size + 1 ∧ w.heap.size + 1 + 1 < w1.heap.size + 1 + 1 ∧ w.heap.size + 1 + 1 < w1.heap.size + 1 + 1 + 1 ∧ ¬ w.heap.size = w1.heap.size ∧ ¬ w.heap.size + 1 = w1.heap.size ∧ ¬ w.heap.size + 1 + 1 = w1.heap.size := by omega
    have X1 : Ext w w1 := Ext.trans (by repeat (first | with_reducible exact Ext.refl _ | with_reducible assumption | with_reducible apply Ext.alloc | with_reducible apply Ext.drew | (with_reducible refine Ext.setCell ?_ (by (try simp) <;> omega) _))) x1
    go_wp2
    refine bodyPost_ret (v := .tuple #[.agg #[.int .i64 0, .int .i64 0], .int .i64 1]) (by simp [results, Tryd.results41, go_sem, *]) rfl ⟨?_, (by repeat (first | with_reducible exact Ext.refl _ | with_reducible assumption | with_reducible apply Ext.alloc | with_reducible apply Ext.drew | (with_reducible refine Ext.setCell ?_ (by (try simp) <;> omega) _)))⟩
    rw [meetR_a HA.out] <;> rfl
  | true =>
  cases hb : szOk b with
  | false =>
    have HA := Lib.hid ha; clear ha
    have HB := Lib.hid hb; clear hb
    go_enter Tryd.func41, Tryd.ntmps41
    go_wp2_with fail
    refine (szvalid_walk a _).mono ?_
    rw [HA.out]
    rintro e w1 ⟨rfl, x1⟩
    obtain ⟨hc1, hf1⟩ := x1.rules
    obtain ⟨hz1_0, hz1_1, hz1_2⟩ : w.heap.size < w1.heap.size ∧ w.heap.size + 1 < w1.heap.size ∧ w.heap.size + 1 + 1 < w1.heap.size := by have := x1.size; (try simp at this); omega
    obtain ⟨hl1_0, hl1_1, hl1_2, hl1_3, hl1_4, hl1_5, hl1_6, hl1_7, hl1_8, hl1_9, hl1_10, hl1_11⟩ : w.heap.size < w1.heap.size + 1 ∧ w.heap.size < w1.heap.size + 1 + 1 ∧ w.heap.size < w1.heap.size + 1 + 1 + 1 ∧ w.heap.size + 1 < w1.heap.size + 1 ∧ w.heap.size + 1 < w1.heap.size + 1 + 1 ∧ w.heap.size + 1 < w1.heap.size + 1 + 1 + 1 ∧ w.heap.size + 1 + 1 < w1.heap.size + 1 ∧ w.heap.size + 1 + 1 < w1.heap.size + 1 + 1 ∧ w.heap.size + 1 + 1 < w1.heap.size + 1 + 1 + 1 ∧ ¬ w.heap.size = w1.heap.size ∧ ¬ w.heap.size + 1 = w1.heap.size ∧ ¬ w.heap.size + 1 + 1 = w1.heap.size := by omega
    have X1 : Ext w w1 := Ext.trans (by repeat (first | with_reducible exact Ext.refl _ | with_reducible assumption | with_reducible apply Ext.alloc | with_reducible apply Ext.drew | (with_reducible refine Ext.setCell ?_ (by (try simp) <;> omega) _))) x1
    go_wp2_with fail
    refine (szvalid_walk b _).mono ?_
    rw [HB.out]
    rintro e w2 ⟨rfl, x2⟩
    obtain ⟨hc2, hf2⟩ := x2.rules
    obtain ⟨hz2_0, hz2_1, hz2_2⟩ : w.heap.size < w2.heap.size ∧ w.heap.size + 1 < w2.heap.size ∧ w.heap.size + 1 + 1 < w2.heap.size := by have := x2.size; (try simp at this); omega
    obtain ⟨hl2_0, hl2_1, hl2_2, hl2_3, hl2_4, hl2_5, hl2_6, hl2_7, hl2_8, hl2_9, hl2_10, hl2_11⟩ : w.heap.size < w2.heap.size + 1 ∧ w.heap.size < w2.heap.size + 1 + 1 ∧ w.heap.size < w2.heap.size + 1 + 1 + 1 ∧ w.heap.size + 1 < w2.heap.size + 1 ∧ w.heap.size + 1 < w2.heap.size + 1 + 1 ∧ w.heap.size + 1 < w2.heap.size + 1 + 1 + 1 ∧ w.heap.size + 1 + 1 < w2.heap.size + 1 ∧ w.heap.size + 1 + 1 < w2.heap.size + 1 + 1 ∧ w.heap.size + 1 + 1 < w2.heap.size + 1 + 1 + 1 ∧ ¬ w.heap.size = w2.heap.size ∧ ¬ w.heap.size + 1 = w2.heap.size ∧ ¬ w.heap.size + 1 + 1 = w2.heap.size := by omega
    have X2 : Ext w w2 := Ext.trans (by repeat (first | with_reducible exact Ext.refl _ | with_reducible assumption | with_reducible apply Ext.alloc | with_reducible apply Ext.drew | (with_reducible refine Ext.setCell ?_ (by (try simp) <;> omega) _))) x2
    go_wp2
    refine bodyPost_ret (v := .tuple #[.agg #[.int .i64 0, .int .i64 0], .int .i64 1]) (by simp [results, Tryd.results41, go_sem, *]) rfl ⟨?_, (by repeat (first | with_reducible exact Ext.refl _ | with_reducible assumption | with_reducible apply Ext.alloc | with_reducible apply Ext.drew | (with_reducible refine Ext.setCell ?_ (by (try simp) <;> omega) _)))⟩
    rw [meetR_b HB.out] <;> rfl
  | true =>
    have HA := Lib.hid ha; clear ha
    have HB := Lib.hid hb; clear hb
    by_cases h1 : a.lo < b.lo <;> by_cases h2 : b.hi < a.hi
    · by_cases h3 : b.lo ≤ b.hi
      · exact meet_walk_0 a b HA HB h1 h2 h3 w
      · exact meet_walk_1 a b HA HB h1 h2 h3 w
    · by_cases h3 : b.lo ≤ a.hi
      · exact meet_walk_2 a b HA HB h1 h2 h3 w
      · exact meet_walk_3 a b HA HB h1 h2 h3 w
    · by_cases h3 : a.lo ≤ b.hi
      · exact meet_walk_4 a b HA HB h1 h2 h3 w
      · exact meet_walk_5 a b HA HB h1 h2 h3 w
    · by_cases h3 : a.lo ≤ a.hi
      · exact meet_walk_6 a b HA HB h1 h2 h3 w
      · exact meet_walk_7 a b HA HB h1 h2 h3 w
end Go.Proofs.YtglngmfnoganpaaDoor
