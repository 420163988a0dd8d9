/-
  Walks: partial.everything, harmonic, Root.
-/
import Derived.Test.YtkckingkocacjaaDoorLibM
import Derived.Test.YtkckingkocacjaaDoorSzE
import Derived.Test.YtkckingkocacjaaDoorPaM
set_option linter.unusedVariables false
namespace Go.Proofs.YtkckingkocacjaaDoor
open Go.RowKit Go.Sx Go.Sx.Sz

set_option maxHeartbeats 400000 in
theorem every_walk (w : World) : Calls Tryd.prog 71 #[] w fun e w' => e = .returned (.agg #[.int .i64 everything.lo, .int .i64 everything.hi]) ∧ Ext w w' := by
  go_enter Tryd.func71, Tryd.ntmps71
  go_wp2
  refine bodyPost_ret (v := .agg #[.int .i64 (-100000000000000), .int .i64 100000000000000]) (by simp [results, Tryd.results71, go_sem, *]) rfl ⟨?_, (by repeat (first | with_reducible exact Ext.refl _ | with_reducible assumption | with_reducible apply Ext.alloc | with_reducible apply Ext.drew | (with_reducible refine Ext.setCell ?_ (by (try simp) <;> omega) _)))⟩
  rfl

set_option maxHeartbeats 2000000 in
theorem harm_yes (n : Int) (h1 : 1 ≤ n) (h2 : n ≤ 16) (w : World) (G : Gv 0 1 w) : Calls Tryd.prog 69 #[.int .i64 n] w fun e w' => e = .returned (.tuple #[.agg #[.int .i64 (harmS n).lo, .int .i64 (harmS n).hi], .bool true]) ∧ Ext w w' := by
  go_enter Tryd.func69, Tryd.ntmps69
  go_wp2
  go_loop [11] (fun i => ∃ k : Nat, (k : Int) < n ∧ i = .int .i64 k) (fun i => 16 - (intOf i).toNat)
  case atStart => exact ⟨0, by omega, rfl⟩
  case round =>
    obtain ⟨k, hk, rfl⟩ := hrel
    by_cases he : (k : Int) + 1 = n
    · have hb : ((k : Int) + 1 != n) = false := by simpa using he
      have hw := harm_within h1 h2
      have ho := ofR_ok hw
      have hs := sizeR_ok (times_within hw)
      have HO := Lib.hid ho; have HS := Lib.hid hs
      clear he hw ho hs
      go_wp2_with fail
      refine (ratio_walk n h1 h2 _ (G.ext (by repeat (first | with_reducible exact Ext.refl _ | with_reducible assumption | with_reducible apply Ext.alloc | with_reducible apply Ext.drew | (with_reducible refine Ext.setCell ?_ (by (try simp) <;> omega) _))))).mono ?_
      rintro e w1 ⟨rfl, x1⟩
      obtain ⟨hc1, hf1⟩ := x1.rules
      have hz1_0 : w.heap.size < w1.heap.size := by have := x1.size; (try simp at this); omega
      obtain ⟨hl1_0, hl1_1, hl1_2, hl1_3⟩ : w.heap.size < w1.heap.size + 1 ∧ w.heap.size < w1.heap.size + 1 + 1 ∧ w.heap.size < w1.heap.size + 1 + 1 + 1 ∧ ¬ w.heap.size = w1.heap.size := by omega
      have X1 : Ext w w1 := Ext.trans (by repeat (first | with_reducible exact Ext.refl _ | with_reducible assumption | with_reducible apply Ext.alloc | with_reducible apply Ext.drew | (with_reducible refine Ext.setCell ?_ (by (try simp) <;> omega) _))) x1
      go_wp2_with fail
      refine (of_walk (harmV n) _).mono ?_
      rw [HO.out]
      rintro e w2 ⟨rfl, x2⟩
      obtain ⟨hc2, hf2⟩ := x2.rules
      have hz2_0 : w.heap.size < w2.heap.size := by have := x2.size; (try simp at this); omega
      obtain ⟨hl2_0, hl2_1, hl2_2, hl2_3⟩ : w.heap.size < w2.heap.size + 1 ∧ w.heap.size < w2.heap.size + 1 + 1 ∧ w.heap.size < w2.heap.size + 1 + 1 + 1 ∧ ¬ w.heap.size = w2.heap.size := by omega
      have X2 : Ext w w2 := Ext.trans (by repeat (first | with_reducible exact Ext.refl _ | with_reducible assumption | with_reducible apply Ext.alloc | with_reducible apply Ext.drew | (with_reducible refine Ext.setCell ?_ (by (try simp) <;> omega) _))) x2
      go_wp2_with fail
      refine (sof_walk ((harmV n).times 12) _ (G.gl.ext (by repeat (first | with_reducible exact Ext.refl _ | with_reducible assumption | with_reducible apply Ext.alloc | with_reducible apply Ext.drew | (with_reducible refine Ext.setCell ?_ (by (try simp) <;> omega) _))))).mono ?_
      rw [HS.out]
      rintro e w3 ⟨rfl, x3⟩
      obtain ⟨hc3, hf3⟩ := x3.rules
      have hz3_0 : w.heap.size < w3.heap.size := by have := x3.size; (try simp at this); omega
      obtain ⟨hl3_0, hl3_1, hl3_2, hl3_3⟩ : w.heap.size < w3.heap.size + 1 ∧ w.heap.size < w3.heap.size + 1 + 1 ∧ w.heap.size < w3.heap.size + 1 + 1 + 1 ∧ ¬ w.heap.size = w3.heap.size := by omega
      have X3 : Ext w w3 := Ext.trans (by repeat (first | with_reducible exact Ext.refl _ | with_reducible assumption | with_reducible apply Ext.alloc | with_reducible apply Ext.drew | (with_reducible refine Ext.setCell ?_ (by (try simp) <;> omega) _))) x3
      go_wp2
      refine bodyPost_ret (v := .tuple #[.agg #[.int .i64 (expo ((harmV n).times 12)).lo, .int .i64 (expo ((harmV n).times 12)).hi], .bool true]) (by simp [results, Tryd.results69, go_sem, *]) rfl ⟨?_, (by repeat (first | with_reducible exact Ext.refl _ | with_reducible assumption | with_reducible apply Ext.alloc | with_reducible apply Ext.drew | (with_reducible refine Ext.setCell ?_ (by (try simp) <;> omega) _)))⟩
      rfl
    · have hb : ((k : Int) + 1 != n) = true := by simpa using he
      go_wp2
      go_round
      case rel => exact ⟨k + 1, by omega, by go_num⟩
      case measure => simp [intOf]; omega

set_option maxHeartbeats 1000000 in
theorem harm_no (n : Int) (h : ¬ (1 ≤ n ∧ n ≤ 16)) (w : World) : Calls Tryd.prog 69 #[.int .i64 n] w fun e w' => e = .returned (.tuple #[.agg #[.int .i64 zeroS.lo, .int .i64 zeroS.hi], .bool false]) ∧ Ext w w' := by
  go_enter Tryd.func69, Tryd.ntmps69
  go_wp2
  go_loop [11] (fun i => ∃ k : Nat, k ≤ 16 ∧ i = .int .i64 k) (fun i => 16 - (intOf i).toNat)
  case atStart => exact ⟨0, by omega, rfl⟩
  case round =>
    obtain ⟨k, hk, rfl⟩ := hrel
    by_cases hlt : k < 16
    · have hb : ((k : Int) + 1 != n) = true := by simp; omega
      go_wp2
      go_round
      case rel => exact ⟨k + 1, by omega, by go_num⟩
      case measure => simp [intOf]; omega
    · obtain rfl : k = 16 := by omega
      go_wp2
      refine bodyPost_ret (v := .tuple #[.agg #[.int .i64 0, .int .i64 0], .bool false]) (by simp [results, Tryd.results69, go_sem, *]) rfl ⟨?_, (by repeat (first | with_reducible exact Ext.refl _ | with_reducible assumption | with_reducible apply Ext.alloc | with_reducible apply Ext.drew | (with_reducible refine Ext.setCell ?_ (by (try simp) <;> omega) _)))⟩
      rfl

theorem rootR_no {r : Row} (h : rowOk r = false) : rootR r = (zeroS, 1) := by rw [rootR, h]; rfl
theorem root_sub {r : Row} (h : rowOk r = true) : subR ⟨r.lo, r.hi⟩ (harmS r.h) = (rootS r, 0) := by
  have h1 := rootS_ok h
  rw [rowOk_iff] at h
  exact subR_d (by rw [szOk_iff]; simp only; omega) (harmS_ok h.1 h.2.1) h1

set_option maxHeartbeats 2000000 in
theorem root_walk (r : Row) (w : World) (G : Gv 0 1 w) : Calls Tryd.prog 47 #[.agg #[.int .i64 r.h, .int .i64 r.lo, .int .i64 r.hi]] w fun e w' => e = .returned (.tuple #[.agg #[.int .i64 (rootR r).1.lo, .int .i64 (rootR r).1.hi], .int .i64 (rootR r).2]) ∧ Ext w w' := by
  by_cases h0 : 1 ≤ r.h ∧ r.h ≤ 16
  · obtain ⟨H1, H2⟩ := h0
    by_cases h1 : -10000000000000 ≤ r.lo
    · by_cases h2 : r.lo ≤ r.hi
      · by_cases h3 : r.hi ≤ 10000000000000
        · have hok : rowOk r = true := rowOk_iff.2 ⟨H1, H2, h1, h2, h3⟩
          have HS := Lib.hid (root_sub hok)
          have HR : Hid (rootR r = (rootS r, 0)) := Lib.hid (by rw [rootR, if_pos hok])
          clear hok
          go_enter Tryd.func47, Tryd.ntmps47
          go_wp2_with fail
          refine (harm_yes r.h H1 H2 _ (G.ext (by repeat (first | with_reducible exact Ext.refl _ | with_reducible assumption | with_reducible apply Ext.alloc | with_reducible apply Ext.drew | (with_reducible refine Ext.setCell ?_ (by (try simp) <;> omega) _))))).mono ?_
          rintro e w1 ⟨rfl, x1⟩
          obtain ⟨hc1, hf1⟩ := x1.rules
          obtain ⟨hz1_0, hz1_1⟩ : w.heap.size < w1.heap.size ∧ w.heap.size + 1 < w1.heap.size := by have := x1.size; (try simp at this); omega
          obtain ⟨hl1_0, hl1_1, hl1_2, hl1_3, hl1_4, hl1_5, hl1_6, hl1_7⟩ : w.heap.size < w1.heap.size + 1 ∧ w.heap.size < w1.heap.size + 1 + 1 ∧ w.heap.size < w1.heap.size + 1 + 1 + 1 ∧ w.heap.size + 1 < w1.heap.size + 1 ∧ w.heap.size + 1 < w1.heap.size + 1 + 1 ∧ w.heap.size + 1 < w1.heap.size + 1 + 1 + 1 ∧ ¬ w.heap.size = w1.heap.size ∧ ¬ w.heap.size + 1 = w1.heap.size := by omega
          have X1 : Ext w w1 := Ext.trans (by repeat (first | with_reducible exact Ext.refl _ | with_reducible assumption | with_reducible apply Ext.alloc | with_reducible apply Ext.drew | (with_reducible refine Ext.setCell ?_ (by (try simp) <;> omega) _))) x1
          go_wp2_with fail
          refine (sub_walk ⟨r.lo, r.hi⟩ (harmS r.h) _).mono ?_
          rw [HS.out]
          rintro e w2 ⟨rfl, x2⟩
          obtain ⟨hc2, hf2⟩ := x2.rules
          obtain ⟨hz2_0, hz2_1⟩ : w.heap.size < w2.heap.size ∧ w.heap.size + 1 < w2.heap.size := by have := x2.size; (try simp at this); omega
          obtain ⟨hl2_0, hl2_1, hl2_2, hl2_3, hl2_4, hl2_5, hl2_6, hl2_7⟩ : w.heap.size < w2.heap.size + 1 ∧ w.heap.size < w2.heap.size + 1 + 1 ∧ w.heap.size < w2.heap.size + 1 + 1 + 1 ∧ w.heap.size + 1 < w2.heap.size + 1 ∧ w.heap.size + 1 < w2.heap.size + 1 + 1 ∧ w.heap.size + 1 < w2.heap.size + 1 + 1 + 1 ∧ ¬ w.heap.size = w2.heap.size ∧ ¬ w.heap.size + 1 = w2.heap.size := by omega
          have X2 : Ext w w2 := Ext.trans (by repeat (first | with_reducible exact Ext.refl _ | with_reducible assumption | with_reducible apply Ext.alloc | with_reducible apply Ext.drew | (with_reducible refine Ext.setCell ?_ (by (try simp) <;> omega) _))) x2
          go_wp2
          refine bodyPost_ret (v := .tuple #[.agg #[.int .i64 (rootS r).lo, .int .i64 (rootS r).hi], .int .i64 0]) (by simp [results, Tryd.results47, go_sem, *]) rfl ⟨?_, (by repeat (first | with_reducible exact Ext.refl _ | with_reducible assumption | with_reducible apply Ext.alloc | with_reducible apply Ext.drew | (with_reducible refine Ext.setCell ?_ (by (try simp) <;> omega) _)))⟩
          rw [HR.out] <;> rfl
        · have HF := Lib.hid (rootR_no (r := r) (by simp [rowOk]; omega))
          go_enter Tryd.func47, Tryd.ntmps47
          go_wp2_with fail
          refine (harm_yes r.h H1 H2 _ (G.ext (by repeat (first | with_reducible exact Ext.refl _ | with_reducible assumption | with_reducible apply Ext.alloc | with_reducible apply Ext.drew | (with_reducible refine Ext.setCell ?_ (by (try simp) <;> omega) _))))).mono ?_
          rintro e w1 ⟨rfl, x1⟩
          obtain ⟨hc1, hf1⟩ := x1.rules
          obtain ⟨hz1_0, hz1_1⟩ : w.heap.size < w1.heap.size ∧ w.heap.size + 1 < w1.heap.size := by have := x1.size; (try simp at this); omega
          obtain ⟨hl1_0, hl1_1, hl1_2, hl1_3, hl1_4, hl1_5, hl1_6, hl1_7⟩ : w.heap.size < w1.heap.size + 1 ∧ w.heap.size < w1.heap.size + 1 + 1 ∧ w.heap.size < w1.heap.size + 1 + 1 + 1 ∧ w.heap.size + 1 < w1.heap.size + 1 ∧ w.heap.size + 1 < w1.heap.size + 1 + 1 ∧ w.heap.size + 1 < w1.heap.size + 1 + 1 + 1 ∧ ¬ w.heap.size = w1.heap.size ∧ ¬ w.heap.size + 1 = w1.heap.size := by omega
          have X1 : Ext w w1 := Ext.trans (by repeat (first | with_reducible exact Ext.refl _ | with_reducible assumption | with_reducible apply Ext.alloc | with_reducible apply Ext.drew | (with_reducible refine Ext.setCell ?_ (by (try simp) <;> omega) _))) x1
          go_wp2
          refine bodyPost_ret (v := .tuple #[.agg #[.int .i64 0, .int .i64 0], .int .i64 1]) (by simp [results, Tryd.results47, go_sem, *]) rfl ⟨?_, (by repeat (first | with_reducible exact Ext.refl _ | with_reducible assumption | with_reducible apply Ext.alloc | with_reducible apply Ext.drew | (with_reducible refine Ext.setCell ?_ (by (try simp) <;> omega) _)))⟩
          rw [HF.out] <;> rfl
      · have HF := Lib.hid (rootR_no (r := r) (by simp [rowOk]; omega))
        go_enter Tryd.func47, Tryd.ntmps47
        go_wp2_with fail
        refine (harm_yes r.h H1 H2 _ (G.ext (by repeat (first | with_reducible exact Ext.refl _ | with_reducible assumption | with_reducible apply Ext.alloc | with_reducible apply Ext.drew | (with_reducible refine Ext.setCell ?_ (by (try simp) <;> omega) _))))).mono ?_
        rintro e w1 ⟨rfl, x1⟩
        obtain ⟨hc1, hf1⟩ := x1.rules
        obtain ⟨hz1_0, hz1_1⟩ : w.heap.size < w1.heap.size ∧ w.heap.size + 1 < w1.heap.size := by have := x1.size; (try simp at this); omega
        obtain ⟨hl1_0, hl1_1, hl1_2, hl1_3, hl1_4, hl1_5, hl1_6, hl1_7⟩ : w.heap.size < w1.heap.size + 1 ∧ w.heap.size < w1.heap.size + 1 + 1 ∧ w.heap.size < w1.heap.size + 1 + 1 + 1 ∧ w.heap.size + 1 < w1.heap.size + 1 ∧ w.heap.size + 1 < w1.heap.size + 1 + 1 ∧ w.heap.size + 1 < w1.heap.size + 1 + 1 + 1 ∧ ¬ w.heap.size = w1.heap.size ∧ ¬ w.heap.size + 1 = w1.heap.size := by omega
        have X1 : Ext w w1 := Ext.trans (by repeat (first | with_reducible exact Ext.refl _ | with_reducible assumption | with_reducible apply Ext.alloc | with_reducible apply Ext.drew | (with_reducible refine Ext.setCell ?_ (by (try simp) <;> omega) _))) x1
        go_wp2
        refine bodyPost_ret (v := .tuple #[.agg #[.int .i64 0, .int .i64 0], .int .i64 1]) (by simp [results, Tryd.results47, go_sem, *]) rfl ⟨?_, (by repeat (first | with_reducible exact Ext.refl _ | with_reducible assumption | with_reducible apply Ext.alloc | with_reducible apply Ext.drew | (with_reducible refine Ext.setCell ?_ (by (try simp) <;> omega) _)))⟩
        rw [HF.out] <;> rfl
    · have HF := Lib.hid (rootR_no (r := r) (by simp [rowOk]; omega))
      go_enter Tryd.func47, Tryd.ntmps47
      go_wp2_with fail
      refine (harm_yes r.h H1 H2 _ (G.ext (by repeat (first | with_reducible exact Ext.refl _ | with_reducible assumption | with_reducible apply Ext.alloc | with_reducible apply Ext.drew | (with_reducible refine Ext.setCell ?_ (by (try simp) <;> omega) _))))).mono ?_
      rintro e w1 ⟨rfl, x1⟩
      obtain ⟨hc1, hf1⟩ := x1.rules
      obtain ⟨hz1_0, hz1_1⟩ : w.heap.size < w1.heap.size ∧ w.heap.size + 1 < w1.heap.size := by have := x1.size; (try simp at this); omega
      obtain ⟨hl1_0, hl1_1, hl1_2, hl1_3, hl1_4, hl1_5, hl1_6, hl1_7⟩ : w.heap.size < w1.heap.size + 1 ∧ w.heap.size < w1.heap.size + 1 + 1 ∧ w.heap.size < w1.heap.size + 1 + 1 + 1 ∧ w.heap.size + 1 < w1.heap.size + 1 ∧ w.heap.size + 1 < w1.heap.size + 1 + 1 ∧ w.heap.size + 1 < w1.heap.size + 1 + 1 + 1 ∧ ¬ w.heap.size = w1.heap.size ∧ ¬ w.heap.size + 1 = w1.heap.size := by omega
      have X1 : Ext w w1 := Ext.trans (by repeat (first | with_reducible exact Ext.refl _ | with_reducible assumption | with_reducible apply Ext.alloc | with_reducible apply Ext.drew | (with_reducible refine Ext.setCell ?_ (by (try simp) <;> omega) _))) x1
      go_wp2
      refine bodyPost_ret (v := .tuple #[.agg #[.int .i64 0, .int .i64 0], .int .i64 1]) (by simp [results, Tryd.results47, go_sem, *]) rfl ⟨?_, (by repeat (first | with_reducible exact Ext.refl _ | with_reducible assumption | with_reducible apply Ext.alloc | with_reducible apply Ext.drew | (with_reducible refine Ext.setCell ?_ (by (try simp) <;> omega) _)))⟩
      rw [HF.out] <;> rfl
  · have HF := Lib.hid (rootR_no (r := r) (by simp [rowOk]; omega))
    go_enter Tryd.func47, Tryd.ntmps47
    go_wp2_with fail
    refine (harm_no r.h h0 _).mono ?_
    rintro e w1 ⟨rfl, x1⟩
    obtain ⟨hc1, hf1⟩ := x1.rules
    obtain ⟨hz1_0, hz1_1⟩ : w.heap.size < w1.heap.size ∧ w.heap.size + 1 < w1.heap.size := by have := x1.size; (try simp at this); omega
    obtain ⟨hl1_0, hl1_1, hl1_2, hl1_3, hl1_4, hl1_5, hl1_6, hl1_7⟩ : w.heap.size < w1.heap.size + 1 ∧ w.heap.size < w1.heap.size + 1 + 1 ∧ w.heap.size < w1.heap.size + 1 + 1 + 1 ∧ w.heap.size + 1 < w1.heap.size + 1 ∧ w.heap.size + 1 < w1.heap.size + 1 + 1 ∧ w.heap.size + 1 < w1.heap.size + 1 + 1 + 1 ∧ ¬ w.heap.size = w1.heap.size ∧ ¬ w.heap.size + 1 = w1.heap.size := by omega
    have X1 : Ext w w1 := Ext.trans (by repeat (first | with_reducible exact Ext.refl _ | with_reducible assumption | with_reducible apply Ext.alloc | with_reducible apply Ext.drew | (with_reducible refine Ext.setCell ?_ (by (try simp) <;> omega) _))) x1
    go_wp2
    refine bodyPost_ret (v := .tuple #[.agg #[.int .i64 0, .int .i64 0], .int .i64 1]) (by simp [results, Tryd.results47, go_sem, *]) rfl ⟨?_, (by repeat (first | with_reducible exact Ext.refl _ | with_reducible assumption | with_reducible apply Ext.alloc | with_reducible apply Ext.drew | (with_reducible refine Ext.setCell ?_ (by (try simp) <;> omega) _)))⟩
    rw [HF.out] <;> rfl
end Go.Proofs.YtkckingkocacjaaDoor
