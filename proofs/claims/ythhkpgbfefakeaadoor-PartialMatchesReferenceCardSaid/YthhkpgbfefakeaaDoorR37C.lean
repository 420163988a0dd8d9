/-
  Walk of the reference: schismaref37.Predict.
-/
import Derived.Test.YthhkpgbfefakeaaDoorR37B
import Derived.Deep.RegionHeld3
import Derived.Deep.DrawnRows
set_option linter.unusedVariables false
namespace Go.Proofs.YthhkpgbfefakeaaDoor
open Go.RowKit Go.Sx Go.Sx.Sz
attribute [local go_sem ↓] Go.wp_at_zero Go.wp_at_succ

set_option maxHeartbeats 4000000 in
theorem rpredict_walk (v : Value) (l : List Row) (n : Int) (w : World) (S : Sl w 3 encR v l) :
    Calls Tryd.prog 19 #[v, .int .i64 n] w fun e w' => e = .returned (.tuple #[.agg #[.int .i64 (predR l n).1.lo, .int .i64 (predR l n).1.hi], .int .i64 (predR l n).2]) ∧ Ext w w' := by
  cases hr : rowsOk l with
  | false =>
    have HP : Hid (predR l n = (zeroS, 1)) := Lib.hid (by
      have : toneR l = (zeroS, 1) := by rw [toneR, hr]; rfl
      rw [predR, this]; split <;> rfl)
    have HR := Lib.hid hr
    clear hr
    go_enter Tryd.func19, Tryd.ntmps19
    go_wp2_with fail
    refine (rrvalid_walk v l _ (S.ext (by repeat (first | with_reducible exact Ext.refl _ | with_reducible assumption | with_reducible apply Ext.alloc | with_reducible apply Ext.drew | (with_reducible refine Ext.setCell ?_ (by (try simp) <;> omega) _))))).mono ?_
    rw [HR.out]
    rintro e w1 ⟨rfl, x1⟩
    obtain ⟨hc1, hf1⟩ := x1.rules
    have hz1_0 : w.heap.size < w1.heap.size := by have := x1.size; (try simp at this); omega
    obtain ⟨hl1_0, hl1_1, hl1_2, hl1_3⟩ : w.heap.size < w1.heap.size + 1 ∧ w.heap.size < w1.heap.size + 1 + 1 ∧ w.heap.size < w1.heap.size + 1 + 1 + 1 ∧ ¬ w.heap.size = w1.heap.size := by omega
    have X1 : Ext w w1 := Ext.trans (by repeat (first | with_reducible exact Ext.refl _ | with_reducible assumption | with_reducible apply Ext.alloc | with_reducible apply Ext.drew | (with_reducible refine Ext.setCell ?_ (by (try simp) <;> omega) _))) x1
    go_wp2
    refine bodyPost_ret (v := .tuple #[.agg #[.int .i64 0, .int .i64 0], .int .i64 1]) (by simp [results, Tryd.results19, go_sem, *]) rfl ⟨?_, (by repeat (first | with_reducible exact Ext.refl _ | with_reducible assumption | with_reducible apply Ext.alloc | with_reducible apply Ext.drew | (with_reducible refine Ext.setCell ?_ (by (try simp) <;> omega) _)))⟩
    rw [HP.out] <;> rfl
  | true =>
  have HR := Lib.hid hr
  clear hr
  by_cases h1 : 1 ≤ n
  · by_cases h2 : n ≤ 16
    · by_cases he : (toneR l).2 = 0
      · have HP : Hid (predR l n = addR (toneR l).1 (harmS n)) := Lib.hid (by rw [predR, if_pos ⟨h1, h2⟩, if_pos he])
        obtain ⟨t, ht⟩ : ∃ t, toneR l = t := ⟨_, rfl⟩
        rw [ht] at he HP
        have HT := Lib.hid ht; have HE := Lib.hid he
        obtain ⟨r, hR⟩ : ∃ r, addR t.1 (harmS n) = r := ⟨_, rfl⟩
        have HRR := Lib.hid hR
        obtain ⟨h, hh⟩ : ∃ h, harmS n = h := ⟨_, rfl⟩
        have HH := Lib.hid hh
        rw [hh] at hR
        have HA := Lib.hid hR
        clear ht he hR hh
        go_enter Tryd.func19, Tryd.ntmps19
        go_wp2_with fail
        refine (rrvalid_walk v l _ (S.ext (by repeat (first | with_reducible exact Ext.refl _ | with_reducible assumption | with_reducible apply Ext.alloc | with_reducible apply Ext.drew | (with_reducible refine Ext.setCell ?_ (by (try simp) <;> omega) _))))).mono ?_
        rw [HR.out]
        rintro e w1 ⟨rfl, x1⟩
        obtain ⟨hc1, hf1⟩ := x1.rules
        have hz1_0 : w.heap.size < w1.heap.size := by have := x1.size; (try simp at this); omega
        obtain ⟨hl1_0, hl1_1, hl1_2, hl1_3⟩ : w.heap.size < w1.heap.size + 1 ∧ w.heap.size < w1.heap.size + 1 + 1 ∧ w.heap.size < w1.heap.size + 1 + 1 + 1 ∧ ¬ w.heap.size = w1.heap.size := by omega
        have X1 : Ext w w1 := Ext.trans (by repeat (first | with_reducible exact Ext.refl _ | with_reducible assumption | with_reducible apply Ext.alloc | with_reducible apply Ext.drew | (with_reducible refine Ext.setCell ?_ (by (try simp) <;> omega) _))) x1
        go_wp2_with fail
        refine (rtone_walk v l _ (S.ext (by repeat (first | with_reducible exact Ext.refl _ | with_reducible assumption | with_reducible apply Ext.alloc | with_reducible apply Ext.drew | (with_reducible refine Ext.setCell ?_ (by (try simp) <;> omega) _))))).mono ?_
        rw [HT.out, HE.out]
        rintro e w2 ⟨rfl, x2⟩
        obtain ⟨hc2, hf2⟩ := x2.rules
        have hz2_0 : w.heap.size < w2.heap.size := by have := x2.size; (try simp at this); omega
        obtain ⟨hl2_0, hl2_1, hl2_2, hl2_3⟩ : w.heap.size < w2.heap.size + 1 ∧ w.heap.size < w2.heap.size + 1 + 1 ∧ w.heap.size < w2.heap.size + 1 + 1 + 1 ∧ ¬ w.heap.size = w2.heap.size := by omega
        have X2 : Ext w w2 := Ext.trans (by repeat (first | with_reducible exact Ext.refl _ | with_reducible assumption | with_reducible apply Ext.alloc | with_reducible apply Ext.drew | (with_reducible refine Ext.setCell ?_ (by (try simp) <;> omega) _))) x2
        have g0 := block_ext (Ext.trans x1 (Ext.trans (by repeat (first | with_reducible exact Ext.refl _ | with_reducible assumption | with_reducible apply Ext.alloc | with_reducible apply Ext.drew | (with_reducible refine Ext.setCell ?_ (by (try simp) <;> omega) _))) x2)) (block_new w (.cells #[.int .i64 0, .int .i64 0] 26))
        have hz2 := hz2_0
        clear x1 hc1 hf1 x2 hc2 hf2
        go_wp2
        have d0 := block_alloc g0 (.cells #[.int .i64 t.1.lo, .int .i64 t.1.hi] 26)
        have d1 := block_new w2 (.cells #[.int .i64 t.1.lo, .int .i64 t.1.hi] 26)
        have XA := X2.alloc (.cells #[.int .i64 t.1.lo, .int .i64 t.1.hi] 26)
        obtain ⟨N, hN⟩ : ∃ N, w2.heap.size = N := ⟨_, rfl⟩
        rw [hN] at d1 ⊢
        obtain ⟨W, hW⟩ : ∃ W, w2.alloc (.cells #[.int .i64 t.1.lo, .int .i64 t.1.hi] 26) = W := ⟨_, rfl⟩
        rw [hW] at d0 d1 XA ⊢
        have f0 := ext_cells (block_cell d1 0 (.int .i64 t.1.lo) rfl)
        have f1 := ext_cells (block_cell d1 1 (.int .i64 t.1.hi) rfl)
        clear hW hN X2 X1 g0
        have k0 := block_cell d1 0 (.int .i64 t.1.lo) rfl
        have k1 := block_cell d1 1 (.int .i64 t.1.hi) rfl
        have zN := block_lt d1
        have z0 := block_lt d0
        have n0 : ¬ N = W.heap.size := by omega
        have n1 : ¬ W.heap.size = N := by omega
        clear f0 f1
        go_region_held3 (fun w' => w'.cell? ⟨N, 0, none⟩ = some (.int .i64 t.1.lo) ∧ w'.cell? ⟨N, 1, none⟩ = some (.int .i64 t.1.hi)) (go_keep)
          ((first | (go_at_call 33; refine (rharm_walk n h1 h2 _).mono ?_; rw [HH.out]; rintro e w4 ⟨rfl, x4⟩; obtain ⟨hc4, hf4⟩ := x4.rules; have y4 : Ext W w4 := Ext.trans (by repeat (first | with_reducible exact Ext.refl _ | with_reducible assumption | with_reducible apply Ext.alloc | with_reducible apply Ext.drew | (with_reducible refine Ext.setCell ?_ (by (try simp) <;> omega) _))) x4; have s4 : W.heap.size ≤ w4.heap.size := y4.size; have t4 := x4.size; (try simp at t4); (try have u4 : W.heap.size < w4.heap.size := (by omega)); have n4 : ¬ N = w4.heap.size := (by omega); have m4 : ¬ w4.heap.size = N := (by omega); have c40 := y4.cell k0; have c41 := y4.cell k1) | (go_at_call 36; refine (radd_walk t.1 h _).mono ?_; rw [HA.out]; rintro e w5 ⟨rfl, x5⟩; obtain ⟨hc5, hf5⟩ := x5.rules; have y5 : Ext W w5 := Ext.trans (by repeat (first | with_reducible exact Ext.refl _ | with_reducible assumption | with_reducible apply Ext.alloc | with_reducible apply Ext.drew | (with_reducible refine Ext.setCell ?_ (by (try simp) <;> omega) _))) x5; have s5 : W.heap.size ≤ w5.heap.size := y5.size; have t5 := x5.size; (try simp at t5); (try have u5 : W.heap.size < w5.heap.size := (by omega)); (try have v5 : w4.heap.size < w5.heap.size := (by omega)); have n5 : ¬ N = w5.heap.size := (by omega); have m5 : ¬ w5.heap.size = N := (by omega); have c50 := y5.cell k0; have c51 := y5.cell k1)))
        all_goals
          have e0 := block_ext y5 d0
          obtain ⟨r0, s0⟩ := block_rules e0
          have a0 : w.heap.size < w5.heap.size := by omega
          have a1 : ¬ w.heap.size = w5.heap.size := by omega
          have a2 : ¬ w5.heap.size = w.heap.size := by omega
          have a3 : ¬ w.heap.size = W.heap.size := by omega
          have a4 : ¬ W.heap.size = w.heap.size := by omega
          have a5 : ¬ w.heap.size = w4.heap.size := by omega
          have a6 : ¬ w4.heap.size = w.heap.size := by omega
          have hX := XA.size
          have XB : Ext w w5 := XA.trans y5
          have a7 : w.heap.size ≤ w4.heap.size := by omega
          clear e0 d0 d1
          go_wp2
          refine bodyPost_ret (v := .tuple #[.agg #[.int .i64 r.1.lo, .int .i64 r.1.hi], .int .i64 r.2]) (by simp [results, Tryd.results19, go_sem, *]) rfl ⟨?_, (by repeat (first | with_reducible exact Ext.refl _ | with_reducible assumption | with_reducible apply Ext.alloc | with_reducible apply Ext.drew | (with_reducible refine Ext.setCell ?_ (by (try simp) <;> omega) _)))⟩
          rw [HP.out, HRR.out] <;> rfl
      · have HP : Hid (predR l n = (zeroS, (toneR l).2)) := Lib.hid (by rw [predR, if_pos ⟨h1, h2⟩, if_neg he])
        obtain ⟨t, ht⟩ : ∃ t, toneR l = t := ⟨_, rfl⟩
        rw [ht] at he HP
        have hb : (t.2 != 0) = true := by simpa using he
        have HT := Lib.hid ht
        clear ht he
        go_enter Tryd.func19, Tryd.ntmps19
        go_wp2_with fail
        refine (rrvalid_walk v l _ (S.ext (by repeat (first | with_reducible exact Ext.refl _ | with_reducible assumption | with_reducible apply Ext.alloc | with_reducible apply Ext.drew | (with_reducible refine Ext.setCell ?_ (by (try simp) <;> omega) _))))).mono ?_
        rw [HR.out]
        rintro e w1 ⟨rfl, x1⟩
        obtain ⟨hc1, hf1⟩ := x1.rules
        have hz1_0 : w.heap.size < w1.heap.size := by have := x1.size; (try simp at this); omega
        obtain ⟨hl1_0, hl1_1, hl1_2, hl1_3⟩ : w.heap.size < w1.heap.size + 1 ∧ w.heap.size < w1.heap.size + 1 + 1 ∧ w.heap.size < w1.heap.size + 1 + 1 + 1 ∧ ¬ w.heap.size = w1.heap.size := by omega
        have X1 : Ext w w1 := Ext.trans (by repeat (first | with_reducible exact Ext.refl _ | with_reducible assumption | with_reducible apply Ext.alloc | with_reducible apply Ext.drew | (with_reducible refine Ext.setCell ?_ (by (try simp) <;> omega) _))) x1
        go_wp2_with fail
        refine (rtone_walk v l _ (S.ext (by repeat (first | with_reducible exact Ext.refl _ | with_reducible assumption | with_reducible apply Ext.alloc | with_reducible apply Ext.drew | (with_reducible refine Ext.setCell ?_ (by (try simp) <;> omega) _))))).mono ?_
        rw [HT.out]
        rintro e w2 ⟨rfl, x2⟩
        obtain ⟨hc2, hf2⟩ := x2.rules
        have hz2_0 : w.heap.size < w2.heap.size := by have := x2.size; (try simp at this); omega
        obtain ⟨hl2_0, hl2_1, hl2_2, hl2_3⟩ : w.heap.size < w2.heap.size + 1 ∧ w.heap.size < w2.heap.size + 1 + 1 ∧ w.heap.size < w2.heap.size + 1 + 1 + 1 ∧ ¬ w.heap.size = w2.heap.size := by omega
        have X2 : Ext w w2 := Ext.trans (by repeat (first | with_reducible exact Ext.refl _ | with_reducible assumption | with_reducible apply Ext.alloc | with_reducible apply Ext.drew | (with_reducible refine Ext.setCell ?_ (by (try simp) <;> omega) _))) x2
        go_wp2
        refine bodyPost_ret (v := .tuple #[.agg #[.int .i64 0, .int .i64 0], .int .i64 t.2]) (by simp [results, Tryd.results19, go_sem, *]) rfl ⟨?_, (by repeat (first | with_reducible exact Ext.refl _ | with_reducible assumption | with_reducible apply Ext.alloc | with_reducible apply Ext.drew | (with_reducible refine Ext.setCell ?_ (by (try simp) <;> omega) _)))⟩
        rw [HP.out] <;> rfl
    · have HP : Hid (predR l n = (zeroS, 1)) := Lib.hid (by rw [predR, if_neg (by omega)])
      go_enter Tryd.func19, Tryd.ntmps19
      go_wp2_with fail
      refine (rrvalid_walk v l _ (S.ext (by repeat (first | with_reducible exact Ext.refl _ | with_reducible assumption | with_reducible apply Ext.alloc | with_reducible apply Ext.drew | (with_reducible refine Ext.setCell ?_ (by (try simp) <;> omega) _))))).mono ?_
      rw [HR.out]
      rintro e w1 ⟨rfl, x1⟩
      obtain ⟨hc1, hf1⟩ := x1.rules
      have hz1_0 : w.heap.size < w1.heap.size := by have := x1.size; (try simp at this); omega
      obtain ⟨hl1_0, hl1_1, hl1_2, hl1_3⟩ : w.heap.size < w1.heap.size + 1 ∧ w.heap.size < w1.heap.size + 1 + 1 ∧ w.heap.size < w1.heap.size + 1 + 1 + 1 ∧ ¬ w.heap.size = w1.heap.size := by omega
      have X1 : Ext w w1 := Ext.trans (by repeat (first | with_reducible exact Ext.refl _ | with_reducible assumption | with_reducible apply Ext.alloc | with_reducible apply Ext.drew | (with_reducible refine Ext.setCell ?_ (by (try simp) <;> omega) _))) x1
      go_wp2
      refine bodyPost_ret (v := .tuple #[.agg #[.int .i64 0, .int .i64 0], .int .i64 1]) (by simp [results, Tryd.results19, go_sem, *]) rfl ⟨?_, (by repeat (first | with_reducible exact Ext.refl _ | with_reducible assumption | with_reducible apply Ext.alloc | with_reducible apply Ext.drew | (with_reducible refine Ext.setCell ?_ (by (try simp) <;> omega) _)))⟩
      rw [HP.out] <;> rfl
  · have HP : Hid (predR l n = (zeroS, 1)) := Lib.hid (by rw [predR, if_neg (by omega)])
    go_enter Tryd.func19, Tryd.ntmps19
    go_wp2_with fail
    refine (rrvalid_walk v l _ (S.ext (by repeat (first | with_reducible exact Ext.refl _ | with_reducible assumption | with_reducible apply Ext.alloc | with_reducible apply Ext.drew | (with_reducible refine Ext.setCell ?_ (by (try simp) <;> omega) _))))).mono ?_
    rw [HR.out]
    rintro e w1 ⟨rfl, x1⟩
    obtain ⟨hc1, hf1⟩ := x1.rules
    have hz1_0 : w.heap.size < w1.heap.size := by have := x1.size; (try simp at this); omega
    obtain ⟨hl1_0, hl1_1, hl1_2, hl1_3⟩ : w.heap.size < w1.heap.size + 1 ∧ w.heap.size < w1.heap.size + 1 + 1 ∧ w.heap.size < w1.heap.size + 1 + 1 + 1 ∧ ¬ w.heap.size = w1.heap.size := by omega
    have X1 : Ext w w1 := Ext.trans (by repeat (first | with_reducible exact Ext.refl _ | with_reducible assumption | with_reducible apply Ext.alloc | with_reducible apply Ext.drew | (with_reducible refine Ext.setCell ?_ (by (try simp) <;> omega) _))) x1
    go_wp2
    refine bodyPost_ret (v := .tuple #[.agg #[.int .i64 0, .int .i64 0], .int .i64 1]) (by simp [results, Tryd.results19, go_sem, *]) rfl ⟨?_, (by repeat (first | with_reducible exact Ext.refl _ | with_reducible assumption | with_reducible apply Ext.alloc | with_reducible apply Ext.drew | (with_reducible refine Ext.setCell ?_ (by (try simp) <;> omega) _)))⟩
    rw [HP.out] <;> rfl
end Go.Proofs.YthhkpgbfefakeaaDoor
