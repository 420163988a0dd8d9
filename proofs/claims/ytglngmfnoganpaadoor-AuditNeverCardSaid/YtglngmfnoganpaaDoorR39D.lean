/-
  Walk: schismaref04.Meet.
-/
import Derived.Test.YtglngmfnoganpaaDoorR4B
import Derived.Test.YtglngmfnoganpaaDoorLibA
set_option linter.unusedVariables false
namespace Go.Proofs.YtglngmfnoganpaaDoor
open Go.RowKit Go.Sx Go.Sx.Sz

set_option maxHeartbeats 4000000 in
theorem rmeet_walk (a b : S2) (w : World) : Calls Tryd.prog 42 #[.agg #[.int .i64 a.lo, .int .i64 a.hi], .agg #[.int .i64 b.lo, .int .i64 b.hi]] w fun e w' => e = .returned (.tuple #[.agg #[.int .i64 (meetR a b).1.lo, .int .i64 (meetR a b).1.hi], .int .i64 (meetR a b).2]) ∧ Ext w w' := by
  have BW := Lib.hid fun w => both_walk a b w
  have X0 : Ext w (((w.alloc (.cells (#[.int .i64 a.lo, .int .i64 a.hi] : Array Value) 56)).alloc (.cells (#[.int .i64 b.lo, .int .i64 b.hi] : Array Value) 56)).alloc (.cells #[.int .i64 0, .int .i64 0] 56)) := (by repeat (first | with_reducible exact Ext.refl _ | with_reducible assumption | with_reducible apply Ext.alloc | with_reducible apply Ext.drew | (with_reducible refine Ext.setCell ?_ (by (try simp) <;> omega) _)))
  have b0 := block_alloc (block_alloc (block_new w (.cells (#[.int .i64 a.lo, .int .i64 a.hi] : Array Value) 56)) (.cells (#[.int .i64 b.lo, .int .i64 b.hi] : Array Value) 56)) (.cells #[.int .i64 0, .int .i64 0] 56)
  have b1 := block_alloc (block_at (w := w.alloc (.cells (#[.int .i64 a.lo, .int .i64 a.hi] : Array Value) 56)) (n := w.heap.size + 1) (by simp) (.cells (#[.int .i64 b.lo, .int .i64 b.hi] : Array Value) 56)) (.cells #[.int .i64 0, .int .i64 0] 56)
  have b2 := block_at (w := (w.alloc (.cells (#[.int .i64 a.lo, .int .i64 a.hi] : Array Value) 56)).alloc (.cells (#[.int .i64 b.lo, .int .i64 b.hi] : Array Value) 56)) (n := w.heap.size + 1 + 1) (by simp) (.cells #[.int .i64 0, .int .i64 0] 56)
  obtain ⟨W, hW⟩ : ∃ W, ((w.alloc (.cells (#[.int .i64 a.lo, .int .i64 a.hi] : Array Value) 56)).alloc (.cells (#[.int .i64 b.lo, .int .i64 b.hi] : Array Value) 56)).alloc (.cells #[.int .i64 0, .int .i64 0] 56) = W := ⟨_, rfl⟩
  obtain ⟨B, hB⟩ : ∃ B, w.heap.size = B := ⟨_, rfl⟩
  rw [hW] at X0 b0 b1 b2
  rw [hB] at b0 b1 b2
  have HB0 : Hid (w.heap.size ≤ B) := Lib.hid (by omega)
  have HW := Lib.hid hW; have HB := Lib.hid hB
  have H0 := Lib.hid b0; have H1 := Lib.hid b1; have H2 := Lib.hid b2
  clear hW hB b0 b1 b2
  go_enter Tryd.func42, Tryd.ntmps42
  go_wp2_with fail
  rw [HW.out, HB.out]
  clear HW HB
  refine (BW.out _).mono ?_
  cases hok : (szOk a && szOk b) with
  | false =>
    have HR : Hid (meetR a b = (zeroS, 1)) := Lib.hid (if_neg (fun h => by rw [h.1, h.2] at hok; cases hok))
    clear hok
    rintro e w1 ⟨rfl, x1⟩
    have br := block_ext x1 H2.out
    have b7 := setRow_at br #[.int .i64 0, .int .i64 0]
    have t0 := block_cell b7 0 _ rfl; have t1 := block_cell b7 1 _ rfl
    have HX7 := Lib.hid ((X0.trans x1).setRow (g := B + 1 + 1) (by have := HB0.out; omega) #[.int .i64 0, .int .i64 0])
    clear b7
    go_wp2_with (first | (refine wpList_store_row rfl _ _ _ rfl (B + 1 + 1) _ rfl rfl _ _ br (by kernel_rfl) rfl (by simp [Value.oneCell']) ?_) | fail)
    exact bodyPost_ret (v := .tuple #[.agg #[.int .i64 0, .int .i64 0], .int .i64 1]) (by simp [results, Tryd.results42, go_sem, t0, t1]) rfl ⟨by rw [HR.out] <;> rfl, HX7.out⟩
  | true =>
    rw [Bool.and_eq_true] at hok
    have HM0 := Lib.hid hok
    clear hok
    obtain ⟨al, ah⟩ := a
    obtain ⟨bl, bh⟩ := b
    rintro e w1 ⟨rfl, x1⟩
    have y0 := block_ext x1 H0.out
    have y1 := block_ext x1 H1.out
    have y2 := block_ext x1 H2.out
    have c0 := block_cell y0 0 _ rfl; have c1 := block_cell y0 1 _ rfl
    have d0 := block_cell y1 0 _ rfl; have d1 := block_cell y1 1 _ rfl
    have br := fun cs => block_alloc y2 (.cells cs 56)
    have t0 := fun cs (u v : Int) => block_cell (setRow_at (br cs) #[.int .i64 u, .int .i64 v]) 0 _ rfl
    have t1 := fun cs (u v : Int) => block_cell (setRow_at (br cs) #[.int .i64 u, .int .i64 v]) 1 _ rfl
    have HX := Lib.hid fun o cs => ((X0.trans x1).alloc o).setRow (g := B + 1 + 1) (by have := HB0.out; omega) cs
    have HBR := Lib.hid br; have HT0 := Lib.hid t0; have HT1 := Lib.hid t1
    obtain ⟨r, hr⟩ : ∃ r, meetR ⟨al, ah⟩ ⟨bl, bh⟩ = r := ⟨_, rfl⟩
    have HR := Lib.hid hr
    have HM : Hid (r = if (if al < bl then bl else al) ≤ (if bh < ah then bh else ah) then (⟨if al < bl then bl else al, if bh < ah then bh else ah⟩, 0) else (zeroS, 4)) := Lib.hid (by
      rw [← hr]; unfold meetR; rw [if_pos HM0.out]; rfl)
    clear hr br t0 t1 y0 y1 y2 HM0
    rcases Int.lt_trichotomy al bl with m | m | m
    all_goals rcases Int.lt_trichotomy ah bh with n | n | n
    all_goals (try subst m)
    all_goals (try subst n)
    all_goals
      go_wp2_with (first | (refine wpList_store_row rfl _ _ _ rfl (B + 1 + 1) _ rfl rfl _ _ (HBR.out _) (by kernel_rfl) rfl (by simp [Value.oneCell']) ?_) | fail)
    all_goals
      have t0 := HT0.out
      have t1 := HT1.out
      refine bodyPost_ret (by simp [results, Tryd.results42, go_sem, t0, t1]; rfl) rfl ⟨?_, HX.out _ _⟩
      rw [HR.out, HM.out]
      (repeat' split) <;> first | rfl | omega
end Go.Proofs.YtglngmfnoganpaaDoor
