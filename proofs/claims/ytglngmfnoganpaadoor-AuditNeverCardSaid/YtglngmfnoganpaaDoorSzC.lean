/-
  Walks: size.Of, plus, minus, combine, Add, Sub, Cmp, Meet.
-/
import Derived.Test.YtglngmfnoganpaaDoorSzB
set_option linter.unusedVariables false
namespace Go.Proofs.YtglngmfnoganpaaDoor
open Go.RowKit Go.Sx Go.Sx.Sz


set_option maxHeartbeats 1000000 in
theorem sof_walk (p : V6) (w : World) (G : Gl 0 w) : Calls Tryd.prog 25 #[.agg #[.int .i64 p.a, .int .i64 p.b, .int .i64 p.c, .int .i64 p.d, .int .i64 p.e, .int .i64 p.f]] w fun e w' => e = .returned (.tuple #[.agg #[.int .i64 (sizeR p).1.lo, .int .i64 (sizeR p).1.hi], .int .i64 (sizeR p).2]) ∧ Ext w w' := by
  cases hv : within p 576 with
  | false =>
    have HV := Lib.hid hv; clear hv
    go_enter Tryd.func25, Tryd.ntmps25
    go_wp2_with fail
    refine (pvalid_walk p _).mono ?_
    rw [HV.out]
    rintro e w1 ⟨rfl, x1⟩
    obtain ⟨hc1, hf1⟩ := x1.rules
    have hz1 : w.heap.size + 1 < w1.heap.size := by have := x1.size; (try simp at this); omega
    have X1 : Ext w w1 := Ext.trans (by repeat (first | with_reducible exact Ext.refl _ | with_reducible assumption | with_reducible apply Ext.alloc | with_reducible apply Ext.drew | (with_reducible refine Ext.setCell ?_ (by (try simp) <;> omega) _))) x1
    go_wp2
    exact bodyPost_ret (v := .tuple #[.agg #[.int .i64 zeroS.lo, .int .i64 zeroS.hi], .int .i64 1]) (by simp [results, Tryd.results25, go_sem, hc1, zeroS]) rfl ⟨by rw [sizeR, if_neg (by rw [HV.out]; decide)], (by repeat (first | with_reducible exact Ext.refl _ | with_reducible assumption | with_reducible apply Ext.alloc | with_reducible apply Ext.drew | (with_reducible refine Ext.setCell ?_ (by (try simp) <;> omega) _)))⟩
  | true =>
    have HV := Lib.hid hv
    have hw := within_mono (A := 576) (B := 4000) (by omega) hv
    have HW := Lib.hid hw
    clear hv hw
    go_enter Tryd.func25, Tryd.ntmps25
    go_wp2_with fail
    refine (pvalid_walk p _).mono ?_
    rw [HV.out]
    rintro e w1 ⟨rfl, x1⟩
    obtain ⟨hc1, hf1⟩ := x1.rules
    have hz1 : w.heap.size + 1 < w1.heap.size := by have := x1.size; (try simp at this); omega
    have X1 : Ext w w1 := Ext.trans (by repeat (first | with_reducible exact Ext.refl _ | with_reducible assumption | with_reducible apply Ext.alloc | with_reducible apply Ext.drew | (with_reducible refine Ext.setCell ?_ (by (try simp) <;> omega) _))) x1
    go_wp2_with fail
    refine (expo_walk p HW.out _ (G.ext X1)).mono ?_
    rintro e w2 ⟨rfl, x2⟩
    obtain ⟨hc2, hf2⟩ := x2.rules
    have hz2 : w.heap.size + 1 < w2.heap.size := by have := x2.size; omega
    have X2 : Ext w w2 := Ext.trans X1 x2
    go_wp2
    exact bodyPost_ret (v := .tuple #[.agg #[.int .i64 (expo p).lo, .int .i64 (expo p).hi], .int .i64 0]) (by simp [results, Tryd.results25, go_sem, hc1, hc2, hz1]) rfl ⟨by rw [sizeR, if_pos HV.out] <;> rfl, (by repeat (first | with_reducible exact Ext.refl _ | with_reducible assumption | with_reducible apply Ext.alloc | with_reducible apply Ext.drew | (with_reducible refine Ext.setCell ?_ (by (try simp) <;> omega) _)))⟩

end Go.Proofs.YtglngmfnoganpaaDoor
