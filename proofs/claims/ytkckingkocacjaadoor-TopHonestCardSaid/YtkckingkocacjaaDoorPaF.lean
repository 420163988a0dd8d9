/-
  Walks: partial.Fits, Predict.
-/
import Derived.Test.YtkckingkocacjaaDoorPaE
set_option linter.unusedVariables false
namespace Go.Proofs.YtkckingkocacjaaDoor
open Go.RowKit Go.Sx Go.Sx.Sz

theorem ofR_no {v : V6} (h : within v 48 = false) : ofR v = (V6.zero, 1) := by rw [ofR, h]; rfl

set_option maxHeartbeats 2000000 in
theorem fits_walk (v : Value) (l : List Row) (x : V6) (w : World) (G : Gv 0 1 w) (S : Sl w 3 encR v l) :
    Calls Tryd.prog 8 #[v, .agg #[.int .i64 x.a, .int .i64 x.b, .int .i64 x.c, .int .i64 x.d, .int .i64 x.e, .int .i64 x.f]] w fun e w' => e = .returned (.tuple #[.bool (fitsR l x).1, .int .i64 (fitsR l x).2]) ∧ Ext w w' := by
  cases hr : rowsOk l with
  | true =>
    have HE : Hid (rootsE l = 0) := Lib.hid (rootsE_ok hr)
    have HL : Hid (rootsL l = l.map rootS) := Lib.hid (rootsL_ok hr)
    have hall := Lib.hid (roots_ok hr)
    cases hx : within x 48 with
    | true =>
      have hS := times_within hx
      have HT : Hid (fitsR l x = (!(l.map rootS).any (fun r => disj r (expo (x.times 12))), 0)) := Lib.hid (by rw [fitsR, if_pos ⟨hr, hx⟩])
      have HO := Lib.hid (ofR_ok hx)
      have HS := Lib.hid (sizeR_ok hS)
      have HSO := Lib.hid (expo_ok (within_mono (B := 4000) (by omega) hS))
      obtain ⟨rs, hrs⟩ : ∃ rs, l.map rootS = rs := ⟨_, rfl⟩
      rw [hrs] at HL HT hall
      clear hr hrs hx hS
      obtain ⟨y, hy⟩ : ∃ y, expo (x.times 12) = y := ⟨_, rfl⟩
      rw [hy] at HS HSO HT
      obtain ⟨p, hp⟩ : ∃ p, x.times 12 = p := ⟨_, rfl⟩
      rw [hp] at HO HS
      clear hy hp
      go_enter Tryd.func8, Tryd.ntmps8
      go_wp2_with fail
      refine (roots_walk v l _ (G.ext (by repeat (first | with_reducible exact Ext.refl _ | with_reducible assumption | with_reducible apply Ext.alloc | with_reducible apply Ext.drew | (with_reducible refine Ext.setCell ?_ (by (try simp) <;> omega) _)))) (S.ext (by repeat (first | with_reducible exact Ext.refl _ | with_reducible assumption | with_reducible apply Ext.alloc | with_reducible apply Ext.drew | (with_reducible refine Ext.setCell ?_ (by (try simp) <;> omega) _))))).mono ?_
      rw [HE.out, HL.out]
      rintro e w1 ⟨v1, rfl, S1, x1⟩
      obtain ⟨hc1, hf1⟩ := x1.rules
      have hz1_0 : w.heap.size < w1.heap.size := by have := x1.size; (try simp at this); omega
      have X1 : Ext w w1 := Ext.trans (by repeat (first | with_reducible exact Ext.refl _ | with_reducible assumption | with_reducible apply Ext.alloc | with_reducible apply Ext.drew | (with_reducible refine Ext.setCell ?_ (by (try simp) <;> omega) _))) x1
      go_wp2_with fail
      refine (of_walk x _).mono ?_
      rw [HO.out]
      rintro e w2 ⟨rfl, x2⟩
      obtain ⟨hc2, hf2⟩ := x2.rules
      have hz2_0 : w.heap.size < w2.heap.size := by have := x2.size; (try simp at this); omega
      obtain ⟨hl2_0, hl2_1, hl2_2, hl2_3⟩ : w.heap.size < w2.heap.size + 1 ∧ w.heap.size < w2.heap.size + 1 + 1 ∧ w.heap.size < w2.heap.size + 1 + 1 + 1 ∧ ¬ w.heap.size = w2.heap.size := by omega
      have X2 : Ext w w2 := Ext.trans (by repeat (first | with_reducible exact Ext.refl _ | with_reducible assumption | with_reducible apply Ext.alloc | with_reducible apply Ext.drew | (with_reducible refine Ext.setCell ?_ (by (try simp) <;> omega) _))) x2
      have Y2 : Ext w1 w2 := Ext.trans (by repeat (first | with_reducible exact Ext.refl _ | with_reducible assumption | with_reducible apply Ext.alloc | with_reducible apply Ext.drew | (with_reducible refine Ext.setCell ?_ (by (try simp) <;> omega) _))) x2
      go_wp2_with fail
      refine (sof_walk p _ (G.gl.ext (by repeat (first | with_reducible exact Ext.refl _ | with_reducible assumption | with_reducible apply Ext.alloc | with_reducible apply Ext.drew | (with_reducible refine Ext.setCell ?_ (by (try simp) <;> omega) _))))).mono ?_
      rw [HS.out]
      rintro e w3 ⟨rfl, x3⟩
      obtain ⟨hc3, hf3⟩ := x3.rules
      have hz3_0 : w.heap.size < w3.heap.size := by have := x3.size; (try simp at this); omega
      obtain ⟨hl3_0, hl3_1, hl3_2, hl3_3⟩ : w.heap.size < w3.heap.size + 1 ∧ w.heap.size < w3.heap.size + 1 + 1 ∧ w.heap.size < w3.heap.size + 1 + 1 + 1 ∧ ¬ w.heap.size = w3.heap.size := by omega
      have X3 : Ext w w3 := Ext.trans (by repeat (first | with_reducible exact Ext.refl _ | with_reducible assumption | with_reducible apply Ext.alloc | with_reducible apply Ext.drew | (with_reducible refine Ext.setCell ?_ (by (try simp) <;> omega) _))) x3
      have Y3 : Ext w1 w3 := Ext.trans Y2 (Ext.trans (by repeat (first | with_reducible exact Ext.refl _ | with_reducible assumption | with_reducible apply Ext.alloc | with_reducible apply Ext.drew | (with_reducible refine Ext.setCell ?_ (by (try simp) <;> omega) _))) x3)
      go_wp2_with fail
      refine (has_fit_walk _ rs (fun r => disj r y) _ _ (S1.ext (by repeat (first | with_reducible exact Ext.refl _ | with_reducible assumption | with_reducible apply Ext.alloc | with_reducible apply Ext.drew | (with_reducible refine Ext.setCell ?_ (by (try simp) <;> omega) _)))) (fun z hz w' hw' => off_walk y z HSO.out (hall.out z hz) w3.heap.size w' (hw'.cell (alloc_cell w3 _ 47 0 _ rfl)) (hw'.cell (alloc_cell w3 _ 47 1 _ rfl)))).mono ?_
      rintro e w4 ⟨rfl, x4⟩
      have X4 : Ext w w4 := Ext.trans (by repeat (first | with_reducible exact Ext.refl _ | with_reducible assumption | with_reducible apply Ext.alloc | with_reducible apply Ext.drew | (with_reducible refine Ext.setCell ?_ (by (try simp) <;> omega) _))) x4
      go_wp2
      go_ret2
      exact ⟨by rw [HT.out] <;> rfl, X4⟩
    | false =>
      have HT : Hid (fitsR l x = (false, 1)) := Lib.hid (by rw [fitsR, if_neg (by rw [hx]; simp)])
      have HO := Lib.hid (ofR_no hx)
      clear hr hx
      go_enter Tryd.func8, Tryd.ntmps8
      go_wp2_with fail
      refine (roots_walk v l _ (G.ext (by repeat (first | with_reducible exact Ext.refl _ | with_reducible assumption | with_reducible apply Ext.alloc | with_reducible apply Ext.drew | (with_reducible refine Ext.setCell ?_ (by (try simp) <;> omega) _)))) (S.ext (by repeat (first | with_reducible exact Ext.refl _ | with_reducible assumption | with_reducible apply Ext.alloc | with_reducible apply Ext.drew | (with_reducible refine Ext.setCell ?_ (by (try simp) <;> omega) _))))).mono ?_
      rw [HE.out, HL.out]
      rintro e w1 ⟨v1, rfl, S1, x1⟩
      obtain ⟨hc1, hf1⟩ := x1.rules
      have hz1_0 : w.heap.size < w1.heap.size := by have := x1.size; (try simp at this); omega
      have X1 : Ext w w1 := Ext.trans (by repeat (first | with_reducible exact Ext.refl _ | with_reducible assumption | with_reducible apply Ext.alloc | with_reducible apply Ext.drew | (with_reducible refine Ext.setCell ?_ (by (try simp) <;> omega) _))) x1
      go_wp2_with fail
      refine (of_walk x _).mono ?_
      rw [HO.out]
      rintro e w2 ⟨rfl, x2⟩
      obtain ⟨hc2, hf2⟩ := x2.rules
      have hz2_0 : w.heap.size < w2.heap.size := by have := x2.size; (try simp at this); omega
      obtain ⟨hl2_0, hl2_1, hl2_2, hl2_3⟩ : w.heap.size < w2.heap.size + 1 ∧ w.heap.size < w2.heap.size + 1 + 1 ∧ w.heap.size < w2.heap.size + 1 + 1 + 1 ∧ ¬ w.heap.size = w2.heap.size := by omega
      have X2 : Ext w w2 := Ext.trans (by repeat (first | with_reducible exact Ext.refl _ | with_reducible assumption | with_reducible apply Ext.alloc | with_reducible apply Ext.drew | (with_reducible refine Ext.setCell ?_ (by (try simp) <;> omega) _))) x2
      go_wp2
      go_ret2
      exact ⟨by rw [HT.out] <;> rfl, (by repeat (first | with_reducible exact Ext.refl _ | with_reducible assumption | with_reducible apply Ext.alloc | with_reducible apply Ext.drew | (with_reducible refine Ext.setCell ?_ (by (try simp) <;> omega) _)))⟩
  | false =>
    have HE : Hid (rootsE l = 1) := Lib.hid (by rw [rootsE, hr]; rfl)
    have HT : Hid (fitsR l x = (false, 1)) := Lib.hid (by rw [fitsR, if_neg (by rw [hr]; simp)])
    clear hr
    go_enter Tryd.func8, Tryd.ntmps8
    go_wp2_with fail
    refine (roots_walk v l _ (G.ext (by repeat (first | with_reducible exact Ext.refl _ | with_reducible assumption | with_reducible apply Ext.alloc | with_reducible apply Ext.drew | (with_reducible refine Ext.setCell ?_ (by (try simp) <;> omega) _)))) (S.ext (by repeat (first | with_reducible exact Ext.refl _ | with_reducible assumption | with_reducible apply Ext.alloc | with_reducible apply Ext.drew | (with_reducible refine Ext.setCell ?_ (by (try simp) <;> omega) _))))).mono ?_
    rw [HE.out]
    rintro e w1 ⟨v1, rfl, S1, x1⟩
    obtain ⟨hc1, hf1⟩ := x1.rules
    have hz1_0 : w.heap.size < w1.heap.size := by have := x1.size; (try simp at this); omega
    have X1 : Ext w w1 := Ext.trans (by repeat (first | with_reducible exact Ext.refl _ | with_reducible assumption | with_reducible apply Ext.alloc | with_reducible apply Ext.drew | (with_reducible refine Ext.setCell ?_ (by (try simp) <;> omega) _))) x1
    obtain ⟨r, hR⟩ : ∃ r, ofR x = r := ⟨_, rfl⟩
    have HR := Lib.hid hR; clear hR
    go_wp2_with fail
    refine (of_walk x _).mono ?_
    rw [HR.out]
    rintro e w2 ⟨rfl, x2⟩
    obtain ⟨hc2, hf2⟩ := x2.rules
    have hz2_0 : w.heap.size < w2.heap.size := by have := x2.size; (try simp at this); omega
    obtain ⟨hl2_0, hl2_1, hl2_2, hl2_3⟩ : w.heap.size < w2.heap.size + 1 ∧ w.heap.size < w2.heap.size + 1 + 1 ∧ w.heap.size < w2.heap.size + 1 + 1 + 1 ∧ ¬ w.heap.size = w2.heap.size := by omega
    have X2 : Ext w w2 := Ext.trans (by repeat (first | with_reducible exact Ext.refl _ | with_reducible assumption | with_reducible apply Ext.alloc | with_reducible apply Ext.drew | (with_reducible refine Ext.setCell ?_ (by (try simp) <;> omega) _))) x2
    go_wp2
    go_ret2
    exact ⟨by rw [HT.out] <;> rfl, (by repeat (first | with_reducible exact Ext.refl _ | with_reducible assumption | with_reducible apply Ext.alloc | with_reducible apply Ext.drew | (with_reducible refine Ext.setCell ?_ (by (try simp) <;> omega) _)))⟩

end Go.Proofs.YtkckingkocacjaaDoor
