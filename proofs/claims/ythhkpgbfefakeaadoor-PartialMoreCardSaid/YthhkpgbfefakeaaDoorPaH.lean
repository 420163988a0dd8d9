/-
  Walk: the head of the laws of chapter 37.
-/
import Derived.Test.YthhkpgbfefakeaaDoorPaF
import Derived.Test.YthhkpgbfefakeaaDoorAp
set_option linter.unusedVariables false
namespace Go.Proofs.YthhkpgbfefakeaaDoor
open Go.RowKit Go.Sx Go.Sx.Sz

theorem ext_of {W a b : World} {B : Nat} (hs : W.heap.size = B) (h : Below B W a) (k : Below B a b) : Ext W b := by
  unfold Ext; rw [hs]; exact h.trans k

theorem et_row : ET Tryd.prog 31 23 3 24 := .mk' (z := .agg #[.int .i64 0, .int .i64 0, .int .i64 0]) Tryd.underlying31 (by kernel_rfl) rfl (by decide) (by decide)
def p0 : Row := ⟨3, 19019550000, 19019560000⟩
def p1 : Row := ⟨2, 12000004000, 12000005000⟩
def p2 : Row := ⟨1, -100, 3999⟩
theorem hd1 : rootR p0 = (⟨-12, 10000⟩, 0) := by decide
theorem hd2 : toneR [p0, p1] = (⟨4000, 5000⟩, 0) := by decide
theorem hd3 : refuteR [p0, p1, p2] = (1, 2, 0) := by decide
theorem hd4 : fitsR [p0, p1] V6.zero = (false, 0) := by decide
theorem hd5 : fitsR [p0] V6.zero = (true, 0) := by decide
theorem hd6 : predR [p0, p1] 3 = (⟨19019554000, 19019555012⟩, 0) := by decide
theorem hd7 : toneR [p0, p1, p2] = (zeroS, 23) := by decide
theorem hd8 : refuteR [p0, p1] = (0, 0, 4) := by decide
theorem hd9 : toneR [] = (everything, 0) := by decide

set_option maxRecDepth 100000 in
set_option maxHeartbeats 4000000 in
theorem head_walk (w : World) (G : Gv 0 1 w) : Calls Tryd.prog 11 #[] w fun e w' => e = .returned (.bool true) ∧ Ext w w' := by
  go_enter Tryd.func11, Tryd.ntmps11
  obtain ⟨W0, hW0⟩ : ∃ W0, w.alloc (.cells #[.int .i64 3, .int .i64 19019550000, .int .i64 19019560000] 23) = W0 := ⟨_, rfl⟩
  have X0 : Ext w W0 := by rw [← hW0]; exact (by repeat (first | with_reducible exact Ext.refl _ | with_reducible assumption | with_reducible apply Ext.alloc | with_reducible apply Ext.drew | (with_reducible refine Ext.setCell ?_ (by (try simp) <;> omega) _)))
  have S1 : Sl W0 3 encR (.slice (some ⟨w.heap.size, 0, none⟩) 1 1) [p0] := by
    rw [← hW0]
    exact (Bk.mk (xs := [p0]) (enc := encR) w 23 #[.int .i64 3, .int .i64 19019550000, .int .i64 19019560000] rfl).sl (sz := 3) (fun _ _ => rfl) (n := 1) rfl (by simp)
  have q0 : W0.cell? ⟨w.heap.size, 0, none⟩ = some (.int .i64 3) := by rw [← hW0]; exact alloc_cell w _ _ 0 _ rfl
  have q1 : W0.cell? ⟨w.heap.size, 1, none⟩ = some (.int .i64 19019550000) := by rw [← hW0]; exact alloc_cell w _ _ 1 _ rfl
  have q2 : W0.cell? ⟨w.heap.size, 2, none⟩ = some (.int .i64 19019560000) := by rw [← hW0]; exact alloc_cell w _ _ 2 _ rfl
  have hs0 : W0.heap.size = w.heap.size + 1 := by rw [← hW0]; simp
  have o0 : OwnR (W0.alloc (.cells #[] 23)) W0.heap.size 23 3 encR (.slice (some ⟨W0.heap.size, 0, none⟩) 0 0) [] := OwnR.lit W0 #[] [] 0 rfl (Nat.le_refl _) rfl rfl (by simp [maxLen])
  rw [hs0] at o0
  have HS := Lib.hid hs0; have HW := Lib.hid hW0
  clear hs0 hW0
  go_wp2_with (first
    | (at_builtin; rw [HW.out]; refine wpList_own_sl et_row rfl (.tmp 27) (.tmp 28) rfl o0 rfl [p0] _ (S1.ext (by repeat (first | with_reducible exact Ext.refl _ | with_reducible assumption | with_reducible apply Ext.alloc | with_reducible apply Ext.drew | (with_reducible refine Ext.setCell ?_ (by (try simp) <;> omega) _)))) rfl (fun _ _ => rfl) (by simp [encR, Value.oneCell']) (by decide) (by simp [HS.out]) ?_; intro v1 w1 o1 b1 a1)
    | (at_builtin; refine wpList_own1 et_row rfl (.tmp 29) (.tmp 31) rfl o1 rfl p1 rfl rfl rfl (by simp [encR, Value.oneCell']) (by decide) (by have := b1.size; simp [HS.out] at this ⊢; omega) ?_; intro v2 w2 o2 b2 a2 _; have S2 := o2.sl (fun _ _ => rfl) (by decide); have o2' := OwnR.lit (enc := encR) (e := 23) (sz := 3) w2 #[] [] 0 rfl (Nat.le_refl _) rfl rfl (by simp [maxLen]))
    | (at_builtin; refine wpList_own_sl et_row rfl (.tmp 33) (.tmp 34) rfl o2' rfl [p0, p1] _ (S2.ext (by repeat (first | with_reducible exact Ext.refl _ | with_reducible assumption | with_reducible apply Ext.alloc | with_reducible apply Ext.drew | (with_reducible refine Ext.setCell ?_ (by (try simp) <;> omega) _)))) rfl (fun _ _ => rfl) (by simp [encR, Value.oneCell']) (by decide) (by simp) ?_; intro v3 w3 o3 b3 a3)
    | (at_builtin; refine wpList_own1 et_row rfl (.tmp 35) (.tmp 37) rfl o3 rfl p2 rfl rfl rfl (by simp [encR, Value.oneCell']) (by decide) (by have := b3.size; simp at this; omega) ?_; intro v4 w4 o4 b4 a4 _; have S3 := o4.sl (fun _ _ => rfl) (by decide); have E24 : Ext w2 w4 := ext_of rfl (Ext.alloc' w2 _) (b3.trans b4); have E02 : Ext W0 w2 := ext_of HS.out ((Ext.alloc' W0 (.cells #[] 23)).below (by rw [HS.out]; exact Nat.le_refl _)) (b1.trans b2); have Z := E02.trans E24; have Y0 := X0.trans Z; replace q0 := Z.cell q0; replace q1 := Z.cell q1; replace q2 := Z.cell q2; replace S1 := S1.ext Z; replace S2 := S2.ext E24)
    | fail)
  go_wp2_with fail
  refine (root_walk p0 _ (G.ext (by repeat (first | with_reducible exact Ext.refl _ | with_reducible assumption | with_reducible apply Ext.alloc | with_reducible apply Ext.drew | (with_reducible refine Ext.setCell ?_ (by (try simp) <;> omega) _))))).mono ?_
  rw [hd1]
  rintro e y0 ⟨rfl, x0⟩
  have Z0 : Ext w4 y0 := Ext.trans (by repeat (first | with_reducible exact Ext.refl _ | with_reducible assumption | with_reducible apply Ext.alloc | with_reducible apply Ext.drew | (with_reducible refine Ext.setCell ?_ (by (try simp) <;> omega) _))) x0
  have Y1 := Y0.trans Z0
  replace S1 := S1.ext Z0
  replace S2 := S2.ext Z0
  replace S3 := S3.ext Z0
  clear Y0 x0 Z0
  go_wp2_with fail
  refine (tone_walk v2 [p0, p1] _ (G.ext (by repeat (first | with_reducible exact Ext.refl _ | with_reducible assumption | with_reducible apply Ext.alloc | with_reducible apply Ext.drew | (with_reducible refine Ext.setCell ?_ (by (try simp) <;> omega) _)))) (S2.ext (by repeat (first | with_reducible exact Ext.refl _ | with_reducible assumption | with_reducible apply Ext.alloc | with_reducible apply Ext.drew | (with_reducible refine Ext.setCell ?_ (by (try simp) <;> omega) _))))).mono ?_
  rw [hd2]
  rintro e y1 ⟨rfl, x1⟩
  have Z1 : Ext y0 y1 := Ext.trans (by repeat (first | with_reducible exact Ext.refl _ | with_reducible assumption | with_reducible apply Ext.alloc | with_reducible apply Ext.drew | (with_reducible refine Ext.setCell ?_ (by (try simp) <;> omega) _))) x1
  have Y2 := Y1.trans Z1
  replace S1 := S1.ext Z1
  replace S2 := S2.ext Z1
  replace S3 := S3.ext Z1
  have k0_0 := x1.cell (alloc_cell y0 _ 26 0 _ rfl)
  have k0_1 := x1.cell (alloc_cell y0 _ 26 1 _ rfl)
  clear Y1 x1 Z1
  go_wp2_with fail
  refine (refute_walk v4 [p0, p1, p2] _ (G.ext (by repeat (first | with_reducible exact Ext.refl _ | with_reducible assumption | with_reducible apply Ext.alloc | with_reducible apply Ext.drew | (with_reducible refine Ext.setCell ?_ (by (try simp) <;> omega) _)))) (S3.ext (by repeat (first | with_reducible exact Ext.refl _ | with_reducible assumption | with_reducible apply Ext.alloc | with_reducible apply Ext.drew | (with_reducible refine Ext.setCell ?_ (by (try simp) <;> omega) _))))).mono ?_
  rw [hd3]
  rintro e y2 ⟨rfl, x2⟩
  have Z2 : Ext y1 y2 := Ext.trans (by repeat (first | with_reducible exact Ext.refl _ | with_reducible assumption | with_reducible apply Ext.alloc | with_reducible apply Ext.drew | (with_reducible refine Ext.setCell ?_ (by (try simp) <;> omega) _))) x2
  have Y3 := Y2.trans Z2
  replace S1 := S1.ext Z2
  replace S2 := S2.ext Z2
  replace S3 := S3.ext Z2
  replace k0_0 := Z2.cell k0_0
  replace k0_1 := Z2.cell k0_1
  have k1_0 := x2.cell (alloc_cell y1 _ 26 0 _ rfl)
  have k1_1 := x2.cell (alloc_cell y1 _ 26 1 _ rfl)
  clear Y2 x2 Z2
  go_wp2_with fail
  refine (fits_walk v2 [p0, p1] V6.zero _ (G.ext (by repeat (first | with_reducible exact Ext.refl _ | with_reducible assumption | with_reducible apply Ext.alloc | with_reducible apply Ext.drew | (with_reducible refine Ext.setCell ?_ (by (try simp) <;> omega) _)))) (S2.ext (by repeat (first | with_reducible exact Ext.refl _ | with_reducible assumption | with_reducible apply Ext.alloc | with_reducible apply Ext.drew | (with_reducible refine Ext.setCell ?_ (by (try simp) <;> omega) _))))).mono ?_
  rw [hd4]
  rintro e y3 ⟨rfl, x3⟩
  have Z3 : Ext y2 y3 := Ext.trans (by repeat (first | with_reducible exact Ext.refl _ | with_reducible assumption | with_reducible apply Ext.alloc | with_reducible apply Ext.drew | (with_reducible refine Ext.setCell ?_ (by (try simp) <;> omega) _))) x3
  have Y4 := Y3.trans Z3
  replace S1 := S1.ext Z3
  replace S2 := S2.ext Z3
  replace S3 := S3.ext Z3
  replace k0_0 := Z3.cell k0_0
  replace k0_1 := Z3.cell k0_1
  replace k1_0 := Z3.cell k1_0
  replace k1_1 := Z3.cell k1_1
  clear Y3 x3 Z3
  go_wp2_with fail
  refine (fits_walk _ [p0] V6.zero _ (G.ext (by repeat (first | with_reducible exact Ext.refl _ | with_reducible assumption | with_reducible apply Ext.alloc | with_reducible apply Ext.drew | (with_reducible refine Ext.setCell ?_ (by (try simp) <;> omega) _)))) (S1.ext (by repeat (first | with_reducible exact Ext.refl _ | with_reducible assumption | with_reducible apply Ext.alloc | with_reducible apply Ext.drew | (with_reducible refine Ext.setCell ?_ (by (try simp) <;> omega) _))))).mono ?_
  rw [hd5]
  rintro e y4 ⟨rfl, x4⟩
  have Z4 : Ext y3 y4 := Ext.trans (by repeat (first | with_reducible exact Ext.refl _ | with_reducible assumption | with_reducible apply Ext.alloc | with_reducible apply Ext.drew | (with_reducible refine Ext.setCell ?_ (by (try simp) <;> omega) _))) x4
  have Y5 := Y4.trans Z4
  replace S1 := S1.ext Z4
  replace S2 := S2.ext Z4
  replace S3 := S3.ext Z4
  replace k0_0 := Z4.cell k0_0
  replace k0_1 := Z4.cell k0_1
  replace k1_0 := Z4.cell k1_0
  replace k1_1 := Z4.cell k1_1
  clear Y4 x4 Z4
  go_wp2_with fail
  refine (predict_walk v2 [p0, p1] 3 _ (G.ext (by repeat (first | with_reducible exact Ext.refl _ | with_reducible assumption | with_reducible apply Ext.alloc | with_reducible apply Ext.drew | (with_reducible refine Ext.setCell ?_ (by (try simp) <;> omega) _)))) (S2.ext (by repeat (first | with_reducible exact Ext.refl _ | with_reducible assumption | with_reducible apply Ext.alloc | with_reducible apply Ext.drew | (with_reducible refine Ext.setCell ?_ (by (try simp) <;> omega) _))))).mono ?_
  rw [hd6]
  rintro e y5 ⟨rfl, x5⟩
  have Z5 : Ext y4 y5 := Ext.trans (by repeat (first | with_reducible exact Ext.refl _ | with_reducible assumption | with_reducible apply Ext.alloc | with_reducible apply Ext.drew | (with_reducible refine Ext.setCell ?_ (by (try simp) <;> omega) _))) x5
  have Y6 := Y5.trans Z5
  replace S1 := S1.ext Z5
  replace S2 := S2.ext Z5
  replace S3 := S3.ext Z5
  replace k0_0 := Z5.cell k0_0
  replace k0_1 := Z5.cell k0_1
  replace k1_0 := Z5.cell k1_0
  replace k1_1 := Z5.cell k1_1
  clear Y5 x5 Z5
  go_wp2_with fail
  refine (tone_walk v4 [p0, p1, p2] _ (G.ext (by repeat (first | with_reducible exact Ext.refl _ | with_reducible assumption | with_reducible apply Ext.alloc | with_reducible apply Ext.drew | (with_reducible refine Ext.setCell ?_ (by (try simp) <;> omega) _)))) (S3.ext (by repeat (first | with_reducible exact Ext.refl _ | with_reducible assumption | with_reducible apply Ext.alloc | with_reducible apply Ext.drew | (with_reducible refine Ext.setCell ?_ (by (try simp) <;> omega) _))))).mono ?_
  rw [hd7]
  rintro e y6 ⟨rfl, x6⟩
  have Z6 : Ext y5 y6 := Ext.trans (by repeat (first | with_reducible exact Ext.refl _ | with_reducible assumption | with_reducible apply Ext.alloc | with_reducible apply Ext.drew | (with_reducible refine Ext.setCell ?_ (by (try simp) <;> omega) _))) x6
  have Y7 := Y6.trans Z6
  replace S1 := S1.ext Z6
  replace S2 := S2.ext Z6
  replace S3 := S3.ext Z6
  replace k0_0 := Z6.cell k0_0
  replace k0_1 := Z6.cell k0_1
  replace k1_0 := Z6.cell k1_0
  replace k1_1 := Z6.cell k1_1
  have k5_0 := x6.cell (alloc_cell y5 _ 26 0 _ rfl)
  have k5_1 := x6.cell (alloc_cell y5 _ 26 1 _ rfl)
  clear Y6 x6 Z6
  go_wp2_with fail
  refine (refute_walk v2 [p0, p1] _ (G.ext (by repeat (first | with_reducible exact Ext.refl _ | with_reducible assumption | with_reducible apply Ext.alloc | with_reducible apply Ext.drew | (with_reducible refine Ext.setCell ?_ (by (try simp) <;> omega) _)))) (S2.ext (by repeat (first | with_reducible exact Ext.refl _ | with_reducible assumption | with_reducible apply Ext.alloc | with_reducible apply Ext.drew | (with_reducible refine Ext.setCell ?_ (by (try simp) <;> omega) _))))).mono ?_
  rw [hd8]
  rintro e y7 ⟨rfl, x7⟩
  have Z7 : Ext y6 y7 := Ext.trans (by repeat (first | with_reducible exact Ext.refl _ | with_reducible assumption | with_reducible apply Ext.alloc | with_reducible apply Ext.drew | (with_reducible refine Ext.setCell ?_ (by (try simp) <;> omega) _))) x7
  have Y8 := Y7.trans Z7
  replace S1 := S1.ext Z7
  replace S2 := S2.ext Z7
  replace S3 := S3.ext Z7
  replace k0_0 := Z7.cell k0_0
  replace k0_1 := Z7.cell k0_1
  replace k1_0 := Z7.cell k1_0
  replace k1_1 := Z7.cell k1_1
  replace k5_0 := Z7.cell k5_0
  replace k5_1 := Z7.cell k5_1
  have k6_0 := x7.cell (alloc_cell y6 _ 26 0 _ rfl)
  have k6_1 := x7.cell (alloc_cell y6 _ 26 1 _ rfl)
  clear Y7 x7 Z7
  go_wp2_with fail
  refine (tone_walk _ [] _ (G.ext (by repeat (first | with_reducible exact Ext.refl _ | with_reducible assumption | with_reducible apply Ext.alloc | with_reducible apply Ext.drew | (with_reducible refine Ext.setCell ?_ (by (try simp) <;> omega) _)))) (Sl.nil _ _ _)).mono ?_
  rw [hd9]
  rintro e y8 ⟨rfl, x8⟩
  have Z8 : Ext y7 y8 := Ext.trans (by repeat (first | with_reducible exact Ext.refl _ | with_reducible assumption | with_reducible apply Ext.alloc | with_reducible apply Ext.drew | (with_reducible refine Ext.setCell ?_ (by (try simp) <;> omega) _))) x8
  have Y9 := Y8.trans Z8
  replace k0_0 := Z8.cell k0_0
  replace k0_1 := Z8.cell k0_1
  replace k1_0 := Z8.cell k1_0
  replace k1_1 := Z8.cell k1_1
  replace k5_0 := Z8.cell k5_0
  replace k5_1 := Z8.cell k5_1
  replace k6_0 := Z8.cell k6_0
  replace k6_1 := Z8.cell k6_1
  clear Y8 x8 Z8
  have l0 := lt_of_cell k0_0
  have l1 := lt_of_cell k1_0
  have l5 := lt_of_cell k5_0
  simp only at l0 l1 l5
  go_wp2
  go_ret
  exact ⟨rfl, (by repeat (first | with_reducible exact Ext.refl _ | with_reducible assumption | with_reducible apply Ext.alloc | with_reducible apply Ext.drew | (with_reducible refine Ext.setCell ?_ (by (try simp) <;> omega) _)))⟩
end Go.Proofs.YthhkpgbfefakeaaDoor
