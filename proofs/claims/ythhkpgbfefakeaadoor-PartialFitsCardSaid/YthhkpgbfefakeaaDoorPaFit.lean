/-
  Proved: 'PartialFits' returns true for every input and leaves its arguments as they were. No condition.
-/
import Derived.Test.YthhkpgbfefakeaaDoorPaL
import Derived.Test.YthhkpgbfefakeaaDoorPaRefM
namespace Go.Proofs.YthhkpgbfefakeaaDoor
open Go.RowKit Go.Sx Go.Sx.Sz Go.ChangeShapes Go.WideShapes Go.ChangeAt

/-- If the tone and a size have a number in common, so has each root. -/
theorem fits_of_meet {l : List S2} {s : S2} (hd : disj s (common l) = false) : l.any (fun r => disj r s) = false := by
  rw [List.any_eq_false]
  intro r hr
  simp only [disj, Bool.or_eq_false_iff, decide_eq_false_iff_not, Int.not_lt] at hd
  have h1 := (@common_lo l (common l).lo).1 (Int.le_refl _)
  have h2 := (@common_hi l (common l).hi).1 (Int.le_refl _)
  have a := h1.2 r hr; have b := h2.2 r hr
  simp only [disj, Bool.or_eq_true, decide_eq_true_eq]
  omega
theorem meet_of_point {l : List S2} {s : S2} (hs : szOk s = true) (hp : s.lo = s.hi) (hf : l.any (fun r => disj r s) = false) : (common l).lo ≤ (common l).hi ∧ disj s (common l) = false := by
  rw [List.any_eq_false] at hf
  rw [szOk_iff] at hs
  have h1 : (common l).lo ≤ s.lo := common_lo.2 ⟨by omega, fun r hr => by have := hf r hr; simp [disj] at this; omega⟩
  have h2 : s.lo ≤ (common l).hi := common_hi.2 ⟨by omega, fun r hr => by have := hf r hr; simp [disj] at this; omega⟩
  refine ⟨by omega, ?_⟩
  simp only [disj, Bool.or_eq_false_iff, decide_eq_false_iff_not, Int.not_lt]
  omega
theorem cmpR_ok {a b : S2} (ha : szOk a = true) (hb : szOk b = true) : cmpR a b = ((cmpR a b).1, 0) ∧ ((cmpR a b).1 = 0 ↔ disj a b = false) := by
  have h := cmp_disj ha hb
  refine ⟨?_, ?_⟩
  · rw [cmpR, if_pos ⟨ha, hb⟩]; split
    · rfl
    · split <;> rfl
  · rw [← h]; simp
theorem disj_comm (a b : S2) : disj a b = disj b a := by simp only [disj]; rw [Bool.or_comm]

/-- What the law needs to know of its answers. -/
theorem fit_facts {l : List Row} {x : V6} (hr : rowsOk l = true) (hx : within x 48 = true) : ∃ (b : Bool) (t : S2) (te n : Int), fitsR l x = (b, 0) ∧ toneR l = (t, te) ∧ cmpR (expo (x.times 12)) t = (n, 0) ∧ (te = 0 ∨ te = 23) ∧
    (te = 0 → n = 0 → b = true) ∧ ((expo (x.times 12)).lo = (expo (x.times 12)).hi → b = true → te = 0 ∧ n = 0) ∧ ∀ r ∈ l, ∃ m, cmpR (expo (x.times 12)) (rootS r) = (m, 0) ∧ (b = true → m = 0) := by
  have hs : szOk (expo (x.times 12)) = true := expo_ok (within_mono (by omega) (times_within hx))
  obtain ⟨s, hss⟩ : ∃ s, expo (x.times 12) = s := ⟨_, rfl⟩
  have hfit : fitsR l x = (!(l.map rootS).any (fun r => disj r s), 0) := by rw [fitsR, if_pos ⟨hr, hx⟩, hss]
  rw [hss] at hs ⊢
  have hrow : ∀ r ∈ l, ∃ m, cmpR s (rootS r) = (m, 0) ∧ ((!(l.map rootS).any (fun r => disj r s)) = true → m = 0) := fun r hr' => by
    obtain ⟨c1, c2⟩ := cmpR_ok hs (rootS_ok ((rowsOk_iff.1 hr).2 r hr'))
    refine ⟨_, c1, fun hb => c2.2 ?_⟩
    rw [Bool.not_eq_true', List.any_eq_false] at hb
    have := hb (rootS r) (List.mem_map_of_mem hr')
    rw [disj_comm]; simpa using this
  by_cases hc : (common (l.map rootS)).lo ≤ (common (l.map rootS)).hi
  · have ht : toneR l = (common (l.map rootS), 0) := by rw [toneR, if_pos hr, commonR, if_pos hc]
    obtain ⟨c1, c2⟩ := cmpR_ok hs (common_ok hc)
    refine ⟨_, _, _, _, hfit, ht, c1, .inl rfl, fun _ hn => ?_, fun hp hb => ⟨rfl, ?_⟩, hrow⟩
    · rw [fits_of_meet (c2.1 hn)]; rfl
    · rw [Bool.not_eq_true'] at hb
      exact c2.2 (meet_of_point hs hp hb).2
  · have ht : toneR l = (zeroS, 23) := by rw [toneR, if_pos hr, commonR, if_neg hc]
    obtain ⟨c1, _⟩ := cmpR_ok hs (show szOk zeroS = true by decide)
    refine ⟨_, _, _, _, hfit, ht, c1, .inr rfl, fun h => (by cases h), fun hp hb => ?_, hrow⟩
    rw [Bool.not_eq_true'] at hb
    exact absurd (meet_of_point hs hp hb).1 hc

set_option maxHeartbeats 4000000 in
theorem fl_a (a? : Option Addr) (cap : Nat) (l : List Row) (x p : V6) (s t : S2) (w : World) (G : Gv 0 1 w) (S : Sl w 3 encR (.slice a? l.length cap) l) (HF : Hid (fitsR l x = (true, 0))) (HT : Hid (toneR l = (t, 0)))
    (HC : Hid (cmpR s t = (0, 0))) (K3 : Hid (∀ k (hk : k < l.length), ∃ m, cmpR s (rootS l[k]) = (m, 0) ∧ ((true : Bool) = true → m = 0))) (HRT : Hid (∀ k (hk : k < l.length), rootR l[k] = (rootS l[k], 0))) (HR : Hid (rowsOk l = true)) (HX : Hid (within x 48 = true))
    (HO : Hid (ofR x = (p, 0))) (HS : Hid (sizeR p = (s, 0))) (hl16 : l.length ≤ 16) (hpb : (s.lo == s.hi) = true)  :
    Calls Tryd.prog 8 #[.slice a? l.length cap, .agg #[.int .i64 x.a, .int .i64 x.b, .int .i64 x.c, .int .i64 x.d, .int .i64 x.e, .int .i64 x.f]] w fun e w' => e = .returned (.bool true) ∧ Ext w w' := by
  go_enter Tryd.func8, Tryd.ntmps8
  go_wp2_with fail
  refine (head_walk _ (G.ext (by repeat (first | with_reducible exact Ext.refl _ | with_reducible assumption | with_reducible apply Ext.alloc | with_reducible apply Ext.drew | (with_reducible refine Ext.setCell ?_ (by (try simp) <;> omega) _))))).mono ?_
  rintro e w1 ⟨rfl, x1⟩
  obtain ⟨hc1, hf1⟩ := x1.rules
  have hz1_0 : w.heap.size < w1.heap.size := by have := x1.size; (try simp at this); omega
  obtain ⟨hl1_0, hl1_1, hl1_2, hl1_3⟩ : w.heap.size < w1.heap.size + 1 ∧ w.heap.size < w1.heap.size + 1 + 1 ∧ w.heap.size < w1.heap.size + 1 + 1 + 1 ∧ ¬ w.heap.size = w1.heap.size := by omega
  have X1 : Ext w w1 := Ext.trans (by repeat (first | with_reducible exact Ext.refl _ | with_reducible assumption | with_reducible apply Ext.alloc | with_reducible apply Ext.drew | (with_reducible refine Ext.setCell ?_ (by (try simp) <;> omega) _))) x1
  go_wp2_with fail
  refine (fits_walk _ l x _ (G.ext (by repeat (first | with_reducible exact Ext.refl _ | with_reducible assumption | with_reducible apply Ext.alloc | with_reducible apply Ext.drew | (with_reducible refine Ext.setCell ?_ (by (try simp) <;> omega) _)))) (S.ext (by repeat (first | with_reducible exact Ext.refl _ | with_reducible assumption | with_reducible apply Ext.alloc | with_reducible apply Ext.drew | (with_reducible refine Ext.setCell ?_ (by (try simp) <;> omega) _))))).mono ?_
  rw [HF.out]
  rintro e w2 ⟨rfl, x2⟩
  obtain ⟨hc2, hf2⟩ := x2.rules
  have hz2_0 : w.heap.size < w2.heap.size := by have := x2.size; (try simp at this); omega
  obtain ⟨hl2_0, hl2_1, hl2_2, hl2_3⟩ : w.heap.size < w2.heap.size + 1 ∧ w.heap.size < w2.heap.size + 1 + 1 ∧ w.heap.size < w2.heap.size + 1 + 1 + 1 ∧ ¬ w.heap.size = w2.heap.size := by omega
  have X2 : Ext w w2 := Ext.trans (by repeat (first | with_reducible exact Ext.refl _ | with_reducible assumption | with_reducible apply Ext.alloc | with_reducible apply Ext.drew | (with_reducible refine Ext.setCell ?_ (by (try simp) <;> omega) _))) x2
  go_wp2_with fail
  refine (rvalid_walk _ l _ (G.ext (by repeat (first | with_reducible exact Ext.refl _ | with_reducible assumption | with_reducible apply Ext.alloc | with_reducible apply Ext.drew | (with_reducible refine Ext.setCell ?_ (by (try simp) <;> omega) _)))) (S.ext (by repeat (first | with_reducible exact Ext.refl _ | with_reducible assumption | with_reducible apply Ext.alloc | with_reducible apply Ext.drew | (with_reducible refine Ext.setCell ?_ (by (try simp) <;> omega) _))))).mono ?_
  rw [HR.out]
  rintro e w3 ⟨rfl, x3⟩
  obtain ⟨hc3, hf3⟩ := x3.rules
  have hz3_0 : w.heap.size < w3.heap.size := by have := x3.size; (try simp at this); omega
  obtain ⟨hl3_0, hl3_1, hl3_2, hl3_3⟩ : w.heap.size < w3.heap.size + 1 ∧ w.heap.size < w3.heap.size + 1 + 1 ∧ w.heap.size < w3.heap.size + 1 + 1 + 1 ∧ ¬ w.heap.size = w3.heap.size := by omega
  have X3 : Ext w w3 := Ext.trans (by repeat (first | with_reducible exact Ext.refl _ | with_reducible assumption | with_reducible apply Ext.alloc | with_reducible apply Ext.drew | (with_reducible refine Ext.setCell ?_ (by (try simp) <;> omega) _))) x3
  go_wp2_with fail
  refine (interval_walk x _).mono ?_
  rw [HX.out]
  rintro e w4 ⟨rfl, x4⟩
  obtain ⟨hc4, hf4⟩ := x4.rules
  have hz4_0 : w.heap.size < w4.heap.size := by have := x4.size; (try simp at this); omega
  obtain ⟨hl4_0, hl4_1, hl4_2, hl4_3⟩ : w.heap.size < w4.heap.size + 1 ∧ w.heap.size < w4.heap.size + 1 + 1 ∧ w.heap.size < w4.heap.size + 1 + 1 + 1 ∧ ¬ w.heap.size = w4.heap.size := by omega
  have X4 : Ext w w4 := Ext.trans (by repeat (first | with_reducible exact Ext.refl _ | with_reducible assumption | with_reducible apply Ext.alloc | with_reducible apply Ext.drew | (with_reducible refine Ext.setCell ?_ (by (try simp) <;> omega) _))) x4
  go_wp2_with fail
  refine (of_walk x _).mono ?_
  rw [HO.out]
  rintro e w5 ⟨rfl, x5⟩
  obtain ⟨hc5, hf5⟩ := x5.rules
  have hz5_0 : w.heap.size < w5.heap.size := by have := x5.size; (try simp at this); omega
  obtain ⟨hl5_0, hl5_1, hl5_2, hl5_3⟩ : w.heap.size < w5.heap.size + 1 ∧ w.heap.size < w5.heap.size + 1 + 1 ∧ w.heap.size < w5.heap.size + 1 + 1 + 1 ∧ ¬ w.heap.size = w5.heap.size := by omega
  have X5 : Ext w w5 := Ext.trans (by repeat (first | with_reducible exact Ext.refl _ | with_reducible assumption | with_reducible apply Ext.alloc | with_reducible apply Ext.drew | (with_reducible refine Ext.setCell ?_ (by (try simp) <;> omega) _))) x5
  go_wp2_with fail
  refine (sof_walk p _ (G.ext (by repeat (first | with_reducible exact Ext.refl _ | with_reducible assumption | with_reducible apply Ext.alloc | with_reducible apply Ext.drew | (with_reducible refine Ext.setCell ?_ (by (try simp) <;> omega) _))))).mono ?_
  rw [HS.out]
  rintro e w6 ⟨rfl, x6⟩
  obtain ⟨hc6, hf6⟩ := x6.rules
  have hz6_0 : w.heap.size < w6.heap.size := by have := x6.size; (try simp at this); omega
  obtain ⟨hl6_0, hl6_1, hl6_2, hl6_3⟩ : w.heap.size < w6.heap.size + 1 ∧ w.heap.size < w6.heap.size + 1 + 1 ∧ w.heap.size < w6.heap.size + 1 + 1 + 1 ∧ ¬ w.heap.size = w6.heap.size := by omega
  have X6 : Ext w w6 := Ext.trans (by repeat (first | with_reducible exact Ext.refl _ | with_reducible assumption | with_reducible apply Ext.alloc | with_reducible apply Ext.drew | (with_reducible refine Ext.setCell ?_ (by (try simp) <;> omega) _))) x6
  go_wp2_with fail
  refine (tone_walk _ l _ (G.ext (by repeat (first | with_reducible exact Ext.refl _ | with_reducible assumption | with_reducible apply Ext.alloc | with_reducible apply Ext.drew | (with_reducible refine Ext.setCell ?_ (by (try simp) <;> omega) _)))) (S.ext (by repeat (first | with_reducible exact Ext.refl _ | with_reducible assumption | with_reducible apply Ext.alloc | with_reducible apply Ext.drew | (with_reducible refine Ext.setCell ?_ (by (try simp) <;> omega) _))))).mono ?_
  rw [HT.out]
  rintro e w7 ⟨rfl, x7⟩
  obtain ⟨hc7, hf7⟩ := x7.rules
  have hz7_0 : w.heap.size < w7.heap.size := by have := x7.size; (try simp at this); omega
  obtain ⟨hl7_0, hl7_1, hl7_2, hl7_3⟩ : w.heap.size < w7.heap.size + 1 ∧ w.heap.size < w7.heap.size + 1 + 1 ∧ w.heap.size < w7.heap.size + 1 + 1 + 1 ∧ ¬ w.heap.size = w7.heap.size := by omega
  have X7 : Ext w w7 := Ext.trans (by repeat (first | with_reducible exact Ext.refl _ | with_reducible assumption | with_reducible apply Ext.alloc | with_reducible apply Ext.drew | (with_reducible refine Ext.setCell ?_ (by (try simp) <;> omega) _))) x7
  have hk67 : w6.heap.size < w7.heap.size := by have := x7.size; (try simp at this); omega
  have e0 := x7.cell (alloc_cell w6 _ 26 0 _ rfl)
  have e1 := x7.cell (alloc_cell w6 _ 26 1 _ rfl)
  go_wp2_with fail
  refine (cmp_walk s t _).mono ?_
  rw [HC.out]
  rintro e w8 ⟨rfl, x8⟩
  obtain ⟨hc8, hf8⟩ := x8.rules
  have hz8_0 : w.heap.size < w8.heap.size := by have := x8.size; (try simp at this); omega
  obtain ⟨hl8_0, hl8_1, hl8_2, hl8_3⟩ : w.heap.size < w8.heap.size + 1 ∧ w.heap.size < w8.heap.size + 1 + 1 ∧ w.heap.size < w8.heap.size + 1 + 1 + 1 ∧ ¬ w.heap.size = w8.heap.size := by omega
  have X8 : Ext w w8 := Ext.trans (by repeat (first | with_reducible exact Ext.refl _ | with_reducible assumption | with_reducible apply Ext.alloc | with_reducible apply Ext.drew | (with_reducible refine Ext.setCell ?_ (by (try simp) <;> omega) _))) x8
  replace e0 := x8.cell ((Ext.alloc' w7 _).cell e0)
  replace e1 := x8.cell ((Ext.alloc' w7 _).cell e1)
  obtain ⟨N, hN⟩ : ∃ N, w6.heap.size = N := ⟨_, rfl⟩
  rw [hN] at e0 e1
  have HN := Lib.hid hN
  clear x1 x2 x3 x4 x5 x6 x7 x8 hc1 hf1 hc2 hf2 hc3 hf3 hc4 hf4 hc5 hf5 hc6 hf6 hN
  clear X1 X2 X3 X4 X5 X6 X7 hc7 hf7 hc8 hf8
  have n0 := lt_of_cell e0
  simp only at n0
  have n1 : w6.heap.size < w8.heap.size := by rw [HN.out]; exact n0
  have q0 : w8.cell? ⟨w6.heap.size, 0, none⟩ = some (.int .i64 s.lo) := by rw [HN.out]; exact e0
  have q1 : w8.cell? ⟨w6.heap.size, 1, none⟩ = some (.int .i64 s.hi) := by rw [HN.out]; exact e1
  go_wp2
  clear q0 q1 n0 n1
  rw [HN.out]
  go_loopw [17] (fun i wr => ∃ k : Nat, k ≤ l.length ∧ i = .int .i64 k ∧ wr.cell? ⟨N, 0, none⟩ = some (.int .i64 s.lo) ∧ wr.cell? ⟨N, 1, none⟩ = some (.int .i64 s.hi) ∧ Ext w wr) (fun i _ => l.length - (intOf i).toNat)
  case atStart => exact ⟨0, by omega, rfl, e0, e1, X8⟩
  case round =>
    clear e0 e1 X8 HN
    obtain ⟨k, hk, rfl, e0, e1, X⟩ := hrel
    by_cases hlt : k < l.length
    · obtain ⟨b, o, rfl, q0, q1, q2⟩ := Sl.row (S.ext X) k hlt
      obtain ⟨m, hm1, hm2⟩ := K3.out k hlt
      have HM := Lib.hid hm1
      have HRK := Lib.hid (HRT.out k hlt)
      obtain ⟨r, hr⟩ : ∃ r, l[k] = r := ⟨_, rfl⟩
      rw [hr] at q0 q1 q2
      have HRR := Lib.hid hr
      clear hr hm1
      go_wp2_with fail
      refine (root_walk r _ (G.ext (by repeat (first | with_reducible exact Ext.refl _ | with_reducible assumption | with_reducible apply Ext.alloc | with_reducible apply Ext.drew | (with_reducible refine Ext.setCell ?_ (by (try simp) <;> omega) _))))).mono ?_
      rw [← HRR.out, HRK.out]
      rintro e w9 ⟨rfl, x9⟩
      replace e0 := x9.cell e0
      replace e1 := x9.cell e1
      have X9 := X.trans x9
      have n0 := lt_of_cell e0
      simp only at n0
      go_wp2_with fail
      refine (cmp_walk s (rootS l[k]) _).mono ?_
      rw [HM.out]
      rintro e w10 ⟨rfl, x10⟩
      have y10 : Ext w9 w10 := Ext.trans (by repeat (first | with_reducible exact Ext.refl _ | with_reducible assumption | with_reducible apply Ext.alloc | with_reducible apply Ext.drew | (with_reducible refine Ext.setCell ?_ (by (try simp) <;> omega) _))) x10
      replace e0 := y10.cell e0
      replace e1 := y10.cell e1
      have X10 := X9.trans y10
      obtain rfl := hm2 (by first | rfl | trivial)
      go_wp2
      go_roundw
      case rel => exact ⟨k + 1, by omega, by go_num, e0, e1, X10⟩
      case measure => simp [intOf]; omega
    · obtain rfl : k = l.length := by omega
      go_wp2
      go_ret
      exact ⟨rfl, X⟩

set_option maxHeartbeats 4000000 in
theorem fl_b (a? : Option Addr) (cap : Nat) (l : List Row) (x p : V6) (s t : S2) (n : Int) (w : World) (G : Gv 0 1 w) (S : Sl w 3 encR (.slice a? l.length cap) l) (HF : Hid (fitsR l x = (false, 0))) (HT : Hid (toneR l = (t, 0)))
    (HC : Hid (cmpR s t = (n, 0))) (K3 : Hid (∀ k (hk : k < l.length), ∃ m, cmpR s (rootS l[k]) = (m, 0) ∧ ((false : Bool) = true → m = 0))) (HRT : Hid (∀ k (hk : k < l.length), rootR l[k] = (rootS l[k], 0))) (HR : Hid (rowsOk l = true)) (HX : Hid (within x 48 = true))
    (HO : Hid (ofR x = (p, 0))) (HS : Hid (sizeR p = (s, 0))) (hl16 : l.length ≤ 16) (hpb : (s.lo == s.hi) = true) (hn : (n == 0) = false) :
    Calls Tryd.prog 8 #[.slice a? l.length cap, .agg #[.int .i64 x.a, .int .i64 x.b, .int .i64 x.c, .int .i64 x.d, .int .i64 x.e, .int .i64 x.f]] w fun e w' => e = .returned (.bool true) ∧ Ext w w' := by
  go_enter Tryd.func8, Tryd.ntmps8
  go_wp2_with fail
  refine (head_walk _ (G.ext (by repeat (first | with_reducible exact Ext.refl _ | with_reducible assumption | with_reducible apply Ext.alloc | with_reducible apply Ext.drew | (with_reducible refine Ext.setCell ?_ (by (try simp) <;> omega) _))))).mono ?_
  rintro e w1 ⟨rfl, x1⟩
  obtain ⟨hc1, hf1⟩ := x1.rules
  have hz1_0 : w.heap.size < w1.heap.size := by have := x1.size; (try simp at this); omega
  obtain ⟨hl1_0, hl1_1, hl1_2, hl1_3⟩ : w.heap.size < w1.heap.size + 1 ∧ w.heap.size < w1.heap.size + 1 + 1 ∧ w.heap.size < w1.heap.size + 1 + 1 + 1 ∧ ¬ w.heap.size = w1.heap.size := by omega
  have X1 : Ext w w1 := Ext.trans (by repeat (first | with_reducible exact Ext.refl _ | with_reducible assumption | with_reducible apply Ext.alloc | with_reducible apply Ext.drew | (with_reducible refine Ext.setCell ?_ (by (try simp) <;> omega) _))) x1
  go_wp2_with fail
  refine (fits_walk _ l x _ (G.ext (by repeat (first | with_reducible exact Ext.refl _ | with_reducible assumption | with_reducible apply Ext.alloc | with_reducible apply Ext.drew | (with_reducible refine Ext.setCell ?_ (by (try simp) <;> omega) _)))) (S.ext (by repeat (first | with_reducible exact Ext.refl _ | with_reducible assumption | with_reducible apply Ext.alloc | with_reducible apply Ext.drew | (with_reducible refine Ext.setCell ?_ (by (try simp) <;> omega) _))))).mono ?_
  rw [HF.out]
  rintro e w2 ⟨rfl, x2⟩
  obtain ⟨hc2, hf2⟩ := x2.rules
  have hz2_0 : w.heap.size < w2.heap.size := by have := x2.size; (try simp at this); omega
  obtain ⟨hl2_0, hl2_1, hl2_2, hl2_3⟩ : w.heap.size < w2.heap.size + 1 ∧ w.heap.size < w2.heap.size + 1 + 1 ∧ w.heap.size < w2.heap.size + 1 + 1 + 1 ∧ ¬ w.heap.size = w2.heap.size := by omega
  have X2 : Ext w w2 := Ext.trans (by repeat (first | with_reducible exact Ext.refl _ | with_reducible assumption | with_reducible apply Ext.alloc | with_reducible apply Ext.drew | (with_reducible refine Ext.setCell ?_ (by (try simp) <;> omega) _))) x2
  go_wp2_with fail
  refine (rvalid_walk _ l _ (G.ext (by repeat (first | with_reducible exact Ext.refl _ | with_reducible assumption | with_reducible apply Ext.alloc | with_reducible apply Ext.drew | (with_reducible refine Ext.setCell ?_ (by (try simp) <;> omega) _)))) (S.ext (by repeat (first | with_reducible exact Ext.refl _ | with_reducible assumption | with_reducible apply Ext.alloc | with_reducible apply Ext.drew | (with_reducible refine Ext.setCell ?_ (by (try simp) <;> omega) _))))).mono ?_
  rw [HR.out]
  rintro e w3 ⟨rfl, x3⟩
  obtain ⟨hc3, hf3⟩ := x3.rules
  have hz3_0 : w.heap.size < w3.heap.size := by have := x3.size; (try simp at this); omega
  obtain ⟨hl3_0, hl3_1, hl3_2, hl3_3⟩ : w.heap.size < w3.heap.size + 1 ∧ w.heap.size < w3.heap.size + 1 + 1 ∧ w.heap.size < w3.heap.size + 1 + 1 + 1 ∧ ¬ w.heap.size = w3.heap.size := by omega
  have X3 : Ext w w3 := Ext.trans (by repeat (first | with_reducible exact Ext.refl _ | with_reducible assumption | with_reducible apply Ext.alloc | with_reducible apply Ext.drew | (with_reducible refine Ext.setCell ?_ (by (try simp) <;> omega) _))) x3
  go_wp2_with fail
  refine (interval_walk x _).mono ?_
  rw [HX.out]
  rintro e w4 ⟨rfl, x4⟩
  obtain ⟨hc4, hf4⟩ := x4.rules
  have hz4_0 : w.heap.size < w4.heap.size := by have := x4.size; (try simp at this); omega
  obtain ⟨hl4_0, hl4_1, hl4_2, hl4_3⟩ : w.heap.size < w4.heap.size + 1 ∧ w.heap.size < w4.heap.size + 1 + 1 ∧ w.heap.size < w4.heap.size + 1 + 1 + 1 ∧ ¬ w.heap.size = w4.heap.size := by omega
  have X4 : Ext w w4 := Ext.trans (by repeat (first | with_reducible exact Ext.refl _ | with_reducible assumption | with_reducible apply Ext.alloc | with_reducible apply Ext.drew | (with_reducible refine Ext.setCell ?_ (by (try simp) <;> omega) _))) x4
  go_wp2_with fail
  refine (of_walk x _).mono ?_
  rw [HO.out]
  rintro e w5 ⟨rfl, x5⟩
  obtain ⟨hc5, hf5⟩ := x5.rules
  have hz5_0 : w.heap.size < w5.heap.size := by have := x5.size; (try simp at this); omega
  obtain ⟨hl5_0, hl5_1, hl5_2, hl5_3⟩ : w.heap.size < w5.heap.size + 1 ∧ w.heap.size < w5.heap.size + 1 + 1 ∧ w.heap.size < w5.heap.size + 1 + 1 + 1 ∧ ¬ w.heap.size = w5.heap.size := by omega
  have X5 : Ext w w5 := Ext.trans (by repeat (first | with_reducible exact Ext.refl _ | with_reducible assumption | with_reducible apply Ext.alloc | with_reducible apply Ext.drew | (with_reducible refine Ext.setCell ?_ (by (try simp) <;> omega) _))) x5
  go_wp2_with fail
  refine (sof_walk p _ (G.ext (by repeat (first | with_reducible exact Ext.refl _ | with_reducible assumption | with_reducible apply Ext.alloc | with_reducible apply Ext.drew | (with_reducible refine Ext.setCell ?_ (by (try simp) <;> omega) _))))).mono ?_
  rw [HS.out]
  rintro e w6 ⟨rfl, x6⟩
  obtain ⟨hc6, hf6⟩ := x6.rules
  have hz6_0 : w.heap.size < w6.heap.size := by have := x6.size; (try simp at this); omega
  obtain ⟨hl6_0, hl6_1, hl6_2, hl6_3⟩ : w.heap.size < w6.heap.size + 1 ∧ w.heap.size < w6.heap.size + 1 + 1 ∧ w.heap.size < w6.heap.size + 1 + 1 + 1 ∧ ¬ w.heap.size = w6.heap.size := by omega
  have X6 : Ext w w6 := Ext.trans (by repeat (first | with_reducible exact Ext.refl _ | with_reducible assumption | with_reducible apply Ext.alloc | with_reducible apply Ext.drew | (with_reducible refine Ext.setCell ?_ (by (try simp) <;> omega) _))) x6
  go_wp2_with fail
  refine (tone_walk _ l _ (G.ext (by repeat (first | with_reducible exact Ext.refl _ | with_reducible assumption | with_reducible apply Ext.alloc | with_reducible apply Ext.drew | (with_reducible refine Ext.setCell ?_ (by (try simp) <;> omega) _)))) (S.ext (by repeat (first | with_reducible exact Ext.refl _ | with_reducible assumption | with_reducible apply Ext.alloc | with_reducible apply Ext.drew | (with_reducible refine Ext.setCell ?_ (by (try simp) <;> omega) _))))).mono ?_
  rw [HT.out]
  rintro e w7 ⟨rfl, x7⟩
  obtain ⟨hc7, hf7⟩ := x7.rules
  have hz7_0 : w.heap.size < w7.heap.size := by have := x7.size; (try simp at this); omega
  obtain ⟨hl7_0, hl7_1, hl7_2, hl7_3⟩ : w.heap.size < w7.heap.size + 1 ∧ w.heap.size < w7.heap.size + 1 + 1 ∧ w.heap.size < w7.heap.size + 1 + 1 + 1 ∧ ¬ w.heap.size = w7.heap.size := by omega
  have X7 : Ext w w7 := Ext.trans (by repeat (first | with_reducible exact Ext.refl _ | with_reducible assumption | with_reducible apply Ext.alloc | with_reducible apply Ext.drew | (with_reducible refine Ext.setCell ?_ (by (try simp) <;> omega) _))) x7
  have hk67 : w6.heap.size < w7.heap.size := by have := x7.size; (try simp at this); omega
  have e0 := x7.cell (alloc_cell w6 _ 26 0 _ rfl)
  have e1 := x7.cell (alloc_cell w6 _ 26 1 _ rfl)
  go_wp2_with fail
  refine (cmp_walk s t _).mono ?_
  rw [HC.out]
  rintro e w8 ⟨rfl, x8⟩
  obtain ⟨hc8, hf8⟩ := x8.rules
  have hz8_0 : w.heap.size < w8.heap.size := by have := x8.size; (try simp at this); omega
  obtain ⟨hl8_0, hl8_1, hl8_2, hl8_3⟩ : w.heap.size < w8.heap.size + 1 ∧ w.heap.size < w8.heap.size + 1 + 1 ∧ w.heap.size < w8.heap.size + 1 + 1 + 1 ∧ ¬ w.heap.size = w8.heap.size := by omega
  have X8 : Ext w w8 := Ext.trans (by repeat (first | with_reducible exact Ext.refl _ | with_reducible assumption | with_reducible apply Ext.alloc | with_reducible apply Ext.drew | (with_reducible refine Ext.setCell ?_ (by (try simp) <;> omega) _))) x8
  replace e0 := x8.cell ((Ext.alloc' w7 _).cell e0)
  replace e1 := x8.cell ((Ext.alloc' w7 _).cell e1)
  obtain ⟨N, hN⟩ : ∃ N, w6.heap.size = N := ⟨_, rfl⟩
  rw [hN] at e0 e1
  have HN := Lib.hid hN
  clear x1 x2 x3 x4 x5 x6 x7 x8 hc1 hf1 hc2 hf2 hc3 hf3 hc4 hf4 hc5 hf5 hc6 hf6 hN
  clear X1 X2 X3 X4 X5 X6 X7 hc7 hf7 hc8 hf8
  have n0 := lt_of_cell e0
  simp only at n0
  have n1 : w6.heap.size < w8.heap.size := by rw [HN.out]; exact n0
  have q0 : w8.cell? ⟨w6.heap.size, 0, none⟩ = some (.int .i64 s.lo) := by rw [HN.out]; exact e0
  have q1 : w8.cell? ⟨w6.heap.size, 1, none⟩ = some (.int .i64 s.hi) := by rw [HN.out]; exact e1
  go_wp2
  clear q0 q1 n0 n1
  rw [HN.out]
  go_loopw [17] (fun i wr => ∃ k : Nat, k ≤ l.length ∧ i = .int .i64 k ∧ wr.cell? ⟨N, 0, none⟩ = some (.int .i64 s.lo) ∧ wr.cell? ⟨N, 1, none⟩ = some (.int .i64 s.hi) ∧ Ext w wr) (fun i _ => l.length - (intOf i).toNat)
  case atStart => exact ⟨0, by omega, rfl, e0, e1, X8⟩
  case round =>
    clear e0 e1 X8 HN
    obtain ⟨k, hk, rfl, e0, e1, X⟩ := hrel
    by_cases hlt : k < l.length
    · obtain ⟨b, o, rfl, q0, q1, q2⟩ := Sl.row (S.ext X) k hlt
      obtain ⟨m, hm1, hm2⟩ := K3.out k hlt
      have HM := Lib.hid hm1
      have HRK := Lib.hid (HRT.out k hlt)
      obtain ⟨r, hr⟩ : ∃ r, l[k] = r := ⟨_, rfl⟩
      rw [hr] at q0 q1 q2
      have HRR := Lib.hid hr
      clear hr hm1
      go_wp2_with fail
      refine (root_walk r _ (G.ext (by repeat (first | with_reducible exact Ext.refl _ | with_reducible assumption | with_reducible apply Ext.alloc | with_reducible apply Ext.drew | (with_reducible refine Ext.setCell ?_ (by (try simp) <;> omega) _))))).mono ?_
      rw [← HRR.out, HRK.out]
      rintro e w9 ⟨rfl, x9⟩
      replace e0 := x9.cell e0
      replace e1 := x9.cell e1
      have X9 := X.trans x9
      have n0 := lt_of_cell e0
      simp only at n0
      go_wp2_with fail
      refine (cmp_walk s (rootS l[k]) _).mono ?_
      rw [HM.out]
      rintro e w10 ⟨rfl, x10⟩
      have y10 : Ext w9 w10 := Ext.trans (by repeat (first | with_reducible exact Ext.refl _ | with_reducible assumption | with_reducible apply Ext.alloc | with_reducible apply Ext.drew | (with_reducible refine Ext.setCell ?_ (by (try simp) <;> omega) _))) x10
      replace e0 := y10.cell e0
      replace e1 := y10.cell e1
      have X10 := X9.trans y10
      clear hm2
      by_cases hm : m = 0
      · subst hm
        go_wp2
        go_roundw
        case rel => exact ⟨k + 1, by omega, by go_num, e0, e1, X10⟩
        case measure => simp [intOf]; omega
      · have hmb : (m != 0) = true := by simpa using hm
        go_wp2
        go_roundw
        case rel => exact ⟨k + 1, by omega, by go_num, e0, e1, X10⟩
        case measure => simp [intOf]; omega
    · obtain rfl : k = l.length := by omega
      go_wp2
      go_ret
      exact ⟨rfl, X⟩

set_option maxHeartbeats 4000000 in
theorem fl_c (a? : Option Addr) (cap : Nat) (l : List Row) (x p : V6) (s t : S2) (n : Int) (w : World) (G : Gv 0 1 w) (S : Sl w 3 encR (.slice a? l.length cap) l) (HF : Hid (fitsR l x = (false, 0))) (HT : Hid (toneR l = (t, 23)))
    (HC : Hid (cmpR s t = (n, 0))) (K3 : Hid (∀ k (hk : k < l.length), ∃ m, cmpR s (rootS l[k]) = (m, 0) ∧ ((false : Bool) = true → m = 0))) (HRT : Hid (∀ k (hk : k < l.length), rootR l[k] = (rootS l[k], 0))) (HR : Hid (rowsOk l = true)) (HX : Hid (within x 48 = true))
    (HO : Hid (ofR x = (p, 0))) (HS : Hid (sizeR p = (s, 0))) (hl16 : l.length ≤ 16) (hpb : (s.lo == s.hi) = true)  :
    Calls Tryd.prog 8 #[.slice a? l.length cap, .agg #[.int .i64 x.a, .int .i64 x.b, .int .i64 x.c, .int .i64 x.d, .int .i64 x.e, .int .i64 x.f]] w fun e w' => e = .returned (.bool true) ∧ Ext w w' := by
  go_enter Tryd.func8, Tryd.ntmps8
  go_wp2_with fail
  refine (head_walk _ (G.ext (by repeat (first | with_reducible exact Ext.refl _ | with_reducible assumption | with_reducible apply Ext.alloc | with_reducible apply Ext.drew | (with_reducible refine Ext.setCell ?_ (by (try simp) <;> omega) _))))).mono ?_
  rintro e w1 ⟨rfl, x1⟩
  obtain ⟨hc1, hf1⟩ := x1.rules
  have hz1_0 : w.heap.size < w1.heap.size := by have := x1.size; (try simp at this); omega
  obtain ⟨hl1_0, hl1_1, hl1_2, hl1_3⟩ : w.heap.size < w1.heap.size + 1 ∧ w.heap.size < w1.heap.size + 1 + 1 ∧ w.heap.size < w1.heap.size + 1 + 1 + 1 ∧ ¬ w.heap.size = w1.heap.size := by omega
  have X1 : Ext w w1 := Ext.trans (by repeat (first | with_reducible exact Ext.refl _ | with_reducible assumption | with_reducible apply Ext.alloc | with_reducible apply Ext.drew | (with_reducible refine Ext.setCell ?_ (by (try simp) <;> omega) _))) x1
  go_wp2_with fail
  refine (fits_walk _ l x _ (G.ext (by repeat (first | with_reducible exact Ext.refl _ | with_reducible assumption | with_reducible apply Ext.alloc | with_reducible apply Ext.drew | (with_reducible refine Ext.setCell ?_ (by (try simp) <;> omega) _)))) (S.ext (by repeat (first | with_reducible exact Ext.refl _ | with_reducible assumption | with_reducible apply Ext.alloc | with_reducible apply Ext.drew | (with_reducible refine Ext.setCell ?_ (by (try simp) <;> omega) _))))).mono ?_
  rw [HF.out]
  rintro e w2 ⟨rfl, x2⟩
  obtain ⟨hc2, hf2⟩ := x2.rules
  have hz2_0 : w.heap.size < w2.heap.size := by have := x2.size; (try simp at this); omega
  obtain ⟨hl2_0, hl2_1, hl2_2, hl2_3⟩ : w.heap.size < w2.heap.size + 1 ∧ w.heap.size < w2.heap.size + 1 + 1 ∧ w.heap.size < w2.heap.size + 1 + 1 + 1 ∧ ¬ w.heap.size = w2.heap.size := by omega
  have X2 : Ext w w2 := Ext.trans (by repeat (first | with_reducible exact Ext.refl _ | with_reducible assumption | with_reducible apply Ext.alloc | with_reducible apply Ext.drew | (with_reducible refine Ext.setCell ?_ (by (try simp) <;> omega) _))) x2
  go_wp2_with fail
  refine (rvalid_walk _ l _ (G.ext (by repeat (first | with_reducible exact Ext.refl _ | with_reducible assumption | with_reducible apply Ext.alloc | with_reducible apply Ext.drew | (with_reducible refine Ext.setCell ?_ (by (try simp) <;> omega) _)))) (S.ext (by repeat (first | with_reducible exact Ext.refl _ | with_reducible assumption | with_reducible apply Ext.alloc | with_reducible apply Ext.drew | (with_reducible refine Ext.setCell ?_ (by (try simp) <;> omega) _))))).mono ?_
  rw [HR.out]
  rintro e w3 ⟨rfl, x3⟩
  obtain ⟨hc3, hf3⟩ := x3.rules
  have hz3_0 : w.heap.size < w3.heap.size := by have := x3.size; (try simp at this); omega
  obtain ⟨hl3_0, hl3_1, hl3_2, hl3_3⟩ : w.heap.size < w3.heap.size + 1 ∧ w.heap.size < w3.heap.size + 1 + 1 ∧ w.heap.size < w3.heap.size + 1 + 1 + 1 ∧ ¬ w.heap.size = w3.heap.size := by omega
  have X3 : Ext w w3 := Ext.trans (by repeat (first | with_reducible exact Ext.refl _ | with_reducible assumption | with_reducible apply Ext.alloc | with_reducible apply Ext.drew | (with_reducible refine Ext.setCell ?_ (by (try simp) <;> omega) _))) x3
  go_wp2_with fail
  refine (interval_walk x _).mono ?_
  rw [HX.out]
  rintro e w4 ⟨rfl, x4⟩
  obtain ⟨hc4, hf4⟩ := x4.rules
  have hz4_0 : w.heap.size < w4.heap.size := by have := x4.size; (try simp at this); omega
  obtain ⟨hl4_0, hl4_1, hl4_2, hl4_3⟩ : w.heap.size < w4.heap.size + 1 ∧ w.heap.size < w4.heap.size + 1 + 1 ∧ w.heap.size < w4.heap.size + 1 + 1 + 1 ∧ ¬ w.heap.size = w4.heap.size := by omega
  have X4 : Ext w w4 := Ext.trans (by repeat (first | with_reducible exact Ext.refl _ | with_reducible assumption | with_reducible apply Ext.alloc | with_reducible apply Ext.drew | (with_reducible refine Ext.setCell ?_ (by (try simp) <;> omega) _))) x4
  go_wp2_with fail
  refine (of_walk x _).mono ?_
  rw [HO.out]
  rintro e w5 ⟨rfl, x5⟩
  obtain ⟨hc5, hf5⟩ := x5.rules
  have hz5_0 : w.heap.size < w5.heap.size := by have := x5.size; (try simp at this); omega
  obtain ⟨hl5_0, hl5_1, hl5_2, hl5_3⟩ : w.heap.size < w5.heap.size + 1 ∧ w.heap.size < w5.heap.size + 1 + 1 ∧ w.heap.size < w5.heap.size + 1 + 1 + 1 ∧ ¬ w.heap.size = w5.heap.size := by omega
  have X5 : Ext w w5 := Ext.trans (by repeat (first | with_reducible exact Ext.refl _ | with_reducible assumption | with_reducible apply Ext.alloc | with_reducible apply Ext.drew | (with_reducible refine Ext.setCell ?_ (by (try simp) <;> omega) _))) x5
  go_wp2_with fail
  refine (sof_walk p _ (G.ext (by repeat (first | with_reducible exact Ext.refl _ | with_reducible assumption | with_reducible apply Ext.alloc | with_reducible apply Ext.drew | (with_reducible refine Ext.setCell ?_ (by (try simp) <;> omega) _))))).mono ?_
  rw [HS.out]
  rintro e w6 ⟨rfl, x6⟩
  obtain ⟨hc6, hf6⟩ := x6.rules
  have hz6_0 : w.heap.size < w6.heap.size := by have := x6.size; (try simp at this); omega
  obtain ⟨hl6_0, hl6_1, hl6_2, hl6_3⟩ : w.heap.size < w6.heap.size + 1 ∧ w.heap.size < w6.heap.size + 1 + 1 ∧ w.heap.size < w6.heap.size + 1 + 1 + 1 ∧ ¬ w.heap.size = w6.heap.size := by omega
  have X6 : Ext w w6 := Ext.trans (by repeat (first | with_reducible exact Ext.refl _ | with_reducible assumption | with_reducible apply Ext.alloc | with_reducible apply Ext.drew | (with_reducible refine Ext.setCell ?_ (by (try simp) <;> omega) _))) x6
  go_wp2_with fail
  refine (tone_walk _ l _ (G.ext (by repeat (first | with_reducible exact Ext.refl _ | with_reducible assumption | with_reducible apply Ext.alloc | with_reducible apply Ext.drew | (with_reducible refine Ext.setCell ?_ (by (try simp) <;> omega) _)))) (S.ext (by repeat (first | with_reducible exact Ext.refl _ | with_reducible assumption | with_reducible apply Ext.alloc | with_reducible apply Ext.drew | (with_reducible refine Ext.setCell ?_ (by (try simp) <;> omega) _))))).mono ?_
  rw [HT.out]
  rintro e w7 ⟨rfl, x7⟩
  obtain ⟨hc7, hf7⟩ := x7.rules
  have hz7_0 : w.heap.size < w7.heap.size := by have := x7.size; (try simp at this); omega
  obtain ⟨hl7_0, hl7_1, hl7_2, hl7_3⟩ : w.heap.size < w7.heap.size + 1 ∧ w.heap.size < w7.heap.size + 1 + 1 ∧ w.heap.size < w7.heap.size + 1 + 1 + 1 ∧ ¬ w.heap.size = w7.heap.size := by omega
  have X7 : Ext w w7 := Ext.trans (by repeat (first | with_reducible exact Ext.refl _ | with_reducible assumption | with_reducible apply Ext.alloc | with_reducible apply Ext.drew | (with_reducible refine Ext.setCell ?_ (by (try simp) <;> omega) _))) x7
  have hk67 : w6.heap.size < w7.heap.size := by have := x7.size; (try simp at this); omega
  have e0 := x7.cell (alloc_cell w6 _ 26 0 _ rfl)
  have e1 := x7.cell (alloc_cell w6 _ 26 1 _ rfl)
  go_wp2_with fail
  refine (cmp_walk s t _).mono ?_
  rw [HC.out]
  rintro e w8 ⟨rfl, x8⟩
  obtain ⟨hc8, hf8⟩ := x8.rules
  have hz8_0 : w.heap.size < w8.heap.size := by have := x8.size; (try simp at this); omega
  obtain ⟨hl8_0, hl8_1, hl8_2, hl8_3⟩ : w.heap.size < w8.heap.size + 1 ∧ w.heap.size < w8.heap.size + 1 + 1 ∧ w.heap.size < w8.heap.size + 1 + 1 + 1 ∧ ¬ w.heap.size = w8.heap.size := by omega
  have X8 : Ext w w8 := Ext.trans (by repeat (first | with_reducible exact Ext.refl _ | with_reducible assumption | with_reducible apply Ext.alloc | with_reducible apply Ext.drew | (with_reducible refine Ext.setCell ?_ (by (try simp) <;> omega) _))) x8
  replace e0 := x8.cell ((Ext.alloc' w7 _).cell e0)
  replace e1 := x8.cell ((Ext.alloc' w7 _).cell e1)
  obtain ⟨N, hN⟩ : ∃ N, w6.heap.size = N := ⟨_, rfl⟩
  rw [hN] at e0 e1
  have HN := Lib.hid hN
  clear x1 x2 x3 x4 x5 x6 x7 x8 hc1 hf1 hc2 hf2 hc3 hf3 hc4 hf4 hc5 hf5 hc6 hf6 hN
  clear X1 X2 X3 X4 X5 X6 X7 hc7 hf7 hc8 hf8
  have n0 := lt_of_cell e0
  simp only at n0
  have n1 : w6.heap.size < w8.heap.size := by rw [HN.out]; exact n0
  have q0 : w8.cell? ⟨w6.heap.size, 0, none⟩ = some (.int .i64 s.lo) := by rw [HN.out]; exact e0
  have q1 : w8.cell? ⟨w6.heap.size, 1, none⟩ = some (.int .i64 s.hi) := by rw [HN.out]; exact e1
  go_wp2
  clear q0 q1 n0 n1
  rw [HN.out]
  go_loopw [17] (fun i wr => ∃ k : Nat, k ≤ l.length ∧ i = .int .i64 k ∧ wr.cell? ⟨N, 0, none⟩ = some (.int .i64 s.lo) ∧ wr.cell? ⟨N, 1, none⟩ = some (.int .i64 s.hi) ∧ Ext w wr) (fun i _ => l.length - (intOf i).toNat)
  case atStart => exact ⟨0, by omega, rfl, e0, e1, X8⟩
  case round =>
    clear e0 e1 X8 HN
    obtain ⟨k, hk, rfl, e0, e1, X⟩ := hrel
    by_cases hlt : k < l.length
    · obtain ⟨b, o, rfl, q0, q1, q2⟩ := Sl.row (S.ext X) k hlt
      obtain ⟨m, hm1, hm2⟩ := K3.out k hlt
      have HM := Lib.hid hm1
      have HRK := Lib.hid (HRT.out k hlt)
      obtain ⟨r, hr⟩ : ∃ r, l[k] = r := ⟨_, rfl⟩
      rw [hr] at q0 q1 q2
      have HRR := Lib.hid hr
      clear hr hm1
      go_wp2_with fail
      refine (root_walk r _ (G.ext (by repeat (first | with_reducible exact Ext.refl _ | with_reducible assumption | with_reducible apply Ext.alloc | with_reducible apply Ext.drew | (with_reducible refine Ext.setCell ?_ (by (try simp) <;> omega) _))))).mono ?_
      rw [← HRR.out, HRK.out]
      rintro e w9 ⟨rfl, x9⟩
      replace e0 := x9.cell e0
      replace e1 := x9.cell e1
      have X9 := X.trans x9
      have n0 := lt_of_cell e0
      simp only at n0
      go_wp2_with fail
      refine (cmp_walk s (rootS l[k]) _).mono ?_
      rw [HM.out]
      rintro e w10 ⟨rfl, x10⟩
      have y10 : Ext w9 w10 := Ext.trans (by repeat (first | with_reducible exact Ext.refl _ | with_reducible assumption | with_reducible apply Ext.alloc | with_reducible apply Ext.drew | (with_reducible refine Ext.setCell ?_ (by (try simp) <;> omega) _))) x10
      replace e0 := y10.cell e0
      replace e1 := y10.cell e1
      have X10 := X9.trans y10
      clear hm2
      by_cases hm : m = 0
      · subst hm
        go_wp2
        go_roundw
        case rel => exact ⟨k + 1, by omega, by go_num, e0, e1, X10⟩
        case measure => simp [intOf]; omega
      · have hmb : (m != 0) = true := by simpa using hm
        go_wp2
        go_roundw
        case rel => exact ⟨k + 1, by omega, by go_num, e0, e1, X10⟩
        case measure => simp [intOf]; omega
    · obtain rfl : k = l.length := by omega
      go_wp2
      go_ret
      exact ⟨rfl, X⟩

set_option maxHeartbeats 4000000 in
theorem fl_d (a? : Option Addr) (cap : Nat) (l : List Row) (x p : V6) (s t : S2) (w : World) (G : Gv 0 1 w) (S : Sl w 3 encR (.slice a? l.length cap) l) (HF : Hid (fitsR l x = (true, 0))) (HT : Hid (toneR l = (t, 0)))
    (HC : Hid (cmpR s t = (0, 0))) (K3 : Hid (∀ k (hk : k < l.length), ∃ m, cmpR s (rootS l[k]) = (m, 0) ∧ ((true : Bool) = true → m = 0))) (HRT : Hid (∀ k (hk : k < l.length), rootR l[k] = (rootS l[k], 0))) (HR : Hid (rowsOk l = true)) (HX : Hid (within x 48 = true))
    (HO : Hid (ofR x = (p, 0))) (HS : Hid (sizeR p = (s, 0))) (hl16 : l.length ≤ 16) (hpb : (s.lo == s.hi) = false)  :
    Calls Tryd.prog 8 #[.slice a? l.length cap, .agg #[.int .i64 x.a, .int .i64 x.b, .int .i64 x.c, .int .i64 x.d, .int .i64 x.e, .int .i64 x.f]] w fun e w' => e = .returned (.bool true) ∧ Ext w w' := by
  go_enter Tryd.func8, Tryd.ntmps8
  go_wp2_with fail
  refine (head_walk _ (G.ext (by repeat (first | with_reducible exact Ext.refl _ | with_reducible assumption | with_reducible apply Ext.alloc | with_reducible apply Ext.drew | (with_reducible refine Ext.setCell ?_ (by (try simp) <;> omega) _))))).mono ?_
  rintro e w1 ⟨rfl, x1⟩
  obtain ⟨hc1, hf1⟩ := x1.rules
  have hz1_0 : w.heap.size < w1.heap.size := by have := x1.size; (try simp at this); omega
  obtain ⟨hl1_0, hl1_1, hl1_2, hl1_3⟩ : w.heap.size < w1.heap.size + 1 ∧ w.heap.size < w1.heap.size + 1 + 1 ∧ w.heap.size < w1.heap.size + 1 + 1 + 1 ∧ ¬ w.heap.size = w1.heap.size := by omega
  have X1 : Ext w w1 := Ext.trans (by repeat (first | with_reducible exact Ext.refl _ | with_reducible assumption | with_reducible apply Ext.alloc | with_reducible apply Ext.drew | (with_reducible refine Ext.setCell ?_ (by (try simp) <;> omega) _))) x1
  go_wp2_with fail
  refine (fits_walk _ l x _ (G.ext (by repeat (first | with_reducible exact Ext.refl _ | with_reducible assumption | with_reducible apply Ext.alloc | with_reducible apply Ext.drew | (with_reducible refine Ext.setCell ?_ (by (try simp) <;> omega) _)))) (S.ext (by repeat (first | with_reducible exact Ext.refl _ | with_reducible assumption | with_reducible apply Ext.alloc | with_reducible apply Ext.drew | (with_reducible refine Ext.setCell ?_ (by (try simp) <;> omega) _))))).mono ?_
  rw [HF.out]
  rintro e w2 ⟨rfl, x2⟩
  obtain ⟨hc2, hf2⟩ := x2.rules
  have hz2_0 : w.heap.size < w2.heap.size := by have := x2.size; (try simp at this); omega
  obtain ⟨hl2_0, hl2_1, hl2_2, hl2_3⟩ : w.heap.size < w2.heap.size + 1 ∧ w.heap.size < w2.heap.size + 1 + 1 ∧ w.heap.size < w2.heap.size + 1 + 1 + 1 ∧ ¬ w.heap.size = w2.heap.size := by omega
  have X2 : Ext w w2 := Ext.trans (by repeat (first | with_reducible exact Ext.refl _ | with_reducible assumption | with_reducible apply Ext.alloc | with_reducible apply Ext.drew | (with_reducible refine Ext.setCell ?_ (by (try simp) <;> omega) _))) x2
  go_wp2_with fail
  refine (rvalid_walk _ l _ (G.ext (by repeat (first | with_reducible exact Ext.refl _ | with_reducible assumption | with_reducible apply Ext.alloc | with_reducible apply Ext.drew | (with_reducible refine Ext.setCell ?_ (by (try simp) <;> omega) _)))) (S.ext (by repeat (first | with_reducible exact Ext.refl _ | with_reducible assumption | with_reducible apply Ext.alloc | with_reducible apply Ext.drew | (with_reducible refine Ext.setCell ?_ (by (try simp) <;> omega) _))))).mono ?_
  rw [HR.out]
  rintro e w3 ⟨rfl, x3⟩
  obtain ⟨hc3, hf3⟩ := x3.rules
  have hz3_0 : w.heap.size < w3.heap.size := by have := x3.size; (try simp at this); omega
  obtain ⟨hl3_0, hl3_1, hl3_2, hl3_3⟩ : w.heap.size < w3.heap.size + 1 ∧ w.heap.size < w3.heap.size + 1 + 1 ∧ w.heap.size < w3.heap.size + 1 + 1 + 1 ∧ ¬ w.heap.size = w3.heap.size := by omega
  have X3 : Ext w w3 := Ext.trans (by repeat (first | with_reducible exact Ext.refl _ | with_reducible assumption | with_reducible apply Ext.alloc | with_reducible apply Ext.drew | (with_reducible refine Ext.setCell ?_ (by (try simp) <;> omega) _))) x3
  go_wp2_with fail
  refine (interval_walk x _).mono ?_
  rw [HX.out]
  rintro e w4 ⟨rfl, x4⟩
  obtain ⟨hc4, hf4⟩ := x4.rules
  have hz4_0 : w.heap.size < w4.heap.size := by have := x4.size; (try simp at this); omega
  obtain ⟨hl4_0, hl4_1, hl4_2, hl4_3⟩ : w.heap.size < w4.heap.size + 1 ∧ w.heap.size < w4.heap.size + 1 + 1 ∧ w.heap.size < w4.heap.size + 1 + 1 + 1 ∧ ¬ w.heap.size = w4.heap.size := by omega
  have X4 : Ext w w4 := Ext.trans (by repeat (first | with_reducible exact Ext.refl _ | with_reducible assumption | with_reducible apply Ext.alloc | with_reducible apply Ext.drew | (with_reducible refine Ext.setCell ?_ (by (try simp) <;> omega) _))) x4
  go_wp2_with fail
  refine (of_walk x _).mono ?_
  rw [HO.out]
  rintro e w5 ⟨rfl, x5⟩
  obtain ⟨hc5, hf5⟩ := x5.rules
  have hz5_0 : w.heap.size < w5.heap.size := by have := x5.size; (try simp at this); omega
  obtain ⟨hl5_0, hl5_1, hl5_2, hl5_3⟩ : w.heap.size < w5.heap.size + 1 ∧ w.heap.size < w5.heap.size + 1 + 1 ∧ w.heap.size < w5.heap.size + 1 + 1 + 1 ∧ ¬ w.heap.size = w5.heap.size := by omega
  have X5 : Ext w w5 := Ext.trans (by repeat (first | with_reducible exact Ext.refl _ | with_reducible assumption | with_reducible apply Ext.alloc | with_reducible apply Ext.drew | (with_reducible refine Ext.setCell ?_ (by (try simp) <;> omega) _))) x5
  go_wp2_with fail
  refine (sof_walk p _ (G.ext (by repeat (first | with_reducible exact Ext.refl _ | with_reducible assumption | with_reducible apply Ext.alloc | with_reducible apply Ext.drew | (with_reducible refine Ext.setCell ?_ (by (try simp) <;> omega) _))))).mono ?_
  rw [HS.out]
  rintro e w6 ⟨rfl, x6⟩
  obtain ⟨hc6, hf6⟩ := x6.rules
  have hz6_0 : w.heap.size < w6.heap.size := by have := x6.size; (try simp at this); omega
  obtain ⟨hl6_0, hl6_1, hl6_2, hl6_3⟩ : w.heap.size < w6.heap.size + 1 ∧ w.heap.size < w6.heap.size + 1 + 1 ∧ w.heap.size < w6.heap.size + 1 + 1 + 1 ∧ ¬ w.heap.size = w6.heap.size := by omega
  have X6 : Ext w w6 := Ext.trans (by repeat (first | with_reducible exact Ext.refl _ | with_reducible assumption | with_reducible apply Ext.alloc | with_reducible apply Ext.drew | (with_reducible refine Ext.setCell ?_ (by (try simp) <;> omega) _))) x6
  go_wp2_with fail
  refine (tone_walk _ l _ (G.ext (by repeat (first | with_reducible exact Ext.refl _ | with_reducible assumption | with_reducible apply Ext.alloc | with_reducible apply Ext.drew | (with_reducible refine Ext.setCell ?_ (by (try simp) <;> omega) _)))) (S.ext (by repeat (first | with_reducible exact Ext.refl _ | with_reducible assumption | with_reducible apply Ext.alloc | with_reducible apply Ext.drew | (with_reducible refine Ext.setCell ?_ (by (try simp) <;> omega) _))))).mono ?_
  rw [HT.out]
  rintro e w7 ⟨rfl, x7⟩
  obtain ⟨hc7, hf7⟩ := x7.rules
  have hz7_0 : w.heap.size < w7.heap.size := by have := x7.size; (try simp at this); omega
  obtain ⟨hl7_0, hl7_1, hl7_2, hl7_3⟩ : w.heap.size < w7.heap.size + 1 ∧ w.heap.size < w7.heap.size + 1 + 1 ∧ w.heap.size < w7.heap.size + 1 + 1 + 1 ∧ ¬ w.heap.size = w7.heap.size := by omega
  have X7 : Ext w w7 := Ext.trans (by repeat (first | with_reducible exact Ext.refl _ | with_reducible assumption | with_reducible apply Ext.alloc | with_reducible apply Ext.drew | (with_reducible refine Ext.setCell ?_ (by (try simp) <;> omega) _))) x7
  have hk67 : w6.heap.size < w7.heap.size := by have := x7.size; (try simp at this); omega
  have e0 := x7.cell (alloc_cell w6 _ 26 0 _ rfl)
  have e1 := x7.cell (alloc_cell w6 _ 26 1 _ rfl)
  go_wp2_with fail
  refine (cmp_walk s t _).mono ?_
  rw [HC.out]
  rintro e w8 ⟨rfl, x8⟩
  obtain ⟨hc8, hf8⟩ := x8.rules
  have hz8_0 : w.heap.size < w8.heap.size := by have := x8.size; (try simp at this); omega
  obtain ⟨hl8_0, hl8_1, hl8_2, hl8_3⟩ : w.heap.size < w8.heap.size + 1 ∧ w.heap.size < w8.heap.size + 1 + 1 ∧ w.heap.size < w8.heap.size + 1 + 1 + 1 ∧ ¬ w.heap.size = w8.heap.size := by omega
  have X8 : Ext w w8 := Ext.trans (by repeat (first | with_reducible exact Ext.refl _ | with_reducible assumption | with_reducible apply Ext.alloc | with_reducible apply Ext.drew | (with_reducible refine Ext.setCell ?_ (by (try simp) <;> omega) _))) x8
  replace e0 := x8.cell ((Ext.alloc' w7 _).cell e0)
  replace e1 := x8.cell ((Ext.alloc' w7 _).cell e1)
  obtain ⟨N, hN⟩ : ∃ N, w6.heap.size = N := ⟨_, rfl⟩
  rw [hN] at e0 e1
  have HN := Lib.hid hN
  clear x1 x2 x3 x4 x5 x6 x7 x8 hc1 hf1 hc2 hf2 hc3 hf3 hc4 hf4 hc5 hf5 hc6 hf6 hN
  clear X1 X2 X3 X4 X5 X6 X7 hc7 hf7 hc8 hf8
  have n0 := lt_of_cell e0
  simp only at n0
  have n1 : w6.heap.size < w8.heap.size := by rw [HN.out]; exact n0
  have q0 : w8.cell? ⟨w6.heap.size, 0, none⟩ = some (.int .i64 s.lo) := by rw [HN.out]; exact e0
  have q1 : w8.cell? ⟨w6.heap.size, 1, none⟩ = some (.int .i64 s.hi) := by rw [HN.out]; exact e1
  go_wp2
  clear q0 q1 n0 n1
  rw [HN.out]
  go_loopw [17] (fun i wr => ∃ k : Nat, k ≤ l.length ∧ i = .int .i64 k ∧ wr.cell? ⟨N, 0, none⟩ = some (.int .i64 s.lo) ∧ wr.cell? ⟨N, 1, none⟩ = some (.int .i64 s.hi) ∧ Ext w wr) (fun i _ => l.length - (intOf i).toNat)
  case atStart => exact ⟨0, by omega, rfl, e0, e1, X8⟩
  case round =>
    clear e0 e1 X8 HN
    obtain ⟨k, hk, rfl, e0, e1, X⟩ := hrel
    by_cases hlt : k < l.length
    · obtain ⟨b, o, rfl, q0, q1, q2⟩ := Sl.row (S.ext X) k hlt
      obtain ⟨m, hm1, hm2⟩ := K3.out k hlt
      have HM := Lib.hid hm1
      have HRK := Lib.hid (HRT.out k hlt)
      obtain ⟨r, hr⟩ : ∃ r, l[k] = r := ⟨_, rfl⟩
      rw [hr] at q0 q1 q2
      have HRR := Lib.hid hr
      clear hr hm1
      go_wp2_with fail
      refine (root_walk r _ (G.ext (by repeat (first | with_reducible exact Ext.refl _ | with_reducible assumption | with_reducible apply Ext.alloc | with_reducible apply Ext.drew | (with_reducible refine Ext.setCell ?_ (by (try simp) <;> omega) _))))).mono ?_
      rw [← HRR.out, HRK.out]
      rintro e w9 ⟨rfl, x9⟩
      replace e0 := x9.cell e0
      replace e1 := x9.cell e1
      have X9 := X.trans x9
      have n0 := lt_of_cell e0
      simp only at n0
      go_wp2_with fail
      refine (cmp_walk s (rootS l[k]) _).mono ?_
      rw [HM.out]
      rintro e w10 ⟨rfl, x10⟩
      have y10 : Ext w9 w10 := Ext.trans (by repeat (first | with_reducible exact Ext.refl _ | with_reducible assumption | with_reducible apply Ext.alloc | with_reducible apply Ext.drew | (with_reducible refine Ext.setCell ?_ (by (try simp) <;> omega) _))) x10
      replace e0 := y10.cell e0
      replace e1 := y10.cell e1
      have X10 := X9.trans y10
      obtain rfl := hm2 (by first | rfl | trivial)
      go_wp2
      go_roundw
      case rel => exact ⟨k + 1, by omega, by go_num, e0, e1, X10⟩
      case measure => simp [intOf]; omega
    · obtain rfl : k = l.length := by omega
      go_wp2
      go_ret
      exact ⟨rfl, X⟩

set_option maxHeartbeats 4000000 in
theorem fl_e (a? : Option Addr) (cap : Nat) (l : List Row) (x p : V6) (s t : S2) (n : Int) (w : World) (G : Gv 0 1 w) (S : Sl w 3 encR (.slice a? l.length cap) l) (HF : Hid (fitsR l x = (true, 0))) (HT : Hid (toneR l = (t, 0)))
    (HC : Hid (cmpR s t = (n, 0))) (K3 : Hid (∀ k (hk : k < l.length), ∃ m, cmpR s (rootS l[k]) = (m, 0) ∧ ((true : Bool) = true → m = 0))) (HRT : Hid (∀ k (hk : k < l.length), rootR l[k] = (rootS l[k], 0))) (HR : Hid (rowsOk l = true)) (HX : Hid (within x 48 = true))
    (HO : Hid (ofR x = (p, 0))) (HS : Hid (sizeR p = (s, 0))) (hl16 : l.length ≤ 16) (hpb : (s.lo == s.hi) = false) (hn : (n == 0) = false) :
    Calls Tryd.prog 8 #[.slice a? l.length cap, .agg #[.int .i64 x.a, .int .i64 x.b, .int .i64 x.c, .int .i64 x.d, .int .i64 x.e, .int .i64 x.f]] w fun e w' => e = .returned (.bool true) ∧ Ext w w' := by
  go_enter Tryd.func8, Tryd.ntmps8
  go_wp2_with fail
  refine (head_walk _ (G.ext (by repeat (first | with_reducible exact Ext.refl _ | with_reducible assumption | with_reducible apply Ext.alloc | with_reducible apply Ext.drew | (with_reducible refine Ext.setCell ?_ (by (try simp) <;> omega) _))))).mono ?_
  rintro e w1 ⟨rfl, x1⟩
  obtain ⟨hc1, hf1⟩ := x1.rules
  have hz1_0 : w.heap.size < w1.heap.size := by have := x1.size; (try simp at this); omega
  obtain ⟨hl1_0, hl1_1, hl1_2, hl1_3⟩ : w.heap.size < w1.heap.size + 1 ∧ w.heap.size < w1.heap.size + 1 + 1 ∧ w.heap.size < w1.heap.size + 1 + 1 + 1 ∧ ¬ w.heap.size = w1.heap.size := by omega
  have X1 : Ext w w1 := Ext.trans (by repeat (first | with_reducible exact Ext.refl _ | with_reducible assumption | with_reducible apply Ext.alloc | with_reducible apply Ext.drew | (with_reducible refine Ext.setCell ?_ (by (try simp) <;> omega) _))) x1
  go_wp2_with fail
  refine (fits_walk _ l x _ (G.ext (by repeat (first | with_reducible exact Ext.refl _ | with_reducible assumption | with_reducible apply Ext.alloc | with_reducible apply Ext.drew | (with_reducible refine Ext.setCell ?_ (by (try simp) <;> omega) _)))) (S.ext (by repeat (first | with_reducible exact Ext.refl _ | with_reducible assumption | with_reducible apply Ext.alloc | with_reducible apply Ext.drew | (with_reducible refine Ext.setCell ?_ (by (try simp) <;> omega) _))))).mono ?_
  rw [HF.out]
  rintro e w2 ⟨rfl, x2⟩
  obtain ⟨hc2, hf2⟩ := x2.rules
  have hz2_0 : w.heap.size < w2.heap.size := by have := x2.size; (try simp at this); omega
  obtain ⟨hl2_0, hl2_1, hl2_2, hl2_3⟩ : w.heap.size < w2.heap.size + 1 ∧ w.heap.size < w2.heap.size + 1 + 1 ∧ w.heap.size < w2.heap.size + 1 + 1 + 1 ∧ ¬ w.heap.size = w2.heap.size := by omega
  have X2 : Ext w w2 := Ext.trans (by repeat (first | with_reducible exact Ext.refl _ | with_reducible assumption | with_reducible apply Ext.alloc | with_reducible apply Ext.drew | (with_reducible refine Ext.setCell ?_ (by (try simp) <;> omega) _))) x2
  go_wp2_with fail
  refine (rvalid_walk _ l _ (G.ext (by repeat (first | with_reducible exact Ext.refl _ | with_reducible assumption | with_reducible apply Ext.alloc | with_reducible apply Ext.drew | (with_reducible refine Ext.setCell ?_ (by (try simp) <;> omega) _)))) (S.ext (by repeat (first | with_reducible exact Ext.refl _ | with_reducible assumption | with_reducible apply Ext.alloc | with_reducible apply Ext.drew | (with_reducible refine Ext.setCell ?_ (by (try simp) <;> omega) _))))).mono ?_
  rw [HR.out]
  rintro e w3 ⟨rfl, x3⟩
  obtain ⟨hc3, hf3⟩ := x3.rules
  have hz3_0 : w.heap.size < w3.heap.size := by have := x3.size; (try simp at this); omega
  obtain ⟨hl3_0, hl3_1, hl3_2, hl3_3⟩ : w.heap.size < w3.heap.size + 1 ∧ w.heap.size < w3.heap.size + 1 + 1 ∧ w.heap.size < w3.heap.size + 1 + 1 + 1 ∧ ¬ w.heap.size = w3.heap.size := by omega
  have X3 : Ext w w3 := Ext.trans (by repeat (first | with_reducible exact Ext.refl _ | with_reducible assumption | with_reducible apply Ext.alloc | with_reducible apply Ext.drew | (with_reducible refine Ext.setCell ?_ (by (try simp) <;> omega) _))) x3
  go_wp2_with fail
  refine (interval_walk x _).mono ?_
  rw [HX.out]
  rintro e w4 ⟨rfl, x4⟩
  obtain ⟨hc4, hf4⟩ := x4.rules
  have hz4_0 : w.heap.size < w4.heap.size := by have := x4.size; (try simp at this); omega
  obtain ⟨hl4_0, hl4_1, hl4_2, hl4_3⟩ : w.heap.size < w4.heap.size + 1 ∧ w.heap.size < w4.heap.size + 1 + 1 ∧ w.heap.size < w4.heap.size + 1 + 1 + 1 ∧ ¬ w.heap.size = w4.heap.size := by omega
  have X4 : Ext w w4 := Ext.trans (by repeat (first | with_reducible exact Ext.refl _ | with_reducible assumption | with_reducible apply Ext.alloc | with_reducible apply Ext.drew | (with_reducible refine Ext.setCell ?_ (by (try simp) <;> omega) _))) x4
  go_wp2_with fail
  refine (of_walk x _).mono ?_
  rw [HO.out]
  rintro e w5 ⟨rfl, x5⟩
  obtain ⟨hc5, hf5⟩ := x5.rules
  have hz5_0 : w.heap.size < w5.heap.size := by have := x5.size; (try simp at this); omega
  obtain ⟨hl5_0, hl5_1, hl5_2, hl5_3⟩ : w.heap.size < w5.heap.size + 1 ∧ w.heap.size < w5.heap.size + 1 + 1 ∧ w.heap.size < w5.heap.size + 1 + 1 + 1 ∧ ¬ w.heap.size = w5.heap.size := by omega
  have X5 : Ext w w5 := Ext.trans (by repeat (first | with_reducible exact Ext.refl _ | with_reducible assumption | with_reducible apply Ext.alloc | with_reducible apply Ext.drew | (with_reducible refine Ext.setCell ?_ (by (try simp) <;> omega) _))) x5
  go_wp2_with fail
  refine (sof_walk p _ (G.ext (by repeat (first | with_reducible exact Ext.refl _ | with_reducible assumption | with_reducible apply Ext.alloc | with_reducible apply Ext.drew | (with_reducible refine Ext.setCell ?_ (by (try simp) <;> omega) _))))).mono ?_
  rw [HS.out]
  rintro e w6 ⟨rfl, x6⟩
  obtain ⟨hc6, hf6⟩ := x6.rules
  have hz6_0 : w.heap.size < w6.heap.size := by have := x6.size; (try simp at this); omega
  obtain ⟨hl6_0, hl6_1, hl6_2, hl6_3⟩ : w.heap.size < w6.heap.size + 1 ∧ w.heap.size < w6.heap.size + 1 + 1 ∧ w.heap.size < w6.heap.size + 1 + 1 + 1 ∧ ¬ w.heap.size = w6.heap.size := by omega
  have X6 : Ext w w6 := Ext.trans (by repeat (first | with_reducible exact Ext.refl _ | with_reducible assumption | with_reducible apply Ext.alloc | with_reducible apply Ext.drew | (with_reducible refine Ext.setCell ?_ (by (try simp) <;> omega) _))) x6
  go_wp2_with fail
  refine (tone_walk _ l _ (G.ext (by repeat (first | with_reducible exact Ext.refl _ | with_reducible assumption | with_reducible apply Ext.alloc | with_reducible apply Ext.drew | (with_reducible refine Ext.setCell ?_ (by (try simp) <;> omega) _)))) (S.ext (by repeat (first | with_reducible exact Ext.refl _ | with_reducible assumption | with_reducible apply Ext.alloc | with_reducible apply Ext.drew | (with_reducible refine Ext.setCell ?_ (by (try simp) <;> omega) _))))).mono ?_
  rw [HT.out]
  rintro e w7 ⟨rfl, x7⟩
  obtain ⟨hc7, hf7⟩ := x7.rules
  have hz7_0 : w.heap.size < w7.heap.size := by have := x7.size; (try simp at this); omega
  obtain ⟨hl7_0, hl7_1, hl7_2, hl7_3⟩ : w.heap.size < w7.heap.size + 1 ∧ w.heap.size < w7.heap.size + 1 + 1 ∧ w.heap.size < w7.heap.size + 1 + 1 + 1 ∧ ¬ w.heap.size = w7.heap.size := by omega
  have X7 : Ext w w7 := Ext.trans (by repeat (first | with_reducible exact Ext.refl _ | with_reducible assumption | with_reducible apply Ext.alloc | with_reducible apply Ext.drew | (with_reducible refine Ext.setCell ?_ (by (try simp) <;> omega) _))) x7
  have hk67 : w6.heap.size < w7.heap.size := by have := x7.size; (try simp at this); omega
  have e0 := x7.cell (alloc_cell w6 _ 26 0 _ rfl)
  have e1 := x7.cell (alloc_cell w6 _ 26 1 _ rfl)
  go_wp2_with fail
  refine (cmp_walk s t _).mono ?_
  rw [HC.out]
  rintro e w8 ⟨rfl, x8⟩
  obtain ⟨hc8, hf8⟩ := x8.rules
  have hz8_0 : w.heap.size < w8.heap.size := by have := x8.size; (try simp at this); omega
  obtain ⟨hl8_0, hl8_1, hl8_2, hl8_3⟩ : w.heap.size < w8.heap.size + 1 ∧ w.heap.size < w8.heap.size + 1 + 1 ∧ w.heap.size < w8.heap.size + 1 + 1 + 1 ∧ ¬ w.heap.size = w8.heap.size := by omega
  have X8 : Ext w w8 := Ext.trans (by repeat (first | with_reducible exact Ext.refl _ | with_reducible assumption | with_reducible apply Ext.alloc | with_reducible apply Ext.drew | (with_reducible refine Ext.setCell ?_ (by (try simp) <;> omega) _))) x8
  replace e0 := x8.cell ((Ext.alloc' w7 _).cell e0)
  replace e1 := x8.cell ((Ext.alloc' w7 _).cell e1)
  obtain ⟨N, hN⟩ : ∃ N, w6.heap.size = N := ⟨_, rfl⟩
  rw [hN] at e0 e1
  have HN := Lib.hid hN
  clear x1 x2 x3 x4 x5 x6 x7 x8 hc1 hf1 hc2 hf2 hc3 hf3 hc4 hf4 hc5 hf5 hc6 hf6 hN
  clear X1 X2 X3 X4 X5 X6 X7 hc7 hf7 hc8 hf8
  have n0 := lt_of_cell e0
  simp only at n0
  have n1 : w6.heap.size < w8.heap.size := by rw [HN.out]; exact n0
  have q0 : w8.cell? ⟨w6.heap.size, 0, none⟩ = some (.int .i64 s.lo) := by rw [HN.out]; exact e0
  have q1 : w8.cell? ⟨w6.heap.size, 1, none⟩ = some (.int .i64 s.hi) := by rw [HN.out]; exact e1
  go_wp2
  clear q0 q1 n0 n1
  rw [HN.out]
  go_loopw [17] (fun i wr => ∃ k : Nat, k ≤ l.length ∧ i = .int .i64 k ∧ wr.cell? ⟨N, 0, none⟩ = some (.int .i64 s.lo) ∧ wr.cell? ⟨N, 1, none⟩ = some (.int .i64 s.hi) ∧ Ext w wr) (fun i _ => l.length - (intOf i).toNat)
  case atStart => exact ⟨0, by omega, rfl, e0, e1, X8⟩
  case round =>
    clear e0 e1 X8 HN
    obtain ⟨k, hk, rfl, e0, e1, X⟩ := hrel
    by_cases hlt : k < l.length
    · obtain ⟨b, o, rfl, q0, q1, q2⟩ := Sl.row (S.ext X) k hlt
      obtain ⟨m, hm1, hm2⟩ := K3.out k hlt
      have HM := Lib.hid hm1
      have HRK := Lib.hid (HRT.out k hlt)
      obtain ⟨r, hr⟩ : ∃ r, l[k] = r := ⟨_, rfl⟩
      rw [hr] at q0 q1 q2
      have HRR := Lib.hid hr
      clear hr hm1
      go_wp2_with fail
      refine (root_walk r _ (G.ext (by repeat (first | with_reducible exact Ext.refl _ | with_reducible assumption | with_reducible apply Ext.alloc | with_reducible apply Ext.drew | (with_reducible refine Ext.setCell ?_ (by (try simp) <;> omega) _))))).mono ?_
      rw [← HRR.out, HRK.out]
      rintro e w9 ⟨rfl, x9⟩
      replace e0 := x9.cell e0
      replace e1 := x9.cell e1
      have X9 := X.trans x9
      have n0 := lt_of_cell e0
      simp only at n0
      go_wp2_with fail
      refine (cmp_walk s (rootS l[k]) _).mono ?_
      rw [HM.out]
      rintro e w10 ⟨rfl, x10⟩
      have y10 : Ext w9 w10 := Ext.trans (by repeat (first | with_reducible exact Ext.refl _ | with_reducible assumption | with_reducible apply Ext.alloc | with_reducible apply Ext.drew | (with_reducible refine Ext.setCell ?_ (by (try simp) <;> omega) _))) x10
      replace e0 := y10.cell e0
      replace e1 := y10.cell e1
      have X10 := X9.trans y10
      obtain rfl := hm2 (by first | rfl | trivial)
      go_wp2
      go_roundw
      case rel => exact ⟨k + 1, by omega, by go_num, e0, e1, X10⟩
      case measure => simp [intOf]; omega
    · obtain rfl : k = l.length := by omega
      go_wp2
      go_ret
      exact ⟨rfl, X⟩

set_option maxHeartbeats 4000000 in
theorem fl_f (a? : Option Addr) (cap : Nat) (l : List Row) (x p : V6) (s t : S2) (n : Int) (w : World) (G : Gv 0 1 w) (S : Sl w 3 encR (.slice a? l.length cap) l) (HF : Hid (fitsR l x = (true, 0))) (HT : Hid (toneR l = (t, 23)))
    (HC : Hid (cmpR s t = (n, 0))) (K3 : Hid (∀ k (hk : k < l.length), ∃ m, cmpR s (rootS l[k]) = (m, 0) ∧ ((true : Bool) = true → m = 0))) (HRT : Hid (∀ k (hk : k < l.length), rootR l[k] = (rootS l[k], 0))) (HR : Hid (rowsOk l = true)) (HX : Hid (within x 48 = true))
    (HO : Hid (ofR x = (p, 0))) (HS : Hid (sizeR p = (s, 0))) (hl16 : l.length ≤ 16) (hpb : (s.lo == s.hi) = false)  :
    Calls Tryd.prog 8 #[.slice a? l.length cap, .agg #[.int .i64 x.a, .int .i64 x.b, .int .i64 x.c, .int .i64 x.d, .int .i64 x.e, .int .i64 x.f]] w fun e w' => e = .returned (.bool true) ∧ Ext w w' := by
  go_enter Tryd.func8, Tryd.ntmps8
  go_wp2_with fail
  refine (head_walk _ (G.ext (by repeat (first | with_reducible exact Ext.refl _ | with_reducible assumption | with_reducible apply Ext.alloc | with_reducible apply Ext.drew | (with_reducible refine Ext.setCell ?_ (by (try simp) <;> omega) _))))).mono ?_
  rintro e w1 ⟨rfl, x1⟩
  obtain ⟨hc1, hf1⟩ := x1.rules
  have hz1_0 : w.heap.size < w1.heap.size := by have := x1.size; (try simp at this); omega
  obtain ⟨hl1_0, hl1_1, hl1_2, hl1_3⟩ : w.heap.size < w1.heap.size + 1 ∧ w.heap.size < w1.heap.size + 1 + 1 ∧ w.heap.size < w1.heap.size + 1 + 1 + 1 ∧ ¬ w.heap.size = w1.heap.size := by omega
  have X1 : Ext w w1 := Ext.trans (by repeat (first | with_reducible exact Ext.refl _ | with_reducible assumption | with_reducible apply Ext.alloc | with_reducible apply Ext.drew | (with_reducible refine Ext.setCell ?_ (by (try simp) <;> omega) _))) x1
  go_wp2_with fail
  refine (fits_walk _ l x _ (G.ext (by repeat (first | with_reducible exact Ext.refl _ | with_reducible assumption | with_reducible apply Ext.alloc | with_reducible apply Ext.drew | (with_reducible refine Ext.setCell ?_ (by (try simp) <;> omega) _)))) (S.ext (by repeat (first | with_reducible exact Ext.refl _ | with_reducible assumption | with_reducible apply Ext.alloc | with_reducible apply Ext.drew | (with_reducible refine Ext.setCell ?_ (by (try simp) <;> omega) _))))).mono ?_
  rw [HF.out]
  rintro e w2 ⟨rfl, x2⟩
  obtain ⟨hc2, hf2⟩ := x2.rules
  have hz2_0 : w.heap.size < w2.heap.size := by have := x2.size; (try simp at this); omega
  obtain ⟨hl2_0, hl2_1, hl2_2, hl2_3⟩ : w.heap.size < w2.heap.size + 1 ∧ w.heap.size < w2.heap.size + 1 + 1 ∧ w.heap.size < w2.heap.size + 1 + 1 + 1 ∧ ¬ w.heap.size = w2.heap.size := by omega
  have X2 : Ext w w2 := Ext.trans (by repeat (first | with_reducible exact Ext.refl _ | with_reducible assumption | with_reducible apply Ext.alloc | with_reducible apply Ext.drew | (with_reducible refine Ext.setCell ?_ (by (try simp) <;> omega) _))) x2
  go_wp2_with fail
  refine (rvalid_walk _ l _ (G.ext (by repeat (first | with_reducible exact Ext.refl _ | with_reducible assumption | with_reducible apply Ext.alloc | with_reducible apply Ext.drew | (with_reducible refine Ext.setCell ?_ (by (try simp) <;> omega) _)))) (S.ext (by repeat (first | with_reducible exact Ext.refl _ | with_reducible assumption | with_reducible apply Ext.alloc | with_reducible apply Ext.drew | (with_reducible refine Ext.setCell ?_ (by (try simp) <;> omega) _))))).mono ?_
  rw [HR.out]
  rintro e w3 ⟨rfl, x3⟩
  obtain ⟨hc3, hf3⟩ := x3.rules
  have hz3_0 : w.heap.size < w3.heap.size := by have := x3.size; (try simp at this); omega
  obtain ⟨hl3_0, hl3_1, hl3_2, hl3_3⟩ : w.heap.size < w3.heap.size + 1 ∧ w.heap.size < w3.heap.size + 1 + 1 ∧ w.heap.size < w3.heap.size + 1 + 1 + 1 ∧ ¬ w.heap.size = w3.heap.size := by omega
  have X3 : Ext w w3 := Ext.trans (by repeat (first | with_reducible exact Ext.refl _ | with_reducible assumption | with_reducible apply Ext.alloc | with_reducible apply Ext.drew | (with_reducible refine Ext.setCell ?_ (by (try simp) <;> omega) _))) x3
  go_wp2_with fail
  refine (interval_walk x _).mono ?_
  rw [HX.out]
  rintro e w4 ⟨rfl, x4⟩
  obtain ⟨hc4, hf4⟩ := x4.rules
  have hz4_0 : w.heap.size < w4.heap.size := by have := x4.size; (try simp at this); omega
  obtain ⟨hl4_0, hl4_1, hl4_2, hl4_3⟩ : w.heap.size < w4.heap.size + 1 ∧ w.heap.size < w4.heap.size + 1 + 1 ∧ w.heap.size < w4.heap.size + 1 + 1 + 1 ∧ ¬ w.heap.size = w4.heap.size := by omega
  have X4 : Ext w w4 := Ext.trans (by repeat (first | with_reducible exact Ext.refl _ | with_reducible assumption | with_reducible apply Ext.alloc | with_reducible apply Ext.drew | (with_reducible refine Ext.setCell ?_ (by (try simp) <;> omega) _))) x4
  go_wp2_with fail
  refine (of_walk x _).mono ?_
  rw [HO.out]
  rintro e w5 ⟨rfl, x5⟩
  obtain ⟨hc5, hf5⟩ := x5.rules
  have hz5_0 : w.heap.size < w5.heap.size := by have := x5.size; (try simp at this); omega
  obtain ⟨hl5_0, hl5_1, hl5_2, hl5_3⟩ : w.heap.size < w5.heap.size + 1 ∧ w.heap.size < w5.heap.size + 1 + 1 ∧ w.heap.size < w5.heap.size + 1 + 1 + 1 ∧ ¬ w.heap.size = w5.heap.size := by omega
  have X5 : Ext w w5 := Ext.trans (by repeat (first | with_reducible exact Ext.refl _ | with_reducible assumption | with_reducible apply Ext.alloc | with_reducible apply Ext.drew | (with_reducible refine Ext.setCell ?_ (by (try simp) <;> omega) _))) x5
  go_wp2_with fail
  refine (sof_walk p _ (G.ext (by repeat (first | with_reducible exact Ext.refl _ | with_reducible assumption | with_reducible apply Ext.alloc | with_reducible apply Ext.drew | (with_reducible refine Ext.setCell ?_ (by (try simp) <;> omega) _))))).mono ?_
  rw [HS.out]
  rintro e w6 ⟨rfl, x6⟩
  obtain ⟨hc6, hf6⟩ := x6.rules
  have hz6_0 : w.heap.size < w6.heap.size := by have := x6.size; (try simp at this); omega
  obtain ⟨hl6_0, hl6_1, hl6_2, hl6_3⟩ : w.heap.size < w6.heap.size + 1 ∧ w.heap.size < w6.heap.size + 1 + 1 ∧ w.heap.size < w6.heap.size + 1 + 1 + 1 ∧ ¬ w.heap.size = w6.heap.size := by omega
  have X6 : Ext w w6 := Ext.trans (by repeat (first | with_reducible exact Ext.refl _ | with_reducible assumption | with_reducible apply Ext.alloc | with_reducible apply Ext.drew | (with_reducible refine Ext.setCell ?_ (by (try simp) <;> omega) _))) x6
  go_wp2_with fail
  refine (tone_walk _ l _ (G.ext (by repeat (first | with_reducible exact Ext.refl _ | with_reducible assumption | with_reducible apply Ext.alloc | with_reducible apply Ext.drew | (with_reducible refine Ext.setCell ?_ (by (try simp) <;> omega) _)))) (S.ext (by repeat (first | with_reducible exact Ext.refl _ | with_reducible assumption | with_reducible apply Ext.alloc | with_reducible apply Ext.drew | (with_reducible refine Ext.setCell ?_ (by (try simp) <;> omega) _))))).mono ?_
  rw [HT.out]
  rintro e w7 ⟨rfl, x7⟩
  obtain ⟨hc7, hf7⟩ := x7.rules
  have hz7_0 : w.heap.size < w7.heap.size := by have := x7.size; (try simp at this); omega
  obtain ⟨hl7_0, hl7_1, hl7_2, hl7_3⟩ : w.heap.size < w7.heap.size + 1 ∧ w.heap.size < w7.heap.size + 1 + 1 ∧ w.heap.size < w7.heap.size + 1 + 1 + 1 ∧ ¬ w.heap.size = w7.heap.size := by omega
  have X7 : Ext w w7 := Ext.trans (by repeat (first | with_reducible exact Ext.refl _ | with_reducible assumption | with_reducible apply Ext.alloc | with_reducible apply Ext.drew | (with_reducible refine Ext.setCell ?_ (by (try simp) <;> omega) _))) x7
  have hk67 : w6.heap.size < w7.heap.size := by have := x7.size; (try simp at this); omega
  have e0 := x7.cell (alloc_cell w6 _ 26 0 _ rfl)
  have e1 := x7.cell (alloc_cell w6 _ 26 1 _ rfl)
  go_wp2_with fail
  refine (cmp_walk s t _).mono ?_
  rw [HC.out]
  rintro e w8 ⟨rfl, x8⟩
  obtain ⟨hc8, hf8⟩ := x8.rules
  have hz8_0 : w.heap.size < w8.heap.size := by have := x8.size; (try simp at this); omega
  obtain ⟨hl8_0, hl8_1, hl8_2, hl8_3⟩ : w.heap.size < w8.heap.size + 1 ∧ w.heap.size < w8.heap.size + 1 + 1 ∧ w.heap.size < w8.heap.size + 1 + 1 + 1 ∧ ¬ w.heap.size = w8.heap.size := by omega
  have X8 : Ext w w8 := Ext.trans (by repeat (first | with_reducible exact Ext.refl _ | with_reducible assumption | with_reducible apply Ext.alloc | with_reducible apply Ext.drew | (with_reducible refine Ext.setCell ?_ (by (try simp) <;> omega) _))) x8
  replace e0 := x8.cell ((Ext.alloc' w7 _).cell e0)
  replace e1 := x8.cell ((Ext.alloc' w7 _).cell e1)
  obtain ⟨N, hN⟩ : ∃ N, w6.heap.size = N := ⟨_, rfl⟩
  rw [hN] at e0 e1
  have HN := Lib.hid hN
  clear x1 x2 x3 x4 x5 x6 x7 x8 hc1 hf1 hc2 hf2 hc3 hf3 hc4 hf4 hc5 hf5 hc6 hf6 hN
  clear X1 X2 X3 X4 X5 X6 X7 hc7 hf7 hc8 hf8
  have n0 := lt_of_cell e0
  simp only at n0
  have n1 : w6.heap.size < w8.heap.size := by rw [HN.out]; exact n0
  have q0 : w8.cell? ⟨w6.heap.size, 0, none⟩ = some (.int .i64 s.lo) := by rw [HN.out]; exact e0
  have q1 : w8.cell? ⟨w6.heap.size, 1, none⟩ = some (.int .i64 s.hi) := by rw [HN.out]; exact e1
  go_wp2
  clear q0 q1 n0 n1
  rw [HN.out]
  go_loopw [17] (fun i wr => ∃ k : Nat, k ≤ l.length ∧ i = .int .i64 k ∧ wr.cell? ⟨N, 0, none⟩ = some (.int .i64 s.lo) ∧ wr.cell? ⟨N, 1, none⟩ = some (.int .i64 s.hi) ∧ Ext w wr) (fun i _ => l.length - (intOf i).toNat)
  case atStart => exact ⟨0, by omega, rfl, e0, e1, X8⟩
  case round =>
    clear e0 e1 X8 HN
    obtain ⟨k, hk, rfl, e0, e1, X⟩ := hrel
    by_cases hlt : k < l.length
    · obtain ⟨b, o, rfl, q0, q1, q2⟩ := Sl.row (S.ext X) k hlt
      obtain ⟨m, hm1, hm2⟩ := K3.out k hlt
      have HM := Lib.hid hm1
      have HRK := Lib.hid (HRT.out k hlt)
      obtain ⟨r, hr⟩ : ∃ r, l[k] = r := ⟨_, rfl⟩
      rw [hr] at q0 q1 q2
      have HRR := Lib.hid hr
      clear hr hm1
      go_wp2_with fail
      refine (root_walk r _ (G.ext (by repeat (first | with_reducible exact Ext.refl _ | with_reducible assumption | with_reducible apply Ext.alloc | with_reducible apply Ext.drew | (with_reducible refine Ext.setCell ?_ (by (try simp) <;> omega) _))))).mono ?_
      rw [← HRR.out, HRK.out]
      rintro e w9 ⟨rfl, x9⟩
      replace e0 := x9.cell e0
      replace e1 := x9.cell e1
      have X9 := X.trans x9
      have n0 := lt_of_cell e0
      simp only at n0
      go_wp2_with fail
      refine (cmp_walk s (rootS l[k]) _).mono ?_
      rw [HM.out]
      rintro e w10 ⟨rfl, x10⟩
      have y10 : Ext w9 w10 := Ext.trans (by repeat (first | with_reducible exact Ext.refl _ | with_reducible assumption | with_reducible apply Ext.alloc | with_reducible apply Ext.drew | (with_reducible refine Ext.setCell ?_ (by (try simp) <;> omega) _))) x10
      replace e0 := y10.cell e0
      replace e1 := y10.cell e1
      have X10 := X9.trans y10
      obtain rfl := hm2 (by first | rfl | trivial)
      go_wp2
      go_roundw
      case rel => exact ⟨k + 1, by omega, by go_num, e0, e1, X10⟩
      case measure => simp [intOf]; omega
    · obtain rfl : k = l.length := by omega
      go_wp2
      go_ret
      exact ⟨rfl, X⟩

set_option maxHeartbeats 4000000 in
theorem fl_g (a? : Option Addr) (cap : Nat) (l : List Row) (x p : V6) (s t : S2) (n : Int) (w : World) (G : Gv 0 1 w) (S : Sl w 3 encR (.slice a? l.length cap) l) (HF : Hid (fitsR l x = (false, 0))) (HT : Hid (toneR l = (t, 0)))
    (HC : Hid (cmpR s t = (n, 0))) (K3 : Hid (∀ k (hk : k < l.length), ∃ m, cmpR s (rootS l[k]) = (m, 0) ∧ ((false : Bool) = true → m = 0))) (HRT : Hid (∀ k (hk : k < l.length), rootR l[k] = (rootS l[k], 0))) (HR : Hid (rowsOk l = true)) (HX : Hid (within x 48 = true))
    (HO : Hid (ofR x = (p, 0))) (HS : Hid (sizeR p = (s, 0))) (hl16 : l.length ≤ 16) (hpb : (s.lo == s.hi) = false) (hn : (n == 0) = false) :
    Calls Tryd.prog 8 #[.slice a? l.length cap, .agg #[.int .i64 x.a, .int .i64 x.b, .int .i64 x.c, .int .i64 x.d, .int .i64 x.e, .int .i64 x.f]] w fun e w' => e = .returned (.bool true) ∧ Ext w w' := by
  go_enter Tryd.func8, Tryd.ntmps8
  go_wp2_with fail
  refine (head_walk _ (G.ext (by repeat (first | with_reducible exact Ext.refl _ | with_reducible assumption | with_reducible apply Ext.alloc | with_reducible apply Ext.drew | (with_reducible refine Ext.setCell ?_ (by (try simp) <;> omega) _))))).mono ?_
  rintro e w1 ⟨rfl, x1⟩
  obtain ⟨hc1, hf1⟩ := x1.rules
  have hz1_0 : w.heap.size < w1.heap.size := by have := x1.size; (try simp at this); omega
  obtain ⟨hl1_0, hl1_1, hl1_2, hl1_3⟩ : w.heap.size < w1.heap.size + 1 ∧ w.heap.size < w1.heap.size + 1 + 1 ∧ w.heap.size < w1.heap.size + 1 + 1 + 1 ∧ ¬ w.heap.size = w1.heap.size := by omega
  have X1 : Ext w w1 := Ext.trans (by repeat (first | with_reducible exact Ext.refl _ | with_reducible assumption | with_reducible apply Ext.alloc | with_reducible apply Ext.drew | (with_reducible refine Ext.setCell ?_ (by (try simp) <;> omega) _))) x1
  go_wp2_with fail
  refine (fits_walk _ l x _ (G.ext (by repeat (first | with_reducible exact Ext.refl _ | with_reducible assumption | with_reducible apply Ext.alloc | with_reducible apply Ext.drew | (with_reducible refine Ext.setCell ?_ (by (try simp) <;> omega) _)))) (S.ext (by repeat (first | with_reducible exact Ext.refl _ | with_reducible assumption | with_reducible apply Ext.alloc | with_reducible apply Ext.drew | (with_reducible refine Ext.setCell ?_ (by (try simp) <;> omega) _))))).mono ?_
  rw [HF.out]
  rintro e w2 ⟨rfl, x2⟩
  obtain ⟨hc2, hf2⟩ := x2.rules
  have hz2_0 : w.heap.size < w2.heap.size := by have := x2.size; (try simp at this); omega
  obtain ⟨hl2_0, hl2_1, hl2_2, hl2_3⟩ : w.heap.size < w2.heap.size + 1 ∧ w.heap.size < w2.heap.size + 1 + 1 ∧ w.heap.size < w2.heap.size + 1 + 1 + 1 ∧ ¬ w.heap.size = w2.heap.size := by omega
  have X2 : Ext w w2 := Ext.trans (by repeat (first | with_reducible exact Ext.refl _ | with_reducible assumption | with_reducible apply Ext.alloc | with_reducible apply Ext.drew | (with_reducible refine Ext.setCell ?_ (by (try simp) <;> omega) _))) x2
  go_wp2_with fail
  refine (rvalid_walk _ l _ (G.ext (by repeat (first | with_reducible exact Ext.refl _ | with_reducible assumption | with_reducible apply Ext.alloc | with_reducible apply Ext.drew | (with_reducible refine Ext.setCell ?_ (by (try simp) <;> omega) _)))) (S.ext (by repeat (first | with_reducible exact Ext.refl _ | with_reducible assumption | with_reducible apply Ext.alloc | with_reducible apply Ext.drew | (with_reducible refine Ext.setCell ?_ (by (try simp) <;> omega) _))))).mono ?_
  rw [HR.out]
  rintro e w3 ⟨rfl, x3⟩
  obtain ⟨hc3, hf3⟩ := x3.rules
  have hz3_0 : w.heap.size < w3.heap.size := by have := x3.size; (try simp at this); omega
  obtain ⟨hl3_0, hl3_1, hl3_2, hl3_3⟩ : w.heap.size < w3.heap.size + 1 ∧ w.heap.size < w3.heap.size + 1 + 1 ∧ w.heap.size < w3.heap.size + 1 + 1 + 1 ∧ ¬ w.heap.size = w3.heap.size := by omega
  have X3 : Ext w w3 := Ext.trans (by repeat (first | with_reducible exact Ext.refl _ | with_reducible assumption | with_reducible apply Ext.alloc | with_reducible apply Ext.drew | (with_reducible refine Ext.setCell ?_ (by (try simp) <;> omega) _))) x3
  go_wp2_with fail
  refine (interval_walk x _).mono ?_
  rw [HX.out]
  rintro e w4 ⟨rfl, x4⟩
  obtain ⟨hc4, hf4⟩ := x4.rules
  have hz4_0 : w.heap.size < w4.heap.size := by have := x4.size; (try simp at this); omega
  obtain ⟨hl4_0, hl4_1, hl4_2, hl4_3⟩ : w.heap.size < w4.heap.size + 1 ∧ w.heap.size < w4.heap.size + 1 + 1 ∧ w.heap.size < w4.heap.size + 1 + 1 + 1 ∧ ¬ w.heap.size = w4.heap.size := by omega
  have X4 : Ext w w4 := Ext.trans (by repeat (first | with_reducible exact Ext.refl _ | with_reducible assumption | with_reducible apply Ext.alloc | with_reducible apply Ext.drew | (with_reducible refine Ext.setCell ?_ (by (try simp) <;> omega) _))) x4
  go_wp2_with fail
  refine (of_walk x _).mono ?_
  rw [HO.out]
  rintro e w5 ⟨rfl, x5⟩
  obtain ⟨hc5, hf5⟩ := x5.rules
  have hz5_0 : w.heap.size < w5.heap.size := by have := x5.size; (try simp at this); omega
  obtain ⟨hl5_0, hl5_1, hl5_2, hl5_3⟩ : w.heap.size < w5.heap.size + 1 ∧ w.heap.size < w5.heap.size + 1 + 1 ∧ w.heap.size < w5.heap.size + 1 + 1 + 1 ∧ ¬ w.heap.size = w5.heap.size := by omega
  have X5 : Ext w w5 := Ext.trans (by repeat (first | with_reducible exact Ext.refl _ | with_reducible assumption | with_reducible apply Ext.alloc | with_reducible apply Ext.drew | (with_reducible refine Ext.setCell ?_ (by (try simp) <;> omega) _))) x5
  go_wp2_with fail
  refine (sof_walk p _ (G.ext (by repeat (first | with_reducible exact Ext.refl _ | with_reducible assumption | with_reducible apply Ext.alloc | with_reducible apply Ext.drew | (with_reducible refine Ext.setCell ?_ (by (try simp) <;> omega) _))))).mono ?_
  rw [HS.out]
  rintro e w6 ⟨rfl, x6⟩
  obtain ⟨hc6, hf6⟩ := x6.rules
  have hz6_0 : w.heap.size < w6.heap.size := by have := x6.size; (try simp at this); omega
  obtain ⟨hl6_0, hl6_1, hl6_2, hl6_3⟩ : w.heap.size < w6.heap.size + 1 ∧ w.heap.size < w6.heap.size + 1 + 1 ∧ w.heap.size < w6.heap.size + 1 + 1 + 1 ∧ ¬ w.heap.size = w6.heap.size := by omega
  have X6 : Ext w w6 := Ext.trans (by repeat (first | with_reducible exact Ext.refl _ | with_reducible assumption | with_reducible apply Ext.alloc | with_reducible apply Ext.drew | (with_reducible refine Ext.setCell ?_ (by (try simp) <;> omega) _))) x6
  go_wp2_with fail
  refine (tone_walk _ l _ (G.ext (by repeat (first | with_reducible exact Ext.refl _ | with_reducible assumption | with_reducible apply Ext.alloc | with_reducible apply Ext.drew | (with_reducible refine Ext.setCell ?_ (by (try simp) <;> omega) _)))) (S.ext (by repeat (first | with_reducible exact Ext.refl _ | with_reducible assumption | with_reducible apply Ext.alloc | with_reducible apply Ext.drew | (with_reducible refine Ext.setCell ?_ (by (try simp) <;> omega) _))))).mono ?_
  rw [HT.out]
  rintro e w7 ⟨rfl, x7⟩
  obtain ⟨hc7, hf7⟩ := x7.rules
  have hz7_0 : w.heap.size < w7.heap.size := by have := x7.size; (try simp at this); omega
  obtain ⟨hl7_0, hl7_1, hl7_2, hl7_3⟩ : w.heap.size < w7.heap.size + 1 ∧ w.heap.size < w7.heap.size + 1 + 1 ∧ w.heap.size < w7.heap.size + 1 + 1 + 1 ∧ ¬ w.heap.size = w7.heap.size := by omega
  have X7 : Ext w w7 := Ext.trans (by repeat (first | with_reducible exact Ext.refl _ | with_reducible assumption | with_reducible apply Ext.alloc | with_reducible apply Ext.drew | (with_reducible refine Ext.setCell ?_ (by (try simp) <;> omega) _))) x7
  have hk67 : w6.heap.size < w7.heap.size := by have := x7.size; (try simp at this); omega
  have e0 := x7.cell (alloc_cell w6 _ 26 0 _ rfl)
  have e1 := x7.cell (alloc_cell w6 _ 26 1 _ rfl)
  go_wp2_with fail
  refine (cmp_walk s t _).mono ?_
  rw [HC.out]
  rintro e w8 ⟨rfl, x8⟩
  obtain ⟨hc8, hf8⟩ := x8.rules
  have hz8_0 : w.heap.size < w8.heap.size := by have := x8.size; (try simp at this); omega
  obtain ⟨hl8_0, hl8_1, hl8_2, hl8_3⟩ : w.heap.size < w8.heap.size + 1 ∧ w.heap.size < w8.heap.size + 1 + 1 ∧ w.heap.size < w8.heap.size + 1 + 1 + 1 ∧ ¬ w.heap.size = w8.heap.size := by omega
  have X8 : Ext w w8 := Ext.trans (by repeat (first | with_reducible exact Ext.refl _ | with_reducible assumption | with_reducible apply Ext.alloc | with_reducible apply Ext.drew | (with_reducible refine Ext.setCell ?_ (by (try simp) <;> omega) _))) x8
  replace e0 := x8.cell ((Ext.alloc' w7 _).cell e0)
  replace e1 := x8.cell ((Ext.alloc' w7 _).cell e1)
  obtain ⟨N, hN⟩ : ∃ N, w6.heap.size = N := ⟨_, rfl⟩
  rw [hN] at e0 e1
  have HN := Lib.hid hN
  clear x1 x2 x3 x4 x5 x6 x7 x8 hc1 hf1 hc2 hf2 hc3 hf3 hc4 hf4 hc5 hf5 hc6 hf6 hN
  clear X1 X2 X3 X4 X5 X6 X7 hc7 hf7 hc8 hf8
  have n0 := lt_of_cell e0
  simp only at n0
  have n1 : w6.heap.size < w8.heap.size := by rw [HN.out]; exact n0
  have q0 : w8.cell? ⟨w6.heap.size, 0, none⟩ = some (.int .i64 s.lo) := by rw [HN.out]; exact e0
  have q1 : w8.cell? ⟨w6.heap.size, 1, none⟩ = some (.int .i64 s.hi) := by rw [HN.out]; exact e1
  go_wp2
  clear q0 q1 n0 n1
  rw [HN.out]
  go_loopw [17] (fun i wr => ∃ k : Nat, k ≤ l.length ∧ i = .int .i64 k ∧ wr.cell? ⟨N, 0, none⟩ = some (.int .i64 s.lo) ∧ wr.cell? ⟨N, 1, none⟩ = some (.int .i64 s.hi) ∧ Ext w wr) (fun i _ => l.length - (intOf i).toNat)
  case atStart => exact ⟨0, by omega, rfl, e0, e1, X8⟩
  case round =>
    clear e0 e1 X8 HN
    obtain ⟨k, hk, rfl, e0, e1, X⟩ := hrel
    by_cases hlt : k < l.length
    · obtain ⟨b, o, rfl, q0, q1, q2⟩ := Sl.row (S.ext X) k hlt
      obtain ⟨m, hm1, hm2⟩ := K3.out k hlt
      have HM := Lib.hid hm1
      have HRK := Lib.hid (HRT.out k hlt)
      obtain ⟨r, hr⟩ : ∃ r, l[k] = r := ⟨_, rfl⟩
      rw [hr] at q0 q1 q2
      have HRR := Lib.hid hr
      clear hr hm1
      go_wp2_with fail
      refine (root_walk r _ (G.ext (by repeat (first | with_reducible exact Ext.refl _ | with_reducible assumption | with_reducible apply Ext.alloc | with_reducible apply Ext.drew | (with_reducible refine Ext.setCell ?_ (by (try simp) <;> omega) _))))).mono ?_
      rw [← HRR.out, HRK.out]
      rintro e w9 ⟨rfl, x9⟩
      replace e0 := x9.cell e0
      replace e1 := x9.cell e1
      have X9 := X.trans x9
      have n0 := lt_of_cell e0
      simp only at n0
      go_wp2_with fail
      refine (cmp_walk s (rootS l[k]) _).mono ?_
      rw [HM.out]
      rintro e w10 ⟨rfl, x10⟩
      have y10 : Ext w9 w10 := Ext.trans (by repeat (first | with_reducible exact Ext.refl _ | with_reducible assumption | with_reducible apply Ext.alloc | with_reducible apply Ext.drew | (with_reducible refine Ext.setCell ?_ (by (try simp) <;> omega) _))) x10
      replace e0 := y10.cell e0
      replace e1 := y10.cell e1
      have X10 := X9.trans y10
      clear hm2
      by_cases hm : m = 0
      · subst hm
        go_wp2
        go_roundw
        case rel => exact ⟨k + 1, by omega, by go_num, e0, e1, X10⟩
        case measure => simp [intOf]; omega
      · have hmb : (m != 0) = true := by simpa using hm
        go_wp2
        go_roundw
        case rel => exact ⟨k + 1, by omega, by go_num, e0, e1, X10⟩
        case measure => simp [intOf]; omega
    · obtain rfl : k = l.length := by omega
      go_wp2
      go_ret
      exact ⟨rfl, X⟩

set_option maxHeartbeats 4000000 in
theorem fl_h (a? : Option Addr) (cap : Nat) (l : List Row) (x p : V6) (s t : S2) (n : Int) (w : World) (G : Gv 0 1 w) (S : Sl w 3 encR (.slice a? l.length cap) l) (HF : Hid (fitsR l x = (false, 0))) (HT : Hid (toneR l = (t, 23)))
    (HC : Hid (cmpR s t = (n, 0))) (K3 : Hid (∀ k (hk : k < l.length), ∃ m, cmpR s (rootS l[k]) = (m, 0) ∧ ((false : Bool) = true → m = 0))) (HRT : Hid (∀ k (hk : k < l.length), rootR l[k] = (rootS l[k], 0))) (HR : Hid (rowsOk l = true)) (HX : Hid (within x 48 = true))
    (HO : Hid (ofR x = (p, 0))) (HS : Hid (sizeR p = (s, 0))) (hl16 : l.length ≤ 16) (hpb : (s.lo == s.hi) = false)  :
    Calls Tryd.prog 8 #[.slice a? l.length cap, .agg #[.int .i64 x.a, .int .i64 x.b, .int .i64 x.c, .int .i64 x.d, .int .i64 x.e, .int .i64 x.f]] w fun e w' => e = .returned (.bool true) ∧ Ext w w' := by
  go_enter Tryd.func8, Tryd.ntmps8
  go_wp2_with fail
  refine (head_walk _ (G.ext (by repeat (first | with_reducible exact Ext.refl _ | with_reducible assumption | with_reducible apply Ext.alloc | with_reducible apply Ext.drew | (with_reducible refine Ext.setCell ?_ (by (try simp) <;> omega) _))))).mono ?_
  rintro e w1 ⟨rfl, x1⟩
  obtain ⟨hc1, hf1⟩ := x1.rules
  have hz1_0 : w.heap.size < w1.heap.size := by have := x1.size; (try simp at this); omega
  obtain ⟨hl1_0, hl1_1, hl1_2, hl1_3⟩ : w.heap.size < w1.heap.size + 1 ∧ w.heap.size < w1.heap.size + 1 + 1 ∧ w.heap.size < w1.heap.size + 1 + 1 + 1 ∧ ¬ w.heap.size = w1.heap.size := by omega
  have X1 : Ext w w1 := Ext.trans (by repeat (first | with_reducible exact Ext.refl _ | with_reducible assumption | with_reducible apply Ext.alloc | with_reducible apply Ext.drew | (with_reducible refine Ext.setCell ?_ (by (try simp) <;> omega) _))) x1
  go_wp2_with fail
  refine (fits_walk _ l x _ (G.ext (by repeat (first | with_reducible exact Ext.refl _ | with_reducible assumption | with_reducible apply Ext.alloc | with_reducible apply Ext.drew | (with_reducible refine Ext.setCell ?_ (by (try simp) <;> omega) _)))) (S.ext (by repeat (first | with_reducible exact Ext.refl _ | with_reducible assumption | with_reducible apply Ext.alloc | with_reducible apply Ext.drew | (with_reducible refine Ext.setCell ?_ (by (try simp) <;> omega) _))))).mono ?_
  rw [HF.out]
  rintro e w2 ⟨rfl, x2⟩
  obtain ⟨hc2, hf2⟩ := x2.rules
  have hz2_0 : w.heap.size < w2.heap.size := by have := x2.size; (try simp at this); omega
  obtain ⟨hl2_0, hl2_1, hl2_2, hl2_3⟩ : w.heap.size < w2.heap.size + 1 ∧ w.heap.size < w2.heap.size + 1 + 1 ∧ w.heap.size < w2.heap.size + 1 + 1 + 1 ∧ ¬ w.heap.size = w2.heap.size := by omega
  have X2 : Ext w w2 := Ext.trans (by repeat (first | with_reducible exact Ext.refl _ | with_reducible assumption | with_reducible apply Ext.alloc | with_reducible apply Ext.drew | (with_reducible refine Ext.setCell ?_ (by (try simp) <;> omega) _))) x2
  go_wp2_with fail
  refine (rvalid_walk _ l _ (G.ext (by repeat (first | with_reducible exact Ext.refl _ | with_reducible assumption | with_reducible apply Ext.alloc | with_reducible apply Ext.drew | (with_reducible refine Ext.setCell ?_ (by (try simp) <;> omega) _)))) (S.ext (by repeat (first | with_reducible exact Ext.refl _ | with_reducible assumption | with_reducible apply Ext.alloc | with_reducible apply Ext.drew | (with_reducible refine Ext.setCell ?_ (by (try simp) <;> omega) _))))).mono ?_
  rw [HR.out]
  rintro e w3 ⟨rfl, x3⟩
  obtain ⟨hc3, hf3⟩ := x3.rules
  have hz3_0 : w.heap.size < w3.heap.size := by have := x3.size; (try simp at this); omega
  obtain ⟨hl3_0, hl3_1, hl3_2, hl3_3⟩ : w.heap.size < w3.heap.size + 1 ∧ w.heap.size < w3.heap.size + 1 + 1 ∧ w.heap.size < w3.heap.size + 1 + 1 + 1 ∧ ¬ w.heap.size = w3.heap.size := by omega
  have X3 : Ext w w3 := Ext.trans (by repeat (first | with_reducible exact Ext.refl _ | with_reducible assumption | with_reducible apply Ext.alloc | with_reducible apply Ext.drew | (with_reducible refine Ext.setCell ?_ (by (try simp) <;> omega) _))) x3
  go_wp2_with fail
  refine (interval_walk x _).mono ?_
  rw [HX.out]
  rintro e w4 ⟨rfl, x4⟩
  obtain ⟨hc4, hf4⟩ := x4.rules
  have hz4_0 : w.heap.size < w4.heap.size := by have := x4.size; (try simp at this); omega
  obtain ⟨hl4_0, hl4_1, hl4_2, hl4_3⟩ : w.heap.size < w4.heap.size + 1 ∧ w.heap.size < w4.heap.size + 1 + 1 ∧ w.heap.size < w4.heap.size + 1 + 1 + 1 ∧ ¬ w.heap.size = w4.heap.size := by omega
  have X4 : Ext w w4 := Ext.trans (by repeat (first | with_reducible exact Ext.refl _ | with_reducible assumption | with_reducible apply Ext.alloc | with_reducible apply Ext.drew | (with_reducible refine Ext.setCell ?_ (by (try simp) <;> omega) _))) x4
  go_wp2_with fail
  refine (of_walk x _).mono ?_
  rw [HO.out]
  rintro e w5 ⟨rfl, x5⟩
  obtain ⟨hc5, hf5⟩ := x5.rules
  have hz5_0 : w.heap.size < w5.heap.size := by have := x5.size; (try simp at this); omega
  obtain ⟨hl5_0, hl5_1, hl5_2, hl5_3⟩ : w.heap.size < w5.heap.size + 1 ∧ w.heap.size < w5.heap.size + 1 + 1 ∧ w.heap.size < w5.heap.size + 1 + 1 + 1 ∧ ¬ w.heap.size = w5.heap.size := by omega
  have X5 : Ext w w5 := Ext.trans (by repeat (first | with_reducible exact Ext.refl _ | with_reducible assumption | with_reducible apply Ext.alloc | with_reducible apply Ext.drew | (with_reducible refine Ext.setCell ?_ (by (try simp) <;> omega) _))) x5
  go_wp2_with fail
  refine (sof_walk p _ (G.ext (by repeat (first | with_reducible exact Ext.refl _ | with_reducible assumption | with_reducible apply Ext.alloc | with_reducible apply Ext.drew | (with_reducible refine Ext.setCell ?_ (by (try simp) <;> omega) _))))).mono ?_
  rw [HS.out]
  rintro e w6 ⟨rfl, x6⟩
  obtain ⟨hc6, hf6⟩ := x6.rules
  have hz6_0 : w.heap.size < w6.heap.size := by have := x6.size; (try simp at this); omega
  obtain ⟨hl6_0, hl6_1, hl6_2, hl6_3⟩ : w.heap.size < w6.heap.size + 1 ∧ w.heap.size < w6.heap.size + 1 + 1 ∧ w.heap.size < w6.heap.size + 1 + 1 + 1 ∧ ¬ w.heap.size = w6.heap.size := by omega
  have X6 : Ext w w6 := Ext.trans (by repeat (first | with_reducible exact Ext.refl _ | with_reducible assumption | with_reducible apply Ext.alloc | with_reducible apply Ext.drew | (with_reducible refine Ext.setCell ?_ (by (try simp) <;> omega) _))) x6
  go_wp2_with fail
  refine (tone_walk _ l _ (G.ext (by repeat (first | with_reducible exact Ext.refl _ | with_reducible assumption | with_reducible apply Ext.alloc | with_reducible apply Ext.drew | (with_reducible refine Ext.setCell ?_ (by (try simp) <;> omega) _)))) (S.ext (by repeat (first | with_reducible exact Ext.refl _ | with_reducible assumption | with_reducible apply Ext.alloc | with_reducible apply Ext.drew | (with_reducible refine Ext.setCell ?_ (by (try simp) <;> omega) _))))).mono ?_
  rw [HT.out]
  rintro e w7 ⟨rfl, x7⟩
  obtain ⟨hc7, hf7⟩ := x7.rules
  have hz7_0 : w.heap.size < w7.heap.size := by have := x7.size; (try simp at this); omega
  obtain ⟨hl7_0, hl7_1, hl7_2, hl7_3⟩ : w.heap.size < w7.heap.size + 1 ∧ w.heap.size < w7.heap.size + 1 + 1 ∧ w.heap.size < w7.heap.size + 1 + 1 + 1 ∧ ¬ w.heap.size = w7.heap.size := by omega
  have X7 : Ext w w7 := Ext.trans (by repeat (first | with_reducible exact Ext.refl _ | with_reducible assumption | with_reducible apply Ext.alloc | with_reducible apply Ext.drew | (with_reducible refine Ext.setCell ?_ (by (try simp) <;> omega) _))) x7
  have hk67 : w6.heap.size < w7.heap.size := by have := x7.size; (try simp at this); omega
  have e0 := x7.cell (alloc_cell w6 _ 26 0 _ rfl)
  have e1 := x7.cell (alloc_cell w6 _ 26 1 _ rfl)
  go_wp2_with fail
  refine (cmp_walk s t _).mono ?_
  rw [HC.out]
  rintro e w8 ⟨rfl, x8⟩
  obtain ⟨hc8, hf8⟩ := x8.rules
  have hz8_0 : w.heap.size < w8.heap.size := by have := x8.size; (try simp at this); omega
  obtain ⟨hl8_0, hl8_1, hl8_2, hl8_3⟩ : w.heap.size < w8.heap.size + 1 ∧ w.heap.size < w8.heap.size + 1 + 1 ∧ w.heap.size < w8.heap.size + 1 + 1 + 1 ∧ ¬ w.heap.size = w8.heap.size := by omega
  have X8 : Ext w w8 := Ext.trans (by repeat (first | with_reducible exact Ext.refl _ | with_reducible assumption | with_reducible apply Ext.alloc | with_reducible apply Ext.drew | (with_reducible refine Ext.setCell ?_ (by (try simp) <;> omega) _))) x8
  replace e0 := x8.cell ((Ext.alloc' w7 _).cell e0)
  replace e1 := x8.cell ((Ext.alloc' w7 _).cell e1)
  obtain ⟨N, hN⟩ : ∃ N, w6.heap.size = N := ⟨_, rfl⟩
  rw [hN] at e0 e1
  have HN := Lib.hid hN
  clear x1 x2 x3 x4 x5 x6 x7 x8 hc1 hf1 hc2 hf2 hc3 hf3 hc4 hf4 hc5 hf5 hc6 hf6 hN
  clear X1 X2 X3 X4 X5 X6 X7 hc7 hf7 hc8 hf8
  have n0 := lt_of_cell e0
  simp only at n0
  have n1 : w6.heap.size < w8.heap.size := by rw [HN.out]; exact n0
  have q0 : w8.cell? ⟨w6.heap.size, 0, none⟩ = some (.int .i64 s.lo) := by rw [HN.out]; exact e0
  have q1 : w8.cell? ⟨w6.heap.size, 1, none⟩ = some (.int .i64 s.hi) := by rw [HN.out]; exact e1
  go_wp2
  clear q0 q1 n0 n1
  rw [HN.out]
  go_loopw [17] (fun i wr => ∃ k : Nat, k ≤ l.length ∧ i = .int .i64 k ∧ wr.cell? ⟨N, 0, none⟩ = some (.int .i64 s.lo) ∧ wr.cell? ⟨N, 1, none⟩ = some (.int .i64 s.hi) ∧ Ext w wr) (fun i _ => l.length - (intOf i).toNat)
  case atStart => exact ⟨0, by omega, rfl, e0, e1, X8⟩
  case round =>
    clear e0 e1 X8 HN
    obtain ⟨k, hk, rfl, e0, e1, X⟩ := hrel
    by_cases hlt : k < l.length
    · obtain ⟨b, o, rfl, q0, q1, q2⟩ := Sl.row (S.ext X) k hlt
      obtain ⟨m, hm1, hm2⟩ := K3.out k hlt
      have HM := Lib.hid hm1
      have HRK := Lib.hid (HRT.out k hlt)
      obtain ⟨r, hr⟩ : ∃ r, l[k] = r := ⟨_, rfl⟩
      rw [hr] at q0 q1 q2
      have HRR := Lib.hid hr
      clear hr hm1
      go_wp2_with fail
      refine (root_walk r _ (G.ext (by repeat (first | with_reducible exact Ext.refl _ | with_reducible assumption | with_reducible apply Ext.alloc | with_reducible apply Ext.drew | (with_reducible refine Ext.setCell ?_ (by (try simp) <;> omega) _))))).mono ?_
      rw [← HRR.out, HRK.out]
      rintro e w9 ⟨rfl, x9⟩
      replace e0 := x9.cell e0
      replace e1 := x9.cell e1
      have X9 := X.trans x9
      have n0 := lt_of_cell e0
      simp only at n0
      go_wp2_with fail
      refine (cmp_walk s (rootS l[k]) _).mono ?_
      rw [HM.out]
      rintro e w10 ⟨rfl, x10⟩
      have y10 : Ext w9 w10 := Ext.trans (by repeat (first | with_reducible exact Ext.refl _ | with_reducible assumption | with_reducible apply Ext.alloc | with_reducible apply Ext.drew | (with_reducible refine Ext.setCell ?_ (by (try simp) <;> omega) _))) x10
      replace e0 := y10.cell e0
      replace e1 := y10.cell e1
      have X10 := X9.trans y10
      clear hm2
      by_cases hm : m = 0
      · subst hm
        go_wp2
        go_roundw
        case rel => exact ⟨k + 1, by omega, by go_num, e0, e1, X10⟩
        case measure => simp [intOf]; omega
      · have hmb : (m != 0) = true := by simpa using hm
        go_wp2
        go_roundw
        case rel => exact ⟨k + 1, by omega, by go_num, e0, e1, X10⟩
        case measure => simp [intOf]; omega
    · obtain rfl : k = l.length := by omega
      go_wp2
      go_ret
      exact ⟨rfl, X⟩

theorem fits_law_ok (a? : Option Addr) (cap : Nat) (l : List Row) (x : V6) (hr : rowsOk l = true) (hx : within x 48 = true) (w : World) (G : Gv 0 1 w) (S : Sl w 3 encR (.slice a? l.length cap) l) :
    Calls Tryd.prog 8 #[.slice a? l.length cap, .agg #[.int .i64 x.a, .int .i64 x.b, .int .i64 x.c, .int .i64 x.d, .int .i64 x.e, .int .i64 x.f]] w fun e w' => e = .returned (.bool true) ∧ Ext w w' := by
  obtain ⟨b, t, te, n, hf, ht, hcm, hte, k1, k2, k3⟩ := fit_facts hr hx
  have HF := Lib.hid hf; have HT := Lib.hid ht; have HC := Lib.hid hcm
  have HRT := Lib.hid (fun k (hk : k < l.length) => show rootR l[k] = (rootS l[k], 0) by rw [rootR, if_pos ((rowsOk_iff.1 hr).2 _ (List.getElem_mem _))])
  have HR := Lib.hid hr; have HX := Lib.hid hx
  have HO := Lib.hid (ofR_ok hx)
  have HS := Lib.hid (sizeR_ok (times_within hx))
  have hl16 := (rowsOk_iff.1 hr).1
  by_cases hpt : (expo (x.times 12)).lo = (expo (x.times 12)).hi
  · have hpb : ((expo (x.times 12)).lo == (expo (x.times 12)).hi) = true := by simpa using hpt
    cases b with
    | true =>
      obtain ⟨rfl, rfl⟩ := k2 hpt rfl
      exact fl_a a? cap l x _ _ t w G S HF HT HC (Lib.hid (fun k hk => k3 _ (List.getElem_mem _))) HRT HR HX HO HS hl16 hpb
    | false =>
      rcases hte with rfl | rfl
      · have hn : (n == 0) = false := by
          rw [beq_eq_false_iff_ne]; intro h; have := k1 rfl h; cases this
        exact fl_b a? cap l x _ _ t n w G S HF HT HC (Lib.hid (fun k hk => k3 _ (List.getElem_mem _))) HRT HR HX HO HS hl16 hpb hn
      · exact fl_c a? cap l x _ _ t n w G S HF HT HC (Lib.hid (fun k hk => k3 _ (List.getElem_mem _))) HRT HR HX HO HS hl16 hpb
  · have hpb : ((expo (x.times 12)).lo == (expo (x.times 12)).hi) = false := by simpa using hpt
    cases b with
    | true =>
      rcases hte with rfl | rfl
      · by_cases hn0 : n = 0
        · subst hn0
          exact fl_d a? cap l x _ _ t w G S HF HT HC (Lib.hid (fun k hk => k3 _ (List.getElem_mem _))) HRT HR HX HO HS hl16 hpb
        · exact fl_e a? cap l x _ _ t n w G S HF HT HC (Lib.hid (fun k hk => k3 _ (List.getElem_mem _))) HRT HR HX HO HS hl16 hpb (by simpa using hn0)
      · exact fl_f a? cap l x _ _ t n w G S HF HT HC (Lib.hid (fun k hk => k3 _ (List.getElem_mem _))) HRT HR HX HO HS hl16 hpb
    | false =>
      rcases hte with rfl | rfl
      · have hn : (n == 0) = false := by
          rw [beq_eq_false_iff_ne]; intro h; have := k1 rfl h; cases this
        exact fl_g a? cap l x _ _ t n w G S HF HT HC (Lib.hid (fun k hk => k3 _ (List.getElem_mem _))) HRT HR HX HO HS hl16 hpb hn
      · exact fl_h a? cap l x _ _ t n w G S HF HT HC (Lib.hid (fun k hk => k3 _ (List.getElem_mem _))) HRT HR HX HO HS hl16 hpb

set_option maxHeartbeats 2000000 in
theorem fits_law_walk (v : Value) (l : List Row) (x : V6) (w : World) (G : Gv 0 1 w) (S : Sl w 3 encR v l) :
    Calls Tryd.prog 8 #[v, .agg #[.int .i64 x.a, .int .i64 x.b, .int .i64 x.c, .int .i64 x.d, .int .i64 x.e, .int .i64 x.f]] w fun e w' => e = .returned (.bool true) ∧ Ext w w' := by
  cases hr : rowsOk l with
  | true =>
    cases hx : within x 48 with
    | true =>
      obtain ⟨a?, cap, rfl, _, _, _⟩ := S.len
      exact fits_law_ok a? cap l x hr hx w G S
    | false =>
      have HR := Lib.hid hr; have HX := Lib.hid hx
      have HF : Hid (fitsR l x = (false, 1)) := Lib.hid (by rw [fitsR, if_neg (by rw [hx]; simp)])
      clear hr hx
      go_enter Tryd.func8, Tryd.ntmps8
      go_wp2_with fail
      refine (head_walk _ (G.ext (by repeat (first | with_reducible exact Ext.refl _ | with_reducible assumption | with_reducible apply Ext.alloc | with_reducible apply Ext.drew | (with_reducible refine Ext.setCell ?_ (by (try simp) <;> omega) _))))).mono ?_
      rintro e w1 ⟨rfl, x1⟩
      obtain ⟨hc1, hf1⟩ := x1.rules
      have hz1_0 : w.heap.size < w1.heap.size := by have := x1.size; (try simp at this); omega
      obtain ⟨hl1_0, hl1_1, hl1_2, hl1_3⟩ : w.heap.size < w1.heap.size + 1 ∧ w.heap.size < w1.heap.size + 1 + 1 ∧ w.heap.size < w1.heap.size + 1 + 1 + 1 ∧ ¬ w.heap.size = w1.heap.size := by omega
      have X1 : Ext w w1 := Ext.trans (by repeat (first | with_reducible exact Ext.refl _ | with_reducible assumption | with_reducible apply Ext.alloc | with_reducible apply Ext.drew | (with_reducible refine Ext.setCell ?_ (by (try simp) <;> omega) _))) x1
      go_wp2_with fail
      refine (fits_walk _ l x _ (G.ext (by repeat (first | with_reducible exact Ext.refl _ | with_reducible assumption | with_reducible apply Ext.alloc | with_reducible apply Ext.drew | (with_reducible refine Ext.setCell ?_ (by (try simp) <;> omega) _)))) (S.ext (by repeat (first | with_reducible exact Ext.refl _ | with_reducible assumption | with_reducible apply Ext.alloc | with_reducible apply Ext.drew | (with_reducible refine Ext.setCell ?_ (by (try simp) <;> omega) _))))).mono ?_
      rw [HF.out]
      rintro e w2 ⟨rfl, x2⟩
      obtain ⟨hc2, hf2⟩ := x2.rules
      have hz2_0 : w.heap.size < w2.heap.size := by have := x2.size; (try simp at this); omega
      obtain ⟨hl2_0, hl2_1, hl2_2, hl2_3⟩ : w.heap.size < w2.heap.size + 1 ∧ w.heap.size < w2.heap.size + 1 + 1 ∧ w.heap.size < w2.heap.size + 1 + 1 + 1 ∧ ¬ w.heap.size = w2.heap.size := by omega
      have X2 : Ext w w2 := Ext.trans (by repeat (first | with_reducible exact Ext.refl _ | with_reducible assumption | with_reducible apply Ext.alloc | with_reducible apply Ext.drew | (with_reducible refine Ext.setCell ?_ (by (try simp) <;> omega) _))) x2
      go_wp2_with fail
      refine (rvalid_walk _ l _ (G.ext (by repeat (first | with_reducible exact Ext.refl _ | with_reducible assumption | with_reducible apply Ext.alloc | with_reducible apply Ext.drew | (with_reducible refine Ext.setCell ?_ (by (try simp) <;> omega) _)))) (S.ext (by repeat (first | with_reducible exact Ext.refl _ | with_reducible assumption | with_reducible apply Ext.alloc | with_reducible apply Ext.drew | (with_reducible refine Ext.setCell ?_ (by (try simp) <;> omega) _))))).mono ?_
      rw [HR.out]
      rintro e w3 ⟨rfl, x3⟩
      obtain ⟨hc3, hf3⟩ := x3.rules
      have hz3_0 : w.heap.size < w3.heap.size := by have := x3.size; (try simp at this); omega
      obtain ⟨hl3_0, hl3_1, hl3_2, hl3_3⟩ : w.heap.size < w3.heap.size + 1 ∧ w.heap.size < w3.heap.size + 1 + 1 ∧ w.heap.size < w3.heap.size + 1 + 1 + 1 ∧ ¬ w.heap.size = w3.heap.size := by omega
      have X3 : Ext w w3 := Ext.trans (by repeat (first | with_reducible exact Ext.refl _ | with_reducible assumption | with_reducible apply Ext.alloc | with_reducible apply Ext.drew | (with_reducible refine Ext.setCell ?_ (by (try simp) <;> omega) _))) x3
      go_wp2_with fail
      refine (interval_walk x _).mono ?_
      rw [HX.out]
      rintro e w4 ⟨rfl, x4⟩
      obtain ⟨hc4, hf4⟩ := x4.rules
      have hz4_0 : w.heap.size < w4.heap.size := by have := x4.size; (try simp at this); omega
      obtain ⟨hl4_0, hl4_1, hl4_2, hl4_3⟩ : w.heap.size < w4.heap.size + 1 ∧ w.heap.size < w4.heap.size + 1 + 1 ∧ w.heap.size < w4.heap.size + 1 + 1 + 1 ∧ ¬ w.heap.size = w4.heap.size := by omega
      have X4 : Ext w w4 := Ext.trans (by repeat (first | with_reducible exact Ext.refl _ | with_reducible assumption | with_reducible apply Ext.alloc | with_reducible apply Ext.drew | (with_reducible refine Ext.setCell ?_ (by (try simp) <;> omega) _))) x4
      go_wp2
      go_ret
      exact ⟨rfl, (by repeat (first | with_reducible exact Ext.refl _ | with_reducible assumption | with_reducible apply Ext.alloc | with_reducible apply Ext.drew | (with_reducible refine Ext.setCell ?_ (by (try simp) <;> omega) _)))⟩
  | false =>
    have HR := Lib.hid hr
    have HF : Hid (fitsR l x = (false, 1)) := Lib.hid (by rw [fitsR, if_neg (by rw [hr]; simp)])
    clear hr
    go_enter Tryd.func8, Tryd.ntmps8
    go_wp2_with fail
    refine (head_walk _ (G.ext (by repeat (first | with_reducible exact Ext.refl _ | with_reducible assumption | with_reducible apply Ext.alloc | with_reducible apply Ext.drew | (with_reducible refine Ext.setCell ?_ (by (try simp) <;> omega) _))))).mono ?_
    rintro e w1 ⟨rfl, x1⟩
    obtain ⟨hc1, hf1⟩ := x1.rules
    have hz1_0 : w.heap.size < w1.heap.size := by have := x1.size; (try simp at this); omega
    obtain ⟨hl1_0, hl1_1, hl1_2, hl1_3⟩ : w.heap.size < w1.heap.size + 1 ∧ w.heap.size < w1.heap.size + 1 + 1 ∧ w.heap.size < w1.heap.size + 1 + 1 + 1 ∧ ¬ w.heap.size = w1.heap.size := by omega
    have X1 : Ext w w1 := Ext.trans (by repeat (first | with_reducible exact Ext.refl _ | with_reducible assumption | with_reducible apply Ext.alloc | with_reducible apply Ext.drew | (with_reducible refine Ext.setCell ?_ (by (try simp) <;> omega) _))) x1
    go_wp2_with fail
    refine (fits_walk _ l x _ (G.ext (by repeat (first | with_reducible exact Ext.refl _ | with_reducible assumption | with_reducible apply Ext.alloc | with_reducible apply Ext.drew | (with_reducible refine Ext.setCell ?_ (by (try simp) <;> omega) _)))) (S.ext (by repeat (first | with_reducible exact Ext.refl _ | with_reducible assumption | with_reducible apply Ext.alloc | with_reducible apply Ext.drew | (with_reducible refine Ext.setCell ?_ (by (try simp) <;> omega) _))))).mono ?_
    rw [HF.out]
    rintro e w2 ⟨rfl, x2⟩
    obtain ⟨hc2, hf2⟩ := x2.rules
    have hz2_0 : w.heap.size < w2.heap.size := by have := x2.size; (try simp at this); omega
    obtain ⟨hl2_0, hl2_1, hl2_2, hl2_3⟩ : w.heap.size < w2.heap.size + 1 ∧ w.heap.size < w2.heap.size + 1 + 1 ∧ w.heap.size < w2.heap.size + 1 + 1 + 1 ∧ ¬ w.heap.size = w2.heap.size := by omega
    have X2 : Ext w w2 := Ext.trans (by repeat (first | with_reducible exact Ext.refl _ | with_reducible assumption | with_reducible apply Ext.alloc | with_reducible apply Ext.drew | (with_reducible refine Ext.setCell ?_ (by (try simp) <;> omega) _))) x2
    go_wp2_with fail
    refine (rvalid_walk _ l _ (G.ext (by repeat (first | with_reducible exact Ext.refl _ | with_reducible assumption | with_reducible apply Ext.alloc | with_reducible apply Ext.drew | (with_reducible refine Ext.setCell ?_ (by (try simp) <;> omega) _)))) (S.ext (by repeat (first | with_reducible exact Ext.refl _ | with_reducible assumption | with_reducible apply Ext.alloc | with_reducible apply Ext.drew | (with_reducible refine Ext.setCell ?_ (by (try simp) <;> omega) _))))).mono ?_
    rw [HR.out]
    rintro e w3 ⟨rfl, x3⟩
    obtain ⟨hc3, hf3⟩ := x3.rules
    have hz3_0 : w.heap.size < w3.heap.size := by have := x3.size; (try simp at this); omega
    obtain ⟨hl3_0, hl3_1, hl3_2, hl3_3⟩ : w.heap.size < w3.heap.size + 1 ∧ w.heap.size < w3.heap.size + 1 + 1 ∧ w.heap.size < w3.heap.size + 1 + 1 + 1 ∧ ¬ w.heap.size = w3.heap.size := by omega
    have X3 : Ext w w3 := Ext.trans (by repeat (first | with_reducible exact Ext.refl _ | with_reducible assumption | with_reducible apply Ext.alloc | with_reducible apply Ext.drew | (with_reducible refine Ext.setCell ?_ (by (try simp) <;> omega) _))) x3
    go_wp2
    go_ret
    exact ⟨rfl, (by repeat (first | with_reducible exact Ext.refl _ | with_reducible assumption | with_reducible apply Ext.alloc | with_reducible apply Ext.drew | (with_reducible refine Ext.setCell ?_ (by (try simp) <;> omega) _)))⟩

theorem partialFits_args (H : Type) (enc : TypeId × Value → H) (W : World) (base : Nat) (vs : List Value) (ds : List (DataW H)) (_ : ∀ k, (OpenSpec.ofChange Rows.partialFitsSpec).cond = some k → k H ds = true) (hL : laidMetH Tryd.prog Rows.partialFitsRow.laid W) (hA : Args enc Tryd.prog W base Tryd.f8.params.toList vs ds) :
    Calls Tryd.prog 8 vs.toArray W fun e W' => e = .returned (.bool true) ∧ Ext W W' := by
  rw [Tryd.params8] at hA
  obtain ⟨v0, _, d0, _, rfl, rfl, h0, hA⟩ := hA.cons
  obtain ⟨v1, _, d1, _, rfl, rfl, h1, hA⟩ := hA.cons
  obtain ⟨rfl, rfl⟩ := hA.nil
  obtain ⟨l, S, _, _⟩ := arg_rows h0
  obtain ⟨x, rfl, _⟩ := arg_vec h1
  exact fits_law_walk v0 l x W (gv_of hL) S

theorem partialFits_met (os : Os) : laidMet Tryd.prog Rows.partialFitsRow.laid ((laidWorld os).forCall (fun _ _ => 0) ⟨#[], #[.slice none 0 0, .agg #[.int .i64 0, .int .i64 0, .int .i64 0, .int .i64 0, .int .i64 0, .int .i64 0]], []⟩).memory := laidMet_of_run' 8 (by kernel_rfl) (by kernel_rfl)
theorem partialFits_reads (os : Os) {H : Type} (enc : TypeId × Value → H) : ∃ places, DataW.whole enc Tryd.prog ((laidWorld os).forCall (fun _ _ => 0) ⟨#[], #[.slice none 0 0, .agg #[.int .i64 0, .int .i64 0, .int .i64 0, .int .i64 0, .int .i64 0, .int .i64 0]], []⟩).memory Tryd.f8.params.toList Rows.partialFitsSpec.vars false #[.slice none 0 0, .agg #[.int .i64 0, .int .i64 0, .int .i64 0, .int .i64 0, .int .i64 0, .int .i64 0]].toList 8 = some ([.nil, .agg [.lit (.int .i64 0), .lit (.int .i64 0), .lit (.int .i64 0), .lit (.int .i64 0), .lit (.int .i64 0), .lit (.int .i64 0)]], [], places) := ⟨[], by kernel_rfl⟩
set_option maxRecDepth 100000 in
theorem partialFits_lifted (os : Os) (started : os.Started) (H : Type) (enc : TypeId × Value → H) (F : Stop.Interp) :
    ReturnsInHanded {} Tryd.checked os 8 .any ((OpenSpec.ofChange Rows.partialFitsSpec).preRow enc Tryd.prog Tryd.f8 Rows.partialFitsRow.domain false Rows.partialFitsRow.laid) (((OpenSpec.ofChange Rows.partialFitsSpec).at F).post enc Tryd.prog Tryd.f8 false true false false) := by
  obtain ⟨places, hx⟩ := partialFits_reads os enc
  exact law_row (C := Tryd.checked) (s := (OpenSpec.ofChange Rows.partialFitsSpec)) (by kernel_rfl) started (by kernel_rfl) Tryd.func8
    (witness_row_at (enc := enc) (C := Tryd.checked) false (laidWorld os) #[.slice none 0 0, .agg #[.int .i64 0, .int .i64 0, .int .i64 0, .int .i64 0, .int .i64 0, .int .i64 0]] rfl (by kernel_rfl) (by kernel_rfl) (by kernel_rfl) (OpenSpec.preRow_of_cond 8 hx (by kernel_rfl) (fun k hk => by cases hk) (by kernel_rfl) (partialFits_met os)))
    (by kernel_rfl) (by kernel_rfl) (by kernel_rfl) rfl (fun ds h => by match ds, h with | [_, _], _ => rfl) (partialFits_args H enc)
theorem partialFits_said : Rows.PartialFitsSaid :=
  OpenClaim.holds_of_cond 8 Tryd.f8 rfl rfl rfl rfl rfl rfl rfl ⟨rfl, rfl, rfl, rfl, rfl⟩ rfl rfl rfl rfl rfl (by kernel_rfl) Tryd.func8 (by kernel_rfl)
    (of_decide_eq_true (by kernel_rfl)) (by unfold Func.isWrapper; first | (rw [if_pos (by decide +kernel)]; kernel_rfl) | (rw [if_neg (by decide +kernel)]; exact ⟨rfl, rfl⟩))
    (fun os started H enc _ F => by rw [OpenClaim.pre_eq_preRow]; exact partialFits_lifted os started H enc F)
theorem partialFits_plain (f : FuncId) (fn : Func) (hf : Tryd.pinned.checked.prog.funcNamed "schisma/schismalaw37.PartialFits" = some f) (hfn : Tryd.pinned.checked.prog.funcs[f]? = some fn) :
    false = Tryd.pinned.checked.prog.looks [] ∧ ∀ (j : Nat) t, fn.params[j]? = some t → Tryd.pinned.checked.prog.wantsStandIn t = false := by
  obtain rfl : f = 8 := Option.some.inj ((show Tryd.prog.funcNamed "schisma/schismalaw37.PartialFits" = some 8 by kernel_rfl).symm.trans hf) |>.symm
  obtain rfl : fn = Tryd.f8 := (Option.some.inj (Tryd.func8.symm.trans hfn)).symm
  refine ⟨by kernel_rfl, fun j t ht => ?_⟩
  have hall : Tryd.f8.params.all (fun t => !Tryd.prog.wantsStandIn t) = true := by kernel_rfl
  have := (Array.all_eq_true'.1 hall) t (Array.mem_of_getElem? ht)
  have e : Tryd.prog.wantsStandIn t = false := by simpa using this
  exact e
/-- The card. -/
theorem partialFits_holds : Rows.PartialFitsCardSaid :=
  Claim7.holds_tied_plain_at .later [] _ _ _ _ partialFits_said (fun _ h => by cases h) (by kernel_rfl) (fun _ h => by cases h) partialFits_row_tie rfl ⟨rfl, rfl⟩ (by kernel_rfl) rfl partialFits_plain (by kernel_rfl)
end Go.Proofs.YthhkpgbfefakeaaDoor
