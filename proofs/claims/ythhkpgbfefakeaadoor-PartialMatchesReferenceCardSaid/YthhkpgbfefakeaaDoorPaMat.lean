/-
  Proved: 'PartialMatchesReference' returns true for every input and leaves its arguments as they were. No condition.
-/
import Derived.Test.YthhkpgbfefakeaaDoorR37C
import Derived.Test.YthhkpgbfefakeaaDoorPaL
namespace Go.Proofs.YthhkpgbfefakeaaDoor
open Go.RowKit Go.Sx Go.Sx.Sz Go.ChangeShapes Go.WideShapes Go.ChangeAt

theorem put_same {w : World} {g : Nat} {e : TypeId} {a b c d : Int} (h : w.heap[g]? = some (.cells #[.int .i64 a, .int .i64 b] e (0, 0))) : ((w.setCell ⟨g, 0, none⟩ (.int .i64 c)).setCell ⟨g, 1, none⟩ (.int .i64 d)).heap[g]? = some (.cells #[.int .i64 c, .int .i64 d] e (0, 0)) :=
  block_set (block_set h 0 _) 1 _
theorem put_other {w : World} {g k : Nat} {o : Obj} {u v : Value} (h : w.heap[k]? = some o) (hk : k ≠ g) : ((w.setCell ⟨g, 0, none⟩ u).setCell ⟨g, 1, none⟩ v).heap[k]? = some o :=
  block_ne (block_ne h _ _ hk) _ _ hk

set_option maxHeartbeats 8000000 in
theorem mat_walk (v : Value) (l : List Row) (r : Row) (x : V6) (n : Int) (w : World) (G : Gv 0 1 w) (S : Sl w 3 encR v l) :
    Calls Tryd.prog 4 #[v, .agg #[.int .i64 r.h, .int .i64 r.lo, .int .i64 r.hi], .agg #[.int .i64 x.a, .int .i64 x.b, .int .i64 x.c, .int .i64 x.d, .int .i64 x.e, .int .i64 x.f], .int .i64 n] w fun e w' => e = .returned (.bool true) ∧ Ext w w' := by
  obtain ⟨vb, hvb⟩ : ∃ b, rowsOk l = b := ⟨_, rfl⟩
  obtain ⟨q, hq⟩ : ∃ b, rootR r = b := ⟨_, rfl⟩
  obtain ⟨t, ht⟩ : ∃ b, toneR l = b := ⟨_, rfl⟩
  obtain ⟨p, hp⟩ : ∃ b, predR l n = b := ⟨_, rfl⟩
  obtain ⟨f, hf⟩ : ∃ b, refuteR l = b := ⟨_, rfl⟩
  obtain ⟨g, hg⟩ : ∃ b, fitsR l x = b := ⟨_, rfl⟩
  have HV := Lib.hid hvb; have HQ := Lib.hid hq; have HT := Lib.hid ht; have HP := Lib.hid hp; have HF := Lib.hid hf; have HG := Lib.hid hg
  clear hvb hq ht hp hf hg
  go_enter Tryd.func4, Tryd.ntmps4
  go_wp2_with fail
  refine (head_walk _ (G.ext (by repeat (first | with_reducible exact Ext.refl _ | with_reducible assumption | with_reducible apply Ext.alloc | with_reducible apply Ext.drew | (with_reducible refine Ext.setCell ?_ (by (try simp) <;> omega) _))))).mono ?_
  rintro e w1 ⟨rfl, x1⟩
  obtain ⟨hc1, hf1⟩ := x1.rules
  obtain ⟨hz1_0, hz1_1⟩ : w.heap.size < w1.heap.size ∧ w.heap.size + 1 < w1.heap.size := by have := x1.size; (try simp at this); omega
  obtain ⟨hl1_0, hl1_1, hl1_2, hl1_3, hl1_4, hl1_5, hl1_6, hl1_7⟩ : w.heap.size < w1.heap.size + 1 ∧ w.heap.size < w1.heap.size + 1 + 1 ∧ w.heap.size < w1.heap.size + 1 + 1 + 1 ∧ w.heap.size + 1 < w1.heap.size + 1 ∧ w.heap.size + 1 < w1.heap.size + 1 + 1 ∧ w.heap.size + 1 < w1.heap.size + 1 + 1 + 1 ∧ ¬ w.heap.size = w1.heap.size ∧ ¬ w.heap.size + 1 = w1.heap.size := by omega
  have X1 : Ext w w1 := Ext.trans (by repeat (first | with_reducible exact Ext.refl _ | with_reducible assumption | with_reducible apply Ext.alloc | with_reducible apply Ext.drew | (with_reducible refine Ext.setCell ?_ (by (try simp) <;> omega) _))) x1
  go_wp2_with fail
  refine (rvalid_walk v l _ (G.ext (by repeat (first | with_reducible exact Ext.refl _ | with_reducible assumption | with_reducible apply Ext.alloc | with_reducible apply Ext.drew | (with_reducible refine Ext.setCell ?_ (by (try simp) <;> omega) _)))) (S.ext (by repeat (first | with_reducible exact Ext.refl _ | with_reducible assumption | with_reducible apply Ext.alloc | with_reducible apply Ext.drew | (with_reducible refine Ext.setCell ?_ (by (try simp) <;> omega) _))))).mono ?_
  rw [HV.out]
  rintro e w2 ⟨rfl, x2⟩
  obtain ⟨hc2, hf2⟩ := x2.rules
  obtain ⟨hz2_0, hz2_1⟩ : w.heap.size < w2.heap.size ∧ w.heap.size + 1 < w2.heap.size := by have := x2.size; (try simp at this); omega
  obtain ⟨hl2_0, hl2_1, hl2_2, hl2_3, hl2_4, hl2_5, hl2_6, hl2_7⟩ : w.heap.size < w2.heap.size + 1 ∧ w.heap.size < w2.heap.size + 1 + 1 ∧ w.heap.size < w2.heap.size + 1 + 1 + 1 ∧ w.heap.size + 1 < w2.heap.size + 1 ∧ w.heap.size + 1 < w2.heap.size + 1 + 1 ∧ w.heap.size + 1 < w2.heap.size + 1 + 1 + 1 ∧ ¬ w.heap.size = w2.heap.size ∧ ¬ w.heap.size + 1 = w2.heap.size := by omega
  have X2 : Ext w w2 := Ext.trans (by repeat (first | with_reducible exact Ext.refl _ | with_reducible assumption | with_reducible apply Ext.alloc | with_reducible apply Ext.drew | (with_reducible refine Ext.setCell ?_ (by (try simp) <;> omega) _))) x2
  go_wp2_with fail
  refine (rrvalid_walk v l _ (S.ext (by repeat (first | with_reducible exact Ext.refl _ | with_reducible assumption | with_reducible apply Ext.alloc | with_reducible apply Ext.drew | (with_reducible refine Ext.setCell ?_ (by (try simp) <;> omega) _))))).mono ?_
  rw [HV.out]
  rintro e w3 ⟨rfl, x3⟩
  obtain ⟨hc3, hf3⟩ := x3.rules
  obtain ⟨hz3_0, hz3_1⟩ : w.heap.size < w3.heap.size ∧ w.heap.size + 1 < w3.heap.size := by have := x3.size; (try simp at this); omega
  obtain ⟨hl3_0, hl3_1, hl3_2, hl3_3, hl3_4, hl3_5, hl3_6, hl3_7⟩ : w.heap.size < w3.heap.size + 1 ∧ w.heap.size < w3.heap.size + 1 + 1 ∧ w.heap.size < w3.heap.size + 1 + 1 + 1 ∧ w.heap.size + 1 < w3.heap.size + 1 ∧ w.heap.size + 1 < w3.heap.size + 1 + 1 ∧ w.heap.size + 1 < w3.heap.size + 1 + 1 + 1 ∧ ¬ w.heap.size = w3.heap.size ∧ ¬ w.heap.size + 1 = w3.heap.size := by omega
  have X3 : Ext w w3 := Ext.trans (by repeat (first | with_reducible exact Ext.refl _ | with_reducible assumption | with_reducible apply Ext.alloc | with_reducible apply Ext.drew | (with_reducible refine Ext.setCell ?_ (by (try simp) <;> omega) _))) x3
  have b0 := block_ext x3 (block_ext x2 (block_ext x1 (block_alloc (block_new w _) _)))
  have b1 : w3.heap[w.heap.size + 1]? = _ := block_ext x3 (block_ext x2 (block_ext x1 (block_at (by simp) _)))
  have k3 := block_lt b1
  clear x1 hc1 hf1 x2 hc2 hf2 x3 hc3 hf3 X1 X2 hz1_0 hz1_1 hz2_0 hz2_1 hz3_0 hz3_1 hl1_0 hl1_1 hl1_2 hl1_3 hl1_4 hl1_5 hl1_6 hl1_7 hl2_0 hl2_1 hl2_2 hl2_3 hl2_4 hl2_5 hl2_6 hl2_7 hl3_0 hl3_1 hl3_2 hl3_3 hl3_4 hl3_5 hl3_6 hl3_7
  obtain ⟨p0, f0⟩ := block_rules b0
  go_wp2_with fail
  refine (root_walk r _ (G.ext (by repeat (first | with_reducible exact Ext.refl _ | with_reducible assumption | with_reducible apply Ext.alloc | with_reducible apply Ext.drew | (with_reducible refine Ext.setCell ?_ (by (try simp) <;> omega) _))))).mono ?_
  rw [HQ.out]
  rintro e w4 ⟨rfl, x4⟩
  obtain ⟨hc4, hf4⟩ := x4.rules
  have X4 : Ext w w4 := Ext.trans (by repeat (first | with_reducible exact Ext.refl _ | with_reducible assumption | with_reducible apply Ext.alloc | with_reducible apply Ext.drew | (with_reducible refine Ext.setCell ?_ (by (try simp) <;> omega) _))) x4
  replace b0 := block_ext x4 b0
  replace b1 := block_ext x4 b1
  have k4 := block_lt b1
  clear p0 f0 x4 hc4 hf4 X3
  obtain ⟨p0, f0⟩ := block_rules b0
  have i0 : w.heap.size < w4.heap.size := by omega
  have i1 : ¬ w.heap.size = w4.heap.size := by omega
  have i2 : ¬ w4.heap.size = w.heap.size := by omega
  go_wp2_with fail
  refine (rroot_walk r _).mono ?_
  rw [HQ.out]
  rintro e w5 ⟨rfl, x5⟩
  obtain ⟨hc5, hf5⟩ := x5.rules
  have X5 : Ext w w5 := Ext.trans (by repeat (first | with_reducible exact Ext.refl _ | with_reducible assumption | with_reducible apply Ext.alloc | with_reducible apply Ext.drew | (with_reducible refine Ext.setCell ?_ (by (try simp) <;> omega) _))) x5
  replace b0 := block_ext x5 (block_alloc b0 _)
  replace b1 := block_ext x5 (block_alloc b1 _)
  have d10 := block_ext x5 (block_new w4 _)
  have k5 := block_lt d10
  clear p0 f0 x5 hc5 hf5 X4 b0 i1 i2
  obtain ⟨p1, f1⟩ := block_rules d10
  have i3 : ¬ w4.heap.size = w5.heap.size := by omega
  have i4 : ¬ w5.heap.size = w4.heap.size := by omega
  go_wp2_with fail
  refine (tone_walk v l _ (G.ext (by repeat (first | with_reducible exact Ext.refl _ | with_reducible assumption | with_reducible apply Ext.alloc | with_reducible apply Ext.drew | (with_reducible refine Ext.setCell ?_ (by (try simp) <;> omega) _)))) (S.ext (by repeat (first | with_reducible exact Ext.refl _ | with_reducible assumption | with_reducible apply Ext.alloc | with_reducible apply Ext.drew | (with_reducible refine Ext.setCell ?_ (by (try simp) <;> omega) _))))).mono ?_
  rw [HT.out]
  rintro e w6 ⟨rfl, x6⟩
  obtain ⟨hc6, hf6⟩ := x6.rules
  have X6 : Ext w w6 := Ext.trans (by repeat (first | with_reducible exact Ext.refl _ | with_reducible assumption | with_reducible apply Ext.alloc | with_reducible apply Ext.drew | (with_reducible refine Ext.setCell ?_ (by (try simp) <;> omega) _))) x6
  replace b1 := block_ext x6 (block_alloc b1 _)
  replace d10 := block_ext x6 (block_alloc d10 _)
  have d12 := block_ext x6 (block_new w5 _)
  have k6 := block_lt d12
  clear p1 f1 x6 hc6 hf6 X5
  obtain ⟨p1, f1⟩ := block_rules d10
  go_wp2_with fail
  refine (rtone_walk v l _ (S.ext (by repeat (first | with_reducible exact Ext.refl _ | with_reducible assumption | with_reducible apply Ext.alloc | with_reducible apply Ext.drew | (with_reducible refine Ext.setCell ?_ (by (try simp) <;> omega) _))))).mono ?_
  rw [HT.out]
  rintro e w7 ⟨rfl, x7⟩
  obtain ⟨hc7, hf7⟩ := x7.rules
  have X7 : Ext w w7 := Ext.trans (by repeat (first | with_reducible exact Ext.refl _ | with_reducible assumption | with_reducible apply Ext.alloc | with_reducible apply Ext.drew | (with_reducible refine Ext.setCell ?_ (by (try simp) <;> omega) _))) x7
  replace b1 := block_ext x7 (put_other b1 (by omega))
  replace d12 := block_ext x7 (put_other d12 (by omega))
  replace d10 := block_ext x7 (put_same d10)
  have k7 := block_lt d12
  clear p1 f1 x7 hc7 hf7 X6
  obtain ⟨p1, f1⟩ := block_rules d10
  obtain ⟨p2, f2⟩ := block_rules d12
  go_wp2_with fail
  refine (predict_walk v l n _ (G.ext (by repeat (first | with_reducible exact Ext.refl _ | with_reducible assumption | with_reducible apply Ext.alloc | with_reducible apply Ext.drew | (with_reducible refine Ext.setCell ?_ (by (try simp) <;> omega) _)))) (S.ext (by repeat (first | with_reducible exact Ext.refl _ | with_reducible assumption | with_reducible apply Ext.alloc | with_reducible apply Ext.drew | (with_reducible refine Ext.setCell ?_ (by (try simp) <;> omega) _))))).mono ?_
  rw [HP.out]
  rintro e w8 ⟨rfl, x8⟩
  obtain ⟨hc8, hf8⟩ := x8.rules
  have X8 : Ext w w8 := Ext.trans (by repeat (first | with_reducible exact Ext.refl _ | with_reducible assumption | with_reducible apply Ext.alloc | with_reducible apply Ext.drew | (with_reducible refine Ext.setCell ?_ (by (try simp) <;> omega) _))) x8
  replace b1 := block_ext x8 (put_other b1 (by omega))
  replace d10 := block_ext x8 (put_other d10 (by omega))
  replace d12 := block_ext x8 (put_same d12)
  have k8 := block_lt d12
  clear p1 f1 p2 f2 x8 hc8 hf8 X7
  obtain ⟨p1, f1⟩ := block_rules d10
  obtain ⟨p2, f2⟩ := block_rules d12
  go_wp2_with fail
  refine (rpredict_walk v l n _ (S.ext (by repeat (first | with_reducible exact Ext.refl _ | with_reducible assumption | with_reducible apply Ext.alloc | with_reducible apply Ext.drew | (with_reducible refine Ext.setCell ?_ (by (try simp) <;> omega) _))))).mono ?_
  rw [HP.out]
  rintro e w9 ⟨rfl, x9⟩
  obtain ⟨hc9, hf9⟩ := x9.rules
  have X9 : Ext w w9 := Ext.trans (by repeat (first | with_reducible exact Ext.refl _ | with_reducible assumption | with_reducible apply Ext.alloc | with_reducible apply Ext.drew | (with_reducible refine Ext.setCell ?_ (by (try simp) <;> omega) _))) x9
  replace b1 := block_ext x9 (put_other b1 (by omega))
  replace d12 := block_ext x9 (put_other d12 (by omega))
  replace d10 := block_ext x9 (put_same d10)
  have k9 := block_lt d12
  clear p1 f1 p2 f2 x9 hc9 hf9 X8
  obtain ⟨p1, f1⟩ := block_rules d10
  obtain ⟨p2, f2⟩ := block_rules d12
  go_wp2_with fail
  refine (refute_walk v l _ (G.ext (by repeat (first | with_reducible exact Ext.refl _ | with_reducible assumption | with_reducible apply Ext.alloc | with_reducible apply Ext.drew | (with_reducible refine Ext.setCell ?_ (by (try simp) <;> omega) _)))) (S.ext (by repeat (first | with_reducible exact Ext.refl _ | with_reducible assumption | with_reducible apply Ext.alloc | with_reducible apply Ext.drew | (with_reducible refine Ext.setCell ?_ (by (try simp) <;> omega) _))))).mono ?_
  rw [HF.out]
  rintro e w10 ⟨rfl, x10⟩
  obtain ⟨hc10, hf10⟩ := x10.rules
  have X10 : Ext w w10 := Ext.trans (by repeat (first | with_reducible exact Ext.refl _ | with_reducible assumption | with_reducible apply Ext.alloc | with_reducible apply Ext.drew | (with_reducible refine Ext.setCell ?_ (by (try simp) <;> omega) _))) x10
  replace b1 := block_ext x10 (put_other b1 (by omega))
  clear p1 f1 p2 f2 x10 hc10 hf10 X9 d10 d12
  go_wp2_with fail
  refine (rrefute_walk v l _ (S.ext (by repeat (first | with_reducible exact Ext.refl _ | with_reducible assumption | with_reducible apply Ext.alloc | with_reducible apply Ext.drew | (with_reducible refine Ext.setCell ?_ (by (try simp) <;> omega) _))))).mono ?_
  rw [HF.out]
  rintro e w11 ⟨rfl, x11⟩
  obtain ⟨hc11, hf11⟩ := x11.rules
  have X11 : Ext w w11 := Ext.trans (by repeat (first | with_reducible exact Ext.refl _ | with_reducible assumption | with_reducible apply Ext.alloc | with_reducible apply Ext.drew | (with_reducible refine Ext.setCell ?_ (by (try simp) <;> omega) _))) x11
  replace b1 := block_ext x11 b1
  clear x11 hc11 hf11 X10
  obtain ⟨p1, f1⟩ := block_rules b1
  go_wp2_with fail
  refine (fits_walk v l x _ (G.ext (by repeat (first | with_reducible exact Ext.refl _ | with_reducible assumption | with_reducible apply Ext.alloc | with_reducible apply Ext.drew | (with_reducible refine Ext.setCell ?_ (by (try simp) <;> omega) _)))) (S.ext (by repeat (first | with_reducible exact Ext.refl _ | with_reducible assumption | with_reducible apply Ext.alloc | with_reducible apply Ext.drew | (with_reducible refine Ext.setCell ?_ (by (try simp) <;> omega) _))))).mono ?_
  rw [HG.out]
  rintro e w12 ⟨rfl, x12⟩
  obtain ⟨hc12, hf12⟩ := x12.rules
  have X12 : Ext w w12 := Ext.trans (by repeat (first | with_reducible exact Ext.refl _ | with_reducible assumption | with_reducible apply Ext.alloc | with_reducible apply Ext.drew | (with_reducible refine Ext.setCell ?_ (by (try simp) <;> omega) _))) x12
  replace b1 := block_ext x12 b1
  clear p1 f1 x12 hc12 hf12 X11
  obtain ⟨p1, f1⟩ := block_rules b1
  go_wp2_with fail
  refine (rfits_walk v l x _ (S.ext (by repeat (first | with_reducible exact Ext.refl _ | with_reducible assumption | with_reducible apply Ext.alloc | with_reducible apply Ext.drew | (with_reducible refine Ext.setCell ?_ (by (try simp) <;> omega) _))))).mono ?_
  rw [HG.out]
  rintro e w13 ⟨rfl, x13⟩
  obtain ⟨hc13, hf13⟩ := x13.rules
  have X13 : Ext w w13 := Ext.trans (by repeat (first | with_reducible exact Ext.refl _ | with_reducible assumption | with_reducible apply Ext.alloc | with_reducible apply Ext.drew | (with_reducible refine Ext.setCell ?_ (by (try simp) <;> omega) _))) x13
  go_wp2
  go_ret
  exact ⟨rfl, (by repeat (first | with_reducible exact Ext.refl _ | with_reducible assumption | with_reducible apply Ext.alloc | with_reducible apply Ext.drew | (with_reducible refine Ext.setCell ?_ (by (try simp) <;> omega) _)))⟩

theorem partialMatchesReference_args (H : Type) (enc : TypeId × Value → H) (W : World) (base : Nat) (vs : List Value) (ds : List (DataW H)) (_ : ∀ k, (OpenSpec.ofChange Rows.partialMatchesReferenceSpec).cond = some k → k H ds = true) (hL : laidMetH Tryd.prog Rows.partialMatchesReferenceRow.laid W) (hA : Args enc Tryd.prog W base Tryd.f4.params.toList vs ds) :
    Calls Tryd.prog 4 vs.toArray W fun e W' => e = .returned (.bool true) ∧ Ext W W' := by
  rw [Tryd.params4] at hA
  obtain ⟨v0, _, d0, _, rfl, rfl, h0, hA⟩ := hA.cons
  obtain ⟨v1, _, d1, _, rfl, rfl, h1, hA⟩ := hA.cons
  obtain ⟨v2, _, d2, _, rfl, rfl, h2, hA⟩ := hA.cons
  obtain ⟨v3, _, d3, _, rfl, rfl, h3, hA⟩ := hA.cons
  obtain ⟨rfl, rfl⟩ := hA.nil
  obtain ⟨l, S, _, _⟩ := arg_rows h0
  obtain ⟨r, rfl, _⟩ := arg_row h1
  obtain ⟨x, rfl, _⟩ := arg_vec h2
  obtain ⟨n, rfl, _⟩ := h3.int Tryd.underlying3
  exact mat_walk v0 l r x n W (gv_of hL) S

theorem partialMatchesReference_met (os : Os) : laidMet Tryd.prog Rows.partialMatchesReferenceRow.laid ((laidWorld os).forCall (fun _ _ => 0) ⟨#[], #[.slice none 0 0, .agg #[.int .i64 0, .int .i64 0, .int .i64 0], .agg #[.int .i64 0, .int .i64 0, .int .i64 0, .int .i64 0, .int .i64 0, .int .i64 0], .int .i64 0], []⟩).memory := laidMet_of_run' 8 (by kernel_rfl) (by kernel_rfl)
theorem partialMatchesReference_reads (os : Os) {H : Type} (enc : TypeId × Value → H) : ∃ places, DataW.whole enc Tryd.prog ((laidWorld os).forCall (fun _ _ => 0) ⟨#[], #[.slice none 0 0, .agg #[.int .i64 0, .int .i64 0, .int .i64 0], .agg #[.int .i64 0, .int .i64 0, .int .i64 0, .int .i64 0, .int .i64 0, .int .i64 0], .int .i64 0], []⟩).memory Tryd.f4.params.toList Rows.partialMatchesReferenceSpec.vars false #[.slice none 0 0, .agg #[.int .i64 0, .int .i64 0, .int .i64 0], .agg #[.int .i64 0, .int .i64 0, .int .i64 0, .int .i64 0, .int .i64 0, .int .i64 0], .int .i64 0].toList 8 = some ([.nil, .agg [.lit (.int .i64 0), .lit (.int .i64 0), .lit (.int .i64 0)], .agg [.lit (.int .i64 0), .lit (.int .i64 0), .lit (.int .i64 0), .lit (.int .i64 0), .lit (.int .i64 0), .lit (.int .i64 0)], .lit (.int .i64 0)], [], places) := ⟨[], by kernel_rfl⟩
set_option maxRecDepth 100000 in
theorem partialMatchesReference_lifted (os : Os) (started : os.Started) (H : Type) (enc : TypeId × Value → H) (F : Stop.Interp) :
    ReturnsInHanded {} Tryd.checked os 4 .any ((OpenSpec.ofChange Rows.partialMatchesReferenceSpec).preRow enc Tryd.prog Tryd.f4 Rows.partialMatchesReferenceRow.domain false Rows.partialMatchesReferenceRow.laid) (((OpenSpec.ofChange Rows.partialMatchesReferenceSpec).at F).post enc Tryd.prog Tryd.f4 false true false false) := by
  obtain ⟨places, hx⟩ := partialMatchesReference_reads os enc
  exact law_row (C := Tryd.checked) (s := (OpenSpec.ofChange Rows.partialMatchesReferenceSpec)) (by kernel_rfl) started (by kernel_rfl) Tryd.func4
    (witness_row_at (enc := enc) (C := Tryd.checked) false (laidWorld os) #[.slice none 0 0, .agg #[.int .i64 0, .int .i64 0, .int .i64 0], .agg #[.int .i64 0, .int .i64 0, .int .i64 0, .int .i64 0, .int .i64 0, .int .i64 0], .int .i64 0] rfl (by kernel_rfl) (by kernel_rfl) (by kernel_rfl) (OpenSpec.preRow_of_cond 8 hx (by kernel_rfl) (fun k hk => by cases hk) (by kernel_rfl) (partialMatchesReference_met os)))
    (by kernel_rfl) (by kernel_rfl) (by kernel_rfl) rfl (fun ds h => by match ds, h with | [_, _, _, _], _ => rfl) (partialMatchesReference_args H enc)
theorem partialMatchesReference_said : Rows.PartialMatchesReferenceSaid :=
  OpenClaim.holds_of_cond 4 Tryd.f4 rfl rfl rfl rfl rfl rfl rfl ⟨rfl, rfl, rfl, rfl, rfl⟩ rfl rfl rfl rfl rfl (by kernel_rfl) Tryd.func4 (by kernel_rfl)
    (of_decide_eq_true (by kernel_rfl)) (by unfold Func.isWrapper; first | (rw [if_pos (by decide +kernel)]; kernel_rfl) | (rw [if_neg (by decide +kernel)]; exact ⟨rfl, rfl⟩))
    (fun os started H enc _ F => by rw [OpenClaim.pre_eq_preRow]; exact partialMatchesReference_lifted os started H enc F)
theorem partialMatchesReference_plain (f : FuncId) (fn : Func) (hf : Tryd.pinned.checked.prog.funcNamed "schisma/schismalaw37.PartialMatchesReference" = some f) (hfn : Tryd.pinned.checked.prog.funcs[f]? = some fn) :
    false = Tryd.pinned.checked.prog.looks [] ∧ ∀ (j : Nat) t, fn.params[j]? = some t → Tryd.pinned.checked.prog.wantsStandIn t = false := by
  obtain rfl : f = 4 := Option.some.inj ((show Tryd.prog.funcNamed "schisma/schismalaw37.PartialMatchesReference" = some 4 by kernel_rfl).symm.trans hf) |>.symm
  obtain rfl : fn = Tryd.f4 := (Option.some.inj (Tryd.func4.symm.trans hfn)).symm
  refine ⟨by kernel_rfl, fun j t ht => ?_⟩
  have hall : Tryd.f4.params.all (fun t => !Tryd.prog.wantsStandIn t) = true := by kernel_rfl
  have := (Array.all_eq_true'.1 hall) t (Array.mem_of_getElem? ht)
  have e : Tryd.prog.wantsStandIn t = false := by simpa using this
  exact e
/-- The card. -/
theorem partialMatchesReference_holds : Rows.PartialMatchesReferenceCardSaid :=
  Claim7.holds_tied_plain_at .later [] _ _ _ _ partialMatchesReference_said (fun _ h => by cases h) (by kernel_rfl) (fun _ h => by cases h) partialMatchesReference_row_tie rfl ⟨rfl, rfl⟩ (by kernel_rfl) rfl partialMatchesReference_plain (by kernel_rfl)
end Go.Proofs.YthhkpgbfefakeaaDoor
