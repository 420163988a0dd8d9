/-
  Walk of the reference: schismaref38.Check.
-/
import Derived.Test.YthomegempfedaaaDoorRfG
set_option linter.unusedVariables false
namespace Go.Proofs.YthomegempfedaaaDoor
open Go.RowKit Go.Sx Go.Sx.Sz Go.Sx.Al

set_option maxRecDepth 100000 in
set_option maxHeartbeats 4000000 in
theorem rcheck_walk (vd vh vl vt : Value) (ds : List Due) (hs : List Hrd) (p : Prc) (l : List Mt) (t : List (List Int)) (w : World) (Sd : Sl w 7 encD vd ds) (Sh : Sl w 3 encH vh hs) (Sm : Sl w 2 encM vl l) (T : Tab w vt t) :
    Calls Tryd.prog 21 #[vd, vh, .agg #[.int .i64 p.skip, .int .i64 p.off], vl, vt] w fun e w' => e = .returned (.tuple #[.bool (checkR ds hs p l t).1, .int .i64 (checkR ds hs p l t).2]) ∧ Ext w w' := by
  obtain ⟨ad, cd, rfl, -, -, -⟩ := Sd.len
  obtain ⟨ah, ch, rfl, -, -, -⟩ := Sh.len
  obtain ⟨am, cm, rfl, -, -, hl3⟩ := Sm.len
  cases hok : alOk ds hs p with
  | false =>
    have HC : Hid (checkR ds hs p l t = (false, 1)) := Lib.hid (by unfold checkR; rw [hok, if_neg (by simp)])
    have HO := Lib.hid hok
    clear hok
    go_enter Tryd.func21, Tryd.ntmps21
    go_wp2_with fail
    refine (rvalid_walk _ _ ds hs p _ (Sd.ext (by repeat (first | with_reducible exact Ext.refl _ | with_reducible assumption | with_reducible apply Ext.alloc | with_reducible apply Ext.drew | (with_reducible refine Ext.setCell ?_ (by (try simp) <;> omega) _)))) (Sh.ext (by repeat (first | with_reducible exact Ext.refl _ | with_reducible assumption | with_reducible apply Ext.alloc | with_reducible apply Ext.drew | (with_reducible refine Ext.setCell ?_ (by (try simp) <;> omega) _))))).mono ?_
    rw [HO.out]
    rintro e w1 ⟨rfl, x1⟩
    have X1 : Ext w w1 := Ext.trans (by repeat (first | with_reducible exact Ext.refl _ | with_reducible assumption | with_reducible apply Ext.alloc | with_reducible apply Ext.drew | (with_reducible refine Ext.setCell ?_ (by (try simp) <;> omega) _))) x1
    go_wp2
    go_ret2
    exact ⟨by rw [HC.out] <;> rfl, X1⟩
  | true =>
    have hC : checkR ds hs p l t = (decide ((costR ds hs p l).2 = 0) && bndsB ds hs p t && decide (tv t 0 0 = (costR ds hs p l).1), 0) := by unfold checkR; rw [if_pos hok, checkB_bnds]
    have HO := Lib.hid hok
    obtain ⟨c, hc⟩ : ∃ c, costR ds hs p l = c := ⟨_, rfl⟩
    obtain ⟨b, hb⟩ : ∃ b, bndsB ds hs p t = b := ⟨_, rfl⟩
    rw [hc, hb] at hC
    have hbs : b = true → shapeB t ds.length hs.length = true := fun h => by
      rw [h] at hb
      unfold bndsB at hb
      rw [Bool.and_eq_true] at hb
      exact hb.1
    have HC := Lib.hid hc; have HB := Lib.hid hb; have HCC := Lib.hid hC; have HBS := Lib.hid hbs
    clear hok hC hc hb hbs
    go_enter Tryd.func21, Tryd.ntmps21
    go_wp2_with fail
    refine (rvalid_walk _ _ ds hs p _ (Sd.ext (by repeat (first | with_reducible exact Ext.refl _ | with_reducible assumption | with_reducible apply Ext.alloc | with_reducible apply Ext.drew | (with_reducible refine Ext.setCell ?_ (by (try simp) <;> omega) _)))) (Sh.ext (by repeat (first | with_reducible exact Ext.refl _ | with_reducible assumption | with_reducible apply Ext.alloc | with_reducible apply Ext.drew | (with_reducible refine Ext.setCell ?_ (by (try simp) <;> omega) _))))).mono ?_
    rw [HO.out]
    rintro e w1 ⟨rfl, x1⟩
    have b1 := block_ext x1 (block_new w (.cells #[.int .i64 p.skip, .int .i64 p.off] 25))
    have X1 : Ext w w1 := Ext.trans (by repeat (first | with_reducible exact Ext.refl _ | with_reducible assumption | with_reducible apply Ext.alloc | with_reducible apply Ext.drew | (with_reducible refine Ext.setCell ?_ (by (try simp) <;> omega) _))) x1
    have c0 := block_cell b1 0 (.int .i64 p.skip) rfl
    have c1 := block_cell b1 1 (.int .i64 p.off) rfl
    clear x1
    go_wp2_with fail
    refine (rcost_walk _ _ _ ds hs p l _ (Sd.ext X1) (Sh.ext X1) (Sm.ext X1)).mono ?_
    rw [HC.out]
    rintro e w2 ⟨rfl, x2⟩
    have X2 : Ext w w2 := X1.trans x2
    replace b1 := block_ext x2 b1
    replace c0 := block_cell b1 0 (.int .i64 p.skip) rfl
    replace c1 := block_cell b1 1 (.int .i64 p.off) rfl
    clear x2
    go_wp2_with fail
    refine (rbounds_walk _ _ _ ds hs p t HO.out _ (Sd.ext X2) (Sh.ext X2) (T.ext X2)).mono ?_
    rw [HB.out]
    rintro e w3 ⟨rfl, x3⟩
    have X3 : Ext w w3 := X2.trans x3
    have TX := T.ext X3
    clear x3 c0 c1 b1 T Sd Sh Sm
    by_cases hz : c.2 = 0
    · have hz' : (c.2 == 0) = true := by rw [hz]; rfl
      cases b with
      | false =>
        have HF : Hid (checkR ds hs p l t = (false, 0)) := Lib.hid (by rw [HCC.out]; simp)
        clear hz
        go_wp2
        go_ret2
        exact ⟨by rw [HF.out] <;> rfl, X3⟩
      | true =>
        obtain ⟨aT, cT, rfl, -⟩ := TX.len
        obtain ⟨b, o, rb, ro, cr, rfl, h0, r0⟩ := TX.read (HBS.out rfl) (i := 0) (j := 0) (by omega) (by omega)
        rw [Nat.add_zero] at h0 r0
        have hll := (shape_row (HBS.out rfl)).1
        have q0 : (0 : Int) < (t.length : Int) := by omega
        have q1 : (0 : Int) < (hs.length : Int) + 1 := by omega
        obtain ⟨y, hy⟩ : ∃ y, tv t 0 0 = y := ⟨_, rfl⟩
        have HF : Hid (checkR ds hs p l t = (decide (y = c.1), 0)) := Lib.hid (by rw [HCC.out, hy, decide_eq_true hz]; rfl)
        rw [hy] at r0
        clear hz hll hy TX
        go_wp2
        go_ret2
        exact ⟨by rw [HF.out] <;> first | rfl | (congr 4), X3⟩
    · have hz' : (c.2 == 0) = false := by rw [beq_eq_false_iff_ne]; exact hz
      have HF : Hid (checkR ds hs p l t = (false, 0)) := Lib.hid (by rw [HCC.out, decide_eq_false hz]; rfl)
      clear hz
      go_wp2
      go_ret2
      exact ⟨by rw [HF.out] <;> rfl, X3⟩
end Go.Proofs.YthomegempfedaaaDoor
