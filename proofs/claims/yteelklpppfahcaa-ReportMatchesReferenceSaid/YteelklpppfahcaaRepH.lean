/-
  Walks: report.Grow, Follows.
-/
import Derived.Test.YteelklpppfahcaaRepG
namespace Go.Proofs.Yteelklpppfahcaa
open Go.RowKit Go.Sx Go.Sx.Rep
attribute [local go_sem] Oper.semAt_some wide_fn wide_depth

theorem ends_facts (m n : Nat) (h1 : 1 ≤ m) (h2 : m ≤ n) : (∀ c ∈ (endsAll m n).1, cutOk n c) ∧ (endsAll m n).2.1 < (endsAll m n).2.2 ∧ (endsAll m n).2.2 = m ∧ (endsAll m n).1.length ≤ n := by
  have h := cutsF_ok (endp m) (m - 1) (endp_ok m h1) n n 0 n (by omega) (by omega) (Nat.le_refl _) (by omega)
  have hl := cutsF_len (endp m) (m - 1) n 0 n
  obtain ⟨h3, h4, h5, h6, h7, h8⟩ := h
  simp only [endp, decide_eq_true_eq] at h7
  exact ⟨h3, by show (cutsF _ _ _ _ _).2.1 < (cutsF _ _ _ _ _).2.2; omega, h7, hl⟩

set_option maxHeartbeats 1000000 in
theorem grow_walk (v : Value) (xs : List Int) (i : Int) (w : World) (S : Sl w 1 encU v xs) :
    Calls Try.prog 18 #[v, .int .i64 i] w fun e w' => ∃ p, e = .returned (.tuple #[p, .int .i64 (growErr xs i)]) ∧ OwnR w' w.heap.size 24 1 encU p (growL xs i) ∧ Ext w w' := by
  obtain ⟨a?, cap, rfl, h1, h2, h3⟩ := S.len
  clear h1 h2
  have R := Lib.hid (root_walk _ xs w S)
  by_cases he : rootErr xs = 0
  · have hn := rootErr_zero.1 he
    obtain ⟨hn0, hn1⟩ := hn
    by_cases hi : i < 1 ∨ (xs.length : Int) < i
    · have hpe : growErr xs i = 1 := by simp only [growErr, he, if_true, if_pos hi]
      have HP := Lib.hid hpe
      clear hpe
      by_cases hi1 : i < 1
      · clear hi
        go_enter Try.func18, Try.ntmps18
        go_wp2_with (go_at_call 13; go_must (refine R.out.mono ?_); rintro e w1 ⟨rfl, hx⟩)
        go_ret2
        refine ⟨_, by rw [HP.out]; rfl, ?_, hx⟩
        rw [growL, if_neg (by rw [HP.out]; decide)]; exact OwnR.nil
      · have hi2 : (xs.length : Int) < i := by omega
        clear hi
        go_enter Try.func18, Try.ntmps18
        go_wp2_with (go_at_call 13; go_must (refine R.out.mono ?_); rintro e w1 ⟨rfl, hx⟩)
        go_ret2
        refine ⟨_, by rw [HP.out]; rfl, ?_, hx⟩
        rw [growL, if_neg (by rw [HP.out]; decide)]; exact OwnR.nil
    · obtain ⟨m, rfl⟩ := Int.eq_ofNat_of_zero_le (show 0 ≤ i by omega)
      have hm1 : 1 ≤ m := by omega
      have hm2 : m ≤ xs.length := by omega
      have hpe : growErr xs m = 0 := by simp only [growErr, he, if_true, if_neg hi]
      have HP := Lib.hid hpe
      have hj' : ¬ (m : Int) < 1 := by omega
      have hj2 : ¬ (xs.length : Int) < m := by omega
      have hmi : (m : Int) - 1 = ((m - 1 : Nat) : Int) := by omega
      clear hpe hi
      have C := Lib.hid (fun w' => ends_walk m xs.length w' hm1 hm2 (by omega))
      have hF := Lib.hid (ends_facts m xs.length hm1 hm2)
      have hlt := hF.out.2.1
      have hmm := hF.out.2.2.1
      have hL := hF.out.2.2.2
      by_cases hlo : 0 < (endsAll m xs.length).2.1
      · have hlo' : (0 : Int) < (endsAll m xs.length).2.1 := by omega
        have hG := Lib.hid (show growL xs m = [root (seg xs (endsAll m xs.length).2.1 (endsAll m xs.length).2.2)] ++ besF xs (m - 1) (endsAll m xs.length).1 by
          rw [growL, if_pos HP.out]; show growG xs m = _; rw [growG, if_pos hlo])
        have HMM := Lib.hid hmm
        clear hmm
        go_enter Try.func18, Try.ntmps18
        go_wp2_with fail
        refine R.out.mono ?_
        rintro e w1 ⟨rfl, hx⟩
        go_wp2_with fail
        refine (C.out w1).mono ?_
        rintro e w2 ⟨cv, rfl, hcv, hx2⟩
        have hxx := hx.trans hx2
        go_wp2_with fail
        refine (top_walk xs _ (endsAll m xs.length).2.1 (endsAll m xs.length).2.2 _ w2 (Nat.le_refl _) hlt (by rw [HMM.out]; exact hm2) (S.ext hxx)).mono ?_
        rintro e w3 ⟨rfl, hx3⟩
        have hown0 : OwnR w3 w3.heap.size 24 1 encU (.slice none 0 0) ([] : List Int) := OwnR.nil
        go_wp2_with (at_builtin; go_must (refine wpList_own1 et_u64 rfl _ _ rfl hown0 rfl (root (seg xs (endsAll m xs.length).2.1 (endsAll m xs.length).2.2)) rfl rfl rfl (by simp [encU, Value.oneCell']) (by simp) (Nat.le_refl _) ?_; intro v' w5 hown5 hb5 happ _))
        have hsl := ((S.slB (by omega)).below (hxx.trans hx3) (Nat.le_refl _)).mono (hxx.trans hx3).size
        have hsl5 := hsl.below hb5 (Nat.le_refl _)
        have hcl := ((((hcv.sl (by simp [encCut]) (by omega)).slB (by omega)).below hx3 (Nat.le_refl _)).mono hx3.size).below hb5 (Nat.le_refl _)
        refine (beside_walk w3.heap.size _ _ _ _ xs (m - 1) _ w5 hb5.size hown5 hsl5 hcl hF.out.1 (by simp; omega)).mono ?_
        rintro e w6 ⟨pv, rfl, hpv, hx6⟩
        go_wp2
        go_ret2
        refine ⟨pv, by rw [HP.out]; rfl, ?_, Below.trans (hxx.trans hx3) ((hb5.trans hx6).mono (hxx.trans hx3).size)⟩
        rw [hG.out]
        exact (hpv.mono (hxx.trans hx3).size)
      · have hlo' : ¬ (0 : Int) < (endsAll m xs.length).2.1 := by omega
        have hG := Lib.hid (show growL xs m = besF xs (m - 1) (endsAll m xs.length).1 by
          rw [growL, if_pos HP.out]; show growG xs m = _; rw [growG, if_neg hlo]; rfl)
        clear hmm
        go_enter Try.func18, Try.ntmps18
        go_wp2_with fail
        refine R.out.mono ?_
        rintro e w1 ⟨rfl, hx⟩
        go_wp2_with fail
        refine (C.out w1).mono ?_
        rintro e w2 ⟨cv, rfl, hcv, hx2⟩
        have hxx := hx.trans hx2
        have hsl := ((S.slB (by omega)).below hxx (Nat.le_refl _)).mono hxx.size
        have hcl := (hcv.sl (by simp [encCut]) (by omega)).slB (by omega)
        go_wp2_with fail
        refine (beside_walk w2.heap.size _ _ _ [] xs (m - 1) _ w2 (Nat.le_refl _) OwnR.nil hsl hcl hF.out.1 (by simp; omega)).mono ?_
        rintro e w3 ⟨pv, rfl, hpv, hx3⟩
        go_wp2
        go_ret2
        refine ⟨pv, by rw [HP.out]; rfl, ?_, hxx.trans hx3⟩
        rw [hG.out]
        simpa using hpv.mono hxx.size
  · have hpe : growErr xs i = rootErr xs := by simp only [growErr, if_neg he]
    have hne : (rootErr xs == 0) = false := by simp [he]
    have hne2 : (rootErr xs != 0) = true := by simp [he]
    have HP := Lib.hid hpe
    have HE := Lib.hid he
    clear hpe he
    go_enter Try.func18, Try.ntmps18
    go_wp2_with (go_at_call 13; go_must (refine R.out.mono ?_); rintro e w1 ⟨rfl, hx⟩)
    go_ret2
    refine ⟨_, by rw [HP.out]; rfl, ?_, hx⟩
    rw [growL, if_neg (by rw [HP.out]; exact HE.out)]; exact OwnR.nil
end Go.Proofs.Yteelklpppfahcaa
