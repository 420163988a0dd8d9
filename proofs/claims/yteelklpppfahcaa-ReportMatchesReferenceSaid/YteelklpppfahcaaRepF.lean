/-
  Walks: report.Root, Path, fold, Check.
-/
import Derived.Test.YteelklpppfahcaaRepE
namespace Go.Proofs.Yteelklpppfahcaa
open Go.RowKit Go.Sx Go.Sx.Rep
attribute [local go_sem] Oper.semAt_some wide_fn wide_depth

set_option maxHeartbeats 400000 in
theorem root_walk (v : Value) (xs : List Int) (w : World) (S : Sl w 1 encU v xs) :
    Calls Try.prog 13 #[v] w fun e w' => e = .returned (.tuple #[.int .u64 (rootV xs), .int .i64 (rootErr xs)]) ∧ Ext w w' := by
  obtain ⟨a?, cap, rfl, h1, h2, h3⟩ := S.len
  clear h1 h2
  by_cases h0 : xs.length = 0
  · have h0' : ((xs.length : Int) == 0) = true := by simp [h0]
    go_enter Try.func13, Try.ntmps13
    go_wp2
    go_ret2
    exact ⟨by simp [rootV, rootErr, h0], Ext.refl _⟩
  · have h0' : ((xs.length : Int) == 0) = false := beq_eq_false_iff_ne.2 (by omega)
    have hx0 : xs ≠ [] := by rintro rfl; simp at h0
    by_cases h1 : 1024 < xs.length
    · have h1' : (1024 : Int) < xs.length := by omega
      go_enter Try.func13, Try.ntmps13
      go_wp2
      go_ret2
      exact ⟨by simp [rootV, rootErr, hx0, h1], Ext.refl _⟩
    · have h1' : ¬ (1024 : Int) < xs.length := by omega
      have T := Lib.hid (top_walk xs _ 0 xs.length _ w (Nat.le_refl _) (by omega) (Nat.le_refl _) S)
      clear S
      go_enter Try.func13, Try.ntmps13
      go_wp2_with (go_at_call 37; go_must (refine T.out.mono ?_); rintro e w1 ⟨rfl, hx⟩)
      go_ret2
      exact ⟨by simp [rootV, rootErr, hx0, h1, seg_all], hx⟩

set_option maxHeartbeats 400000 in
theorem path_walk (v : Value) (xs : List Int) (i : Int) (w : World) (S : Sl w 1 encU v xs) :
    Calls Try.prog 12 #[v, .int .i64 i] w fun e w' => ∃ p, e = .returned (.tuple #[p, .int .i64 (pathErr xs i)]) ∧ OwnR w' w.heap.size 24 1 encU p (pathL xs i) ∧ Ext w w' := by
  obtain ⟨a?, cap, rfl, h1, h2, h3⟩ := S.len
  clear h1 h2
  have R := Lib.hid (root_walk _ xs w S)
  by_cases he : rootErr xs = 0
  · have hn := rootErr_zero.1 he
    obtain ⟨hn0, hn1⟩ := hn
    by_cases hi : i < 0 ∨ (xs.length : Int) ≤ i
    · have hpe : pathErr xs i = 1 := by simp [pathErr, he, hi]
      have HP := Lib.hid hpe
      clear hpe
      by_cases hi1 : i < 0
      · clear hi
        go_enter Try.func12, Try.ntmps12
        go_wp2_with (go_at_call 13; go_must (refine R.out.mono ?_); rintro e w1 ⟨rfl, hx⟩)
        go_ret2
        refine ⟨_, by rw [HP.out]; rfl, ?_, hx⟩
        rw [pathL, if_neg (by rw [HP.out]; decide)]; exact OwnR.nil
      · have hi2 : (xs.length : Int) ≤ i := by omega
        clear hi
        go_enter Try.func12, Try.ntmps12
        go_wp2_with (go_at_call 13; go_must (refine R.out.mono ?_); rintro e w1 ⟨rfl, hx⟩)
        go_ret2
        refine ⟨_, by rw [HP.out]; rfl, ?_, hx⟩
        rw [pathL, if_neg (by rw [HP.out]; decide)]; exact OwnR.nil
    · obtain ⟨j, rfl⟩ := Int.eq_ofNat_of_zero_le (show 0 ≤ i by omega)
      have hj : j < xs.length := by omega
      have hpe : pathErr xs j = 0 := by simp [pathErr, he]; omega
      have HP := Lib.hid hpe
      have hj' : ¬ (j : Int) < 0 := by omega
      have hj2 : ¬ (xs.length : Int) ≤ j := by omega
      clear hpe hi
      have C := Lib.hid (fun w' => cuts_walk 35 #[] onep j xs.length w' hj (by omega) (enters_of Try.func35 (by kernel_rfl) rfl) (onep_ok j)
        (fun lo hi w1 h1 h2 h3 _ => (one_walk lo hi w1 (by omega) (by omega)).mono fun e w2 h => h))
      have hok := cutsF_ok onep j (onep_ok j) xs.length xs.length 0 xs.length (by omega) hj (Nat.le_refl _) (by omega)
      have hlen := cutsF_len onep j xs.length 0 xs.length
      have HO := Lib.hid hok.1
      have HL := Lib.hid hlen
      clear hok hlen
      go_enter Try.func12, Try.ntmps12
      go_wp2_with fail
      refine R.out.mono ?_
      rintro e w1 ⟨rfl, hx⟩
      go_wp2_with fail
      refine (C.out w1).mono ?_
      rintro e w2 ⟨cv, rfl, hcv, hx2⟩
      go_wp2_with fail
      have hxx := hx.trans hx2
      have hsl := ((S.slB (by omega)).below hxx (Nat.le_refl _)).mono hxx.size
      have hcl := (hcv.sl (by simp [encCut]) (by have := HL.out; unfold cutsAll; omega)).slB (by omega)
      refine (beside_walk w2.heap.size _ _ _ [] xs j _ w2 (Nat.le_refl _) OwnR.nil hsl hcl HO.out (by have := HL.out; simp [cutsAll]; omega)).mono ?_
      rintro e w3 ⟨pv, rfl, hpv, hx3⟩
      go_wp2
      go_ret2
      refine ⟨pv, by rw [HP.out]; rfl, ?_, hxx.trans hx3⟩
      rw [pathL, if_pos HP.out]
      simpa [pathG] using hpv.mono hxx.size
  · have hpe : pathErr xs i = rootErr xs := by simp [pathErr, he]
    have hne : (rootErr xs == 0) = false := by simp [he]
    have hne2 : (rootErr xs != 0) = true := by simp [he]
    have HP := Lib.hid hpe
    have HE := Lib.hid he
    clear hpe he
    go_enter Try.func12, Try.ntmps12
    go_wp2_with (go_at_call 13; go_must (refine R.out.mono ?_); rintro e w1 ⟨rfl, hx⟩)
    go_ret2
    refine ⟨_, by rw [HP.out]; rfl, ?_, hx⟩
    rw [pathL, if_neg (by rw [HP.out]; exact HE.out)]; exact OwnR.nil
end Go.Proofs.Yteelklpppfahcaa
