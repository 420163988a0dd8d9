/-
  Walk: the reference's Follows; how long a proof of growth is.
-/
import Derived.Test.YteelklpppfahcaaRepY
set_option linter.unusedVariables false
namespace Go.Proofs.Yteelklpppfahcaa
open Go.RowKit Go.Sx Go.Sx.Rep

theorem follows_len (old rt : Int) (m n : Nat) (ps : List Int) (h1 : 1 ≤ m) (h2 : m ≤ n) (hn : n ≤ 1024) (h : followsF old rt m n ps = true) : ps.length ≤ 11 := by
  have hd := cutsAll_deep (endp m) (m - 1) n (endp_ok m h1) (by omega) hn
  unfold followsF at h
  rw [if_neg (by omega)] at h
  simp only [Int.toNat_natCast] at h
  unfold endsAll at h
  by_cases h0 : 0 < (cutsAll (endp m) (m - 1) n).2.1
  · simp only [h0, if_true, true_and] at h
    by_cases h3 : ps.length = 0
    · omega
    · rw [if_neg h3] at h
      have ht : ps.tail.length = ps.length - 1 := List.length_tail
      by_cases h4 : ps.tail.length ≠ (cutsAll (endp m) (m - 1) n).1.length
      · rw [if_pos h4] at h; cases h
      · omega
  · simp only [h0, if_false, false_and] at h
    by_cases h4 : ps.length ≠ (cutsAll (endp m) (m - 1) n).1.length
    · rw [if_pos h4] at h; cases h
    · omega

set_option maxHeartbeats 1000000 in
theorem rfollows_walk (old rt i n : Int) (pv : Value) (ps : List Int) (w : World) (S : Sl w 1 encU pv ps) :
    Calls Try.prog 33 #[.int .u64 old, .int .u64 rt, .int .i64 i, .int .i64 n, pv] w fun e w' => e = .returned (.bool (followsF old rt i n ps)) ∧ Ext w w' := by
  by_cases c1 : n < 1
  · have hF : followsF old rt i n ps = false := if_pos (.inl c1)
    rw [hF]; clear hF S
    go_enter Try.func33, Try.ntmps33
    go_wp2
    go_ret
    exact ⟨rfl, (by repeat (first | exact Ext.refl _ | assumption | apply Ext.alloc | apply Ext.drew | (refine Ext.setCell ?_ (by simp) _)))⟩
  by_cases c2 : 1024 < n
  · have hF : followsF old rt i n ps = false := if_pos (.inr (.inl c2))
    rw [hF]; clear hF S
    go_enter Try.func33, Try.ntmps33
    go_wp2
    go_ret
    exact ⟨rfl, (by repeat (first | exact Ext.refl _ | assumption | apply Ext.alloc | apply Ext.drew | (refine Ext.setCell ?_ (by simp) _)))⟩
  by_cases c3 : i < 1
  · have hF : followsF old rt i n ps = false := if_pos (.inr (.inr (.inl c3)))
    rw [hF]; clear hF S
    go_enter Try.func33, Try.ntmps33
    go_wp2
    go_ret
    exact ⟨rfl, (by repeat (first | exact Ext.refl _ | assumption | apply Ext.alloc | apply Ext.drew | (refine Ext.setCell ?_ (by simp) _)))⟩
  by_cases c4 : n < i
  · have hF : followsF old rt i n ps = false := if_pos (.inr (.inr (.inr c4)))
    rw [hF]; clear hF S
    go_enter Try.func33, Try.ntmps33
    go_wp2
    go_ret
    exact ⟨rfl, (by repeat (first | exact Ext.refl _ | assumption | apply Ext.alloc | apply Ext.drew | (refine Ext.setCell ?_ (by simp) _)))⟩
  obtain ⟨k, rfl⟩ : ∃ k : Nat, i = k := ⟨i.toNat, by omega⟩
  obtain ⟨m, rfl⟩ : ∃ m : Nat, n = m := ⟨n.toNat, by omega⟩
  have hC := follows_shows old rt k m ps (by omega) (by omega) (by omega)
  obtain ⟨⟨so, sn, prs, ok⟩, hL⟩ : ∃ r, showsF m old k m true ps = r := ⟨_, rfl⟩
  rw [hL] at hC
  simp only [] at hC
  have HL := Lib.hid hL
  have HC := Lib.hid hC
  clear hL hC
  go_enter Try.func33, Try.ntmps33
  go_wp2_with fail
  refine (shows_walk m old k m true _ ps _ (Nat.le_refl _) (by omega) (by omega) (by omega) S).mono ?_
  rw [HL.out]
  rintro e w1 ⟨p, rfl, own1, x1⟩
  obtain ⟨pa, pn, pc, rfl⟩ := own1.shape
  clear S own1
  cases ok with
  | false =>
    go_wp2
    go_ret
    exact ⟨by rw [HC.out]; rfl, x1.alloc _⟩
  | true =>
    cases hq : (so == old) with
    | false =>
      go_wp2
      go_ret
      exact ⟨by rw [HC.out, hq]; rfl, x1.alloc _⟩
    | true =>
      go_wp2
      go_ret
      exact ⟨by rw [HC.out, hq]; simp, x1.alloc _⟩
end Go.Proofs.Yteelklpppfahcaa
