/-
  Walks: the reference's Check, Collide.
-/
import Derived.Test.YteelklpppfahcaaRepV
set_option linter.unusedVariables false
namespace Go.Proofs.Yteelklpppfahcaa
open Go.RowKit Go.Sx Go.Sx.Rep

set_option maxHeartbeats 1000000 in
theorem rcheck_walk (rt leaf i n : Int) (pv : Value) (ps : List Int) (w : World) (S : Sl w 1 encU pv ps) :
    Calls Try.prog 32 #[.int .u64 rt, .int .u64 leaf, .int .i64 i, .int .i64 n, pv] w fun e w' => e = .returned (.bool (checkF rt leaf i n ps)) ∧ Ext w w' := by
  by_cases c1 : n < 1
  · have hF : checkF rt leaf i n ps = false := if_pos (.inl c1)
    rw [hF]; clear hF S
    go_enter Try.func32, Try.ntmps32
    go_wp2
    go_ret
    exact ⟨rfl, (by repeat (first | exact Ext.refl _ | assumption | apply Ext.alloc | apply Ext.drew | (refine Ext.setCell ?_ (by simp) _)))⟩
  by_cases c2 : 1024 < n
  · have hF : checkF rt leaf i n ps = false := if_pos (.inr (.inl c2))
    rw [hF]; clear hF S
    go_enter Try.func32, Try.ntmps32
    go_wp2
    go_ret
    exact ⟨rfl, (by repeat (first | exact Ext.refl _ | assumption | apply Ext.alloc | apply Ext.drew | (refine Ext.setCell ?_ (by simp) _)))⟩
  by_cases c3 : i < 0
  · have hF : checkF rt leaf i n ps = false := if_pos (.inr (.inr (.inl c3)))
    rw [hF]; clear hF S
    go_enter Try.func32, Try.ntmps32
    go_wp2
    go_ret
    exact ⟨rfl, (by repeat (first | exact Ext.refl _ | assumption | apply Ext.alloc | apply Ext.drew | (refine Ext.setCell ?_ (by simp) _)))⟩
  by_cases c4 : n ≤ i
  · have hF : checkF rt leaf i n ps = false := if_pos (.inr (.inr (.inr c4)))
    rw [hF]; clear hF S
    go_enter Try.func32, Try.ntmps32
    go_wp2
    go_ret
    exact ⟨rfl, (by repeat (first | exact Ext.refl _ | assumption | apply Ext.alloc | apply Ext.drew | (refine Ext.setCell ?_ (by simp) _)))⟩
  obtain ⟨k, rfl⟩ : ∃ k : Nat, i = k := ⟨i.toNat, by omega⟩
  obtain ⟨m, rfl⟩ : ∃ m : Nat, n = m := ⟨n.toNat, by omega⟩
  have hC := check_leads rt leaf k m ps (by omega) (by omega)
  obtain ⟨⟨top, prs, ok⟩, hL⟩ : ∃ r, leadsF m leaf k m ps = r := ⟨_, rfl⟩
  rw [hL] at hC
  simp only [] at hC
  have HL := Lib.hid hL
  have HC := Lib.hid hC
  clear hL hC
  go_enter Try.func32, Try.ntmps32
  go_wp2_with fail
  refine (leads_walk m leaf k m _ ps _ (Nat.le_refl _) (by omega) (by omega) S).mono ?_
  rw [HL.out]
  rintro e w1 ⟨p, rfl, own1, x1⟩
  obtain ⟨pa, pn, pc, rfl⟩ := own1.shape
  clear S own1
  cases ok with
  | false =>
    go_wp2
    go_ret
    exact ⟨by rw [HC.out]; rfl, x1.alloc _⟩
  | true =>
    go_wp2
    go_ret
    exact ⟨by rw [HC.out]; simp, x1.alloc _⟩
end Go.Proofs.Yteelklpppfahcaa
