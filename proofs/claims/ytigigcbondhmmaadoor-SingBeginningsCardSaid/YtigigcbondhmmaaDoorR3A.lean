/-
  Walks of the reference: schismaref03.Valid, Of; schismaref04.Of, Cmp.
-/
import Derived.Test.YtigigcbondhmmaaDoorR4B
set_option linter.unusedVariables false
namespace Go.Proofs.YtigigcbondhmmaaDoor
open Go.RowKit Go.Sx Go.Sx.Sz

set_option maxRecDepth 100000 in
set_option maxHeartbeats 2000000 in
theorem rpvalid_walk (v : V6) (w : World) : Calls Tryd.prog 66 #[.agg #[.int .i64 v.a, .int .i64 v.b, .int .i64 v.c, .int .i64 v.d, .int .i64 v.e, .int .i64 v.f]] w fun e w' => e = .returned (.bool (within v 576)) ∧ Ext w w' := by
  have q := alloc_cell w v.cells 70
  go_enter Tryd.func66, Tryd.ntmps66
  go_wp2
  go_loopw [3] (fun i wr => ∃ k : Nat, k ≤ 6 ∧ i = .int .i64 k ∧ withinK v 576 k = true ∧ wr = w.alloc (.cells v.cells 70)) (fun i _ => 6 - (intOf i).toNat)
  case atStart => exact ⟨0, by omega, rfl, rfl, rfl⟩
  case round =>
    obtain ⟨k, hk, rfl, hw, rfl⟩ := hrel
    have HW := Lib.hid hw
    clear hw
    by_cases hlt : k < 6
    · have hx := q k _ (by rw [Array.getElem?_toList]; exact V6.cells_at v hlt)
      clear q
      obtain ⟨W, hW⟩ : ∃ W, w.alloc (.cells v.cells 70) = W := ⟨_, rfl⟩
      have XW : Ext w W := by rw [← hW]; exact Ext.alloc' _ _
      have HWW := Lib.hid hW
      rw [hW] at hx ⊢
      clear hW
      by_cases hb : -576 ≤ v.get k
      · by_cases hc : v.get k ≤ 576
        · go_wp2
          go_roundw
          case rel => exact ⟨k + 1, by omega, by go_num, by simp [withinK, HW.out, hb, hc], by first | exact HWW.out.symm | trivial⟩
          case measure => simp [intOf]; omega
        · go_wp2
          go_ret
          exact ⟨by rw [withinK_false hlt (by omega)]; rfl, (by repeat (first | with_reducible exact Ext.refl _ | with_reducible assumption | with_reducible apply Ext.alloc | with_reducible apply Ext.drew | (with_reducible refine Ext.setCell ?_ (by (try simp) <;> omega) _)))⟩
      · go_wp2
        go_ret
        exact ⟨by rw [withinK_false hlt (by omega)]; rfl, (by repeat (first | with_reducible exact Ext.refl _ | with_reducible assumption | with_reducible apply Ext.alloc | with_reducible apply Ext.drew | (with_reducible refine Ext.setCell ?_ (by (try simp) <;> omega) _)))⟩
    · obtain rfl : k = 6 := by omega
      clear q
      go_wp2
      go_ret
      exact ⟨by rw [show within v 576 = true from HW.out]; rfl, (by repeat (first | with_reducible exact Ext.refl _ | with_reducible assumption | with_reducible apply Ext.alloc | with_reducible apply Ext.drew | (with_reducible refine Ext.setCell ?_ (by (try simp) <;> omega) _)))⟩

end Go.Proofs.YtigigcbondhmmaaDoor
