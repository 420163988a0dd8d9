/-
  Walk: schismaref19.Same.
-/
import Derived.Test.YtigigcbondhmmaaDoorLibB
set_option linter.unusedVariables false
namespace Go.Proofs.YtigigcbondhmmaaDoor
open Go.RowKit Go.Sx Go.Sx.Sz Go.Sx.Sc

set_option maxHeartbeats 1000000 in
theorem same_walk (va vb : Value) (xs ys : List Int) (w : World) (S : Sl w 1 encZ va xs) (T : Sl w 1 encZ vb ys) :
    Calls Tryd.prog 14 #[va, vb] w fun e w' => e = .returned (.bool (decide (xs = ys))) ∧ Ext w w' := by
  obtain ⟨a?, ca, rfl, -, -, h3⟩ := S.len
  obtain ⟨b?, cb, rfl, -, -, h4⟩ := T.len
  by_cases hl : xs.length = ys.length
  · have hl' : ((xs.length : Int) != ys.length) = false := by rw [bne_eq_false_iff_eq]; omega
    have HL := Lib.hid hl
    clear hl
    go_enter Tryd.func14, Tryd.ntmps14
    go_wp2
    go_loopw [5] (fun i wr => ∃ k : Nat, k ≤ xs.length ∧ i = .int .i64 k ∧ Hid (xs.take k = ys.take k) ∧ Ext w wr) (fun i _ => xs.length - (intOf i).toNat)
    case atStart => exact ⟨0, by omega, rfl, Lib.hid rfl, Ext.refl _⟩
    case round =>
      obtain ⟨k, hk, rfl, HT, hx⟩ := hrel
      clear hl'
      by_cases hlt : k < xs.length
      · have hlt2 : k < ys.length := by rw [← HL.out]; exact hlt
        obtain ⟨b0, o0, rfl, c0⟩ := Sl.num (S.ext hx) k hlt
        obtain ⟨b1, o1, rfl, d0⟩ := Sl.num (T.ext hx) k hlt2
        obtain ⟨x, hxx⟩ : ∃ x, xs[k] = x := ⟨_, rfl⟩
        obtain ⟨y, hyy⟩ : ∃ y, ys[k] = y := ⟨_, rfl⟩
        rw [hxx] at c0; rw [hyy] at d0
        have t1 := Lib.hid (List.take_succ_eq_append_getElem hlt)
        have t2 := Lib.hid (List.take_succ_eq_append_getElem hlt2)
        have HX := Lib.hid hxx; have HY := Lib.hid hyy
        have i1 : (0 : Int) ≤ (k : Int) := by omega
        have i2 : (k : Int) < (xs.length : Int) := by omega
        have i3 : (k : Int) < (ys.length : Int) := by omega
        clear S T hxx hyy
        obtain ⟨wo, rfl⟩ : ∃ wo : World, wo = wr := ⟨_, rfl⟩
        by_cases hxy : x = y
        · have e1 : (x != y) = false := by rw [bne_eq_false_iff_eq]; exact hxy
          have HXY := Lib.hid hxy
          clear hxy
          go_wp2
          go_quiet (fail)
          go_wp2
          go_roundw
          case rel => exact ⟨k + 1, by omega, by go_num, Lib.hid (by rw [t1.out, t2.out, HT.out, HX.out, HY.out, HXY.out]), hx.drewN _⟩
          case measure => simp [intOf] <;> omega
        · have e1 : (x != y) = true := by rw [bne_iff_ne]; exact hxy
          have HXY := Lib.hid hxy
          clear hxy
          go_wp2
          go_quiet (fail)
          go_wp2
          go_ret
          exact ⟨by rw [decide_eq_false (fun h => HXY.out (by rw [← HX.out, ← HY.out]; subst h; rfl))]; rfl, hx.drewN _⟩
      · obtain rfl : k = xs.length := by omega
        clear S T
        go_wp2
        go_ret
        refine ⟨?_, hx⟩
        have h := HT.out
        rw [List.take_length, HL.out, List.take_length] at h
        rw [decide_eq_true h]; rfl
  · have hl' : ((xs.length : Int) != ys.length) = true := by rw [bne_iff_ne]; omega
    have HL := Lib.hid hl
    clear hl S T
    go_enter Tryd.func14, Tryd.ntmps14
    go_wp2
    go_ret
    exact ⟨by rw [decide_eq_false (fun h => HL.out (by rw [h]))]; rfl, Ext.refl _⟩
end Go.Proofs.YtigigcbondhmmaaDoor
