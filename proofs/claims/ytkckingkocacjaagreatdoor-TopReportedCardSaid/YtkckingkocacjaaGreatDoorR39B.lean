/-
  Walks: schismaref39.SameSizes, SameFindings.
-/
import Derived.Test.YtkckingkocacjaaGreatDoorAuE
set_option linter.unusedVariables false
namespace Go.Proofs.YtkckingkocacjaaGreatDoor
open Go.RowKit Go.Sx Go.Sx.Sz Go.Sx.Sc Go.Sx.Au

def encF (z : Fnd) : List Value := [.int .i64 z.i, .int .i64 z.verdict, .int .i64 z.bound]
set_option maxRecDepth 100000 in
theorem Sl.fd {w : World} {a? : Option Addr} {n cap : Nat} {xs : List Fnd} (h : Sl w 3 encF (.slice a? n cap) xs) (k : Nat) (hk : k < xs.length) : ∃ b o, a? = some ⟨b, o, none⟩ ∧ w.cell? ⟨b, o + k * 3, none⟩ = some (.int .i64 xs[k].i) ∧ w.cell? ⟨b, o + k * 3 + 1, none⟩ = some (.int .i64 xs[k].verdict) ∧ w.cell? ⟨b, o + k * 3 + 2, none⟩ = some (.int .i64 xs[k].bound) := by
  obtain ⟨b, o, e, hc⟩ := h.at (by omega) k hk
  exact ⟨b, o, e, hc 0 (by omega), hc 1 (by omega), hc 2 (by omega)⟩

set_option maxRecDepth 100000 in
set_option maxHeartbeats 2000000 in
theorem samefd_walk (va vb : Value) (xs ys : List Fnd) (w : World) (S : Sl w 3 encF va xs) (R : Sl w 3 encF vb ys) :
    Calls Tryz.prog 14 #[va, vb] w fun e w' => e = .returned (.bool (decide (xs = ys))) ∧ Ext w w' := by
  obtain ⟨a?, ca, rfl, -, -, h3⟩ := S.len
  obtain ⟨b?, cb, rfl, -, -, h4⟩ := R.len
  by_cases hl : xs.length = ys.length
  · have hl' : ((xs.length : Int) != ys.length) = false := by rw [bne_eq_false_iff_eq]; omega
    have HL := Lib.hid hl
    clear hl
    go_enter Tryz.func14, Tryz.ntmps14
    go_wp2
    go_loopw [5] (fun i wr => ∃ k : Nat, k ≤ xs.length ∧ i = .int .i64 k ∧ Hid (xs.take k = ys.take k) ∧ Ext w wr) (fun i _ => xs.length - (intOf i).toNat)
    case atStart => exact ⟨0, by omega, rfl, Lib.hid rfl, Ext.refl _⟩
    case round =>
      obtain ⟨k, hk, rfl, HT, X⟩ := hrel
      clear hl'
      by_cases hlt : k < xs.length
      · have hlt2 : k < ys.length := by rw [← HL.out]; exact hlt
        obtain ⟨b0, o0, rfl, c0, c1, c2⟩ := Sl.fd (S.ext X) k hlt
        obtain ⟨b1, o1, rfl, d0, d1, d2⟩ := Sl.fd (R.ext X) k hlt2
        obtain ⟨⟨xi, xl, xh⟩, hx⟩ : ∃ x, xs[k] = x := ⟨_, rfl⟩
        obtain ⟨⟨yi, yl, yh⟩, hy⟩ : ∃ y, ys[k] = y := ⟨_, rfl⟩
        rw [hx] at c0 c1 c2; rw [hy] at d0 d1 d2
        dsimp only at c0 c1 c2 d0 d1 d2
        have t1 := Lib.hid (List.take_succ_eq_append_getElem hlt)
        have t2 := Lib.hid (List.take_succ_eq_append_getElem hlt2)
        have HX := Lib.hid hx; have HY := Lib.hid hy
        have i1 : (0 : Int) ≤ (k : Int) := by omega
        have i2 : (k : Int) < (xs.length : Int) := by omega
        have i3 : (k : Int) < (ys.length : Int) := by omega
        clear S R hx hy
        by_cases h0 : xi = yi
        · by_cases h1 : xl = yl
          · by_cases h2 : xh = yh
            · have HE : Hid ((⟨xi, xl, xh⟩ : Fnd) = ⟨yi, yl, yh⟩) := Lib.hid (by rw [h0, h1, h2])
              have e0 : (xi == yi) = true := beq_iff_eq.2 h0
              have e1 : (xl == yl) = true := beq_iff_eq.2 h1
              have e2 : (xh == yh) = true := beq_iff_eq.2 h2
              clear h0 h1 h2
              go_wp2
              go_quiet (fail)
              go_wp2
              go_roundw
              case rel => exact ⟨k + 1, by omega, by go_num, Lib.hid (by rw [t1.out, t2.out, HT.out, HX.out, HY.out, HE.out]), X.drewN _⟩
              case measure => simp [intOf] <;> omega
            · have HN : Hid (decide (xs = ys) = false) := Lib.hid (decide_eq_false fun h => h2 (by
                have := congrArg Fnd.bound (show xs[k] = ys[k] by subst h; rfl); rw [HX.out, HY.out] at this; exact this))
              have e0 : (xi == yi) = true := beq_iff_eq.2 h0
              have e1 : (xl == yl) = true := beq_iff_eq.2 h1
              have e2 : (xh == yh) = false := beq_eq_false_iff_ne.2 h2
              clear h0 h1 h2
              go_wp2
              go_quiet (fail)
              go_wp2
              go_ret
              exact ⟨by rw [HN.out] <;> rfl, X.drewN _⟩
          · have HN : Hid (decide (xs = ys) = false) := Lib.hid (decide_eq_false fun h => h1 (by
              have := congrArg Fnd.verdict (show xs[k] = ys[k] by subst h; rfl); rw [HX.out, HY.out] at this; exact this))
            have e0 : (xi == yi) = true := beq_iff_eq.2 h0
            have e1 : (xl == yl) = false := beq_eq_false_iff_ne.2 h1
            clear h0 h1
            go_wp2
            go_quiet (fail)
            go_wp2
            go_ret
            exact ⟨by rw [HN.out] <;> rfl, X.drewN _⟩
        · have HN : Hid (decide (xs = ys) = false) := Lib.hid (decide_eq_false fun h => h0 (by
            have := congrArg Fnd.i (show xs[k] = ys[k] by subst h; rfl); rw [HX.out, HY.out] at this; exact this))
          have e0 : (xi == yi) = false := beq_eq_false_iff_ne.2 h0
          clear h0
          go_wp2
          go_quiet (fail)
          go_wp2
          go_ret
          exact ⟨by rw [HN.out] <;> rfl, X.drewN _⟩
      · obtain rfl : k = xs.length := by omega
        have HE : Hid (decide (xs = ys) = true) := Lib.hid (decide_eq_true (by
          have h := HT.out
          rw [List.take_length, HL.out, List.take_length] at h; exact h))
        clear S R
        go_wp2
        go_ret
        exact ⟨by rw [HE.out] <;> rfl, X⟩
  · have hl' : ((xs.length : Int) != ys.length) = true := by rw [bne_iff_ne]; omega
    have HN : Hid (decide (xs = ys) = false) := Lib.hid (decide_eq_false (fun h => hl (by rw [h])))
    clear hl S R
    go_enter Tryz.func14, Tryz.ntmps14
    go_wp2
    go_ret
    exact ⟨by rw [HN.out] <;> rfl, Ext.refl _⟩
end Go.Proofs.YtkckingkocacjaaGreatDoor
