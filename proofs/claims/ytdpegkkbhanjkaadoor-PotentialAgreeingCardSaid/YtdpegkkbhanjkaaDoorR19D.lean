/-
  Walk: schismaref19.Valid.
-/
import Derived.Test.YtdpegkkbhanjkaaDoorR19C
set_option linter.unusedVariables false
namespace Go.Sx.Sc
open Go.Sx.Sz
section
variable {s : Sc}
def rcA (s : Sc) (i : Nat) : Prop := (1 ≤ s.C i ∧ s.C i ≤ 99999) ∧ (0 < i → s.C (i - 1) < s.C i)
set_option maxRecDepth 100000 in
theorem rc_a (h : cadOk s) {i : Nat} (hi : i < s.cads.length) : rcA s i :=
  ⟨h.1 i hi, fun h0 => by have := h.2 (i - 1) (by omega); rwa [Nat.sub_add_cancel h0] at this⟩
set_option maxRecDepth 100000 in
theorem rc_ok (h : ∀ i, i < s.cads.length → rcA s i) : cadOk s := ⟨fun i hi => (h i hi).1, fun i hi => (h (i + 1) (by omega)).2 (by omega)⟩
end
end Go.Sx.Sc
namespace Go.Proofs.YtdpegkkbhanjkaaDoor
open Go.RowKit Go.Sx Go.Sx.Sz Go.Sx.Sc

set_option maxRecDepth 100000 in
set_option maxHeartbeats 4000000 in
theorem rvalid19_walk (vn vp vc : Value) (s : Sc) (w : World) (S : ScR w vn vp vc s) : Calls Tryd.prog 25 #[.agg #[.int .i64 s.voices, vn, vp, vc]] w fun e w' => e = .returned (.bool (scB s)) ∧ Ext w w' := by
  obtain ⟨an, cn, rfl, -, -, hln⟩ := S.nt.len
  obtain ⟨ap, cp, rfl, -, -, hlp⟩ := S.pr.len
  obtain ⟨ac, cc, rfl, -, -, hlc⟩ := S.cd.len
  have XW := Ext.alloc' w (.cells #[.int .i64 s.voices, .slice an s.notes.length cn, .slice ap s.pairs.length cp, .slice ac s.cads.length cc] 26)
  have b1 := block_new w (.cells #[.int .i64 s.voices, .slice an s.notes.length cn, .slice ap s.pairs.length cp, .slice ac s.cads.length cc] 26)
  obtain ⟨W, hW⟩ : ∃ W, w.alloc (.cells #[.int .i64 s.voices, .slice an s.notes.length cn, .slice ap s.pairs.length cp, .slice ac s.cads.length cc] 26) = W := ⟨_, rfl⟩
  rw [hW] at XW b1
  have HW := Lib.hid hW
  have CB : Hid (∀ w', Ext W w' → w'.cell? ⟨w.heap.size, 0, none⟩ = some (.int .i64 s.voices) ∧ w'.cell? ⟨w.heap.size, 1, none⟩ = some (.slice an s.notes.length cn) ∧ w'.cell? ⟨w.heap.size, 2, none⟩ = some (.slice ap s.pairs.length cp) ∧ w'.cell? ⟨w.heap.size, 3, none⟩ = some (.slice ac s.cads.length cc)) := Lib.hid fun w' x =>
    ⟨x.cell (block_cell b1 0 _ rfl), x.cell (block_cell b1 1 _ rfl), x.cell (block_cell b1 2 _ rfl), x.cell (block_cell b1 3 _ rfl)⟩
  have S1 := S.ext XW
  have bad : ¬ szOk' s → scB s = false := fun h => scB_false fun hh => h hh.sz
  have BSZ := Lib.hid bad
  clear hW b1 S bad
  by_cases g1 : s.voices < 1
  · have HR := Lib.hid (BSZ.out (fun h => by unfold szOk' at h; omega))
    go_enter Tryd.func25, Tryd.ntmps25
    go_wp2
    rw [HW.out]
    go_ret
    exact ⟨by rw [HR.out] <;> rfl, XW⟩
  by_cases g2 : 8 < s.voices
  · have HR := Lib.hid (BSZ.out (fun h => by unfold szOk' at h; omega))
    go_enter Tryd.func25, Tryd.ntmps25
    go_wp2
    rw [HW.out]
    go_ret
    exact ⟨by rw [HR.out] <;> rfl, XW⟩
  by_cases g3 : 200 < s.notes.length
  · have HR := Lib.hid (BSZ.out (fun h => by unfold szOk' at h; omega))
    have g3' : (200 : Int) < (s.notes.length : Int) := by omega
    go_enter Tryd.func25, Tryd.ntmps25
    go_wp2
    rw [HW.out]
    go_ret
    exact ⟨by rw [HR.out] <;> rfl, XW⟩
  have g3' : ¬ (200 : Int) < (s.notes.length : Int) := by omega
  by_cases g4 : 400 < s.pairs.length
  · have HR := Lib.hid (BSZ.out (fun h => by unfold szOk' at h; omega))
    have g4' : (400 : Int) < (s.pairs.length : Int) := by omega
    go_enter Tryd.func25, Tryd.ntmps25
    go_wp2
    rw [HW.out]
    go_ret
    exact ⟨by rw [HR.out] <;> rfl, XW⟩
  have g4' : ¬ (400 : Int) < (s.pairs.length : Int) := by omega
  by_cases g5 : 15 < s.cads.length
  · have HR := Lib.hid (BSZ.out (fun h => by unfold szOk' at h; omega))
    have g5' : (15 : Int) < (s.cads.length : Int) := by omega
    go_enter Tryd.func25, Tryd.ntmps25
    go_wp2
    rw [HW.out]
    go_ret
    exact ⟨by rw [HR.out] <;> rfl, XW⟩
  have g5' : ¬ (15 : Int) < (s.cads.length : Int) := by omega
  have HSZ : Hid (szOk' s) := Lib.hid (by unfold szOk'; omega)
  go_enter Tryd.func25, Tryd.ntmps25
  go_wp2
  rw [HW.out]
  obtain ⟨B, hB⟩ : ∃ B, w.heap.size = B := ⟨_, rfl⟩
  rw [hB] at CB ⊢
  clear HW hB g1 g2 g3 g3' g4 g4' g5'
  go_loopw [3] (fun i wr => ∃ k : Nat, k ≤ s.cads.length ∧ i = .int .i64 k ∧ (∀ j, j < k → rcA s j) ∧ Ext W wr) (fun i _ => s.cads.length - (intOf i).toNat)
  case atStart => exact ⟨0, by omega, rfl, fun j h => absurd h (Nat.not_lt_zero _), Ext.refl _⟩
  case round =>
    obtain ⟨k, hk, rfl, hall, X⟩ := hrel
    have HA := Lib.hid hall
    clear hall
    obtain ⟨c0, c1, c2, c3⟩ := CB.out wr X
    by_cases hlt : k < s.cads.length
    · obtain ⟨b, o, rfl, q0⟩ := Sl.num (S1.cd.ext X) k hlt
      rw [← Sc.C_eq hlt] at q0
      obtain ⟨c, hc⟩ : ∃ c, s.C k = c := ⟨_, rfl⟩
      rw [hc] at q0
      have HC := Lib.hid hc
      have BAD : Hid (¬ rcA s k → scB s = false) := Lib.hid fun h => scB_false fun hh => h (rc_a hh.cd hlt)
      have STEP : Hid (rcA s k → ∀ j, j < k + 1 → rcA s j) := Lib.hid fun h j hj => by
        by_cases e : j = k
        · subst e; exact h
        · exact HA.out j (by omega)
      have i1 : (0 : Int) ≤ (k : Int) := by omega
      have i2 : (k : Int) < (s.cads.length : Int) := by omega
      clear hc c0 c1 c2
      by_cases m1 : c < 1
      · have HR := Lib.hid (BAD.out (fun h => by unfold rcA at h; have := HC.out; omega))
        have m1' : decide (c < 1) = true := decide_eq_true m1
        clear m1
        go_wp2
        go_quiet (fail)
        go_wp2
        go_ret
        exact ⟨by rw [HR.out] <;> rfl, XW.trans (X.drewN _)⟩
      have m1' : decide (c < 1) = false := decide_eq_false m1
      by_cases m2 : 99999 < c
      · have HR := Lib.hid (BAD.out (fun h => by unfold rcA at h; have := HC.out; omega))
        have m2' : decide (99999 < c) = true := decide_eq_true m2
        clear m1 m2
        go_wp2
        go_quiet (fail)
        go_wp2
        go_ret
        exact ⟨by rw [HR.out] <;> rfl, XW.trans (X.drewN _)⟩
      have m2' : decide (99999 < c) = false := decide_eq_false m2
      have HM : Hid (1 ≤ c ∧ c ≤ 99999) := Lib.hid (by omega)
      by_cases hk0 : k = 0
      · have f3 : decide (0 < k) = false := decide_eq_false (by omega)
        have HS := Lib.hid (STEP.out ⟨by rw [HC.out]; exact HM.out, fun h => by omega⟩)
        clear hk0 m1 m2
        go_wp2
        go_quiet (fail)
        go_wp2
        go_roundw
        case rel => exact ⟨k + 1, by omega, by go_num, HS.out, X.drewN _⟩
        case measure => simp [intOf] <;> omega
      · have hk1 : k - 1 < s.cads.length := by omega
        obtain ⟨b2, o2, e', p0⟩ := Sl.num (S1.cd.ext X) (k - 1) hk1
        obtain ⟨rfl, rfl⟩ : b = b2 ∧ o = o2 := by simp at e'; exact e'
        rw [← Sc.C_eq hk1] at p0
        obtain ⟨d, hd⟩ : ∃ c, s.C (k - 1) = c := ⟨_, rfl⟩
        rw [hd] at p0
        have HD := Lib.hid hd
        have f3 : decide (0 < k) = true := decide_eq_true (by omega)
        have HK0 : Hid (0 < k) := Lib.hid (by omega)
        have f4 : IntKind.i64.wrap ((k : Int) - 1) = ((k - 1 : Nat) : Int) := by rw [IntWalk.i64_in _ (by omega)]; omega
        have f5 : (0 : Int) ≤ ((k - 1 : Nat) : Int) := by omega
        have f6 : ((k - 1 : Nat) : Int) < (s.cads.length : Int) := by omega
        by_cases m3 : c ≤ d
        · have HR := Lib.hid (BAD.out (fun h => by have := h.2 HK0.out; rw [HC.out, HD.out] at this; omega))
          have m3' : decide (c ≤ d) = true := decide_eq_true m3
          clear hd hk0 e' m1 m2 m3 hk1
          go_wp2
          go_quiet (fail)
          clear f4
          go_wp2
          go_ret
          exact ⟨by rw [HR.out] <;> rfl, XW.trans (X.drewN _)⟩
        · have HS := Lib.hid (STEP.out ⟨by rw [HC.out]; exact HM.out, fun _ => by rw [HC.out, HD.out]; omega⟩)
          have m3' : decide (c ≤ d) = false := decide_eq_false m3
          clear hd hk0 e' m1 m2 m3 hk1
          go_wp2
          go_quiet (fail)
          clear f4
          go_wp2
          go_roundw
          case rel => exact ⟨k + 1, by omega, by go_num, HS.out, X.drewN _⟩
          case measure => simp [intOf] <;> omega
    · obtain rfl : k = s.cads.length := by omega
      have HCD := Lib.hid (rc_ok HA.out)
      go_wp2_with fail
      refine (rnotes_walk _ _ _ s _ (S1.ext X) HSZ.out.2.1).mono ?_
      cases hn : rnB s with
      | false =>
        have HR : Hid (scB s = false) := Lib.hid (scB_false fun hh => by rw [rnB_iff.2 ⟨hh.nt, hh.vc⟩] at hn; cases hn)
        clear hn c0 c1 c2 c3
        rintro e w5 ⟨rfl, x5⟩
        go_wp2
        go_ret
        exact ⟨by rw [HR.out] <;> rfl, XW.trans (X.trans x5)⟩
      | true =>
        have HN := Lib.hid (rnB_iff.1 hn)
        clear hn c0 c1 c2 c3
        rintro e w5 ⟨rfl, x5⟩
        obtain ⟨c0, c1, c2, c3⟩ := CB.out w5 (X.trans x5)
        go_wp2_with fail
        refine (rpairs_walk _ _ _ s _ (S1.ext (X.trans x5)) HN.out.1 HSZ.out.2.1 HSZ.out.2.2.1).mono ?_
        have HR : Hid (scB s = decide (prsOk s)) := Lib.hid (by
          rw [Bool.eq_iff_iff, decide_eq_true_eq, scB_iff]
          exact ⟨fun h => h.pr, fun h => ⟨HSZ.out, HN.out.1, HN.out.2, h, HCD.out⟩⟩)
        rw [← HR.out]
        rintro e w6 ⟨rfl, x6⟩
        clear c0 c1 c2 c3
        go_wp2
        go_ret
        exact ⟨by first | rfl | simp, XW.trans ((X.trans x5).trans x6)⟩
end Go.Proofs.YtdpegkkbhanjkaaDoor
