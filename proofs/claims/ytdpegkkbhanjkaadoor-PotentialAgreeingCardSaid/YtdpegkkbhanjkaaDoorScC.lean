/-
  Walks: score.sizes, notes, cadences.
-/
import Derived.Test.YtdpegkkbhanjkaaDoorScB
set_option linter.unusedVariables false
namespace Go.Proofs.YtdpegkkbhanjkaaDoor
open Go.RowKit Go.Sx Go.Sx.Sz Go.Sx.Sc

set_option maxRecDepth 100000 in
set_option maxHeartbeats 2000000 in
theorem sizes_walk (vn vp vc : Value) (s : Sc) (w : World) (S : ScR w vn vp vc s) : Calls Tryd.prog 50 #[.agg #[.int .i64 s.voices, vn, vp, vc]] w fun e w' => e = .returned (.bool (decide (szOk' s))) ∧ Ext w w' := by
  obtain ⟨an, cn, rfl, -, -, -⟩ := S.nt.len
  obtain ⟨ap, cp, rfl, -, -, -⟩ := S.pr.len
  obtain ⟨ac, cc, rfl, -, -, -⟩ := S.cd.len
  have fin : ∀ b : Bool, (b = true ↔ szOk' s) → decide (szOk' s) = b := fun b h => by
    cases b with
    | true => exact decide_eq_true (h.1 rfl)
    | false => exact decide_eq_false (fun k => by cases h.2 k)
  have FIN := Lib.hid fin
  clear fin S
  by_cases h1 : 1 ≤ s.voices
  · by_cases h2 : s.voices ≤ 8
    · by_cases h3 : s.notes.length ≤ 200
      · by_cases h4 : s.pairs.length ≤ 400
        · go_enter Tryd.func50, Tryd.ntmps50
          go_wp2
          go_ret
          exact ⟨by rw [FIN.out (decide ((s.cads.length : Int) < 16)) (by unfold szOk'; simp; omega)] <;> rfl, (by repeat (first | with_reducible exact Ext.refl _ | with_reducible assumption | with_reducible apply Ext.alloc | with_reducible apply Ext.drew | (with_reducible refine Ext.setCell ?_ (by (try simp) <;> omega) _)))⟩
        · go_enter Tryd.func50, Tryd.ntmps50
          go_wp2
          go_ret
          exact ⟨by rw [FIN.out false (by unfold szOk'; simp; omega)] <;> rfl, (by repeat (first | with_reducible exact Ext.refl _ | with_reducible assumption | with_reducible apply Ext.alloc | with_reducible apply Ext.drew | (with_reducible refine Ext.setCell ?_ (by (try simp) <;> omega) _)))⟩
      · go_enter Tryd.func50, Tryd.ntmps50
        go_wp2
        go_ret
        exact ⟨by rw [FIN.out false (by unfold szOk'; simp; omega)] <;> rfl, (by repeat (first | with_reducible exact Ext.refl _ | with_reducible assumption | with_reducible apply Ext.alloc | with_reducible apply Ext.drew | (with_reducible refine Ext.setCell ?_ (by (try simp) <;> omega) _)))⟩
    · go_enter Tryd.func50, Tryd.ntmps50
      go_wp2
      go_ret
      exact ⟨by rw [FIN.out false (by unfold szOk'; simp; omega)] <;> rfl, (by repeat (first | with_reducible exact Ext.refl _ | with_reducible assumption | with_reducible apply Ext.alloc | with_reducible apply Ext.drew | (with_reducible refine Ext.setCell ?_ (by (try simp) <;> omega) _)))⟩
  · go_enter Tryd.func50, Tryd.ntmps50
    go_wp2
    go_ret
    exact ⟨by rw [FIN.out false (by unfold szOk'; simp; omega)] <;> rfl, (by repeat (first | with_reducible exact Ext.refl _ | with_reducible assumption | with_reducible apply Ext.alloc | with_reducible apply Ext.drew | (with_reducible refine Ext.setCell ?_ (by (try simp) <;> omega) _)))⟩

set_option maxRecDepth 100000 in
theorem ntOk_of {s : Sc} : ntOk s ↔ (∀ i, i < s.notes.length → noteOk s.voices (s.N i)) ∧ lexAll lexN s.notes := Iff.rfl
set_option maxRecDepth 100000 in
set_option maxHeartbeats 4000000 in
theorem notes_walk (vn vp vc : Value) (s : Sc) (w : World) (S : ScR w vn vp vc s) : Calls Tryd.prog 51 #[.agg #[.int .i64 s.voices, vn, vp, vc]] w fun e w' => e = .returned (.bool (decide (ntOk s))) ∧ Ext w w' := by
  obtain ⟨an, cn, rfl, -, -, hln⟩ := S.nt.len
  obtain ⟨ap, cp, rfl, -, -, -⟩ := S.pr.len
  obtain ⟨ac, cc, rfl, -, -, -⟩ := S.cd.len
  have SN := S.nt
  go_enter Tryd.func51, Tryd.ntmps51
  go_wp2
  have b0 := block_new w (.cells #[.int .i64 s.voices, .slice an s.notes.length cn, .slice ap s.pairs.length cp, .slice ac s.cads.length cc] 26)
  have XW := Ext.alloc' w (.cells #[.int .i64 s.voices, .slice an s.notes.length cn, .slice ap s.pairs.length cp, .slice ac s.cads.length cc] 26)
  obtain ⟨B, hB⟩ : ∃ B, w.heap.size = B := ⟨_, rfl⟩
  obtain ⟨W, hW⟩ : ∃ W, w.alloc (.cells #[.int .i64 s.voices, .slice an s.notes.length cn, .slice ap s.pairs.length cp, .slice ac s.cads.length cc] 26) = W := ⟨_, rfl⟩
  rw [hB] at b0 ⊢
  rw [hW] at b0 XW ⊢
  have HB := Lib.hid hB
  clear hB hW S
  go_loopw [8] (fun i wr => ∃ k : Nat, k ≤ s.notes.length ∧ i = .int .i64 k ∧ (∀ i, i < k → noteOk s.voices (s.N i)) ∧ Ext W wr) (fun i _ => s.notes.length - (intOf i).toNat)
  case atStart => exact ⟨0, by omega, rfl, fun i h => by omega, Ext.refl _⟩
  case round =>
    obtain ⟨k, hk, rfl, hall, X⟩ := hrel
    have HA := Lib.hid hall
    clear hall
    by_cases hlt : k < s.notes.length
    · obtain ⟨b, o, rfl, A⟩ := Sl.nt ((SN.ext XW).ext X) k hlt
      have hN := Sc.N_eq hlt
      obtain ⟨n, hn⟩ : ∃ n, s.notes[k] = n := ⟨_, rfl⟩
      rw [hn] at A hN
      have HN := Lib.hid hN
      have bad : ¬ noteOk s.voices n → decide (ntOk s) = false := fun h => decide_eq_false (fun hh => h (by rw [← hN]; exact hh.1 k hlt))
      have BAD := Lib.hid bad
      obtain ⟨q0, q1, q2, q3, q4, q5, q6, q7, q8, q9⟩ := A
      have v0 := block_cell (block_ext X b0) 0 (.int .i64 s.voices) rfl
      have vz := block_lt (block_ext X b0)
      have vn : ¬ B = wr.heap.size := by omega
      obtain ⟨c, hc⟩ : ∃ c, within n.x 24 = c := ⟨_, rfl⟩
      have HC := Lib.hid hc
      have XX := XW.trans X
      clear hN hn bad hc
      by_cases h1 : n.v < 0
      · go_wp2
        go_ret
        exact ⟨by rw [BAD.out (fun h => by have := h.1.1; omega)] <;> rfl, (by repeat (first | with_reducible exact Ext.refl _ | with_reducible assumption | with_reducible apply Ext.alloc | with_reducible apply Ext.drew | (with_reducible refine Ext.setCell ?_ (by (try simp) <;> omega) _)))⟩
      by_cases h2 : s.voices ≤ n.v
      · go_wp2
        go_ret
        exact ⟨by rw [BAD.out (fun h => by have := h.1.2; omega)] <;> rfl, (by repeat (first | with_reducible exact Ext.refl _ | with_reducible assumption | with_reducible apply Ext.alloc | with_reducible apply Ext.drew | (with_reducible refine Ext.setCell ?_ (by (try simp) <;> omega) _)))⟩
      by_cases h3 : n.f < 0
      · go_wp2
        go_ret
        exact ⟨by rw [BAD.out (fun h => by have := h.2.1.1; omega)] <;> rfl, (by repeat (first | with_reducible exact Ext.refl _ | with_reducible assumption | with_reducible apply Ext.alloc | with_reducible apply Ext.drew | (with_reducible refine Ext.setCell ?_ (by (try simp) <;> omega) _)))⟩
      by_cases h4 : n.u ≤ n.f
      · go_wp2
        go_ret
        exact ⟨by rw [BAD.out (fun h => by have := h.2.1.2; omega)] <;> rfl, (by repeat (first | with_reducible exact Ext.refl _ | with_reducible assumption | with_reducible apply Ext.alloc | with_reducible apply Ext.drew | (with_reducible refine Ext.setCell ?_ (by (try simp) <;> omega) _)))⟩
      by_cases h5 : 100000 < n.u
      · go_wp2
        go_ret
        exact ⟨by rw [BAD.out (fun h => by have := h.2.2.1; omega)] <;> rfl, (by repeat (first | with_reducible exact Ext.refl _ | with_reducible assumption | with_reducible apply Ext.alloc | with_reducible apply Ext.drew | (with_reducible refine Ext.setCell ?_ (by (try simp) <;> omega) _)))⟩
      obtain ⟨wo, rfl⟩ : ∃ wo : World, wo = wr := ⟨_, rfl⟩
      go_wp2_with fail
      refine (bounded_walk n.x 24 (by omega) (by omega) _).mono ?_
      rw [HC.out]
      rintro e w1 ⟨rfl, x1⟩
      have X1 : Ext W w1 := X.trans (Ext.trans (by repeat (first | with_reducible exact Ext.refl _ | with_reducible assumption | with_reducible apply Ext.alloc | with_reducible apply Ext.drew | (with_reducible refine Ext.setCell ?_ (by (try simp) <;> omega) _))) x1)
      cases c with
      | false =>
        clear q0 q1 q2 q3 q4 q5 q6 q7 q8 q9 v0 x1
        go_wp2
        go_ret
        exact ⟨by rw [BAD.out (fun h => by have := h.2.2.2; rw [HC.out] at this; cases this)] <;> rfl, XW.trans X1⟩
      | true =>
        clear q0 q1 q2 q3 q4 q5 q6 q7 q8 q9 v0 x1
        go_wp2
        go_roundw
        case rel => exact ⟨k + 1, by omega, by go_num, fun i hi => by
          rcases Nat.lt_or_ge i k with h | h
          · exact HA.out i h
          · obtain rfl : i = k := by omega
            rw [HN.out]; exact ⟨⟨by omega, by omega⟩, ⟨by omega, by omega⟩, by omega, HC.out⟩, X1⟩
        case measure => simp [intOf]; omega
    · obtain rfl : k = s.notes.length := by omega
      have v1 := block_cell (block_ext X b0) 1 (.slice an s.notes.length cn) rfl
      have SX := (SN.ext XW).ext X
      obtain ⟨c, hc⟩ : ∃ c, decide (lexAll lexN s.notes) = c := ⟨_, rfl⟩
      have hres : decide (ntOk s) = c := by
        rw [← hc]
        exact decide_eq_decide.2 ⟨fun h => h.2, fun h => ⟨HA.out, h⟩⟩
      have HR := Lib.hid hres; have HC := Lib.hid hc
      clear hres hc SN
      go_wp2_with fail
      refine (risnt_walk _ s.notes _ SX).mono ?_
      rw [HC.out]
      rintro e w1 ⟨rfl, x1⟩
      go_wp2
      go_ret
      exact ⟨by rw [HR.out] <;> rfl, (XW.trans X).trans x1⟩

set_option maxRecDepth 100000 in
theorem cadOk_of {s : Sc} : cadOk s ↔ (∀ i, i < s.cads.length → 1 ≤ s.C i ∧ s.C i ≤ 99999) ∧ lexAll ltZ s.cads := Iff.rfl
set_option maxRecDepth 100000 in
set_option maxHeartbeats 4000000 in
theorem cads_walk (vn vp vc : Value) (s : Sc) (w : World) (S : ScR w vn vp vc s) : Calls Tryd.prog 54 #[.agg #[.int .i64 s.voices, vn, vp, vc]] w fun e w' => e = .returned (.bool (decide (cadOk s))) ∧ Ext w w' := by
  obtain ⟨an, cn, rfl, -, -, -⟩ := S.nt.len
  obtain ⟨ap, cp, rfl, -, -, -⟩ := S.pr.len
  obtain ⟨ac, cc, rfl, -, -, hlc⟩ := S.cd.len
  have SN := S.cd
  go_enter Tryd.func54, Tryd.ntmps54
  go_wp2
  have b0 := block_new w (.cells #[.int .i64 s.voices, .slice an s.notes.length cn, .slice ap s.pairs.length cp, .slice ac s.cads.length cc] 26)
  have XW := Ext.alloc' w (.cells #[.int .i64 s.voices, .slice an s.notes.length cn, .slice ap s.pairs.length cp, .slice ac s.cads.length cc] 26)
  obtain ⟨B, hB⟩ : ∃ B, w.heap.size = B := ⟨_, rfl⟩
  obtain ⟨W, hW⟩ : ∃ W, w.alloc (.cells #[.int .i64 s.voices, .slice an s.notes.length cn, .slice ap s.pairs.length cp, .slice ac s.cads.length cc] 26) = W := ⟨_, rfl⟩
  rw [hB] at b0 ⊢
  rw [hW] at b0 XW ⊢
  clear hB hW S
  go_loopw [8] (fun i wr => ∃ k : Nat, k ≤ s.cads.length ∧ i = .int .i64 k ∧ (∀ i, i < k → 1 ≤ s.C i ∧ s.C i ≤ 99999) ∧ Ext W wr) (fun i _ => s.cads.length - (intOf i).toNat)
  case atStart => exact ⟨0, by omega, rfl, fun i h => by omega, Ext.refl _⟩
  case round =>
    obtain ⟨k, hk, rfl, hall, X⟩ := hrel
    have HA := Lib.hid hall
    clear hall
    by_cases hlt : k < s.cads.length
    · obtain ⟨b, o, rfl, q0⟩ := Sl.num ((SN.ext XW).ext X) k hlt
      have hN := Sc.C_eq hlt
      obtain ⟨n, hn⟩ : ∃ n, s.cads[k] = n := ⟨_, rfl⟩
      rw [hn] at q0 hN
      have HN := Lib.hid hN
      have bad : ¬ (1 ≤ n ∧ n ≤ 99999) → decide (cadOk s) = false := fun h => decide_eq_false (fun hh => h (by rw [← hN]; exact hh.1 k hlt))
      have BAD := Lib.hid bad
      have XX := XW.trans X
      clear hN hn bad SN
      by_cases h1 : n < 1
      · go_wp2
        go_ret
        exact ⟨by rw [BAD.out (by omega)] <;> rfl, XX⟩
      by_cases h2 : 100000 ≤ n
      · go_wp2
        go_ret
        exact ⟨by rw [BAD.out (by omega)] <;> rfl, XX⟩
      go_wp2
      go_roundw
      case rel => exact ⟨k + 1, by omega, by go_num, fun i hi => by
          rcases Nat.lt_or_ge i k with h | h
          · exact HA.out i h
          · obtain rfl : i = k := by omega
            rw [HN.out]; omega, X⟩
      case measure => simp [intOf]; omega
    · obtain rfl : k = s.cads.length := by omega
      have v1 := block_cell (block_ext X b0) 3 (.slice ac s.cads.length cc) rfl
      have SX := (SN.ext XW).ext X
      obtain ⟨c, hc⟩ : ∃ c, decide (lexAll ltZ s.cads) = c := ⟨_, rfl⟩
      have hres : decide (cadOk s) = c := by
        rw [← hc]
        exact decide_eq_decide.2 ⟨fun h => h.2, fun h => ⟨HA.out, h⟩⟩
      have HR := Lib.hid hres; have HC := Lib.hid hc
      clear hres hc SN
      go_wp2_with fail
      refine (riscd_walk _ s.cads _ SX).mono ?_
      rw [HC.out]
      rintro e w1 ⟨rfl, x1⟩
      go_wp2
      go_ret
      exact ⟨by rw [HR.out] <;> rfl, (XW.trans X).trans x1⟩
end Go.Proofs.YtdpegkkbhanjkaaDoor
