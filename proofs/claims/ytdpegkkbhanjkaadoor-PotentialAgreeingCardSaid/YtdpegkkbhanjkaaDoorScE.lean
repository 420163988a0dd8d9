/-
  Walk: score.pairs.
-/
import Derived.Test.YtdpegkkbhanjkaaDoorScD
import Derived.Deep.RegionHeld3
set_option linter.unusedVariables false
namespace Go.Proofs.YtdpegkkbhanjkaaDoor
open Go.RowKit Go.Sx Go.Sx.Sz Go.Sx.Sc

set_option maxRecDepth 100000 in
set_option maxHeartbeats 4000000 in
theorem pairs_walk (vn vp vc : Value) (s : Sc) (w : World) (S : ScR w vn vp vc s) : Calls Tryd.prog 53 #[.agg #[.int .i64 s.voices, vn, vp, vc]] w fun e w' => e = .returned (.bool (decide (prsOk s))) ∧ Ext w w' := by
  obtain ⟨an, cn, rfl, -, -, hln⟩ := S.nt.len
  obtain ⟨ap, cp, rfl, -, -, hlp⟩ := S.pr.len
  obtain ⟨ac, cc, rfl, -, -, -⟩ := S.cd.len
  have SN := S.nt
  have SP := S.pr
  go_enter Tryd.func53, Tryd.ntmps53
  go_wp2
  have b0 := block_new w (.cells #[.int .i64 s.voices, .slice an s.notes.length cn, .slice ap s.pairs.length cp, .slice ac s.cads.length cc] 26)
  have XW := Ext.alloc' w (.cells #[.int .i64 s.voices, .slice an s.notes.length cn, .slice ap s.pairs.length cp, .slice ac s.cads.length cc] 26)
  obtain ⟨B, hB⟩ : ∃ B, w.heap.size = B := ⟨_, rfl⟩
  obtain ⟨W, hW⟩ : ∃ W, w.alloc (.cells #[.int .i64 s.voices, .slice an s.notes.length cn, .slice ap s.pairs.length cp, .slice ac s.cads.length cc] 26) = W := ⟨_, rfl⟩
  rw [hB] at b0 ⊢
  rw [hW] at b0 XW ⊢
  clear hB hW S
  go_loopw [10] (fun i wr => ∃ k : Nat, k ≤ s.pairs.length ∧ i = .int .i64 k ∧ (∀ i, i < k → pairOk s (s.P i)) ∧ Ext W wr) (fun i _ => s.pairs.length - (intOf i).toNat)
  case atStart => exact ⟨0, by omega, rfl, fun i h => by omega, Ext.refl _⟩
  case round =>
    obtain ⟨k, hk, rfl, hall, X⟩ := hrel
    have HA := Lib.hid hall
    clear hall
    by_cases hlt : k < s.pairs.length
    · obtain ⟨b, o, rfl, A⟩ := Sl.pr ((SP.ext XW).ext X) k hlt
      have hN := Sc.P_eq hlt
      obtain ⟨p, hp⟩ : ∃ p, s.pairs[k] = p := ⟨_, rfl⟩
      rw [hp] at A hN
      have HN := Lib.hid hN
      have bad : ¬ pairOk s p → decide (prsOk s) = false := fun h => decide_eq_false (fun hh => h (by rw [← hN]; exact hh.1 k hlt))
      have BAD := Lib.hid bad
      obtain ⟨q0, q1, q2, q3, q4, q5, q6, q7, q8⟩ := A
      have bX := block_ext X b0
      have n1 := block_cell bX 1 (.slice an s.notes.length cn) rfl
      have vz := block_lt bX
      have vn : ¬ B = wr.heap.size := by omega
      obtain ⟨c, hc⟩ : ∃ c, within p.want 16 = c := ⟨_, rfl⟩
      have HC := Lib.hid hc
      have XX := XW.trans X
      have BX := Lib.hid bX
      clear hN hp bad hc bX
      by_cases h1 : p.a < 0
      · go_wp2
        go_ret
        exact ⟨by rw [BAD.out (fun h => by have := h.1.1; omega)] <;> rfl, (by repeat (first | with_reducible exact Ext.refl _ | with_reducible assumption | with_reducible apply Ext.alloc | with_reducible apply Ext.drew | (with_reducible refine Ext.setCell ?_ (by (try simp) <;> omega) _)))⟩
      by_cases h2 : p.b ≤ p.a
      · go_wp2
        go_ret
        exact ⟨by rw [BAD.out (fun h => by have := h.1.2; omega)] <;> rfl, (by repeat (first | with_reducible exact Ext.refl _ | with_reducible assumption | with_reducible apply Ext.alloc | with_reducible apply Ext.drew | (with_reducible refine Ext.setCell ?_ (by (try simp) <;> omega) _)))⟩
      by_cases h3 : s.notes.length ≤ p.b
      · go_wp2
        go_ret
        exact ⟨by rw [BAD.out (fun h => by have := h.2.1; omega)] <;> rfl, (by repeat (first | with_reducible exact Ext.refl _ | with_reducible assumption | with_reducible apply Ext.alloc | with_reducible apply Ext.drew | (with_reducible refine Ext.setCell ?_ (by (try simp) <;> omega) _)))⟩
      obtain ⟨wo, rfl⟩ : ∃ wo : World, wo = wr := ⟨_, rfl⟩
      go_wp2_with fail
      refine (bounded_walk p.want 16 (by omega) (by omega) _).mono ?_
      rw [HC.out]
      rintro e w1 ⟨rfl, x1⟩
      have y1 : Ext wo w1 := Ext.trans (by repeat (first | with_reducible exact Ext.refl _ | with_reducible assumption | with_reducible apply Ext.alloc | with_reducible apply Ext.drew | (with_reducible refine Ext.setCell ?_ (by (try simp) <;> omega) _))) x1
      have X1 : Ext W w1 := X.trans y1
      have bP := block_ext x1 (block_new wo (.cells #[.int .i64 p.a, .int .i64 p.b, .int .i64 p.want.a, .int .i64 p.want.b, .int .i64 p.want.c, .int .i64 p.want.d, .int .i64 p.want.e, .int .i64 p.want.f, .int .i64 p.bound] 53))
      clear q0 q1 q2 q3 q4 q5 q6 q7 q8 n1 x1
      cases c with
      | false =>
        go_wp2
        go_ret
        exact ⟨by rw [BAD.out (fun h => by have := h.2.2.1; rw [HC.out] at this; cases this)] <;> rfl, XW.trans X1⟩
      | true =>
        have p0 := block_cell bP 0 _ rfl
        have p1 := block_cell bP 1 _ rfl
        have p8 := block_cell bP 8 (.int .i64 p.bound) rfl
        by_cases h4 : p.bound < 0
        · go_wp2
          go_ret
          exact ⟨by rw [BAD.out (fun h => by have := h.2.2.2.1.1; omega)] <;> rfl, XW.trans X1⟩
        by_cases h5 : 100000 < p.bound
        · go_wp2
          go_ret
          exact ⟨by rw [BAD.out (fun h => by have := h.2.2.2.1.2; omega)] <;> rfl, XW.trans X1⟩
        obtain ⟨ia, hia⟩ : ∃ i : Nat, p.a = i := ⟨p.a.toNat, by omega⟩
        obtain ⟨ib, hib⟩ : ∃ i : Nat, p.b = i := ⟨p.b.toNat, by omega⟩
        have la : ia < s.notes.length := by omega
        have lb : ib < s.notes.length := by omega
        obtain ⟨bn, on, rfl, NA⟩ := Sl.nt ((SN.ext XW).ext X1) ia la
        obtain ⟨bn', on', e', NB⟩ := Sl.nt ((SN.ext XW).ext X1) ib lb
        cases e'
        rw [← Sc.N_eq la] at NA
        rw [← Sc.N_eq lb] at NB
        have hok : pairOk s p ↔ (s.N ia).v ≠ (s.N ib).v ∧ (s.N ib).f < (s.N ia).u := by
          unfold pairOk
          rw [hia, hib, Int.toNat_natCast, Int.toNat_natCast]
          constructor
          · exact fun h => h.2.2.2.2
          · exact fun h => ⟨⟨by omega, by omega⟩, by omega, HC.out, ⟨by omega, by omega⟩, h⟩
        rw [hia] at p0
        rw [hib] at p1
        have n1 := block_cell (block_ext y1 BX.out) 1 (.slice (some ⟨bn, on, none⟩) s.notes.length cn) rfl
        obtain ⟨na, hna⟩ : ∃ n, s.N ia = n := ⟨_, rfl⟩
        obtain ⟨nb, hnb⟩ : ∃ n, s.N ib = n := ⟨_, rfl⟩
        rw [hna] at NA hok
        rw [hnb] at NB hok
        have HOK := Lib.hid hok
        have i1 : (0 : Int) ≤ (ia : Int) := by omega
        have i2 : (ia : Int) < (s.notes.length : Int) := by omega
        have i3 : (0 : Int) ≤ (ib : Int) := by omega
        have i4 : (ib : Int) < (s.notes.length : Int) := by omega
        obtain ⟨a0, a1, a2, a3, a4, a5, a6, a7, a8, a9⟩ := NA
        obtain ⟨d0, d1, d2, d3, d4, d5, d6, d7, d8, d9⟩ := NB
        have lz1 := lt_of_cell a0; have lz2 := block_lt (block_ext y1 BX.out); have lz3 := block_lt bP
        simp only at lz1
        have m1 : ¬ bn = w1.heap.size := by omega
        have m2 : ¬ B = w1.heap.size := by omega
        have m3 : ¬ wo.heap.size = w1.heap.size := by omega
        have m4 : bn < w1.heap.size + 1 := by omega
        have m5 : B < w1.heap.size + 1 := by omega
        have m6 : wo.heap.size < w1.heap.size + 1 := by omega
        have m7 : ¬ bn = w1.heap.size + 1 := by omega
        have m8 : ¬ B = w1.heap.size + 1 := by omega
        have m9 : ¬ wo.heap.size = w1.heap.size + 1 := by omega
        clear hok hna hnb bP la lb
        have XX1 := XW.trans X1
        go_wp2
        go_region_held3 (fun w' => w'.cell? ⟨B, 1, none⟩ = some (.slice (some ⟨bn, on, none⟩) s.notes.length cn) ∧ w'.cell? ⟨wo.heap.size, 0, none⟩ = some (.int .i64 ia) ∧ w'.cell? ⟨wo.heap.size, 1, none⟩ = some (.int .i64 ib) ∧ w'.cell? ⟨bn, on + ia * 10, none⟩ = some (.int .i64 na.v) ∧ w'.cell? ⟨bn, on + ia * 10 + 1, none⟩ = some (.int .i64 na.f) ∧ w'.cell? ⟨bn, on + ia * 10 + 2, none⟩ = some (.int .i64 na.u) ∧ w'.cell? ⟨bn, on + ia * 10 + 3, none⟩ = some (.int .i64 na.x.a) ∧ w'.cell? ⟨bn, on + ia * 10 + 4, none⟩ = some (.int .i64 na.x.b) ∧ w'.cell? ⟨bn, on + ia * 10 + 5, none⟩ = some (.int .i64 na.x.c) ∧ w'.cell? ⟨bn, on + ia * 10 + 6, none⟩ = some (.int .i64 na.x.d) ∧ w'.cell? ⟨bn, on + ia * 10 + 7, none⟩ = some (.int .i64 na.x.e) ∧ w'.cell? ⟨bn, on + ia * 10 + 8, none⟩ = some (.int .i64 na.x.f) ∧ w'.cell? ⟨bn, on + ia * 10 + 9, none⟩ = some (.bool na.tied) ∧ w'.cell? ⟨bn, on + ib * 10, none⟩ = some (.int .i64 nb.v) ∧ w'.cell? ⟨bn, on + ib * 10 + 1, none⟩ = some (.int .i64 nb.f) ∧ w'.cell? ⟨bn, on + ib * 10 + 2, none⟩ = some (.int .i64 nb.u) ∧ w'.cell? ⟨bn, on + ib * 10 + 3, none⟩ = some (.int .i64 nb.x.a) ∧ w'.cell? ⟨bn, on + ib * 10 + 4, none⟩ = some (.int .i64 nb.x.b) ∧ w'.cell? ⟨bn, on + ib * 10 + 5, none⟩ = some (.int .i64 nb.x.c) ∧ w'.cell? ⟨bn, on + ib * 10 + 6, none⟩ = some (.int .i64 nb.x.d) ∧ w'.cell? ⟨bn, on + ib * 10 + 7, none⟩ = some (.int .i64 nb.x.e) ∧ w'.cell? ⟨bn, on + ib * 10 + 8, none⟩ = some (.int .i64 nb.x.f) ∧ w'.cell? ⟨bn, on + ib * 10 + 9, none⟩ = some (.bool nb.tied)) (go_keep) (fail)
        all_goals
          clear a0 a1 a2 a3 a4 a5 a6 a7 a8 a9 d0 d1 d2 d3 d4 d5 d6 d7 d8 d9 n1 p0 p1 p8
          by_cases hv : na.v = nb.v
          · have e1 : (na.v == nb.v) = true := by rw [beq_iff_eq]; exact hv
            have hb := BAD.out (fun h => (HOK.out.1 h).1 hv)
            have HBB := Lib.hid hb
            clear hv hb
            go_wp2
            go_ret
            exact ⟨by rw [HBB.out] <;> rfl, (by repeat (first | with_reducible exact Ext.refl _ | with_reducible assumption | with_reducible apply Ext.alloc | with_reducible apply Ext.drew | (with_reducible refine Ext.setCell ?_ (by (try simp) <;> omega) _)))⟩
          · have e1 : (na.v == nb.v) = false := by rw [beq_eq_false_iff_ne]; exact hv
            by_cases hu : na.u ≤ nb.f
            · have hb := BAD.out (fun h => by have := (HOK.out.1 h).2; omega)
              have HBB := Lib.hid hb
              clear hv hb
              go_wp2
              go_ret
              exact ⟨by rw [HBB.out] <;> rfl, (by repeat (first | with_reducible exact Ext.refl _ | with_reducible assumption | with_reducible apply Ext.alloc | with_reducible apply Ext.drew | (with_reducible refine Ext.setCell ?_ (by (try simp) <;> omega) _)))⟩
            · have hg := HOK.out.2 ⟨hv, by omega⟩
              have HG := Lib.hid hg
              clear hv hg
              go_wp2
              go_roundw
              case rel => exact ⟨k + 1, by omega, by go_num, fun i hi => by
                rcases Nat.lt_or_ge i k with h | h
                · exact HA.out i h
                · obtain rfl : i = k := by omega
                  rw [HN.out]; exact HG.out, (by repeat (first | with_reducible exact Ext.refl _ | with_reducible assumption | with_reducible apply Ext.alloc | with_reducible apply Ext.drew | (with_reducible refine Ext.setCell ?_ (by (try simp) <;> omega) _)))⟩
              case measure => simp [intOf]; omega
    · obtain rfl : k = s.pairs.length := by omega
      have v1 := block_cell (block_ext X b0) 2 (.slice ap s.pairs.length cp) rfl
      have SX := (SP.ext XW).ext X
      obtain ⟨c, hc⟩ : ∃ c, decide (lexAll lexP s.pairs) = c := ⟨_, rfl⟩
      have hres : decide (prsOk s) = c := by
        rw [← hc]
        exact decide_eq_decide.2 ⟨fun h => h.2, fun h => ⟨HA.out, h⟩⟩
      have HR := Lib.hid hres; have HC := Lib.hid hc
      clear hres hc SN SP
      go_wp2_with fail
      refine (rispr_walk _ s.pairs _ SX).mono ?_
      rw [HC.out]
      rintro e w1 ⟨rfl, x1⟩
      go_wp2
      go_ret
      exact ⟨by rw [HR.out] <;> rfl, (XW.trans X).trans x1⟩
end Go.Proofs.YtdpegkkbhanjkaaDoor
