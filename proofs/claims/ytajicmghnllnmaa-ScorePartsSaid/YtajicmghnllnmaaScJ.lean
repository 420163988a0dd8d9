/-
  Walk: score.First.
-/
import Derived.Test.YtajicmghnllnmaaScI
import Derived.Deep.RegionHeld3
set_option linter.unusedVariables false
namespace Go.Proofs.Ytajicmghnllnmaa
open Go.RowKit Go.Sx Go.Sx.Sz Go.Sx.Sc

set_option maxHeartbeats 4000000 in
theorem first_walk (vn vp vc : Value) (s : Sc) (k : Int) (w : World) (S : ScR w vn vp vc s) : Calls Try.prog 18 #[.agg #[.int .i64 s.voices, vn, vp, vc], .int .i64 k] w fun e w' => e = .returned (.tuple #[.int .i64 (fstR s k).1, .int .i64 (fstR s k).2]) ∧ Ext w w' := by
  obtain ⟨an, cn, rfl, -, -, hln⟩ := S.nt.len
  obtain ⟨ap, cp, rfl, -, -, hlp⟩ := S.pr.len
  obtain ⟨ac, cc, rfl, -, -, hlc⟩ := S.cd.len
  by_cases hg : scB s = true ∧ 0 ≤ k ∧ k ≤ s.cads.length + 1
  · obtain ⟨hok, h1, h2⟩ := hg
    have hR : fstR s k = (fstF s k, 0) := by unfold fstR; rw [if_pos ⟨hok, h1, h2⟩]
    have HO := Lib.hid hok
    have HV := Lib.hid (scB_iff.1 hok)
    have hc15 := (scB_iff.1 hok).sz.2.2.2
    have e1 : IntKind.i64.wrap ((s.cads.length : Int) + 1) = (s.cads.length : Int) + 1 := IntWalk.i64_in _ (by omega)
    have h1' : ¬ k < 0 := by omega
    have h2' : ¬ (s.cads.length : Int) + 1 < k := by omega
    by_cases hk0 : k = 0
    · subst hk0
      have HR : Hid (fstR s 0 = (0, 0)) := Lib.hid (by rw [hR, fstF, if_pos rfl])
      clear hR hok h1 h2 h1'
      go_enter Try.func18, Try.ntmps18
      go_wp2_with fail
      refine (scvalid_walk _ _ _ s _ (S.ext (by repeat (first | with_reducible exact Ext.refl _ | with_reducible assumption | with_reducible apply Ext.alloc | with_reducible apply Ext.drew | (with_reducible refine Ext.setCell ?_ (by (try simp) <;> omega) _))))).mono ?_
      rw [HO.out]
      rintro e w1 ⟨rfl, x1⟩
      have X1 : Ext w w1 := Ext.trans (by repeat (first | with_reducible exact Ext.refl _ | with_reducible assumption | with_reducible apply Ext.alloc | with_reducible apply Ext.drew | (with_reducible refine Ext.setCell ?_ (by (try simp) <;> omega) _))) x1
      have b1 := block_ext x1 (block_new w (.cells #[.int .i64 s.voices, .slice an s.notes.length cn, .slice ap s.pairs.length cp, .slice ac s.cads.length cc] 26))
      have c3 := block_cell b1 3 (.slice ac s.cads.length cc) rfl
      clear x1 b1
      go_wp2
      go_ret2
      exact ⟨by rw [HR.out] <;> rfl, X1⟩
    · have d0 : (k == 0) = false := by rw [beq_eq_false_iff_ne]; exact hk0
      by_cases hkn : k = s.cads.length + 1
      · have d1 : (k == (s.cads.length : Int) + 1) = true := by rw [beq_iff_eq]; exact hkn
        have HR : Hid (fstR s k = ((s.notes.length : Int), 0)) := Lib.hid (by rw [hR, fstF, if_neg hk0, if_pos hkn])
        clear hR hok hk0 hkn
        go_enter Try.func18, Try.ntmps18
        go_wp2_with fail
        refine (scvalid_walk _ _ _ s _ (S.ext (by repeat (first | with_reducible exact Ext.refl _ | with_reducible assumption | with_reducible apply Ext.alloc | with_reducible apply Ext.drew | (with_reducible refine Ext.setCell ?_ (by (try simp) <;> omega) _))))).mono ?_
        rw [HO.out]
        rintro e w1 ⟨rfl, x1⟩
        have X1 : Ext w w1 := Ext.trans (by repeat (first | with_reducible exact Ext.refl _ | with_reducible assumption | with_reducible apply Ext.alloc | with_reducible apply Ext.drew | (with_reducible refine Ext.setCell ?_ (by (try simp) <;> omega) _))) x1
        have b1 := block_ext x1 (block_new w (.cells #[.int .i64 s.voices, .slice an s.notes.length cn, .slice ap s.pairs.length cp, .slice ac s.cads.length cc] 26))
        have c1 := block_cell b1 1 (.slice an s.notes.length cn) rfl
        have c3 := block_cell b1 3 (.slice ac s.cads.length cc) rfl
        clear x1 b1
        go_wp2
        go_ret2
        exact ⟨by rw [HR.out] <;> rfl, X1⟩
      · have d1 : (k == (s.cads.length : Int) + 1) = false := by rw [beq_eq_false_iff_ne]; exact hkn
        have HR : Hid (fstR s k = (((begF s (s.C (k - 1).toNat) : Nat) : Int), 0)) := Lib.hid (by rw [hR, fstF, if_neg hk0, if_neg hkn])
        clear hR hok
        obtain ⟨m, rfl⟩ : ∃ m : Nat, k = (m : Int) + 1 := ⟨(k - 1).toNat, by omega⟩
        have em : ((m : Int) + 1 - 1).toNat = m := by omega
        have hm : m < s.cads.length := by omega
        have hC := Sc.C_eq hm
        rw [em] at HR
        obtain ⟨t, ht⟩ : ∃ t, s.C m = t := ⟨_, rfl⟩
        rw [ht] at hC HR
        have i1 : (0 : Int) ≤ (m : Int) := by omega
        have i2 : (m : Int) < (s.cads.length : Int) := by omega
        have HC := Lib.hid hC
        have hsort : ∀ i j (hj : j < s.notes.length) (hij : i < j), s.notes[i].f ≤ s.notes[j].f := fun i j hj hij => by
          have := HV.out.nt.from_le (show i ≤ j by omega) hj
          rw [Sc.N_eq (by omega), Sc.N_eq hj] at this; exact this
        have HS := Lib.hid hsort
        clear ht em hC h1 h2 hk0 hkn hsort
        go_enter Try.func18, Try.ntmps18
        go_wp2_with fail
        refine (scvalid_walk _ _ _ s _ (S.ext (by repeat (first | with_reducible exact Ext.refl _ | with_reducible assumption | with_reducible apply Ext.alloc | with_reducible apply Ext.drew | (with_reducible refine Ext.setCell ?_ (by (try simp) <;> omega) _))))).mono ?_
        rw [HO.out]
        rintro e w1 ⟨rfl, x1⟩
        have X1 : Ext w w1 := Ext.trans (by repeat (first | with_reducible exact Ext.refl _ | with_reducible assumption | with_reducible apply Ext.alloc | with_reducible apply Ext.drew | (with_reducible refine Ext.setCell ?_ (by (try simp) <;> omega) _))) x1
        have b1 := block_ext x1 (block_new w (.cells #[.int .i64 s.voices, .slice an s.notes.length cn, .slice ap s.pairs.length cp, .slice ac s.cads.length cc] 26))
        obtain ⟨b, o, rfl, q0⟩ := Sl.num (S.cd.ext X1) m hm
        rw [← HC.out] at q0
        have c1 := block_cell b1 1 (.slice an s.notes.length cn) rfl
        have c3 := block_cell b1 3 (.slice (some ⟨b, o, none⟩) s.cads.length cc) rfl
        have BSF := Lib.hid fun w' (y : Ext w1 w') => bsf_walk (.slice an s.notes.length cn) s.notes t HS.out w' ((S.nt.ext X1).ext y)
        clear x1 b1
        go_wp2
        have e2 : IntKind.i64.wrap (m : Int) = (m : Int) := IntWalk.i64_in _ (by omega)
        go_region_held3 (fun w' => w'.cell? ⟨w.heap.size, 1, none⟩ = some (.slice an s.notes.length cn) ∧ w'.cell? ⟨w.heap.size, 3, none⟩ = some (.slice (some ⟨b, o, none⟩) s.cads.length cc) ∧ w'.cell? ⟨b, o + m, none⟩ = some (.int .i64 t)) (go_keep)
          ((go_at_call 42; refine (BSF.out _ (by repeat (first | with_reducible exact Ext.refl _ | with_reducible assumption | with_reducible apply Ext.alloc | with_reducible apply Ext.drew | (with_reducible refine Ext.setCell ?_ (by (try simp) <;> omega) _)))).mono ?_; rintro e w4 ⟨⟨bb, rfl⟩, hx⟩; have y4 : Ext w1 w4 := Ext.trans (by repeat (first | with_reducible exact Ext.refl _ | with_reducible assumption | with_reducible apply Ext.alloc | with_reducible apply Ext.drew | (with_reducible refine Ext.setCell ?_ (by (try simp) <;> omega) _))) hx; have k0 := y4.cell c1; have k1 := y4.cell c3; have k2 := y4.cell q0; clear hx))
        all_goals
          clear q0 c1 c3 k0 k1 k2
          go_wp2
          go_ret2
          exact ⟨by rw [HR.out] <;> rfl, X1.trans y4⟩
  · have hR : fstR s k = (0, 1) := by unfold fstR; rw [if_neg hg]
    have HR := Lib.hid hR
    cases hok : scB s with
    | false =>
      have HO := Lib.hid hok
      clear hok hR hg
      go_enter Try.func18, Try.ntmps18
      go_wp2_with fail
      refine (scvalid_walk _ _ _ s _ (S.ext (by repeat (first | with_reducible exact Ext.refl _ | with_reducible assumption | with_reducible apply Ext.alloc | with_reducible apply Ext.drew | (with_reducible refine Ext.setCell ?_ (by (try simp) <;> omega) _))))).mono ?_
      rw [HO.out]
      rintro e w1 ⟨rfl, x1⟩
      have X1 : Ext w w1 := Ext.trans (by repeat (first | with_reducible exact Ext.refl _ | with_reducible assumption | with_reducible apply Ext.alloc | with_reducible apply Ext.drew | (with_reducible refine Ext.setCell ?_ (by (try simp) <;> omega) _))) x1
      go_wp2
      go_ret2
      exact ⟨by rw [HR.out] <;> rfl, X1⟩
    | true =>
      have HO := Lib.hid hok
      have hg' : ¬ (0 ≤ k ∧ k ≤ s.cads.length + 1) := fun h => hg ⟨hok, h⟩
      have hc15 := (scB_iff.1 hok).sz.2.2.2
      have e1 : IntKind.i64.wrap ((s.cads.length : Int) + 1) = (s.cads.length : Int) + 1 := IntWalk.i64_in _ (by omega)
      clear hok hR hg
      by_cases h1 : k < 0
      all_goals
        (try (have h2 : (s.cads.length : Int) + 1 < k := by omega))
        clear hg'
        go_enter Try.func18, Try.ntmps18
        go_wp2_with fail
        refine (scvalid_walk _ _ _ s _ (S.ext (by repeat (first | with_reducible exact Ext.refl _ | with_reducible assumption | with_reducible apply Ext.alloc | with_reducible apply Ext.drew | (with_reducible refine Ext.setCell ?_ (by (try simp) <;> omega) _))))).mono ?_
        rw [HO.out]
        rintro e w1 ⟨rfl, x1⟩
        have X1 : Ext w w1 := Ext.trans (by repeat (first | with_reducible exact Ext.refl _ | with_reducible assumption | with_reducible apply Ext.alloc | with_reducible apply Ext.drew | (with_reducible refine Ext.setCell ?_ (by (try simp) <;> omega) _))) x1
        have b1 := block_ext x1 (block_new w (.cells #[.int .i64 s.voices, .slice an s.notes.length cn, .slice ap s.pairs.length cp, .slice ac s.cads.length cc] 26))
        have c3 := block_cell b1 3 (.slice ac s.cads.length cc) rfl
        clear x1 b1
        go_wp2
        go_ret2
        exact ⟨by rw [HR.out] <;> rfl, X1⟩
end Go.Proofs.Ytajicmghnllnmaa
