/-
  Walks of audit: valid, Judge.
-/
import Derived.Test.YthpfalbeieloaaaGreatDoorAuC
import Derived.Test.YthpfalbeieloaaaGreatDoorLibC
import Derived.Test.YthpfalbeieloaaaGreatDoorLibM
set_option linter.unusedVariables false
namespace Go.Proofs.YthpfalbeieloaaaGreatDoor
open Go.RowKit Go.Sx Go.Sx.Sz Go.Sx.Sc Go.Sx.Au

set_option maxRecDepth 100000 in
set_option maxHeartbeats 4000000 in
theorem auvalid_walk (vn vp vc vt : Value) (s : Sc) (l : List S2) (w : World) (S : ScR w vn vp vc s) (R : Sl w 2 encS vt l) : Calls Tryz.prog 73 #[.agg #[.int .i64 s.voices, vn, vp, vc], vt] w fun e w' => e = .returned (.bool (tonesB s l)) ∧ Ext w w' := by
  obtain ⟨an, cn, rfl, -, -, hln⟩ := S.nt.len
  obtain ⟨ap, cp, rfl, -, -, hlp⟩ := S.pr.len
  obtain ⟨ac, cc, rfl, -, -, hlc⟩ := S.cd.len
  obtain ⟨at', ct, rfl, -, -, hlt⟩ := R.len
  cases hok : scB s with
  | false =>
    have HR : Hid (tonesB s l = false) := Lib.hid (tonesB_false fun h => by rw [scB_iff.2 h.1] at hok; cases hok)
    have HO := Lib.hid hok
    clear hok
    go_enter Tryz.func73, Tryz.ntmps73
    go_wp2_with fail
    refine (scvalid_walk _ _ _ s _ (S.ext (by repeat (first | with_reducible exact Ext.refl _ | with_reducible assumption | with_reducible apply Ext.alloc | with_reducible apply Ext.drew | (with_reducible refine Ext.setCell ?_ (by (try simp) <;> omega) _))))).mono ?_
    rw [HO.out]
    rintro e w1 ⟨rfl, x1⟩
    have X1 : Ext w w1 := Ext.trans (by repeat (first | with_reducible exact Ext.refl _ | with_reducible assumption | with_reducible apply Ext.alloc | with_reducible apply Ext.drew | (with_reducible refine Ext.setCell ?_ (by (try simp) <;> omega) _))) x1
    go_wp2
    go_ret
    exact ⟨by rw [HR.out] <;> rfl, X1⟩
  | true =>
    have HO := Lib.hid hok
    have HV := Lib.hid (scB_iff.1 hok)
    clear hok
    go_enter Tryz.func73, Tryz.ntmps73
    go_wp2_with fail
    refine (scvalid_walk _ _ _ s _ (S.ext (by repeat (first | with_reducible exact Ext.refl _ | with_reducible assumption | with_reducible apply Ext.alloc | with_reducible apply Ext.drew | (with_reducible refine Ext.setCell ?_ (by (try simp) <;> omega) _))))).mono ?_
    rw [HO.out]
    rintro e w1 ⟨rfl, x1⟩
    have X1 : Ext w w1 := Ext.trans (by repeat (first | with_reducible exact Ext.refl _ | with_reducible assumption | with_reducible apply Ext.alloc | with_reducible apply Ext.drew | (with_reducible refine Ext.setCell ?_ (by (try simp) <;> omega) _))) x1
    have b1 := block_ext x1 (block_new w (.cells #[.int .i64 s.voices, .slice an s.notes.length cn, .slice ap s.pairs.length cp, .slice ac s.cads.length cc] 26))
    have c1 := block_cell b1 1 (.slice an s.notes.length cn) rfl
    have R1 := R.ext X1
    clear x1 b1
    by_cases hl : l.length = s.notes.length
    · have e1 : ((l.length : Int) != (s.notes.length : Int)) = false := by rw [bne_eq_false_iff_eq]; omega
      have HL := Lib.hid hl
      clear hl
      go_wp2
      clear c1 e1
      go_loopw [20] (fun i wr => ∃ k : Nat, k ≤ l.length ∧ i = .int .i64 k ∧ (∀ j (h : j < l.length), j < k → szOk l[j] = true) ∧ Ext w1 wr) (fun i _ => l.length - (intOf i).toNat)
      case atStart => exact ⟨0, by omega, rfl, fun j h1 h2 => absurd h2 (Nat.not_lt_zero _), Ext.refl _⟩
      case round =>
        obtain ⟨k, hk, rfl, hall, X⟩ := hrel
        have HA := Lib.hid hall
        clear hall
        by_cases hlt' : k < l.length
        · obtain ⟨bb, oo, rfl, a0, a1⟩ := Sl.sz (R1.ext X) k hlt'
          obtain ⟨z, hz⟩ : ∃ z, l[k] = z := ⟨_, rfl⟩
          rw [hz] at a0 a1
          have HZ := Lib.hid hz
          have i1 : (0 : Int) ≤ (k : Int) := by omega
          have i2 : (k : Int) < (l.length : Int) := by omega
          clear hz
          go_wp2_with fail
          refine (szvalid_walk z _).mono ?_
          cases hs : szOk z with
          | true =>
            have HS := Lib.hid hs
            clear hs
            rintro e w2 ⟨rfl, x2⟩
            have y2 : Ext wr w2 := Ext.trans (by repeat (first | with_reducible exact Ext.refl _ | with_reducible assumption | with_reducible apply Ext.alloc | with_reducible apply Ext.drew | (with_reducible refine Ext.setCell ?_ (by (try simp) <;> omega) _))) x2
            clear a0 a1 x2
            go_wp2
            go_roundw
            case rel => exact ⟨k + 1, by omega, by go_num, fun j h1 h2 => by
              by_cases e : j = k
              · subst e; rw [HZ.out]; exact HS.out
              · exact HA.out j h1 (by omega), X.trans y2⟩
            case measure => simp [intOf] <;> omega
          | false =>
            have HR : Hid (tonesB s l = false) := Lib.hid (tonesB_false fun h => by
              have := h.2.2 _ (List.getElem_mem hlt')
              rw [HZ.out, hs] at this; cases this)
            clear hs
            rintro e w2 ⟨rfl, x2⟩
            have y2 : Ext wr w2 := Ext.trans (by repeat (first | with_reducible exact Ext.refl _ | with_reducible assumption | with_reducible apply Ext.alloc | with_reducible apply Ext.drew | (with_reducible refine Ext.setCell ?_ (by (try simp) <;> omega) _))) x2
            clear a0 a1 x2
            go_wp2
            go_ret
            exact ⟨by rw [HR.out] <;> rfl, X1.trans (X.trans y2)⟩
        · obtain rfl : k = l.length := by omega
          have HR : Hid (tonesB s l = true) := Lib.hid (tonesB_iff.2 ⟨HV.out, HL.out, fun z hz => by
            obtain ⟨j, hj, rfl⟩ := List.getElem_of_mem hz
            exact HA.out j hj hj⟩)
          go_wp2
          go_ret
          exact ⟨by rw [HR.out] <;> rfl, X1.trans X⟩
    · have e1 : ((l.length : Int) != (s.notes.length : Int)) = true := by rw [bne_iff_ne]; omega
      have HR : Hid (tonesB s l = false) := Lib.hid (tonesB_false fun h => hl h.2.1)
      clear hl
      go_wp2
      go_ret
      exact ⟨by rw [HR.out] <;> rfl, X1⟩

set_option maxRecDepth 100000 in
theorem pairD_ok {s : Sc} {l : List S2} (h : tonesOk s l) {k : Nat} (hk : k < s.pairs.length) : dOk (pairD s l (s.P k)) ∧ within (s.P k).want 48 = true ∧ (∃ A C : Nat, (s.P k).a = (A : Int) ∧ (s.P k).b = (C : Int) ∧ A < l.length ∧ C < l.length) ∧ (0 ≤ (s.P k).bound ∧ (s.P k).bound ≤ 100000) ∧ (pairD s l (s.P k)).lo ≤ (pairD s l (s.P k)).hi := by
  have hp := h.1.pr.1 k hk
  unfold pairOk at hp
  obtain ⟨⟨h1, h2⟩, h3, h4, h5, h6, h7⟩ := hp
  have hw : within (s.P k).want 48 = true := within_mono (by omega) h4
  have hl := h.2.1
  have hbd := expo_bd (times_within hw)
  have hA : (s.P k).a.toNat < l.length := by omega
  have hC : (s.P k).b.toNat < l.length := by omega
  have za := h.2.2 _ (List.getElem_mem hA)
  have zc := h.2.2 _ (List.getElem_mem hC)
  rw [← T_eq hA, szOk_iff] at za
  rw [← T_eq hC, szOk_iff] at zc
  have key : dOk (pairD s l (s.P k)) ∧ (pairD s l (s.P k)).lo ≤ (pairD s l (s.P k)).hi := by
    unfold dOk pairD diffS wantS
    dsimp only
    omega
  exact ⟨key.1, hw, ⟨(s.P k).a.toNat, (s.P k).b.toNat, by omega, by omega, hA, hC⟩, h5, key.2⟩

end Go.Proofs.YthpfalbeieloaaaGreatDoor
