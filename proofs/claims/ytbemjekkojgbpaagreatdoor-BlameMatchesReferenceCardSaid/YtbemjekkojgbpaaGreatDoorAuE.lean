/-
  Walks of audit: Ideal.
-/
import Derived.Test.YtbemjekkojgbpaaGreatDoorAuC
import Derived.Test.YtbemjekkojgbpaaGreatDoorLibC
set_option linter.unusedVariables false
namespace Go.Proofs.YtbemjekkojgbpaaGreatDoor
open Go.RowKit Go.Sx Go.Sx.Sz Go.Sx.Sc Go.Sx.Au

set_option maxRecDepth 100000 in
theorem et_sz : ET Tryz.prog 28 47 2 16 := .mk' (z := .agg #[.int .i64 0, .int .i64 0]) Tryz.underlying28 (by kernel_rfl) rfl (by decide) (by decide)
set_option maxRecDepth 100000 in
theorem idealR_bad {s : Sc} {xs : List V6} (h : ¬ (scB s = true ∧ xs.length = s.notes.length ∧ xs.all (fun x => within x 48) = true)) : idealR s xs = ([], 1) := if_neg h

set_option maxRecDepth 100000 in
set_option maxHeartbeats 4000000 in
theorem ideal_walk (vn vp vc vx : Value) (s : Sc) (xs : List V6) (w : World) (G : Gl 0 w) (S : ScR w vn vp vc s) (R : Sl w 6 V6.list vx xs) : Calls Tryz.prog 15 #[.agg #[.int .i64 s.voices, vn, vp, vc], vx] w fun e w' => ∃ v, e = .returned (.tuple #[v, .int .i64 (idealR s xs).2]) ∧ Sl w' 2 encS v (idealR s xs).1 ∧ Ext w w' := by
  obtain ⟨an, cn, rfl, -, -, hln⟩ := S.nt.len
  obtain ⟨ap, cp, rfl, -, -, hlp⟩ := S.pr.len
  obtain ⟨ac, cc, rfl, -, -, hlc⟩ := S.cd.len
  obtain ⟨at', ct, rfl, -, -, hlt⟩ := R.len
  cases hok : scB s with
  | false =>
    have HR : Hid (idealR s xs = ([], 1)) := Lib.hid (idealR_bad fun h => by rw [hok] at h; cases h.1)
    have HO := Lib.hid hok
    rw [HR.out]
    clear hok
    go_enter Tryz.func15, Tryz.ntmps15
    go_wp2_with fail
    refine (scvalid_walk _ _ _ s _ (S.ext (by repeat (first | with_reducible exact Ext.refl _ | with_reducible assumption | with_reducible apply Ext.alloc | with_reducible apply Ext.drew | (with_reducible refine Ext.setCell ?_ (by (try simp) <;> omega) _))))).mono ?_
    rw [HO.out]
    rintro e w1 ⟨rfl, x1⟩
    have X1 : Ext w w1 := Ext.trans (by repeat (first | with_reducible exact Ext.refl _ | with_reducible assumption | with_reducible apply Ext.alloc | with_reducible apply Ext.drew | (with_reducible refine Ext.setCell ?_ (by (try simp) <;> omega) _))) x1
    go_wp2
    refine bodyPost_ret (v := .tuple #[.slice none 0 0, .int .i64 1]) (by simp [results, Tryz.results15, go_sem]) rfl ⟨_, rfl, Sl.nil _ _ _, X1⟩
  | true =>
    have HO := Lib.hid hok
    have hnn := (scB_iff.1 hok).sz.2.1
    clear hok
    by_cases hl : xs.length = s.notes.length
    case neg =>
      have HR : Hid (idealR s xs = ([], 1)) := Lib.hid (idealR_bad fun h => hl h.2.1)
      rw [HR.out]
      have e1 : ((xs.length : Int) != (s.notes.length : Int)) = true := by rw [bne_iff_ne]; omega
      clear hl
      go_enter Tryz.func15, Tryz.ntmps15
      go_wp2_with fail
      refine (scvalid_walk _ _ _ s _ (S.ext (by repeat (first | with_reducible exact Ext.refl _ | with_reducible assumption | with_reducible apply Ext.alloc | with_reducible apply Ext.drew | (with_reducible refine Ext.setCell ?_ (by (try simp) <;> omega) _))))).mono ?_
      rw [HO.out]
      rintro e w1 ⟨rfl, x1⟩
      have X1 : Ext w w1 := Ext.trans (by repeat (first | with_reducible exact Ext.refl _ | with_reducible assumption | with_reducible apply Ext.alloc | with_reducible apply Ext.drew | (with_reducible refine Ext.setCell ?_ (by (try simp) <;> omega) _))) x1
      have b1 := block_ext x1 (block_new w (.cells #[.int .i64 s.voices, .slice an s.notes.length cn, .slice ap s.pairs.length cp, .slice ac s.cads.length cc] 26))
      have c1 := block_cell b1 1 (.slice an s.notes.length cn) rfl
      clear x1 b1
      go_wp2
      refine bodyPost_ret (v := .tuple #[.slice none 0 0, .int .i64 1]) (by simp [results, Tryz.results15, go_sem]) rfl ⟨_, rfl, Sl.nil _ _ _, X1⟩
    have e1 : ((xs.length : Int) != (s.notes.length : Int)) = false := by rw [bne_eq_false_iff_eq]; omega
    have HL := Lib.hid hl
    have h200 : xs.length ≤ 200 := by omega
    clear hl
    go_enter Tryz.func15, Tryz.ntmps15
    go_wp2_with fail
    refine (scvalid_walk _ _ _ s _ (S.ext (by repeat (first | with_reducible exact Ext.refl _ | with_reducible assumption | with_reducible apply Ext.alloc | with_reducible apply Ext.drew | (with_reducible refine Ext.setCell ?_ (by (try simp) <;> omega) _))))).mono ?_
    rw [HO.out]
    rintro e W ⟨rfl, x1⟩
    have XW : Ext w W := Ext.trans (by repeat (first | with_reducible exact Ext.refl _ | with_reducible assumption | with_reducible apply Ext.alloc | with_reducible apply Ext.drew | (with_reducible refine Ext.setCell ?_ (by (try simp) <;> omega) _))) x1
    have b1 := block_ext x1 (block_new w (.cells #[.int .i64 s.voices, .slice an s.notes.length cn, .slice ap s.pairs.length cp, .slice ac s.cads.length cc] 26))
    have c1 := block_cell b1 1 (.slice an s.notes.length cn) rfl
    have R1 := R.ext XW
    have G1 := G.ext XW
    clear x1 b1 R G S
    go_wp2
    clear c1 e1
    go_loopw [6, 26] (fun v i wr => ∃ k : Nat, k ≤ xs.length ∧ i = .int .i64 k ∧ (∀ j (h : j < xs.length), j < k → within xs[j] 48 = true) ∧ OwnR wr W.heap.size 47 2 encS v ((xs.take k).map wantS) ∧ Ext W wr) (fun _ i _ => xs.length - (intOf i).toNat)
    case atStart => exact ⟨0, by omega, rfl, fun j h1 h2 => absurd h2 (Nat.not_lt_zero _), OwnR.nil, Ext.refl _⟩
    case round =>
      obtain ⟨k, hk, rfl, hall, own, X⟩ := hrel
      have HA := Lib.hid hall
      clear hall
      by_cases hlt' : k < xs.length
      · obtain ⟨bb, oo, rfl, a0, a1, a2, a3, a4, a5⟩ := Sl.vec (R1.ext X) k hlt'
        obtain ⟨x, hx⟩ : ∃ z, xs[k] = z := ⟨_, rfl⟩
        rw [hx] at a0 a1 a2 a3 a4 a5
        have HX := Lib.hid hx
        have i1 : (0 : Int) ≤ (k : Int) := by omega
        have i2 : (k : Int) < (xs.length : Int) := by omega
        have HT : Hid ((xs.take (k + 1)).map wantS = (xs.take k).map wantS ++ [wantS x]) := Lib.hid (by rw [List.take_succ_eq_append_getElem hlt', hx, List.map_append]; rfl)
        clear hx
        go_wp2_with fail
        refine (of_walk x _).mono ?_
        by_cases hw : within x 48 = true
        case neg =>
          have HR : Hid (idealR s xs = ([], 1)) := Lib.hid (idealR_bad fun h => hw (by
            have := List.all_eq_true.1 h.2.2 _ (List.getElem_mem hlt')
            rwa [HX.out] at this))
          have HOF : Hid (ofR x = (V6.zero, 1)) := Lib.hid (by unfold ofR; rw [if_neg hw])
          rw [HOF.out]
          clear hw
          rintro e w2 ⟨rfl, x2⟩
          have y2 : Ext wr w2 := Ext.trans (by repeat (first | with_reducible exact Ext.refl _ | with_reducible assumption | with_reducible apply Ext.alloc | with_reducible apply Ext.drew | (with_reducible refine Ext.setCell ?_ (by (try simp) <;> omega) _))) x2
          clear a0 a1 a2 a3 a4 a5 x2
          go_wp2
          refine bodyPost_ret (v := .tuple #[.slice none 0 0, .int .i64 1]) (by simp [results, Tryz.results15, go_sem]) rfl ⟨.slice none 0 0, by rw [HR.out] <;> rfl, by rw [HR.out]; exact Sl.nil _ _ _, ?_⟩
          exact XW.trans (X.trans (y2.trans (by repeat (first | with_reducible exact Ext.refl _ | with_reducible assumption | with_reducible apply Ext.alloc | with_reducible apply Ext.drew | (with_reducible refine Ext.setCell ?_ (by (try simp) <;> omega) _)))))
        have HWX := Lib.hid hw
        have HOF := Lib.hid (ofR_ok hw)
        have HSZ := Lib.hid (sizeR_ok (times_within hw))
        rw [HOF.out]
        clear hw
        rintro e w2 ⟨rfl, x2⟩
        have y2 : Ext wr w2 := Ext.trans (by repeat (first | with_reducible exact Ext.refl _ | with_reducible assumption | with_reducible apply Ext.alloc | with_reducible apply Ext.drew | (with_reducible refine Ext.setCell ?_ (by (try simp) <;> omega) _))) x2
        obtain ⟨y, hy⟩ : ∃ y, x.times 12 = y := ⟨_, rfl⟩
        rw [hy] at HSZ ⊢
        have HWS : Hid (wantS x = expo y) := Lib.hid (by rw [← hy]; rfl)
        clear a0 a1 a2 a3 a4 a5 x2 hy
        have e3 := Ext.alloc' w2 (.cells (#[.int .i64 y.a, .int .i64 y.b, .int .i64 y.c, .int .i64 y.d, .int .i64 y.e, .int .i64 y.f] : Array Value) 79)
        have X3 := X.trans (y2.trans e3)
        go_wp2_with fail
        refine (sof_walk y _ (G1.ext X3)).mono ?_
        rw [HSZ.out]
        rintro e w3 ⟨rfl, x3⟩
        obtain ⟨⟨zl, zh⟩, hz⟩ : ∃ z, expo y = z := ⟨_, rfl⟩
        rw [hz] at HWS ⊢
        have e4 := Ext.alloc' w3 (.cells #[.int .i64 zl, .int .i64 zh] 47)
        have Y4 : Ext wr (w3.alloc (.cells #[.int .i64 zl, .int .i64 zh] 47)) := y2.trans (e3.trans (x3.trans e4))
        have own4 := own.ext Y4
        have X4 := X.trans Y4
        have hsz := X4.size
        have hlen : ((xs.take k).map wantS).length = k := by simp; omega
        clear e3 e4 own x3 X3 y2 hz
        go_wp2_with (at_builtin; go_must (refine wpList_own1 et_sz rfl _ _ rfl own4 rfl (⟨zl, zh⟩ : S2) rfl rfl rfl (by simp [encS, Value.oneCell']) (by omega) hsz ?_; intro v' w5 hown' hb' happ _))
        go_roundw
        case rel => exact ⟨k + 1, by omega, by go_num, fun j h1 h2 => by
          by_cases e : j = k
          · subst e; rw [HX.out]; exact HWX.out
          · exact HA.out j h1 (by omega), by rw [HT.out, HWS.out]; exact hown', Below.trans X4 hb'⟩
        case measure => simp [intOf] <;> omega
      · obtain rfl : k = xs.length := by omega
        rw [List.take_length] at own
        have HR : Hid (idealR s xs = (xs.map wantS, 0)) := Lib.hid (if_pos ⟨HO.out, HL.out, List.all_eq_true.2 fun x hx => by
          obtain ⟨j, hj, rfl⟩ := List.getElem_of_mem hx
          exact HA.out j hj hj⟩)
        have S7 := own.sl (fun _ _ => rfl) (by rw [List.length_map]; omega)
        have XX := XW.trans X
        clear own
        go_wp2
        exact bodyPost_ret (v := .tuple #[u6, .int .i64 0]) (by simp [results, Tryz.results15, go_sem]) rfl ⟨u6, by rw [HR.out] <;> rfl, by rw [HR.out]; exact S7, XX⟩
end Go.Proofs.YtbemjekkojgbpaaGreatDoor
