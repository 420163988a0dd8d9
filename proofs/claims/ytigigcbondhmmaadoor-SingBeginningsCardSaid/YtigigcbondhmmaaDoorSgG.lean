/-
  Walks of sing: valid, From, Entries.
-/
import Derived.Test.YtigigcbondhmmaaDoorSgF
import Derived.Test.YtigigcbondhmmaaDoorScF
set_option linter.unusedVariables false
namespace Go.Proofs.YtigigcbondhmmaaDoor
open Go.RowKit Go.Sx Go.Sx.Sz Go.Sx.Sc Go.Sx.Sg

theorem hall_no {s : Sc} {xs : List V6} (h : ¬ (scB s = true ∧ xs.length = s.notes.length ∧ ∀ x ∈ xs, within x 48 = true)) : hallB s xs = false :=
  hallB_false fun ⟨a, b, c⟩ => h ⟨scB_iff.2 a, b, c⟩

set_option maxRecDepth 100000 in
set_option maxHeartbeats 4000000 in
theorem hvalid_walk (vn vp vc vx : Value) (s : Sc) (xs : List V6) (w : World) (S : ScR w vn vp vc s) (R : Sl w 6 V6.list vx xs) : Calls Tryd.prog 29 #[.agg #[.int .i64 s.voices, vn, vp, vc, vx]] w fun e w' => e = .returned (.bool (hallB s xs)) ∧ Ext w w' := by
  obtain ⟨an, cn, rfl, -, -, hln⟩ := S.nt.len
  obtain ⟨ap, cp, rfl, -, -, hlp⟩ := S.pr.len
  obtain ⟨ac, cc, rfl, -, -, hlc⟩ := S.cd.len
  obtain ⟨at', ct, rfl, -, -, hlt⟩ := R.len
  have X0 : Ext w (w.alloc (.cells #[.int .i64 s.voices, .slice an s.notes.length cn, .slice ap s.pairs.length cp, .slice ac s.cads.length cc, .slice at' xs.length ct] 58)) := (by repeat (first | with_reducible exact Ext.refl _ | with_reducible assumption | with_reducible apply Ext.alloc | with_reducible apply Ext.drew | (with_reducible refine Ext.setCell ?_ (by (try simp) <;> omega) _)))
  have b0_0 := block_new w (.cells #[.int .i64 s.voices, .slice an s.notes.length cn, .slice ap s.pairs.length cp, .slice ac s.cads.length cc, .slice at' xs.length ct] 58)
  obtain ⟨W0, hW0⟩ : ∃ W, (w.alloc (.cells #[.int .i64 s.voices, .slice an s.notes.length cn, .slice ap s.pairs.length cp, .slice ac s.cads.length cc, .slice at' xs.length ct] 58)) = W := ⟨_, rfl⟩
  obtain ⟨B0, hB0⟩ : ∃ B, w.heap.size = B := ⟨_, rfl⟩
  rw [hW0] at X0 b0_0
  rw [hB0] at b0_0
  have HZ0 : Hid (w.heap.size ≤ B0) := Lib.hid (by omega)
  have HW0 := Lib.hid hW0; have HB0 := Lib.hid hB0
  clear hW0 hB0
  have c0 := block_cell b0_0 0 _ rfl; have c1 := block_cell b0_0 1 _ rfl; have c2 := block_cell b0_0 2 _ rfl; have c3 := block_cell b0_0 3 _ rfl
  have VW := Lib.hid fun w' (y : Ext w w') => scvalid_walk _ _ _ s w' (S.ext y)
  have HB := Lib.hid b0_0
  cases hok : scB s with
  | false =>
    have HR : Hid (hallB s xs = false) := Lib.hid (hall_no fun h => by rw [h.1] at hok; cases hok)
    have HO := Lib.hid hok
    clear hok b0_0
    go_enter Tryd.func29, Tryd.ntmps29
    go_wp2_with fail
    rw [HW0.out, HB0.out]
    go_wp2_with fail
    refine (VW.out _ X0).mono ?_
    rw [HO.out]
    rintro e w1 ⟨rfl, x1⟩
    have X1 := X0.trans x1
    clear c0 c1 c2 c3
    go_wp2
    go_ret
    exact ⟨by rw [HR.out] <;> rfl, X1⟩
  | true =>
    have HO := Lib.hid hok
    clear hok b0_0
    go_enter Tryd.func29, Tryd.ntmps29
    go_wp2_with fail
    rw [HW0.out, HB0.out]
    go_wp2_with fail
    refine (VW.out _ X0).mono ?_
    rw [HO.out]
    rintro e w1 ⟨rfl, x1⟩
    have X1 := X0.trans x1
    have b1 := block_ext x1 HB.out
    clear c0 c1 c2 c3
    have c1 := block_cell b1 1 _ rfl; have c4 := block_cell b1 4 _ rfl
    have R1 := R.ext X1
    clear x1 b1
    by_cases hl : xs.length = s.notes.length
    · have e1 : ((xs.length : Int) != (s.notes.length : Int)) = false := by rw [bne_eq_false_iff_eq]; omega
      have HL := Lib.hid hl
      clear hl
      go_wp2
      clear c1 c4 e1
      go_loopw [22] (fun i wr => ∃ k : Nat, k ≤ xs.length ∧ i = .int .i64 k ∧ (∀ j (h : j < xs.length), j < k → within xs[j] 48 = true) ∧ Ext w1 wr) (fun i _ => xs.length - (intOf i).toNat)
      case atStart => exact ⟨0, by omega, rfl, fun j h1 h2 => absurd h2 (Nat.not_lt_zero _), Ext.refl _⟩
      case round =>
        obtain ⟨k, hk, rfl, hall, X⟩ := hrel
        have HA := Lib.hid hall
        clear hall
        by_cases hlt' : k < xs.length
        · obtain ⟨bb, oo, rfl, a0, a1, a2, a3, a4, a5⟩ := Sl.vec (R1.ext X) k hlt'
          obtain ⟨z, hz⟩ : ∃ z, xs[k] = z := ⟨_, rfl⟩
          rw [hz] at a0 a1 a2 a3 a4 a5
          have HZ := Lib.hid hz
          have i1 : (0 : Int) ≤ (k : Int) := by omega
          have i2 : (k : Int) < (xs.length : Int) := by omega
          clear hz
          go_wp2_with fail
          refine (interval_walk z _).mono ?_
          cases hs : within z 48 with
          | true =>
            have HS := Lib.hid hs
            clear hs
            rintro e w2 ⟨rfl, x2⟩
            have y2 : Ext wr w2 := Ext.trans (by repeat (first | with_reducible exact Ext.refl _ | with_reducible assumption | with_reducible apply Ext.alloc | with_reducible apply Ext.drew | (with_reducible refine Ext.setCell ?_ (by (try simp) <;> omega) _))) x2
            clear a0 a1 a2 a3 a4 a5 x2
            go_wp2
            go_roundw
            case rel => exact ⟨k + 1, by omega, by go_num, fun j h1 h2 => by
              by_cases e : j = k
              · subst e; rw [HZ.out]; exact HS.out
              · exact HA.out j h1 (by omega), X.trans y2⟩
            case measure => simp [intOf] <;> omega
          | false =>
            have HR : Hid (hallB s xs = false) := Lib.hid (hall_no fun h => by
              have := h.2.2 _ (List.getElem_mem hlt')
              rw [HZ.out, hs] at this; cases this)
            clear hs
            rintro e w2 ⟨rfl, x2⟩
            have y2 : Ext wr w2 := Ext.trans (by repeat (first | with_reducible exact Ext.refl _ | with_reducible assumption | with_reducible apply Ext.alloc | with_reducible apply Ext.drew | (with_reducible refine Ext.setCell ?_ (by (try simp) <;> omega) _))) x2
            clear a0 a1 a2 a3 a4 a5 x2
            go_wp2
            go_ret
            exact ⟨by rw [HR.out] <;> rfl, X1.trans (X.trans y2)⟩
        · obtain rfl : k = xs.length := by omega
          have HR : Hid (hallB s xs = true) := Lib.hid (hallB_iff.2 ⟨scB_iff.1 HO.out, HL.out, fun z hz => by
            obtain ⟨j, hj, rfl⟩ := List.getElem_of_mem hz
            exact HA.out j hj hj⟩)
          go_wp2
          go_ret
          exact ⟨by rw [HR.out] <;> rfl, X1.trans X⟩
    · have e1 : ((xs.length : Int) != (s.notes.length : Int)) = true := by rw [bne_iff_ne]; omega
      have HR : Hid (hallB s xs = false) := Lib.hid (hall_no fun h => hl h.2.1)
      clear hl
      go_wp2
      go_ret
      exact ⟨by rw [HR.out] <;> rfl, X1⟩

theorem from_bad {s : Sc} {xs : List V6} {n st : Int} (h : ¬ (hallB s xs = true ∧ entryB s n = true ∧ 0 ≤ st ∧ st ≤ 2400000)) : fromR s xs n st = (0, 1) := if_neg h
theorem entry_in {s : Sc} {n : Int} (h : entryB s n = true) : ∃ k : Nat, n = (k : Int) ∧ k < s.notes.length ∧ entryN s k = true := by
  unfold entryB at h
  rw [Bool.and_eq_true, decide_eq_true_eq] at h
  exact ⟨n.toNat, by omega, by omega, h.2⟩

set_option maxRecDepth 100000 in
set_option maxHeartbeats 4000000 in
theorem from_walk (vn vp vc vx : Value) (s : Sc) (xs : List V6) (n st : Int) (w : World) (G : Gl 0 w) (S : ScR w vn vp vc s) (R : Sl w 6 V6.list vx xs) : Calls Tryd.prog 15 #[.agg #[.int .i64 s.voices, vn, vp, vc], vx, .int .i64 n, .int .i64 st] w fun e w' => e = .returned (.tuple #[.int .i64 (fromR s xs n st).1, .int .i64 (fromR s xs n st).2]) ∧ Ext w w' := by
  have VW := Lib.hid fun w' (y : Ext w w') => hvalid_walk vn vp vc vx s xs w' (S.ext y) (R.ext y)
  have SL := S.nt
  obtain ⟨an, cn, rfl, -, -, hln⟩ := S.nt.len
  obtain ⟨ap, cp, rfl, -, -, hlp⟩ := S.pr.len
  obtain ⟨ac, cc, rfl, -, -, hlc⟩ := S.cd.len
  obtain ⟨ax, cx, rfl, -, -, hlx⟩ := R.len
  have X0 : Ext w ((w.alloc (.cells #[.int .i64 s.voices, .slice an s.notes.length cn, .slice ap s.pairs.length cp, .slice ac s.cads.length cc] 26)).alloc (.cells #[.int .i64 s.voices, .slice an s.notes.length cn, .slice ap s.pairs.length cp, .slice ac s.cads.length cc, .slice ax xs.length cx] 58)) := (by repeat (first | with_reducible exact Ext.refl _ | with_reducible assumption | with_reducible apply Ext.alloc | with_reducible apply Ext.drew | (with_reducible refine Ext.setCell ?_ (by (try simp) <;> omega) _)))
  have b0_0 := block_alloc (block_new w (.cells #[.int .i64 s.voices, .slice an s.notes.length cn, .slice ap s.pairs.length cp, .slice ac s.cads.length cc] 26)) (.cells #[.int .i64 s.voices, .slice an s.notes.length cn, .slice ap s.pairs.length cp, .slice ac s.cads.length cc, .slice ax xs.length cx] 58)
  have b0_1 := block_at (w := (w.alloc (.cells #[.int .i64 s.voices, .slice an s.notes.length cn, .slice ap s.pairs.length cp, .slice ac s.cads.length cc] 26))) (n := w.heap.size + 1) (by simp) (.cells #[.int .i64 s.voices, .slice an s.notes.length cn, .slice ap s.pairs.length cp, .slice ac s.cads.length cc, .slice ax xs.length cx] 58)
  obtain ⟨W0, hW0⟩ : ∃ W, ((w.alloc (.cells #[.int .i64 s.voices, .slice an s.notes.length cn, .slice ap s.pairs.length cp, .slice ac s.cads.length cc] 26)).alloc (.cells #[.int .i64 s.voices, .slice an s.notes.length cn, .slice ap s.pairs.length cp, .slice ac s.cads.length cc, .slice ax xs.length cx] 58)) = W := ⟨_, rfl⟩
  obtain ⟨B0, hB0⟩ : ∃ B, w.heap.size = B := ⟨_, rfl⟩
  rw [hW0] at X0 b0_0 b0_1
  rw [hB0] at b0_0 b0_1
  have HZ0 : Hid (w.heap.size ≤ B0) := Lib.hid (by omega)
  have HW0 := Lib.hid hW0; have HB0 := Lib.hid hB0
  clear hW0 hB0
  have HB := Lib.hid fun w' (y : Ext W0 w') => block_ext y b0_1
  clear b0_0
  have c0 := block_cell b0_1 0 _ rfl; have c1 := block_cell b0_1 1 _ rfl; have c2 := block_cell b0_1 2 _ rfl; have c3 := block_cell b0_1 3 _ rfl; have c4 := block_cell b0_1 4 _ rfl
  clear b0_1
  go_enter Tryd.func15, Tryd.ntmps15
  go_upto_region 2 with fail
  rw [HW0.out, HB0.out]
  go_wp2_with fail
  refine (VW.out _ X0).mono ?_
  cases hv : hallB s xs with
  | false =>
    have HR : Hid (fromR s xs n st = (0, 1)) := Lib.hid (from_bad fun h => by rw [hv] at h; cases h.1)
    clear hv
    rintro e w1 ⟨rfl, x1⟩
    have X1 := X0.trans x1
    clear c0 c1 c2 c3 c4
    go_wp2
    exact bodyPost_ret (v := .tuple #[.int .i64 0, .int .i64 1]) (by simp [results, Tryd.results15, go_sem]) rfl ⟨by rw [HR.out] <;> rfl, X1⟩
  | true =>
  have HV := Lib.hid (hallB_iff.1 hv)
  have HV1 := Lib.hid hv
  clear hv
  rintro e w1 ⟨rfl, x1⟩
  have X1 := X0.trans x1
  clear c0 c1 c2 c3 c4
  have b1 := HB.out _ x1
  have c0 := block_cell b1 0 _ rfl; have c1 := block_cell b1 1 _ rfl; have c2 := block_cell b1 2 _ rfl; have c3 := block_cell b1 3 _ rfl; have c4 := block_cell b1 4 _ rfl
  clear b1
  go_wp2_with fail
  refine (entry_walk _ _ _ _ _ ⟨_, _, _, rfl⟩ s HV.out.1 n _ (SL.ext X1)).mono ?_
  cases he : entryB s n with
  | false =>
    have HR : Hid (fromR s xs n st = (0, 1)) := Lib.hid (from_bad fun h => by rw [he] at h; cases h.2.1)
    clear he
    rintro e w2 ⟨rfl, x2⟩
    have X2 := X1.trans x2
    clear c0 c1 c2 c3 c4
    go_wp2
    exact bodyPost_ret (v := .tuple #[.int .i64 0, .int .i64 1]) (by simp [results, Tryd.results15, go_sem]) rfl ⟨by rw [HR.out] <;> rfl, X2⟩
  | true =>
  have HE := Lib.hid he
  clear he
  rintro e w2 ⟨rfl, x2⟩
  have X2 := X1.trans x2
  clear c0 c1 c2 c3 c4
  have b2 := HB.out _ (x1.trans x2)
  have c0 := block_cell b2 0 _ rfl; have c1 := block_cell b2 1 _ rfl; have c2 := block_cell b2 2 _ rfl; have c3 := block_cell b2 3 _ rfl; have c4 := block_cell b2 4 _ rfl
  clear b2
  by_cases hst : 0 ≤ st ∧ st ≤ 2400000
  case neg =>
    have HR : Hid (fromR s xs n st = (0, 1)) := Lib.hid (from_bad fun h => hst h.2.2)
    by_cases h0 : st < 0
    all_goals
      (try (have h1 : 2400000 < st := by omega))
      clear hst
      go_wp2
      exact bodyPost_ret (v := .tuple #[.int .i64 0, .int .i64 1]) (by simp [results, Tryd.results15, go_sem]) rfl ⟨by rw [HR.out] <;> rfl, X2⟩
  have HR : Hid (fromR s xs n st = findR s xs n.toNat st) := Lib.hid (by unfold fromR; rw [if_pos ⟨HV1.out, HE.out, hst⟩])
  obtain ⟨k, rfl, hk, hek⟩ := entry_in HE.out
  rw [Int.toNat_natCast] at HR
  have f1 : decide (st < 0) = false := decide_eq_false (by omega)
  have f2 : decide (2400000 < st) = false := decide_eq_false (by omega)
  have FW := Lib.hid (find_walk (.int .i64 s.voices) (.slice an s.notes.length cn) (.slice ap s.pairs.length cp) (.slice ac s.cads.length cc) (.slice ax xs.length cx) s HV.out.1 xs HV.out.2.1 HV.out.2.2 k hk st w2 (G.ext X2) (SL.ext X2) (R.ext X2))
  clear hek
  go_wp2_with fail
  refine (FW.out).mono ?_
  obtain ⟨⟨ra, rb⟩, hr⟩ : ∃ r, findR s xs k st = r := ⟨_, rfl⟩
  rw [hr] at HR ⊢
  rintro e w3 ⟨rfl, x3⟩
  have X3 := X2.trans x3
  clear c0 c1 c2 c3 c4 f1 f2 hr
  go_wp2
  exact bodyPost_ret (v := .tuple #[.int .i64 ra, .int .i64 rb]) (by simp [results, Tryd.results15, go_sem]) rfl ⟨by rw [HR.out] <;> rfl, X3⟩
end Go.Proofs.YtigigcbondhmmaaDoor
