/-
  Walks of sing: Missing.
-/
import Derived.Test.YtigigcbondhmmaaDoorSgH
set_option linter.unusedVariables false
namespace Go.Proofs.YtigigcbondhmmaaDoor
open Go.RowKit Go.Sx Go.Sx.Sz Go.Sx.Sc Go.Sx.Sg

theorem missing_bad {s : Sc} {xs : List V6} {st : List Int} (h : ¬ (hallB s xs = true ∧ st.length = s.voices ∧ stepsB st = true)) : missingR s xs st = ([], 1) := if_neg h

set_option maxRecDepth 100000 in
set_option maxHeartbeats 4000000 in
theorem missing_walk (vn vp vc vx vt : Value) (s : Sc) (xs : List V6) (st : List Int) (w : World) (G : Gl 0 w) (S : ScR w vn vp vc s) (R : Sl w 6 V6.list vx xs) (T : Sl w 1 encZ vt st) : Calls Tryd.prog 19 #[.agg #[.int .i64 s.voices, vn, vp, vc], vx, vt] w fun e w' => ∃ v, e = .returned (.tuple #[v, .int .i64 (missingR s xs st).2]) ∧ Sl w' 1 encZ v (missingR s xs st).1 ∧ Ext w w' := by
  have VW := Lib.hid fun w' (y : Ext w w') => hvalid_walk vn vp vc vx s xs w' (S.ext y) (R.ext y)
  have SL := S.nt
  obtain ⟨an, cn, rfl, -, -, hln⟩ := S.nt.len
  obtain ⟨ap, cp, rfl, -, -, hlp⟩ := S.pr.len
  obtain ⟨ac, cc, rfl, -, -, hlc⟩ := S.cd.len
  obtain ⟨ax, cx, rfl, -, -, hlx⟩ := R.len
  obtain ⟨at', ct, rfl, -, -, hlt0⟩ := T.len
  have X0 : Ext w ((w.alloc (.cells #[.int .i64 s.voices, .slice an s.notes.length cn, .slice ap s.pairs.length cp, .slice ac s.cads.length cc] 26)).alloc (.cells #[.int .i64 s.voices, .slice an s.notes.length cn, .slice ap s.pairs.length cp, .slice ac s.cads.length cc, .slice ax xs.length cx] 58)) := (by repeat (first | with_reducible exact Ext.refl _ | with_reducible assumption | with_reducible apply Ext.alloc | with_reducible apply Ext.drew | (with_reducible refine Ext.setCell ?_ (by (try simp) <;> omega) _)))
  have b0_0 := block_alloc (block_new w (.cells #[.int .i64 s.voices, .slice an s.notes.length cn, .slice ap s.pairs.length cp, .slice ac s.cads.length cc] 26)) (.cells #[.int .i64 s.voices, .slice an s.notes.length cn, .slice ap s.pairs.length cp, .slice ac s.cads.length cc, .slice ax xs.length cx] 58)
  have b0_1 := block_at (w := (w.alloc (.cells #[.int .i64 s.voices, .slice an s.notes.length cn, .slice ap s.pairs.length cp, .slice ac s.cads.length cc] 26))) (n := w.heap.size + 1) (by simp) (.cells #[.int .i64 s.voices, .slice an s.notes.length cn, .slice ap s.pairs.length cp, .slice ac s.cads.length cc, .slice ax xs.length cx] 58)
  obtain ⟨W0, hW0⟩ : ∃ W, ((w.alloc (.cells #[.int .i64 s.voices, .slice an s.notes.length cn, .slice ap s.pairs.length cp, .slice ac s.cads.length cc] 26)).alloc (.cells #[.int .i64 s.voices, .slice an s.notes.length cn, .slice ap s.pairs.length cp, .slice ac s.cads.length cc, .slice ax xs.length cx] 58)) = W := ⟨_, rfl⟩
  obtain ⟨B0, hB0⟩ : ∃ B, w.heap.size = B := ⟨_, rfl⟩
  rw [hW0] at X0 b0_0 b0_1
  rw [hB0] at b0_0 b0_1
  have HZ0 : Hid (w.heap.size ≤ B0) := Lib.hid (by omega)
  have HW0 := Lib.hid hW0; have HB0 := Lib.hid hB0
  clear hW0 hB0
  have HB := Lib.hid fun w' (y : Ext W0 w') => block_ext y b0_1
  have HS := Lib.hid fun w' (y : Ext W0 w') => block_ext y b0_0
  have c0 := block_cell b0_1 0 _ rfl; have c1 := block_cell b0_1 1 _ rfl; have c2 := block_cell b0_1 2 _ rfl; have c3 := block_cell b0_1 3 _ rfl; have c4 := block_cell b0_1 4 _ rfl
  clear b0_1 b0_0
  go_enter Tryd.func19, Tryd.ntmps19
  go_upto_region 2 with fail
  rw [HW0.out, HB0.out]
  go_wp2_with fail
  refine (VW.out _ X0).mono ?_
  cases hv : hallB s xs with
  | false =>
    have HR : Hid (missingR s xs st = ([], 1)) := Lib.hid (missing_bad fun h => by rw [hv] at h; cases h.1)
    clear hv
    rintro e w1 ⟨rfl, x1⟩
    have X1 := X0.trans x1
    clear c0 c1 c2 c3 c4
    go_wp2
    exact bodyPost_ret (v := .tuple #[.slice none 0 0, .int .i64 1]) (by simp [results, Tryd.results19, go_sem]) rfl ⟨.slice none 0 0, by rw [HR.out] <;> rfl, by rw [HR.out]; exact Sl.nil _ _ _, X1⟩
  | true =>
  have HV := Lib.hid (hallB_iff.1 hv)
  have HV1 := Lib.hid hv
  have hnn := (hallB_iff.1 hv).1.sz.2.1
  clear hv
  rintro e w1 ⟨rfl, x1⟩
  have X1 := X0.trans x1
  clear c0 c1 c2 c3 c4
  have c0 := block_cell (HS.out _ x1) 0 _ rfl
  by_cases hl : (st.length : Int) = s.voices
  case neg =>
    have HR : Hid (missingR s xs st = ([], 1)) := Lib.hid (missing_bad fun h => hl h.2.1)
    have e1 : ((st.length : Int) != s.voices) = true := by rw [bne_iff_ne]; exact hl
    clear hl
    go_wp2
    exact bodyPost_ret (v := .tuple #[.slice none 0 0, .int .i64 1]) (by simp [results, Tryd.results19, go_sem]) rfl ⟨.slice none 0 0, by rw [HR.out] <;> rfl, by rw [HR.out]; exact Sl.nil _ _ _, X1⟩
  have e1 : ((st.length : Int) != s.voices) = false := by rw [bne_eq_false_iff_eq]; exact hl
  have HL := Lib.hid hl
  have h8 : st.length ≤ 8 := by have := HV.out.1.sz.1; omega
  clear hl
  go_wp2
  clear c0 e1
  have T1 := T.ext X1
  go_loopw [31] (fun i wr => ∃ k : Nat, k ≤ st.length ∧ i = .int .i64 k ∧ (∀ j (h : j < st.length), j < k → 0 ≤ st[j] ∧ st[j] ≤ 2400000) ∧ wr = w1) (fun i _ => st.length - (intOf i).toNat)
  case atStart => exact ⟨0, by omega, rfl, fun j h1 h2 => absurd h2 (Nat.not_lt_zero _), rfl⟩
  case round =>
    obtain ⟨k, hk, rfl, hall, hwr⟩ := hrel
    subst hwr
    have HA := Lib.hid hall
    clear hall
    by_cases hlt' : k < st.length
    · obtain ⟨bb, oo, rfl, a0⟩ := Sl.num T1 k hlt'
      obtain ⟨z, hz⟩ : ∃ z, st[k] = z := ⟨_, rfl⟩
      rw [hz] at a0
      have HZ := Lib.hid hz
      have i1 : (0 : Int) ≤ (k : Int) := by omega
      have i2 : (k : Int) < (st.length : Int) := by omega
      clear hz
      by_cases hs : 0 ≤ z ∧ z ≤ 2400000
      · have HS' := Lib.hid hs
        have f1 : decide (z < 0) = false := decide_eq_false (by omega)
        have f2 : decide (2400000 < z) = false := decide_eq_false (by omega)
        clear hs
        go_wp2
        go_roundw
        case rel => exact ⟨k + 1, by omega, by go_num, fun j h1 h2 => by
          by_cases e : j = k
          · subst e; rw [HZ.out]; exact HS'.out
          · exact HA.out j h1 (by omega), by first | rfl | trivial⟩
        case measure => simp [intOf] <;> omega
      · have HR : Hid (missingR s xs st = ([], 1)) := Lib.hid (missing_bad fun h => by
          have := List.all_eq_true.1 h.2.2 _ (List.getElem_mem hlt')
          rw [decide_eq_true_eq, HZ.out] at this
          exact hs this)
        by_cases h0 : z < 0
        all_goals
          (try (have h1 : 2400000 < z := by omega))
          clear hs
          go_wp2
          exact bodyPost_ret (v := .tuple #[.slice none 0 0, .int .i64 1]) (by simp [results, Tryd.results19, go_sem]) rfl ⟨.slice none 0 0, by rw [HR.out] <;> rfl, by rw [HR.out]; exact Sl.nil _ _ _, X1⟩
    · obtain rfl : k = st.length := by omega
      have HR : Hid (missingR s xs st = (pickL (missN s xs st) s.notes.length, 0)) := Lib.hid (if_pos ⟨HV1.out, HL.out, List.all_eq_true.2 fun z hz => by
        obtain ⟨j, hj, rfl⟩ := List.getElem_of_mem hz
        exact decide_eq_true (HA.out j hj hj)⟩)
      obtain ⟨W1, rfl⟩ : ∃ z : World, z = wr := ⟨_, rfl⟩
      have d1 := block_cell (HS.out _ x1) 1 _ rfl
      clear HA
      go_wp2
      clear d1
      go_loopw [11, 45] (fun v i wr => ∃ k : Nat, k ≤ s.notes.length ∧ i = .int .i64 k ∧ OwnR wr W1.heap.size 3 1 encZ v (pickL (missN s xs st) k) ∧ Ext W1 wr) (fun _ i _ => s.notes.length - (intOf i).toNat)
      case atStart => exact ⟨0, by omega, rfl, OwnR.nil, Ext.refl _⟩
      case round =>
        obtain ⟨k, hk, rfl, own, X⟩ := hrel
        by_cases hlt : k < s.notes.length
        · have HT := Lib.hid (pickL_succ (missN s xs st) k)
          have hlen := pickL_len (missN s xs st) k
          have XX := X1.trans X
          obtain ⟨b, o, e', A⟩ := Sl.nt (SL.ext XX) k hlt
          subst e'
          rw [← Sc.N_eq hlt] at A
          have hvr := (HV.out.1.nt.note hlt).1
          obtain ⟨x, hx⟩ : ∃ x, s.N k = x := ⟨_, rfl⟩
          have hmis : missN s xs st k = (entryN s k && decide ((findR s xs k (st.getD x.v.toNat 0)).2 ≠ 0)) := by unfold missN; rw [hx]
          rw [hx] at hvr
          rw [hx] at A
          obtain ⟨vi, hvi⟩ : ∃ vi : Nat, x.v = (vi : Int) := ⟨x.v.toNat, by omega⟩
          have hvl : vi < st.length := by have := HL.out; omega
          rw [hvi, Int.toNat_natCast] at hmis
          have hgd : st.getD vi 0 = st[vi] := by rw [List.getD_eq_getElem?_getD, List.getElem?_eq_getElem hvl]; rfl
          obtain ⟨q0, q1, q2, q3, q4, q5, q6, q7, q8, q9⟩ := A
          rw [hvi] at q0
          have X4 : Ext wr (wr.alloc (.cells #[.int .i64 vi, .int .i64 x.f, .int .i64 x.u, .int .i64 x.x.a, .int .i64 x.x.b, .int .i64 x.x.c, .int .i64 x.x.d, .int .i64 x.x.e, .int .i64 x.x.f, .bool x.tied] 43)) := (by repeat (first | with_reducible exact Ext.refl _ | with_reducible assumption | with_reducible apply Ext.alloc | with_reducible apply Ext.drew | (with_reducible refine Ext.setCell ?_ (by (try simp) <;> omega) _)))
          have b4_0 := block_new wr (.cells #[.int .i64 vi, .int .i64 x.f, .int .i64 x.u, .int .i64 x.x.a, .int .i64 x.x.b, .int .i64 x.x.c, .int .i64 x.x.d, .int .i64 x.x.e, .int .i64 x.x.f, .bool x.tied] 43)
          obtain ⟨W4, hW4⟩ : ∃ W, (wr.alloc (.cells #[.int .i64 vi, .int .i64 x.f, .int .i64 x.u, .int .i64 x.x.a, .int .i64 x.x.b, .int .i64 x.x.c, .int .i64 x.x.d, .int .i64 x.x.e, .int .i64 x.x.f, .bool x.tied] 43)) = W := ⟨_, rfl⟩
          obtain ⟨B4, hB4⟩ : ∃ B, wr.heap.size = B := ⟨_, rfl⟩
          rw [hW4] at X4 b4_0
          rw [hB4] at b4_0
          have HZ4 : Hid (wr.heap.size ≤ B4) := Lib.hid (by omega)
          have HW4 := Lib.hid hW4; have HB4 := Lib.hid hB4
          clear hW4 hB4
          have hb := HB.out _ (x1.trans (X.trans X4))
          have c0 := block_cell hb 0 _ rfl; have c1 := block_cell hb 1 _ rfl; have c2 := block_cell hb 2 _ rfl; have c3 := block_cell hb 3 _ rfl; have c4 := block_cell hb 4 _ rfl
          clear hb
          have XX4 := XX.trans X4
          have EW := Lib.hid (entry_walk (.int .i64 s.voices) (.slice (some ⟨b, o, none⟩) s.notes.length cn) (.slice ap s.pairs.length cp) (.slice ac s.cads.length cc) (.slice ax xs.length cx) ⟨_, _, _, rfl⟩ s HV.out.1 k W4 (SL.ext XX4))
          have HEN := Lib.hid (entry_nat hlt)
          have HMIS := Lib.hid hmis; have HGD := Lib.hid hgd
          have i1 : (0 : Int) ≤ (k : Int) := by omega
          have i2 : (k : Int) < (s.notes.length : Int) := by omega
          clear hmis hgd hx hvi hvr
          go_upto_region 14 with fail
          rw [HW4.out, HB4.out]
          clear q0 q1 q2 q3 q4 q5 q6 q7 q8 q9
          go_wp2_with fail
          refine EW.out.mono ?_
          rw [HEN.out]
          cases hc : entryN s k with
          | false =>
            have HM : Hid (missN s xs st k = false) := Lib.hid (by rw [HMIS.out, hc]; rfl)
            clear hc
            rintro e w5 ⟨rfl, x5⟩
            have X5 := X.trans (X4.trans x5)
            have own5 := own.ext (X4.trans x5)
            clear c0 c1 c2 c3 c4 own
            go_wp2
            go_roundw
            case rel => exact ⟨k + 1, by omega, by go_num, by rw [HT.out, HM.out]; simpa using own5, X5⟩
            case measure => simp [intOf]; omega
          | true =>
            have HM : Hid (missN s xs st k = decide ((findR s xs k (st.getD vi 0)).2 ≠ 0)) := Lib.hid (by rw [HMIS.out, hc]; rfl)
            clear hc
            rintro e w5 ⟨rfl, x5⟩
            have X5 := X.trans (X4.trans x5)
            have own5 := own.ext (X4.trans x5)
            clear c0 c1 c2 c3 c4 own
            have hb := HB.out _ (x1.trans X5)
            have c0 := ext_cells (block_cell hb 0 _ rfl); have c1 := ext_cells (block_cell hb 1 _ rfl); have c2 := ext_cells (block_cell hb 2 _ rfl); have c3 := ext_cells (block_cell hb 3 _ rfl); have c4 := ext_cells (block_cell hb 4 _ rfl)
            have d0 := ext_cells (block_cell (block_ext x5 b4_0) 0 _ rfl)
            obtain ⟨tb, tq, e'', t0⟩ := Sl.num (T.ext (X1.trans X5)) vi hvl
            subst e''
            rw [← HGD.out] at t0
            obtain ⟨z, hz⟩ : ∃ z, st.getD vi 0 = z := ⟨_, rfl⟩
            rw [hz] at t0 HM
            have t0 := ext_cells t0
            have FW := Lib.hid fun w' (y : Ext w5 w') => find_walk (.int .i64 s.voices) (.slice (some ⟨b, o, none⟩) s.notes.length cn) (.slice ap s.pairs.length cp) (.slice ac s.cads.length cc) (.slice ax xs.length cx) s HV.out.1 xs HV.out.2.1 HV.out.2.2 k hlt z w' (G.ext ((X1.trans X5).trans y)) (SL.ext ((X1.trans X5).trans y)) (R.ext ((X1.trans X5).trans y))
            obtain ⟨⟨ra, rb⟩, hr⟩ : ∃ r, findR s xs k z = r := ⟨_, rfl⟩
            rw [hr] at HM FW
            simp only at HM FW
            have i3 : (0 : Int) ≤ (vi : Int) := by omega
            have i4 : (vi : Int) < (st.length : Int) := by omega
            clear hb hz hr x1 x5 X4
            go_wp2_with fail
            refine wp_region_ord [(0,true), (1,true), (2,true), (3,true), (4,true), (5,true), (6,true), (7,true), (8,true), (9,true), (10,true), (11,true), (12,true)] 13 Ext (Ext w5) wide (by kernel_rfl) (stable_ext _) (Ext.drawn _ _) ?_
            iterate 7 (first | (apply wpOrd_no rfl; rfl; (simp only [List.getElem_toArray, List.getElem_cons_succ, List.getElem_cons_zero, Act.put, List.setIfInBounds_toArray, List.set_cons_succ, List.set_cons_zero]; rfl)) | (apply wpOrd_yes rfl; rfl; (intro w' hw'; unfold opR; go_simp; exact ⟨Ext.refl _, rfl⟩); (simp only [List.getElem_toArray, List.getElem_cons_succ, List.getElem_cons_zero, Act.put, List.setIfInBounds_toArray, List.set_cons_succ, List.set_cons_zero]; rfl)))
            (apply wpOrd_det rfl rfl; (intro w' hw'; refine opR_call rfl (Go.Proofs.enters_of Tryd.func30 (by kernel_rfl) rfl) (by simp only [List.map_toArray, List.map_cons, List.map_nil, Act.eval, Array.getD_eq_getD_getElem?, List.getElem?_toArray, List.getElem?_cons_succ, List.getElem?_cons_zero, Option.getD_some]; rfl) ?_; refine (FW.out _ hw').mono ?_; rintro e w'' ⟨rfl, hx⟩; exact ⟨_, rfl, hx, rfl⟩); (simp only [List.getElem_toArray, List.getElem_cons_succ, List.getElem_cons_zero, Act.put, List.setIfInBounds_toArray, List.set_cons_succ, List.set_cons_zero]; rfl))
            iterate 5 (first | (apply wpOrd_no rfl; rfl; (simp only [List.getElem_toArray, List.getElem_cons_succ, List.getElem_cons_zero, Act.put, List.setIfInBounds_toArray, List.set_cons_succ, List.set_cons_zero]; rfl)) | (apply wpOrd_yes rfl; rfl; (intro w' hw'; unfold opR; go_simp; exact ⟨Ext.refl _, rfl⟩); (simp only [List.getElem_toArray, List.getElem_cons_succ, List.getElem_cons_zero, Act.put, List.setIfInBounds_toArray, List.set_cons_succ, List.set_cons_zero]; rfl)))
            refine wpOrd_nil rfl ?_
            intro w9 x9
            have own9 := own5.ext x9
            have X9 := X5.trans x9
            have hsz := X9.size
            clear c0 c1 c2 c3 c4 d0 t0 own5
            by_cases hrb : rb = 0
            · have e1 : (rb != 0) = false := by rw [bne_eq_false_iff_eq]; exact hrb
              have HM2 : Hid (missN s xs st k = false) := Lib.hid (by rw [HM.out]; exact decide_eq_false (by simp [hrb]))
              clear hrb
              go_wp2
              go_roundw
              case rel => exact ⟨k + 1, by omega, by go_num, by rw [HT.out, HM2.out]; simpa using own9, X9⟩
              case measure => simp [intOf]; omega
            · have e1 : (rb != 0) = true := by rw [bne_iff_ne]; exact hrb
              have HM2 : Hid (missN s xs st k = true) := Lib.hid (by rw [HM.out]; exact decide_eq_true hrb)
              clear hrb
              go_wp2_with (at_builtin; go_must (refine wpList_own1 etz_sg rfl _ _ rfl own9 rfl (k : Int) rfl rfl rfl (by simp [encZ, Value.oneCell']) (by omega) hsz ?_; intro v' w4 hown' hb' happ _))
              go_roundw
              case rel => exact ⟨k + 1, by omega, by go_num, by rw [HT.out, HM2.out]; exact hown', Below.trans X9 hb'⟩
              case measure => simp [intOf]; omega
        · obtain rfl : k = s.notes.length := by omega
          have hlen := pickL_len (missN s xs st) s.notes.length
          have S7 := own.sl (fun _ _ => rfl) (by omega)
          have XX := X1.trans X
          clear own
          go_wp2
          exact bodyPost_ret (v := .tuple #[u11, .int .i64 0]) (by simp [results, Tryd.results19, go_sem]) rfl ⟨u11, by rw [HR.out] <;> rfl, by rw [HR.out]; exact S7, XX⟩
end Go.Proofs.YtigigcbondhmmaaDoor
