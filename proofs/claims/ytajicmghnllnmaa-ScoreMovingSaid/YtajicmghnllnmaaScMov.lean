/-
  Proved: 'ScoreMoving' returns true for every input and leaves its arguments as they were. No condition.
-/
import Derived.Test.YtajicmghnllnmaaScSec
import Derived.Test.YtajicmghnllnmaaR19A
import Derived.Test.YtajicmghnllnmaaScMv
set_option linter.unusedVariables false
namespace Go.Proofs.Ytajicmghnllnmaa
open Go.RowKit Go.Sx Go.Sx.Sz Go.Sx.Sc Go.ChangeShapes Go.WideShapes Go.ChangeAt

set_option maxRecDepth 100000 in
set_option maxHeartbeats 8000000 in
theorem moving_law (vn vp vc : Value) (s : Sc) (by' : Int) (v : V6) (tick n sec : Int) (w : World) (S : ScR w vn vp vc s) :
    Calls Try.prog 9 #[.agg #[.int .i64 s.voices, vn, vp, vc], .int .i64 by', .agg #[.int .i64 v.a, .int .i64 v.b, .int .i64 v.c, .int .i64 v.d, .int .i64 v.e, .int .i64 v.f], .int .i64 tick, .int .i64 n, .int .i64 sec] w fun e w' => e = .returned (.bool true) ∧ Ext w w' := by
  obtain ⟨an, cn, rfl, -, -, hln⟩ := S.nt.len
  obtain ⟨ap, cp, rfl, -, -, hlp⟩ := S.pr.len
  obtain ⟨ac, cc, rfl, -, -, hlc⟩ := S.cd.len
  have XW : Ext w ((w.alloc (.cells #[.int .i64 s.voices, .slice an s.notes.length cn, .slice ap s.pairs.length cp, .slice ac s.cads.length cc] 26)).alloc (.cells (#[.int .i64 v.a, .int .i64 v.b, .int .i64 v.c, .int .i64 v.d, .int .i64 v.e, .int .i64 v.f] : Array Value) 38)) := (by repeat (first | with_reducible exact Ext.refl _ | with_reducible assumption | with_reducible apply Ext.alloc | with_reducible apply Ext.drew | (with_reducible refine Ext.setCell ?_ (by (try simp) <;> omega) _)))
  have b1 := block_alloc (block_new w (.cells #[.int .i64 s.voices, .slice an s.notes.length cn, .slice ap s.pairs.length cp, .slice ac s.cads.length cc] 26)) (.cells (#[.int .i64 v.a, .int .i64 v.b, .int .i64 v.c, .int .i64 v.d, .int .i64 v.e, .int .i64 v.f] : Array Value) 38)
  have b2 := block_at (w := w.alloc (.cells #[.int .i64 s.voices, .slice an s.notes.length cn, .slice ap s.pairs.length cp, .slice ac s.cads.length cc] 26)) (n := w.heap.size + 1) (by simp) (.cells (#[.int .i64 v.a, .int .i64 v.b, .int .i64 v.c, .int .i64 v.d, .int .i64 v.e, .int .i64 v.f] : Array Value) 38)
  obtain ⟨W, hW⟩ : ∃ W, (w.alloc (.cells #[.int .i64 s.voices, .slice an s.notes.length cn, .slice ap s.pairs.length cp, .slice ac s.cads.length cc] 26)).alloc (.cells (#[.int .i64 v.a, .int .i64 v.b, .int .i64 v.c, .int .i64 v.d, .int .i64 v.e, .int .i64 v.f] : Array Value) 38) = W := ⟨_, rfl⟩
  rw [hW] at XW b1 b2
  have HW := Lib.hid hW
  obtain ⟨B, hB⟩ : ∃ B, w.heap.size = B := ⟨_, rfl⟩
  rw [hB] at b1 b2
  have CB : Hid (∀ w', Ext W w' → BoxS B s.voices (.slice an s.notes.length cn) (.slice ap s.pairs.length cp) (.slice ac s.cads.length cc) w') := Lib.hid fun w' x => BoxS.of (block_ext x b1)
  have CV : Hid (∀ w', Ext W w' → (w'.cell? ⟨B + 1, 0, none⟩ = some (.int .i64 v.a) ∧ w'.cell? ⟨B + 1, 1, none⟩ = some (.int .i64 v.b) ∧ w'.cell? ⟨B + 1, 2, none⟩ = some (.int .i64 v.c) ∧ w'.cell? ⟨B + 1, 3, none⟩ = some (.int .i64 v.d) ∧ w'.cell? ⟨B + 1, 4, none⟩ = some (.int .i64 v.e) ∧ w'.cell? ⟨B + 1, 5, none⟩ = some (.int .i64 v.f))) := Lib.hid fun w' x =>
    ⟨x.cell (block_cell b2 0 _ rfl), x.cell (block_cell b2 1 _ rfl), x.cell (block_cell b2 2 _ rfl), x.cell (block_cell b2 3 _ rfl), x.cell (block_cell b2 4 _ rfl), x.cell (block_cell b2 5 _ rfl)⟩
  have S1 := S.ext XW
  have HB := Lib.hid hB
  clear hW b1 b2 S hB
  go_enter Try.func9, Try.ntmps9
  go_wp2_with fail
  rw [HW.out, HB.out]
  clear HW HB
  refine (head_walk _).mono ?_
  rintro e w1 ⟨rfl, x1⟩
  obtain ⟨c0, c1, c2, c3⟩ := CB.out w1 x1
  go_wp2_with fail
  refine (scvalid_walk _ _ _ s _ (S1.ext x1)).mono ?_
  cases hok : scB s with
  | false =>
    clear hok
    rintro e w2 ⟨rfl, x2⟩
    clear c0 c1 c2 c3
    go_wp2
    go_ret
    exact ⟨rfl, XW.trans (x1.trans x2)⟩
  | true =>
  rintro e w2 ⟨rfl, y2⟩
  have x2 := x1.trans y2
  have HO := Lib.hid hok
  have HV := Lib.hid (scB_iff.1 hok)
  clear hok c0 c1 c2 c3 y2
  by_cases g1 : by' < -100000
  · go_wp2
    go_ret
    exact ⟨rfl, XW.trans x2⟩
  by_cases g2 : 100000 < by'
  · go_wp2
    go_ret
    exact ⟨rfl, XW.trans x2⟩
  obtain ⟨k0, k1, k2, k3, k4, k5⟩ := CV.out w2 x2
  go_wp2_with fail
  refine (rbounded_walk v 48 (by omega) (by omega) _).mono ?_
  cases hw : within v 48 with
  | false =>
    clear hw
    rintro e w3 ⟨rfl, x3⟩
    clear k0 k1 k2 k3 k4 k5
    go_wp2
    go_ret
    exact ⟨rfl, XW.trans (x2.trans x3)⟩
  | true =>
  rintro e w3 ⟨rfl, y3⟩
  have x3 := x2.trans y3
  have HWV := Lib.hid hw
  clear hw k0 k1 k2 k3 k4 k5 y3
  obtain ⟨k0, k1, k2, k3, k4, k5⟩ := CV.out w3 x3
  obtain ⟨c0, c1, c2, c3⟩ := CB.out w3 x3
  go_wp2_with fail
  refine (moved_walk _ _ _ s by' v HV.out (by omega) HWV.out _ (S1.ext x3)).mono ?_
  rintro e w4 ⟨un, up, uc, b, rfl, S4, hmv, y4⟩
  have x4 := x3.trans y4
  obtain ⟨dn, en, rfl, -, -, -⟩ := S4.nt.len
  obtain ⟨dp, ep, rfl, -, -, -⟩ := S4.pr.len
  obtain ⟨dc, ec, rfl, -, -, -⟩ := S4.cd.len
  clear k0 k1 k2 k3 k4 k5 c0 c1 c2 c3 y4
  have XD := Ext.alloc' w4 (.cells #[.int .i64 s.voices, .slice dn (mvS by' v s).notes.length en, .slice dp (mvS by' v s).pairs.length ep, .slice dc (mvS by' v s).cads.length ec] 26)
  have bD := block_new w4 (.cells #[.int .i64 s.voices, .slice dn (mvS by' v s).notes.length en, .slice dp (mvS by' v s).pairs.length ep, .slice dc (mvS by' v s).cads.length ec] 26)
  obtain ⟨W5, hW5⟩ : ∃ W, w4.alloc (.cells #[.int .i64 s.voices, .slice dn (mvS by' v s).notes.length en, .slice dp (mvS by' v s).pairs.length ep, .slice dc (mvS by' v s).cads.length ec] 26) = W := ⟨_, rfl⟩
  rw [hW5] at XD bD
  have CT : Hid (∀ w', Ext W5 w' → BoxS w4.heap.size s.voices (.slice dn (mvS by' v s).notes.length en) (.slice dp (mvS by' v s).pairs.length ep) (.slice dc (mvS by' v s).cads.length ec) w') := Lib.hid fun w' x => BoxS.of (block_ext x bD)
  have T1 := S4.ext XD
  have x5 := x4.trans XD
  have HW5 := Lib.hid hW5
  clear hW5 bD S4 XD
  cases b with
  | false =>
    clear hmv
    go_wp2
    rw [HW5.out]
    go_ret
    exact ⟨rfl, XW.trans x5⟩
  | true =>
  have HMO := Lib.hid (hmv rfl)
  have HMV := Lib.hid (mv_ok HV.out HMO.out)
  have HM := Lib.hid (scB_iff.2 HMV.out)
  clear hmv
  have E1 := Lib.hid (mv_bef HO.out HM.out n)
  have E2 := Lib.hid (mv_fst HO.out HM.out sec)
  have E3 := Lib.hid (mv_held HO.out HM.out sec)
  have E4 := Lib.hid fun (h1 : 0 ≤ tick ∧ tick ≤ 100000) (h2 : 0 ≤ tick + by' ∧ tick + by' ≤ 100000) => mv_secR HO.out HM.out h1 h2
  have E5 := Lib.hid fun (h1 : 0 ≤ tick ∧ tick ≤ 100000) (h2 : 0 ≤ tick + by' ∧ tick + by' ≤ 100000) => mv_sndR HO.out HM.out h1 h2
  have hvo : (mvS by' v s).voices = s.voices := rfl
  obtain ⟨t, ht⟩ : ∃ t, mvS by' v s = t := ⟨_, rfl⟩
  rw [ht] at E1 E2 E3 E4 E5 CT HM HMV T1 HW5 hvo ⊢
  have HVO := Lib.hid hvo
  obtain ⟨r2, hr2⟩ : ∃ r, befR s n = r := ⟨_, rfl⟩
  obtain ⟨r3, hr3⟩ : ∃ r, fstR s sec = r := ⟨_, rfl⟩
  obtain ⟨r5, hr5⟩ : ∃ r, heldR s sec = r := ⟨_, rfl⟩
  rw [hr2] at E1; rw [hr3] at E2; rw [hr5] at E3
  have HR2 := Lib.hid hr2; have HR3 := Lib.hid hr3; have HR5 := Lib.hid hr5
  obtain ⟨a2, b2⟩ := r2; obtain ⟨a3, b3⟩ := r3; obtain ⟨a5, b5⟩ := r5
  have TV := Lib.hid fun w' (y : Ext W5 w') => scvalid_walk (.slice dn t.notes.length en) (.slice dp t.pairs.length ep) (.slice dc t.cads.length ec) t w' (T1.ext y)
  have TB := Lib.hid fun w' (y : Ext W5 w') => before_walk (.slice dn t.notes.length en) (.slice dp t.pairs.length ep) (.slice dc t.cads.length ec) t n w' (T1.ext y)
  have TF := Lib.hid fun w' (y : Ext W5 w') => first_walk (.slice dn t.notes.length en) (.slice dp t.pairs.length ep) (.slice dc t.cads.length ec) t sec w' (T1.ext y)
  have TH := Lib.hid fun w' (y : Ext W5 w') => held_walk (.slice dn t.notes.length en) (.slice dp t.pairs.length ep) (.slice dc t.cads.length ec) t sec w' (T1.ext y)
  have TS := Lib.hid fun w' (y : Ext W5 w') => section_walk (.slice dn t.notes.length en) (.slice dp t.pairs.length ep) (.slice dc t.cads.length ec) t (tick + by') w' (T1.ext y)
  have TN := Lib.hid fun w' (y : Ext W5 w') => sound_walk (.slice dn t.notes.length en) (.slice dp t.pairs.length ep) (.slice dc t.cads.length ec) t (tick + by') w' (T1.ext y)
  rw [HVO.out] at TV TB TF TH TS TN
  clear hr2 hr3 hr5 ht hvo
  go_wp2_with fail
  rw [HW5.out]
  refine (TV.out _ (Ext.refl _)).mono ?_
  rw [HM.out]
  rintro e w6 ⟨rfl, y6⟩
  have z6 := x5.trans y6
  obtain ⟨D, hD⟩ : ∃ D, w4.heap.size = D := ⟨_, rfl⟩
  rw [hD] at CT ⊢
  clear hD
  obtain ⟨c0, c1, c2, c3⟩ := CB.out w6 z6
  go_wp2_with fail
  refine (before_walk _ _ _ s n _ (S1.ext z6)).mono ?_
  rw [HR2.out]
  rintro e w7 ⟨rfl, q7⟩
  have y7 := y6.trans q7
  clear c0 c1 c2 c3
  obtain ⟨d0, d1, d2, d3⟩ := CT.out w7 y7
  go_wp2_with fail
  refine (TB.out _ y7).mono ?_
  rw [E1.out]
  rintro e w8 ⟨rfl, q8⟩
  have y8 := y7.trans q8
  clear d0 d1 d2 d3
  obtain ⟨c0, c1, c2, c3⟩ := CB.out w8 (x5.trans y8)
  go_wp2_with fail
  refine (first_walk _ _ _ s sec _ (S1.ext (x5.trans y8))).mono ?_
  rw [HR3.out]
  rintro e w9 ⟨rfl, q9⟩
  have y9 := y8.trans q9
  clear c0 c1 c2 c3
  obtain ⟨d0, d1, d2, d3⟩ := CT.out w9 y9
  go_wp2_with fail
  refine (TF.out _ y9).mono ?_
  rw [E2.out]
  rintro e w10 ⟨rfl, q10⟩
  have y10 := y9.trans q10
  clear d0 d1 d2 d3
  obtain ⟨c0, c1, c2, c3⟩ := CB.out w10 (x5.trans y10)
  go_wp2_with fail
  refine (held_walk _ _ _ s sec _ (S1.ext (x5.trans y10))).mono ?_
  rw [HR5.out]
  rintro e w11 ⟨l1, rfl, L1, q11⟩
  have y11 := y10.trans q11
  clear c0 c1 c2 c3
  obtain ⟨d0, d1, d2, d3⟩ := CT.out w11 y11
  go_wp2_with fail
  refine (TH.out _ y11).mono ?_
  rw [E3.out]
  rintro e w12 ⟨l2, rfl, L2, q12⟩
  have y12 := y11.trans q12
  clear d0 d1 d2 d3
  go_wp2_with fail
  refine (same_walk _ _ _ _ _ (L1.ext q12) L2).mono ?_
  rw [decide_eq_true rfl]
  rintro e w13 ⟨rfl, q13⟩
  have y13 := y12.trans q13
  clear L1 L2
  by_cases h1 : tick < 0
  · go_wp2
    go_ret
    exact ⟨by first | rfl | simp, XW.trans (x5.trans y13)⟩
  by_cases h2 : 100000 < tick
  · go_wp2
    go_ret
    exact ⟨by first | rfl | simp, XW.trans (x5.trans y13)⟩
  by_cases h3 : tick + by' < 0
  · go_wp2
    go_ret
    exact ⟨by first | rfl | simp, XW.trans (x5.trans y13)⟩
  by_cases h4 : 100000 < tick + by'
  · go_wp2
    go_ret
    exact ⟨by first | rfl | simp, XW.trans (x5.trans y13)⟩
  have E4' := Lib.hid (E4.out ⟨by omega, by omega⟩ ⟨by omega, by omega⟩)
  have E5' := Lib.hid (E5.out ⟨by omega, by omega⟩ ⟨by omega, by omega⟩)
  obtain ⟨r1, hr1⟩ : ∃ r, secR s tick = r := ⟨_, rfl⟩
  obtain ⟨r4, hr4⟩ : ∃ r, sndR s tick = r := ⟨_, rfl⟩
  rw [hr1] at E4'; rw [hr4] at E5'
  have HR1 := Lib.hid hr1; have HR4 := Lib.hid hr4
  clear hr1 hr4
  obtain ⟨a1, b1⟩ := r1; obtain ⟨a4, b4⟩ := r4
  obtain ⟨c0, c1, c2, c3⟩ := CB.out w13 (x5.trans y13)
  go_wp2_with fail
  refine (section_walk _ _ _ s tick _ (S1.ext (x5.trans y13))).mono ?_
  rw [HR1.out]
  rintro e w14 ⟨rfl, q14⟩
  have y14 := y13.trans q14
  clear c0 c1 c2 c3
  obtain ⟨d0, d1, d2, d3⟩ := CT.out w14 y14
  go_wp2_with fail
  refine (TS.out _ y14).mono ?_
  rw [E4'.out]
  rintro e w15 ⟨rfl, q15⟩
  have y15 := y14.trans q15
  clear d0 d1 d2 d3
  obtain ⟨c0, c1, c2, c3⟩ := CB.out w15 (x5.trans y15)
  go_wp2_with fail
  refine (sound_walk _ _ _ s tick _ (S1.ext (x5.trans y15))).mono ?_
  rw [HR4.out]
  rintro e w16 ⟨l1, rfl, L1, q16⟩
  have y16 := y15.trans q16
  clear c0 c1 c2 c3
  obtain ⟨d0, d1, d2, d3⟩ := CT.out w16 y16
  go_wp2_with fail
  refine (TN.out _ y16).mono ?_
  rw [E5'.out]
  rintro e w17 ⟨l2, rfl, L2, q17⟩
  have y17 := y16.trans q17
  clear d0 d1 d2 d3
  go_wp2_with fail
  refine (same_walk _ _ _ _ _ (L1.ext q17) L2).mono ?_
  rw [decide_eq_true rfl]
  rintro e w18 ⟨rfl, q18⟩
  have y18 := y17.trans q18
  go_wp2
  go_ret
  exact ⟨by first | rfl | simp, XW.trans (x5.trans y18)⟩

theorem scoreMoving_args (H : Type) (enc : TypeId × Value → H) (W : World) (base : Nat) (vs : List Value) (ds : List (DataW H)) (hA : Args enc Try.prog W base Try.f9.params.toList vs ds) :
    Calls Try.prog 9 vs.toArray W fun e W' => e = .returned (.bool true) ∧ Ext W W' := by
  rw [Try.params9] at hA
  obtain ⟨v0, _, d0, _, rfl, rfl, h0, hA⟩ := hA.cons
  obtain ⟨v1, _, d1, _, rfl, rfl, h1, hA⟩ := hA.cons
  obtain ⟨v2, _, d2, _, rfl, rfl, h2, hA⟩ := hA.cons
  obtain ⟨v3, _, d3, _, rfl, rfl, h3, hA⟩ := hA.cons
  obtain ⟨v4, _, d4, _, rfl, rfl, h4, hA⟩ := hA.cons
  obtain ⟨v5, _, d5, _, rfl, rfl, h5, hA⟩ := hA.cons
  obtain ⟨rfl, rfl⟩ := hA.nil
  obtain ⟨s, vn, vp, vc, rfl, S⟩ := arg_score h0
  obtain ⟨a, rfl, _⟩ := h1.int Try.underlying3
  obtain ⟨v, rfl, _⟩ := Arg.array (sz := 6) Try.underlying38 el_vec6 h2
  obtain ⟨b, rfl, _⟩ := h3.int Try.underlying3
  obtain ⟨c, rfl, _⟩ := h4.int Try.underlying3
  obtain ⟨d, rfl, _⟩ := h5.int Try.underlying3
  exact moving_law vn vp vc s a v b c d W S

set_option maxRecDepth 100000 in
theorem scoreMoving_lifted (os : Os) (started : os.Started) (H : Type) (enc : TypeId × Value → H) :
    ReturnsInHanded {} Try.checked os 9 .any (Rows.scoreMovingSpec.pre6 enc Try.prog Try.f9 Rows.scoreMovingRow.domain false) (Rows.scoreMovingSpec.post enc Try.prog Try.f9 false true false false) :=
  law_said (C := Try.checked) (by kernel_rfl) started (by kernel_rfl) Try.func9
    (ChangeSpec.witness6 (enc := enc) (C := Try.checked) false ⟨#[], #[.agg #[.int .i64 0, .slice none 0 0, .slice none 0 0, .slice none 0 0], .int .i64 0, .agg #[.int .i64 0, .int .i64 0, .int .i64 0, .int .i64 0, .int .i64 0, .int .i64 0], .int .i64 0, .int .i64 0, .int .i64 0], []⟩ 8 (by kernel_rfl) (by kernel_rfl) (by kernel_rfl) (by kernel_rfl))
    (by kernel_rfl) (by kernel_rfl) (by kernel_rfl) rfl (fun ds h => by match ds, h with | [_, _, _, _, _, _], _ => rfl) (scoreMoving_args H enc)

theorem scoreMoving_holds : Rows.ScoreMovingSaid :=
  OpenClaim.holds_of_wide 9 Try.f9 rfl rfl rfl rfl rfl rfl rfl ⟨rfl, rfl, rfl, rfl, rfl⟩ rfl rfl rfl rfl rfl (by kernel_rfl) Try.func9 (by kernel_rfl)
    (of_decide_eq_true (by kernel_rfl)) (by unfold Func.isWrapper; first | (rw [if_pos (by decide +kernel)]; kernel_rfl) | (rw [if_neg (by decide +kernel)]; exact ⟨rfl, rfl⟩))
    (fun os started H enc _ => scoreMoving_lifted os started H enc)
end Go.Proofs.Ytajicmghnllnmaa
