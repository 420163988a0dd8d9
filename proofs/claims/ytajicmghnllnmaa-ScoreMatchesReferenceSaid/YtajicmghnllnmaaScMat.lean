/-
  Proved: 'ScoreMatchesReference' returns true for every input and leaves its arguments as they were. No condition.
-/
import Derived.Test.YtajicmghnllnmaaScBeg
import Derived.Test.YtajicmghnllnmaaR19F
set_option linter.unusedVariables false
namespace Go.Proofs.Ytajicmghnllnmaa
open Go.RowKit Go.Sx Go.Sx.Sz Go.Sx.Sc Go.ChangeShapes Go.WideShapes Go.ChangeAt

theorem fst_eq (s : Sc) (q : Int) : fstC s q = fstR s q := by
  unfold fstC fstR
  by_cases h : scB s = true ∧ 0 ≤ q ∧ q ≤ s.cads.length + 1
  · rw [if_pos h, if_pos h]
    have hv := scB_iff.1 h.1
    congr 1
    unfold fstF
    by_cases h0 : q = 0
    · subst h0
      rw [if_pos rfl]
      rw [List.countP_eq_zero.2]
      · rfl
      · intro n _ hn; rw [decide_eq_true_eq] at hn; omega
    · rw [if_neg h0]
      by_cases h1 : q = s.cads.length + 1
      · rw [if_pos h1, List.countP_eq_length.2]
        intro n _
        rw [decide_eq_true_eq]
        have := sec_le (s := s) n.f
        omega
      · rw [if_neg h1]
        obtain ⟨m, rfl⟩ : ∃ m : Nat, q = (m : Int) + 1 := ⟨(q - 1).toNat, by omega⟩
        rw [show ((m : Int) + 1 - 1).toNat = m by omega]
        unfold begF
        congr 1
        apply List.countP_congr
        intro n _
        rw [decide_eq_true_eq, decide_eq_true_eq]
        have := secF_iff hv.cd n.f (show m < s.cads.length by omega)
        omega
  · rw [if_neg h, if_neg h]

set_option maxRecDepth 100000 in
set_option maxHeartbeats 4000000 in
theorem scmat_law (vn vp vc : Value) (s : Sc) (tick n sec : Int) (w : World) (S : ScR w vn vp vc s) :
    Calls Try.prog 3 #[.agg #[.int .i64 s.voices, vn, vp, vc], .int .i64 tick, .int .i64 n, .int .i64 sec] w fun e w' => e = .returned (.bool true) ∧ Ext w w' := by
  obtain ⟨an, cn, rfl, -, -, hln⟩ := S.nt.len
  obtain ⟨ap, cp, rfl, -, -, hlp⟩ := S.pr.len
  obtain ⟨ac, cc, rfl, -, -, hlc⟩ := S.cd.len
  have XW := Ext.alloc' w (.cells #[.int .i64 s.voices, .slice an s.notes.length cn, .slice ap s.pairs.length cp, .slice ac s.cads.length cc] 26)
  have b1 := block_new w (.cells #[.int .i64 s.voices, .slice an s.notes.length cn, .slice ap s.pairs.length cp, .slice ac s.cads.length cc] 26)
  obtain ⟨W, hW⟩ : ∃ W, w.alloc (.cells #[.int .i64 s.voices, .slice an s.notes.length cn, .slice ap s.pairs.length cp, .slice ac s.cads.length cc] 26) = W := ⟨_, rfl⟩
  rw [hW] at XW b1
  have HW := Lib.hid hW
  obtain ⟨B, hB⟩ : ∃ B, w.heap.size = B := ⟨_, rfl⟩
  rw [hB] at b1
  have CB : Hid (∀ w', Ext W w' → w'.cell? ⟨B, 0, none⟩ = some (.int .i64 s.voices) ∧ w'.cell? ⟨B, 1, none⟩ = some (.slice an s.notes.length cn) ∧ w'.cell? ⟨B, 2, none⟩ = some (.slice ap s.pairs.length cp) ∧ w'.cell? ⟨B, 3, none⟩ = some (.slice ac s.cads.length cc)) := Lib.hid fun w' x =>
    ⟨x.cell (block_cell b1 0 _ rfl), x.cell (block_cell b1 1 _ rfl), x.cell (block_cell b1 2 _ rfl), x.cell (block_cell b1 3 _ rfl)⟩
  have S1 := S.ext XW
  have HB := Lib.hid hB
  clear hW b1 S hB
  go_enter Try.func3, Try.ntmps3
  go_wp2
  rw [HW.out, HB.out]
  clear HW HB
  obtain ⟨vb, hvb⟩ : ∃ v, scB s = v := ⟨_, rfl⟩
  have VB := Lib.hid hvb
  have V1 := Lib.hid fun w' (y : Ext W w') => scvalid_walk (.slice an s.notes.length cn) (.slice ap s.pairs.length cp) (.slice ac s.cads.length cc) s w' (S1.ext y)
  have V2 := Lib.hid fun w' (y : Ext W w') => rvalid19_walk (.slice an s.notes.length cn) (.slice ap s.pairs.length cp) (.slice ac s.cads.length cc) s w' (S1.ext y)
  obtain ⟨c0, c1, c2, c3⟩ := CB.out W (Ext.refl _)
  have g0 := ext_cells c0; have g1 := ext_cells c1; have g2 := ext_cells c2; have g3 := ext_cells c3
  have hvv : (vb == vb) = true := by simp
  clear hvb
  refine wp_region_ord [(0,true), (1,true), (2,true), (3,true), (4,true), (5,true), (6,true), (7,true), (8,true)] 9 Ext (Ext W) wide (by kernel_rfl) (stable_ext _) (Ext.drawn _ _) ?_
  (apply wpOrd_det rfl rfl; (intro w' hw'; refine opR_call rfl (Go.Proofs.enters_of Try.func11 (by kernel_rfl) rfl) (by simp only [List.map_toArray, List.map_nil]; rfl) ?_; refine (head_walk _).mono ?_; rintro e w'' ⟨rfl, hx⟩; exact ⟨_, rfl, hx, rfl⟩); (simp only [List.getElem_toArray, List.getElem_cons_succ, List.getElem_cons_zero, Act.put, List.setIfInBounds_toArray, List.set_cons_succ, List.set_cons_zero]; rfl))
  iterate 2 (first | (apply wpOrd_yes rfl; rfl; (intro w' hw'; unfold opR; go_simp; exact ⟨Ext.refl _, rfl⟩); (simp only [List.getElem_toArray, List.getElem_cons_succ, List.getElem_cons_zero, Act.put, List.setIfInBounds_toArray, List.set_cons_succ, List.set_cons_zero]; rfl)) | (apply wpOrd_no rfl; rfl; (simp only [List.getElem_toArray, List.getElem_cons_succ, List.getElem_cons_zero, Act.put, List.setIfInBounds_toArray, List.set_cons_succ, List.set_cons_zero]; rfl)))
  (apply wpOrd_yes rfl (by rfl); (intro w' hw'; refine opR_call rfl (Go.Proofs.enters_of Try.func12 (by kernel_rfl) rfl) (by simp only [List.map_toArray, List.map_cons, List.map_nil, Act.eval, Array.getD_eq_getD_getElem?, List.getElem?_toArray, List.getElem?_cons_succ, List.getElem?_cons_zero, Option.getD_some]; rfl) ?_; refine (V1.out _ hw').mono ?_; rw [VB.out]; rintro e w'' ⟨rfl, hx⟩; exact ⟨_, rfl, hx, rfl⟩); (simp only [List.getElem_toArray, List.getElem_cons_succ, List.getElem_cons_zero, Act.put, List.setIfInBounds_toArray, List.set_cons_succ, List.set_cons_zero]; rfl))
  (first | (apply wpOrd_yes rfl; rfl; (intro w' hw'; unfold opR; go_simp; exact ⟨Ext.refl _, rfl⟩); (simp only [List.getElem_toArray, List.getElem_cons_succ, List.getElem_cons_zero, Act.put, List.setIfInBounds_toArray, List.set_cons_succ, List.set_cons_zero]; rfl)) | (apply wpOrd_no rfl; rfl; (simp only [List.getElem_toArray, List.getElem_cons_succ, List.getElem_cons_zero, Act.put, List.setIfInBounds_toArray, List.set_cons_succ, List.set_cons_zero]; rfl)))
  (apply wpOrd_yes rfl (by rfl); (intro w' hw'; refine opR_call rfl (Go.Proofs.enters_of Try.func13 (by kernel_rfl) rfl) (by simp only [List.map_toArray, List.map_cons, List.map_nil, Act.eval, Array.getD_eq_getD_getElem?, List.getElem?_toArray, List.getElem?_cons_succ, List.getElem?_cons_zero, Option.getD_some]; rfl) ?_; refine (V2.out _ hw').mono ?_; rw [VB.out]; rintro e w'' ⟨rfl, hx⟩; exact ⟨_, rfl, hx, rfl⟩); (simp only [List.getElem_toArray, List.getElem_cons_succ, List.getElem_cons_zero, Act.put, List.setIfInBounds_toArray, List.set_cons_succ, List.set_cons_zero]; rfl))
  iterate 3 (first | (apply wpOrd_yes rfl; rfl; (intro w' hw'; unfold opR; go_simp; exact ⟨Ext.refl _, rfl⟩); (simp only [List.getElem_toArray, List.getElem_cons_succ, List.getElem_cons_zero, Act.put, List.setIfInBounds_toArray, List.set_cons_succ, List.set_cons_zero]; rfl)) | (apply wpOrd_no rfl; rfl; (simp only [List.getElem_toArray, List.getElem_cons_succ, List.getElem_cons_zero, Act.put, List.setIfInBounds_toArray, List.set_cons_succ, List.set_cons_zero]; rfl)))
  refine wpOrd_nil rfl ?_
  intro w1 x1
  clear c0 c1 c2 c3 g0 g1 g2 g3 hvv
  obtain ⟨r1, hr1⟩ : ∃ r, secR s tick = r := ⟨_, rfl⟩
  obtain ⟨r2, hr2⟩ : ∃ r, befR s n = r := ⟨_, rfl⟩
  obtain ⟨r3, hr3⟩ : ∃ r, fstR s sec = r := ⟨_, rfl⟩
  obtain ⟨r4, hr4⟩ : ∃ r, sndR s tick = r := ⟨_, rfl⟩
  obtain ⟨r5, hr5⟩ : ∃ r, heldR s sec = r := ⟨_, rfl⟩
  have HR1 := Lib.hid hr1; have HR2 := Lib.hid hr2; have HR3 := Lib.hid hr3; have HR4 := Lib.hid hr4; have HR5 := Lib.hid hr5
  have HR3' : Hid (fstC s sec = r3) := Lib.hid (by rw [fst_eq, hr3])
  clear hr1 hr2 hr3 hr4 hr5
  obtain ⟨a1, b1⟩ := r1; obtain ⟨a2, b2⟩ := r2; obtain ⟨a3, b3⟩ := r3; obtain ⟨a4, b4⟩ := r4; obtain ⟨a5, b5⟩ := r5
  obtain ⟨c0, c1, c2, c3⟩ := CB.out w1 x1
  go_wp2_with fail
  refine (section_walk _ _ _ s tick _ (S1.ext x1)).mono ?_
  rw [HR1.out]
  rintro e w2 ⟨rfl, y2⟩
  have x2 := x1.trans y2
  clear c0 c1 c2 c3
  obtain ⟨c0, c1, c2, c3⟩ := CB.out w2 x2
  go_wp2_with fail
  refine (rsection19_walk _ _ _ s tick _ (S1.ext x2)).mono ?_
  rw [HR1.out]
  rintro e w3 ⟨rfl, y3⟩
  have x3 := x2.trans y3
  clear c0 c1 c2 c3
  obtain ⟨c0, c1, c2, c3⟩ := CB.out w3 x3
  go_wp2_with fail
  refine (before_walk _ _ _ s n _ (S1.ext x3)).mono ?_
  rw [HR2.out]
  rintro e w4 ⟨rfl, y4⟩
  have x4 := x3.trans y4
  clear c0 c1 c2 c3
  obtain ⟨c0, c1, c2, c3⟩ := CB.out w4 x4
  go_wp2_with fail
  refine (rbefore19_walk _ _ _ s n _ (S1.ext x4)).mono ?_
  rw [HR2.out]
  rintro e w5 ⟨rfl, y5⟩
  have x5 := x4.trans y5
  clear c0 c1 c2 c3
  obtain ⟨c0, c1, c2, c3⟩ := CB.out w5 x5
  go_wp2_with fail
  refine (first_walk _ _ _ s sec _ (S1.ext x5)).mono ?_
  rw [HR3.out]
  rintro e w6 ⟨rfl, y6⟩
  have x6 := x5.trans y6
  clear c0 c1 c2 c3
  obtain ⟨c0, c1, c2, c3⟩ := CB.out w6 x6
  go_wp2_with fail
  refine (rfirst19_walk _ _ _ s sec _ (S1.ext x6)).mono ?_
  rw [HR3'.out]
  rintro e w7 ⟨rfl, y7⟩
  have x7 := x6.trans y7
  clear c0 c1 c2 c3
  obtain ⟨c0, c1, c2, c3⟩ := CB.out w7 x7
  go_wp2_with fail
  refine (sound_walk _ _ _ s tick _ (S1.ext x7)).mono ?_
  rw [HR4.out]
  rintro e w8 ⟨l1, rfl, L1, y8⟩
  have x8 := x7.trans y8
  clear c0 c1 c2 c3
  obtain ⟨c0, c1, c2, c3⟩ := CB.out w8 x8
  go_wp2_with fail
  refine (rsound19_walk _ _ _ s tick _ (S1.ext x8)).mono ?_
  rw [HR4.out]
  rintro e w9 ⟨l2, rfl, L2, y9⟩
  have x9 := x8.trans y9
  clear c0 c1 c2 c3
  obtain ⟨c0, c1, c2, c3⟩ := CB.out w9 x9
  go_wp2_with fail
  refine (same_walk _ _ _ _ _ (L1.ext y9) L2).mono ?_
  rw [decide_eq_true rfl]
  rintro e w10 ⟨rfl, y10⟩
  have x10 := x9.trans y10
  clear c0 c1 c2 c3
  obtain ⟨c0, c1, c2, c3⟩ := CB.out w10 x10
  go_wp2_with fail
  refine (held_walk _ _ _ s sec _ (S1.ext x10)).mono ?_
  rw [HR5.out]
  rintro e w11 ⟨l3, rfl, L3, y11⟩
  have x11 := x10.trans y11
  clear c0 c1 c2 c3
  obtain ⟨c0, c1, c2, c3⟩ := CB.out w11 x11
  go_wp2_with fail
  refine (rheld19_walk _ _ _ s sec _ (S1.ext x11)).mono ?_
  rw [HR5.out]
  rintro e w12 ⟨l4, rfl, L4, y12⟩
  have x12 := x11.trans y12
  clear c0 c1 c2 c3
  go_wp2_with fail
  refine (same_walk _ _ _ _ _ (L3.ext y12) L4).mono ?_
  rw [decide_eq_true rfl]
  rintro e w13 ⟨rfl, y13⟩
  have x13 := x12.trans y13
  go_wp2
  go_ret
  exact ⟨by first | rfl | simp, XW.trans x13⟩

theorem scoreMatchesReference_args (H : Type) (enc : TypeId × Value → H) (W : World) (base : Nat) (vs : List Value) (ds : List (DataW H)) (hA : Args enc Try.prog W base Try.f3.params.toList vs ds) :
    Calls Try.prog 3 vs.toArray W fun e W' => e = .returned (.bool true) ∧ Ext W W' := by
  rw [Try.params3] at hA
  obtain ⟨v0, _, d0, _, rfl, rfl, h0, hA⟩ := hA.cons
  obtain ⟨v1, _, d1, _, rfl, rfl, h1, hA⟩ := hA.cons
  obtain ⟨v2, _, d2, _, rfl, rfl, h2, hA⟩ := hA.cons
  obtain ⟨v3, _, d3, _, rfl, rfl, h3, hA⟩ := hA.cons
  obtain ⟨rfl, rfl⟩ := hA.nil
  obtain ⟨s, vn, vp, vc, rfl, S⟩ := arg_score h0
  obtain ⟨a, rfl, _⟩ := h1.int Try.underlying3
  obtain ⟨b, rfl, _⟩ := h2.int Try.underlying3
  obtain ⟨c, rfl, _⟩ := h3.int Try.underlying3
  exact scmat_law vn vp vc s a b c W S

set_option maxRecDepth 100000 in
theorem scoreMatchesReference_lifted (os : Os) (started : os.Started) (H : Type) (enc : TypeId × Value → H) :
    ReturnsInHanded {} Try.checked os 3 .any (Rows.scoreMatchesReferenceSpec.pre6 enc Try.prog Try.f3 Rows.scoreMatchesReferenceRow.domain false) (Rows.scoreMatchesReferenceSpec.post enc Try.prog Try.f3 false true false false) :=
  law_said (C := Try.checked) (by kernel_rfl) started (by kernel_rfl) Try.func3
    (ChangeSpec.witness6 (enc := enc) (C := Try.checked) false ⟨#[], #[.agg #[.int .i64 0, .slice none 0 0, .slice none 0 0, .slice none 0 0], .int .i64 0, .int .i64 0, .int .i64 0], []⟩ 8 (by kernel_rfl) (by kernel_rfl) (by kernel_rfl) (by kernel_rfl))
    (by kernel_rfl) (by kernel_rfl) (by kernel_rfl) rfl (fun ds h => by match ds, h with | [_, _, _, _], _ => rfl) (scoreMatchesReference_args H enc)

theorem scoreMatchesReference_holds : Rows.ScoreMatchesReferenceSaid :=
  OpenClaim.holds_of_wide 3 Try.f3 rfl rfl rfl rfl rfl rfl rfl ⟨rfl, rfl, rfl, rfl, rfl⟩ rfl rfl rfl rfl rfl (by kernel_rfl) Try.func3 (by kernel_rfl)
    (of_decide_eq_true (by kernel_rfl)) (by unfold Func.isWrapper; first | (rw [if_pos (by decide +kernel)]; kernel_rfl) | (rw [if_neg (by decide +kernel)]; exact ⟨rfl, rfl⟩))
    (fun os started H enc _ => scoreMatchesReference_lifted os started H enc)
end Go.Proofs.Ytajicmghnllnmaa
