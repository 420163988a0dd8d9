/-
  Proved: 'BlameMatchesReference' returns true for every input and leaves its arguments as they were. No condition.
-/
import Derived.Test.YtbemjekkojgbpaaGreatDoorBmI
import Derived.Test.YtbemjekkojgbpaaGreatDoorR40E
import Derived.Test.YtbemjekkojgbpaaGreatDoorBmL
import Derived.Test.YtbemjekkojgbpaaGreatDoorR23A
set_option linter.unusedVariables false
namespace Go.Sx.Bl
open Go.Sx.Sz Go.Sx.Sc Go.Sx.Au Go.Sx.Po
end Go.Sx.Bl
namespace Go.Proofs.YtbemjekkojgbpaaGreatDoor
open Go.RowKit Go.Sx Go.Sx.Sz Go.Sx.Sc Go.Sx.Au Go.Sx.Po Go.Sx.Bl Go.ChangeShapes Go.WideShapes Go.ChangeAt

set_option maxRecDepth 100000 in
set_option maxHeartbeats 16000000 in
theorem bmat_law (vn vp vc vh vt : Value) (s : Sc) (h : List V6) (l : List S2) (w : World) (GL : Gl 0 w) (S : ScR w vn vp vc s) (V : Sl w 6 V6.list vh h) (R : Sl w 2 encS vt l) :
    Calls Tryz.prog 3 #[.agg #[.int .i64 s.voices, vn, vp, vc], vh, vt] w fun e w' => e = .returned (.bool true) ∧ Ext w w' := by
  obtain ⟨an, cn, rfl, -, -, hln⟩ := S.nt.len
  obtain ⟨ap, cp, rfl, -, -, hlp⟩ := S.pr.len
  obtain ⟨ac, cc, rfl, -, -, hlc⟩ := S.cd.len
  obtain ⟨ah, ch, rfl, hch, -, -⟩ := V.len
  obtain ⟨at', ct, rfl, -, -, -⟩ := R.len
  have DW := @deviants_walk (.slice an s.notes.length cn) (.slice ap s.pairs.length cp) (.slice ac s.cads.length cc) (.slice ah h.length ch) (.slice at' l.length ct) s h l
  have DR := @rdeviants_walk (.slice an s.notes.length cn) (.slice ap s.pairs.length cp) (.slice ac s.cads.length cc) (.slice ah h.length ch) (.slice at' l.length ct) s h l
  have CW := @charges_walk (.slice an s.notes.length cn) (.slice ap s.pairs.length cp) (.slice ac s.cads.length cc) (.slice ah h.length ch) (.slice at' l.length ct) s h l
  have CR := @rcharges_walk (.slice an s.notes.length cn) (.slice ap s.pairs.length cp) (.slice ac s.cads.length cc) (.slice ah h.length ch) (.slice at' l.length ct) s h l
  have OW := @bvoices_walk (.slice an s.notes.length cn) (.slice ap s.pairs.length cp) (.slice ac s.cads.length cc) (.slice ah h.length ch) (.slice at' l.length ct) s h l
  have OR := @rvoices_walk (.slice an s.notes.length cn) (.slice ap s.pairs.length cp) (.slice ac s.cads.length cc) (.slice ah h.length ch) (.slice at' l.length ct) s h l
  obtain ⟨⟨dl, de⟩, e1⟩ : ∃ z, devR s h l = z := ⟨_, rfl⟩
  obtain ⟨⟨cl, ce⟩, e2⟩ : ∃ z, chgR s h l = z := ⟨_, rfl⟩
  obtain ⟨⟨ol, oe⟩, e3⟩ : ∃ z, voiR s h l = z := ⟨_, rfl⟩
  rw [e1] at DW DR; rw [e2] at CW CR; rw [e3] at OW OR
  simp only at DW DR CW CR OW OR
  have HDW := Lib.hid DW; have HDR := Lib.hid DR; have HCW := Lib.hid CW; have HCR := Lib.hid CR; have HOW := Lib.hid OW; have HOR := Lib.hid OR
  clear e1 e2 e3 DW DR CW CR OW OR
  have X0 : Ext w (w.alloc (.cells #[.int .i64 s.voices, .slice an s.notes.length cn, .slice ap s.pairs.length cp, .slice ac s.cads.length cc] 26)) := (by repeat (first | with_reducible exact Ext.refl _ | with_reducible assumption | with_reducible apply Ext.alloc | with_reducible apply Ext.drew | (with_reducible refine Ext.setCell ?_ (by (try simp) <;> omega) _)))
  have b0_0 := block_new w (.cells #[.int .i64 s.voices, .slice an s.notes.length cn, .slice ap s.pairs.length cp, .slice ac s.cads.length cc] 26)
  obtain ⟨W0, hW0⟩ : ∃ W, (w.alloc (.cells #[.int .i64 s.voices, .slice an s.notes.length cn, .slice ap s.pairs.length cp, .slice ac s.cads.length cc] 26)) = W := ⟨_, rfl⟩
  obtain ⟨B0, hB0⟩ : ∃ B, w.heap.size = B := ⟨_, rfl⟩
  rw [hW0] at X0 b0_0
  rw [hB0] at b0_0
  have HZ0 : Hid (w.heap.size ≤ B0) := Lib.hid (by omega)
  have HW0 := Lib.hid hW0; have HB0 := Lib.hid hB0
  clear hW0 hB0
  have CB := Lib.hid (boxS b0_0)
  have S1 := S.ext X0; have V1 := V.ext X0; have G1 := GL.ext X0; have R1 := R.ext X0
  have HCH := Lib.hid hch
  clear S V GL R b0_0 hch
  go_enter Tryz.func3, Tryz.ntmps3
  go_wp2_with fail
  rw [HW0.out, HB0.out]
  clear HW0 HB0
  refine (bhead_walk _ G1).mono ?_
  rintro e w1 ⟨rfl, x1⟩
  obtain ⟨c0, c1, c2, c3⟩ := CB.out _ x1
  go_wp2_with fail
  refine (rfew_walk _ _ _ s _ (S1.ext x1)).mono ?_
  obtain ⟨fw, hfw⟩ : ∃ z, (decide (s.notes.length ≤ 40) && decide (s.pairs.length ≤ 60)) = z := ⟨_, rfl⟩
  rw [hfw]
  clear hfw
  rintro e w2 ⟨rfl, y2⟩
  have x2 := x1.trans y2
  clear c0 c1 c2 c3
  cases fw with
  | false =>
    have HX := Lib.hid (X0.trans x2)
    go_wp2
    go_ret
    exact ⟨by first | rfl | simp, HX.out⟩
  | true =>
  obtain ⟨c0, c1, c2, c3⟩ := CB.out _ x2
  go_wp2_with fail
  refine (HDW.out _ (G1.ext x2) (S1.ext x2) (V1.ext x2) (R1.ext x2)).mono ?_
  rintro e w3 ⟨v3, rfl, L3, y3⟩
  have x3 := x2.trans y3
  clear c0 c1 c2 c3
  obtain ⟨c0, c1, c2, c3⟩ := CB.out _ x3
  go_wp2_with fail
  refine (HDR.out _ (G1.ext x3) (S1.ext x3) (V1.ext x3) (R1.ext x3)).mono ?_
  rintro e w4 ⟨v4, rfl, L4, y4⟩
  have x4 := x3.trans y4
  clear c0 c1 c2 c3
  have t2 : (de == de) = true := beq_self_eq_true _
  go_wp2_with fail
  refine (same16_walk _ _ _ _ _ (L3.ext y4) L4).mono ?_
  rw [decide_eq_true rfl]
  rintro e w5 ⟨rfl, y5⟩
  have x5 := x4.trans y5
  clear y3 y4 y5 L3 L4
  obtain ⟨c0, c1, c2, c3⟩ := CB.out _ x5
  go_wp2_with fail
  refine (HCW.out _ (G1.ext x5) (S1.ext x5) (V1.ext x5) (R1.ext x5)).mono ?_
  rintro e w6 ⟨v6, rfl, L6, y6⟩
  have x6 := x5.trans y6
  clear c0 c1 c2 c3
  obtain ⟨c0, c1, c2, c3⟩ := CB.out _ x6
  go_wp2_with fail
  refine (HCR.out _ (G1.ext x6) (S1.ext x6) (V1.ext x6) (R1.ext x6)).mono ?_
  rintro e w7 ⟨v7, rfl, L7, y7⟩
  have x7 := x6.trans y7
  clear c0 c1 c2 c3
  have t5 : (ce == ce) = true := beq_self_eq_true _
  go_wp2_with fail
  refine (samecg_walk _ _ _ _ _ (L6.ext y7) L7).mono ?_
  rw [decide_eq_true rfl]
  rintro e w8 ⟨rfl, y8⟩
  have x8 := x7.trans y8
  clear y6 y7 y8 L6 L7
  obtain ⟨c0, c1, c2, c3⟩ := CB.out _ x8
  go_wp2_with fail
  refine (HOW.out _ (G1.ext x8) (S1.ext x8) (V1.ext x8) (R1.ext x8)).mono ?_
  rintro e w9 ⟨v9, rfl, L9, y9⟩
  have x9 := x8.trans y9
  clear c0 c1 c2 c3
  obtain ⟨c0, c1, c2, c3⟩ := CB.out _ x9
  go_wp2_with fail
  refine (HOR.out _ (G1.ext x9) (S1.ext x9) (V1.ext x9) (R1.ext x9)).mono ?_
  rintro e w10 ⟨v10, rfl, L10, y10⟩
  have x10 := x9.trans y10
  clear c0 c1 c2 c3
  have t8 : (oe == oe) = true := beq_self_eq_true _
  go_wp2_with fail
  refine (same16_walk _ _ _ _ _ (L9.ext y10) L10).mono ?_
  rw [decide_eq_true rfl]
  rintro e w11 ⟨rfl, y11⟩
  have x11 := x10.trans y11
  clear y9 y10 y11 L9 L10
  have HX := Lib.hid (X0.trans x11)
  go_wp2
  go_ret
  exact ⟨by first | rfl | simp, HX.out⟩

theorem blameMatchesReference_args (H : Type) (enc : TypeId × Value → H) (W : World) (base : Nat) (vs : List Value) (ds : List (DataW H)) (_ : ∀ k, (OpenSpec.ofChange Rows.blameMatchesReferenceSpec).cond = some k → k H ds = true) (hL : laidMetH Tryz.prog Rows.blameMatchesReferenceRow.laid W) (hA : Args enc Tryz.prog W base Tryz.f3.params.toList vs ds) :
    Calls Tryz.prog 3 vs.toArray W fun e W' => e = .returned (.bool true) ∧ Ext W W' := by
  rw [Tryz.params3] at hA
  obtain ⟨v0, _, d0, _, rfl, rfl, h0, hA⟩ := hA.cons
  obtain ⟨v1, _, d1, _, rfl, rfl, h1, hA⟩ := hA.cons
  obtain ⟨v2, _, d2, _, rfl, rfl, h2, hA⟩ := hA.cons
  obtain ⟨rfl, rfl⟩ := hA.nil
  obtain ⟨s0, vn0, vp0, vc0, rfl, S0⟩ := arg_score h0
  obtain ⟨l1, S1, n1⟩ := arg_vecs h1
  obtain ⟨l2, S2, n2⟩ := arg_sizes h2
  exact bmat_law _ _ _ _ _ s0 l1 l2 W (gv_of hL) S0 S1 S2

theorem blameMatchesReference_met (os : Os) : laidMet Tryz.prog Rows.blameMatchesReferenceRow.laid ((laidWorld os).forCall (fun _ _ => 0) ⟨#[], #[.agg #[.int .i64 0, .slice none 0 0, .slice none 0 0, .slice none 0 0], .slice none 0 0, .slice none 0 0], []⟩).memory := laidMet_of_run' 8 (by kernel_rfl) (by kernel_rfl)
theorem blameMatchesReference_reads (os : Os) {H : Type} (enc : TypeId × Value → H) : ∃ places, DataW.whole enc Tryz.prog ((laidWorld os).forCall (fun _ _ => 0) ⟨#[], #[.agg #[.int .i64 0, .slice none 0 0, .slice none 0 0, .slice none 0 0], .slice none 0 0, .slice none 0 0], []⟩).memory Tryz.f3.params.toList Rows.blameMatchesReferenceSpec.vars false #[.agg #[.int .i64 0, .slice none 0 0, .slice none 0 0, .slice none 0 0], .slice none 0 0, .slice none 0 0].toList 8 = some ([.agg [.lit (.int .i64 0), .nil, .nil, .nil], .nil, .nil], [], places) := ⟨[], by kernel_rfl⟩
set_option maxRecDepth 100000 in
theorem blameMatchesReference_lifted (os : Os) (started : os.Started) (H : Type) (enc : TypeId × Value → H) (F : Stop.Interp) :
    ReturnsInHanded {} Tryz.checked os 3 .any ((OpenSpec.ofChange Rows.blameMatchesReferenceSpec).preRow enc Tryz.prog Tryz.f3 Rows.blameMatchesReferenceRow.domain false Rows.blameMatchesReferenceRow.laid) (((OpenSpec.ofChange Rows.blameMatchesReferenceSpec).at F).post enc Tryz.prog Tryz.f3 false true false false) := by
  obtain ⟨places, hx⟩ := blameMatchesReference_reads os enc
  exact law_row (C := Tryz.checked) (s := (OpenSpec.ofChange Rows.blameMatchesReferenceSpec)) (by kernel_rfl) started (by kernel_rfl) Tryz.func3
    (witness_row_at (enc := enc) (C := Tryz.checked) false (laidWorld os) #[.agg #[.int .i64 0, .slice none 0 0, .slice none 0 0, .slice none 0 0], .slice none 0 0, .slice none 0 0] rfl (by kernel_rfl) (by kernel_rfl) (by kernel_rfl) (OpenSpec.preRow_of_cond 8 hx (by kernel_rfl) (fun k hk => by cases hk) (by kernel_rfl) (blameMatchesReference_met os)))
    (by kernel_rfl) (by kernel_rfl) (by kernel_rfl) rfl (fun ds h => by match ds, h with | [_, _, _], _ => rfl) (blameMatchesReference_args H enc)
theorem blameMatchesReference_said : Rows.BlameMatchesReferenceSaid :=
  OpenClaim.holds_of_cond 3 Tryz.f3 rfl rfl rfl rfl rfl rfl rfl ⟨rfl, rfl, rfl, rfl, rfl⟩ rfl rfl rfl rfl rfl (by kernel_rfl) Tryz.func3 (by kernel_rfl)
    (of_decide_eq_true (by kernel_rfl)) (by unfold Func.isWrapper; first | (rw [if_pos (by decide +kernel)]; kernel_rfl) | (rw [if_neg (by decide +kernel)]; exact ⟨rfl, rfl⟩))
    (fun os started H enc _ F => by rw [OpenClaim.pre_eq_preRow]; exact blameMatchesReference_lifted os started H enc F)
theorem blameMatchesReference_plain (f : FuncId) (fn : Func) (hf : Tryz.pinned.checked.prog.funcNamed "schisma/schismalaw40.BlameMatchesReference" = some f) (hfn : Tryz.pinned.checked.prog.funcs[f]? = some fn) :
    false = Tryz.pinned.checked.prog.looks [] ∧ ∀ (j : Nat) t, fn.params[j]? = some t → Tryz.pinned.checked.prog.wantsStandIn t = false := by
  obtain rfl : f = 3 := Option.some.inj ((show Tryz.prog.funcNamed "schisma/schismalaw40.BlameMatchesReference" = some 3 by kernel_rfl).symm.trans hf) |>.symm
  obtain rfl : fn = Tryz.f3 := (Option.some.inj (Tryz.func3.symm.trans hfn)).symm
  refine ⟨by kernel_rfl, fun j t ht => ?_⟩
  have hall : Tryz.f3.params.all (fun t => !Tryz.prog.wantsStandIn t) = true := by kernel_rfl
  have := (Array.all_eq_true'.1 hall) t (Array.mem_of_getElem? ht)
  have e : Tryz.prog.wantsStandIn t = false := by simpa using this
  exact e
/-- The card. -/
theorem blameMatchesReference_holds : Rows.BlameMatchesReferenceCardSaid :=
  Claim7.holds_tied_plain_at .later [] _ _ _ _ blameMatchesReference_said (fun _ h => by cases h) (by kernel_rfl) (fun _ h => by cases h) blameMatchesReference_row_tie rfl ⟨rfl, rfl⟩ (by kernel_rfl) rfl blameMatchesReference_plain (by kernel_rfl)
end Go.Proofs.YtbemjekkojgbpaaGreatDoor
