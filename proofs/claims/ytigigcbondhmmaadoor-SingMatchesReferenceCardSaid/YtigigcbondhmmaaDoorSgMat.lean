/-
  Proved: 'SingMatchesReference' returns true for every input and leaves its arguments as they were. No condition.
-/
import Derived.Test.YtigigcbondhmmaaDoorSgK
import Derived.Test.YtigigcbondhmmaaDoorArgL
import Derived.Test.YtigigcbondhmmaaDoorLdB
set_option linter.unusedVariables false
namespace Go.Proofs.YtigigcbondhmmaaDoor
open Go.RowKit Go.Sx Go.Sx.Sz Go.Sx.Sc Go.Sx.Sg Go.ChangeShapes Go.WideShapes Go.ChangeAt

set_option maxRecDepth 100000 in
set_option maxHeartbeats 8000000 in
theorem sgmat_law (vn vp vc vx vt : Value) (s : Sc) (xs : List V6) (n st : Int) (steps : List Int) (w : World) (G0 : Gl 0 w) (S : ScR w vn vp vc s) (V : Sl w 6 V6.list vx xs) (T : Sl w 1 encZ vt steps) :
    Calls Tryd.prog 3 #[.agg #[.int .i64 s.voices, vn, vp, vc], vx, .int .i64 n, .int .i64 st, vt] w fun e w' => e = .returned (.bool true) ∧ Ext w w' := by
  obtain ⟨an, cn, rfl, -, -, hln⟩ := S.nt.len
  obtain ⟨ap, cp, rfl, -, -, hlp⟩ := S.pr.len
  obtain ⟨ac, cc, rfl, -, -, hlc⟩ := S.cd.len
  obtain ⟨ax, cx, rfl, -, -, hlx⟩ := V.len
  obtain ⟨at', ct, rfl, -, -, hlt⟩ := T.len
  have X0 : Ext w (w.alloc (.cells #[.int .i64 s.voices, .slice an s.notes.length cn, .slice ap s.pairs.length cp, .slice ac s.cads.length cc] 26)) := (by repeat (first | with_reducible exact Ext.refl _ | with_reducible assumption | with_reducible apply Ext.alloc | with_reducible apply Ext.drew | (with_reducible refine Ext.setCell ?_ (by (try simp) <;> omega) _)))
  have b0_0 := block_new w (.cells #[.int .i64 s.voices, .slice an s.notes.length cn, .slice ap s.pairs.length cp, .slice ac s.cads.length cc] 26)
  obtain ⟨W0, hW0⟩ : ∃ W, (w.alloc (.cells #[.int .i64 s.voices, .slice an s.notes.length cn, .slice ap s.pairs.length cp, .slice ac s.cads.length cc] 26)) = W := ⟨_, rfl⟩
  obtain ⟨B0, hB0⟩ : ∃ B, w.heap.size = B := ⟨_, rfl⟩
  rw [hW0] at X0 b0_0
  rw [hB0] at b0_0
  have HZ0 : Hid (w.heap.size ≤ B0) := Lib.hid (by omega)
  have HW0 := Lib.hid hW0; have HB0 := Lib.hid hB0
  clear hW0 hB0
  have CB := Lib.hid (boxS b0_0)
  have S1 := S.ext X0; have V1 := V.ext X0; have T1 := T.ext X0; have G1 := G0.ext X0
  clear S V T G0 b0_0
  obtain ⟨⟨el, ee⟩, he⟩ : ∃ r, entriesR s = r := ⟨_, rfl⟩
  obtain ⟨⟨fa, fe⟩, hf⟩ : ∃ r, fromR s xs n st = r := ⟨_, rfl⟩
  obtain ⟨⟨la, lb, le⟩, hl⟩ : ∃ r, leastR s xs n = r := ⟨_, rfl⟩
  obtain ⟨⟨ml, me⟩, hm⟩ : ∃ r, missingR s xs steps = r := ⟨_, rfl⟩
  have HE := Lib.hid he; have HF := Lib.hid hf; have HL := Lib.hid hl; have HM := Lib.hid hm
  have e1 : (ee == ee) = true := beq_self_eq_true _
  have e2 : (fa == fa) = true := beq_self_eq_true _
  have e3 : (fe == fe) = true := beq_self_eq_true _
  have e4 : (la == la) = true := beq_self_eq_true _
  have e5 : (lb == lb) = true := beq_self_eq_true _
  have e6 : (le == le) = true := beq_self_eq_true _
  have e7 : (me == me) = true := beq_self_eq_true _
  clear he hf hl hm
  go_enter Tryd.func3, Tryd.ntmps3
  go_wp2_with fail
  rw [HW0.out, HB0.out]
  clear HW0 HB0
  refine (head_walk _ G1).mono ?_
  rintro e w1 ⟨rfl, x1⟩
  obtain ⟨c0, c1, c2, c3⟩ := CB.out _ x1
  go_wp2_with fail
  refine (entries_walk _ _ _ s _ (S1.ext x1)).mono ?_
  rw [HE.out]
  rintro e w2 ⟨v2, rfl, L2, y2⟩
  have x2 := x1.trans y2
  clear c0 c1 c2 c3
  obtain ⟨c0, c1, c2, c3⟩ := CB.out _ x2
  go_wp2_with fail
  refine (rentries_walk _ _ _ s _ (S1.ext x2)).mono ?_
  rw [HE.out]
  rintro e w3 ⟨v3, rfl, L3, y3⟩
  have x3 := x2.trans y3
  clear c0 c1 c2 c3
  go_wp2_with fail
  refine (same_walk _ _ _ _ _ (L2.ext y3) L3).mono ?_
  rw [decide_eq_true rfl]
  rintro e w4 ⟨rfl, y4⟩
  have x4 := x3.trans y4
  clear L2 L3
  obtain ⟨c0, c1, c2, c3⟩ := CB.out _ x4
  go_wp2_with fail
  refine (from_walk _ _ _ _ s xs n st _ (G1.ext x4) (S1.ext x4) (V1.ext x4)).mono ?_
  rw [HF.out]
  rintro e w5 ⟨rfl, y5⟩
  have x5 := x4.trans y5
  clear c0 c1 c2 c3
  obtain ⟨c0, c1, c2, c3⟩ := CB.out _ x5
  go_wp2_with fail
  refine (rfrom_walk _ _ _ _ s xs n st _ (S1.ext x5) (V1.ext x5)).mono ?_
  rw [HF.out]
  rintro e w6 ⟨rfl, y6⟩
  have x6 := x5.trans y6
  clear c0 c1 c2 c3
  obtain ⟨c0, c1, c2, c3⟩ := CB.out _ x6
  go_wp2_with fail
  refine (least_walk _ _ _ _ s xs n _ (G1.ext x6) (S1.ext x6) (V1.ext x6)).mono ?_
  rw [HL.out]
  rintro e w7 ⟨rfl, y7⟩
  have x7 := x6.trans y7
  clear c0 c1 c2 c3
  obtain ⟨c0, c1, c2, c3⟩ := CB.out _ x7
  go_wp2_with fail
  refine (rleast_walk _ _ _ _ s xs n _ (S1.ext x7) (V1.ext x7)).mono ?_
  rw [HL.out]
  rintro e w8 ⟨rfl, y8⟩
  have x8 := x7.trans y8
  clear c0 c1 c2 c3
  obtain ⟨c0, c1, c2, c3⟩ := CB.out _ x8
  go_wp2_with fail
  refine (missing_walk _ _ _ _ _ s xs steps _ (G1.ext x8) (S1.ext x8) (V1.ext x8) (T1.ext x8)).mono ?_
  rw [HM.out]
  rintro e w9 ⟨v9, rfl, L9, y9⟩
  have x9 := x8.trans y9
  clear c0 c1 c2 c3
  obtain ⟨c0, c1, c2, c3⟩ := CB.out _ x9
  go_wp2_with fail
  refine (rmissing_walk _ _ _ _ _ s xs steps _ (S1.ext x9) (V1.ext x9) (T1.ext x9)).mono ?_
  rw [HM.out]
  rintro e w10 ⟨v10, rfl, L10, y10⟩
  have x10 := x9.trans y10
  clear c0 c1 c2 c3
  go_wp2_with fail
  refine (same_walk _ _ _ _ _ (L9.ext y10) L10).mono ?_
  rw [decide_eq_true rfl]
  rintro e w11 ⟨rfl, y11⟩
  have HX := Lib.hid (X0.trans (x10.trans y11))
  go_wp2
  go_ret
  exact ⟨rfl, HX.out⟩

theorem singMatchesReference_args (H : Type) (enc : TypeId × Value → H) (W : World) (base : Nat) (vs : List Value) (ds : List (DataW H)) (_ : ∀ k, (OpenSpec.ofChange Rows.singMatchesReferenceSpec).cond = some k → k H ds = true) (hL : laidMetH Tryd.prog Rows.singMatchesReferenceRow.laid W) (hA : Args enc Tryd.prog W base Tryd.f3.params.toList vs ds) :
    Calls Tryd.prog 3 vs.toArray W fun e W' => e = .returned (.bool true) ∧ Ext W W' := by
  rw [Tryd.params3] at hA
  obtain ⟨v0, _, d0, _, rfl, rfl, h0, hA⟩ := hA.cons
  obtain ⟨v1, _, d1, _, rfl, rfl, h1, hA⟩ := hA.cons
  obtain ⟨v2, _, d2, _, rfl, rfl, h2, hA⟩ := hA.cons
  obtain ⟨v3, _, d3, _, rfl, rfl, h3, hA⟩ := hA.cons
  obtain ⟨v4, _, d4, _, rfl, rfl, h4, hA⟩ := hA.cons
  obtain ⟨rfl, rfl⟩ := hA.nil
  obtain ⟨s, vn, vp, vc, rfl, S⟩ := arg_score h0
  obtain ⟨xs, V, n1⟩ := arg_vecs h1
  obtain ⟨n, rfl, _⟩ := h2.int Tryd.underlying3
  obtain ⟨st, rfl, _⟩ := h3.int Tryd.underlying3
  obtain ⟨l4, T, n4⟩ := arg_ints h4
  exact sgmat_law _ _ _ _ _ s xs n st l4 W (gv_of hL) S V T

theorem singMatchesReference_met (os : Os) : laidMet Tryd.prog Rows.singMatchesReferenceRow.laid ((laidWorld os).forCall (fun _ _ => 0) ⟨#[], #[.agg #[.int .i64 0, .slice none 0 0, .slice none 0 0, .slice none 0 0], .slice none 0 0, .int .i64 0, .int .i64 0, .slice none 0 0], []⟩).memory := laidMet_of_run' 8 (by kernel_rfl) (by kernel_rfl)
theorem singMatchesReference_reads (os : Os) {H : Type} (enc : TypeId × Value → H) : ∃ places, DataW.whole enc Tryd.prog ((laidWorld os).forCall (fun _ _ => 0) ⟨#[], #[.agg #[.int .i64 0, .slice none 0 0, .slice none 0 0, .slice none 0 0], .slice none 0 0, .int .i64 0, .int .i64 0, .slice none 0 0], []⟩).memory Tryd.f3.params.toList Rows.singMatchesReferenceSpec.vars false #[.agg #[.int .i64 0, .slice none 0 0, .slice none 0 0, .slice none 0 0], .slice none 0 0, .int .i64 0, .int .i64 0, .slice none 0 0].toList 8 = some ([.agg [.lit (.int .i64 0), .nil, .nil, .nil], .nil, .lit (.int .i64 0), .lit (.int .i64 0), .nil], [], places) := ⟨[], by kernel_rfl⟩
set_option maxRecDepth 100000 in
theorem singMatchesReference_lifted (os : Os) (started : os.Started) (H : Type) (enc : TypeId × Value → H) (F : Stop.Interp) :
    ReturnsInHanded {} Tryd.checked os 3 .any ((OpenSpec.ofChange Rows.singMatchesReferenceSpec).preRow enc Tryd.prog Tryd.f3 Rows.singMatchesReferenceRow.domain false Rows.singMatchesReferenceRow.laid) (((OpenSpec.ofChange Rows.singMatchesReferenceSpec).at F).post enc Tryd.prog Tryd.f3 false true false false) := by
  obtain ⟨places, hx⟩ := singMatchesReference_reads os enc
  exact law_row (C := Tryd.checked) (s := (OpenSpec.ofChange Rows.singMatchesReferenceSpec)) (by kernel_rfl) started (by kernel_rfl) Tryd.func3
    (witness_row_at (enc := enc) (C := Tryd.checked) false (laidWorld os) #[.agg #[.int .i64 0, .slice none 0 0, .slice none 0 0, .slice none 0 0], .slice none 0 0, .int .i64 0, .int .i64 0, .slice none 0 0] rfl (by kernel_rfl) (by kernel_rfl) (by kernel_rfl) (OpenSpec.preRow_of_cond 8 hx (by kernel_rfl) (fun k hk => by cases hk) (by kernel_rfl) (singMatchesReference_met os)))
    (by kernel_rfl) (by kernel_rfl) (by kernel_rfl) rfl (fun ds h => by match ds, h with | [_, _, _, _, _], _ => rfl) (singMatchesReference_args H enc)
theorem singMatchesReference_said : Rows.SingMatchesReferenceSaid :=
  OpenClaim.holds_of_cond 3 Tryd.f3 rfl rfl rfl rfl rfl rfl rfl ⟨rfl, rfl, rfl, rfl, rfl⟩ rfl rfl rfl rfl rfl (by kernel_rfl) Tryd.func3 (by kernel_rfl)
    (of_decide_eq_true (by kernel_rfl)) (by unfold Func.isWrapper; first | (rw [if_pos (by decide +kernel)]; kernel_rfl) | (rw [if_neg (by decide +kernel)]; exact ⟨rfl, rfl⟩))
    (fun os started H enc _ F => by rw [OpenClaim.pre_eq_preRow]; exact singMatchesReference_lifted os started H enc F)
theorem singMatchesReference_plain (f : FuncId) (fn : Func) (hf : Tryd.pinned.checked.prog.funcNamed "schisma/schismalaw22.SingMatchesReference" = some f) (hfn : Tryd.pinned.checked.prog.funcs[f]? = some fn) :
    false = Tryd.pinned.checked.prog.looks [] ∧ ∀ (j : Nat) t, fn.params[j]? = some t → Tryd.pinned.checked.prog.wantsStandIn t = false := by
  obtain rfl : f = 3 := Option.some.inj ((show Tryd.prog.funcNamed "schisma/schismalaw22.SingMatchesReference" = some 3 by kernel_rfl).symm.trans hf) |>.symm
  obtain rfl : fn = Tryd.f3 := (Option.some.inj (Tryd.func3.symm.trans hfn)).symm
  refine ⟨by kernel_rfl, fun j t ht => ?_⟩
  have hall : Tryd.f3.params.all (fun t => !Tryd.prog.wantsStandIn t) = true := by kernel_rfl
  have := (Array.all_eq_true'.1 hall) t (Array.mem_of_getElem? ht)
  have e : Tryd.prog.wantsStandIn t = false := by simpa using this
  exact e
/-- The card. -/
theorem singMatchesReference_holds : Rows.SingMatchesReferenceCardSaid :=
  Claim7.holds_tied_plain_at .later [] _ _ _ _ singMatchesReference_said (fun _ h => by cases h) (by kernel_rfl) (fun _ h => by cases h) singMatchesReference_row_tie rfl ⟨rfl, rfl⟩ (by kernel_rfl) rfl singMatchesReference_plain (by kernel_rfl)
end Go.Proofs.YtigigcbondhmmaaDoor
