/-
  Proved: 'SingSteps' returns true for every input and leaves its arguments as they were. No condition.
-/
import Derived.Test.YtigigcbondhmmaaDoorSgStp0
set_option linter.unusedVariables false
namespace Go.Proofs.YtigigcbondhmmaaDoor
open Go.RowKit Go.Sx Go.Sx.Sz Go.Sx.Sc Go.Sx.Sg Go.ChangeShapes Go.WideShapes Go.ChangeAt

set_option maxRecDepth 100000 in
set_option maxHeartbeats 8000000 in
theorem sgstp_law (vn vp vc vx : Value) (s : Sc) (xs : List V6) (n st more : Int) (w : World) (G0 : Gl 0 w) (S : ScR w vn vp vc s) (V : Sl w 6 V6.list vx xs) :
    Calls Tryd.prog 5 #[.agg #[.int .i64 s.voices, vn, vp, vc], vx, .int .i64 n, .int .i64 st, .int .i64 more] w fun e w' => e = .returned (.bool true) ∧ Ext w w' := by
  obtain ⟨an, cn, rfl, -, -, hln⟩ := S.nt.len
  obtain ⟨ap, cp, rfl, -, -, hlp⟩ := S.pr.len
  obtain ⟨ac, cc, rfl, -, -, hlc⟩ := S.cd.len
  obtain ⟨ax, cx, rfl, -, -, hlx⟩ := V.len
  have X0 : Ext w (w.alloc (.cells #[.int .i64 s.voices, .slice an s.notes.length cn, .slice ap s.pairs.length cp, .slice ac s.cads.length cc] 26)) := (by repeat (first | with_reducible exact Ext.refl _ | with_reducible assumption | with_reducible apply Ext.alloc | with_reducible apply Ext.drew | (with_reducible refine Ext.setCell ?_ (by (try simp) <;> omega) _)))
  have b0_0 := block_new w (.cells #[.int .i64 s.voices, .slice an s.notes.length cn, .slice ap s.pairs.length cp, .slice ac s.cads.length cc] 26)
  obtain ⟨W0, hW0⟩ : ∃ W, (w.alloc (.cells #[.int .i64 s.voices, .slice an s.notes.length cn, .slice ap s.pairs.length cp, .slice ac s.cads.length cc] 26)) = W := ⟨_, rfl⟩
  obtain ⟨B0, hB0⟩ : ∃ B, w.heap.size = B := ⟨_, rfl⟩
  rw [hW0] at X0 b0_0
  rw [hB0] at b0_0
  have HZ0 : Hid (w.heap.size ≤ B0) := Lib.hid (by omega)
  have HW0 := Lib.hid hW0; have HB0 := Lib.hid hB0
  clear hW0 hB0
  have CB := Lib.hid (boxS b0_0)
  have S1 := S.ext X0; have V1 := V.ext X0; have G1 := G0.ext X0
  clear S V G0 b0_0
  go_enter Tryd.func5, Tryd.ntmps5
  go_wp2_with fail
  rw [HW0.out, HB0.out]
  clear HW0 HB0
  refine (head_walk _ G1).mono ?_
  rintro e w1 ⟨rfl, x1⟩
  obtain ⟨c0, c1, c2, c3⟩ := CB.out _ x1
  go_wp2_with fail
  refine (from_walk _ _ _ _ s xs n st _ (G1.ext x1) (S1.ext x1) (V1.ext x1)).mono ?_
  obtain ⟨⟨fa, fe⟩, hf⟩ : ∃ r, fromR s xs n st = r := ⟨_, rfl⟩
  have HF := Lib.hid hf
  rw [hf]
  clear hf
  rintro e w2 ⟨rfl, y2⟩
  have x2 := x1.trans y2
  clear c0 c1 c2 c3
  by_cases hbad : fe ≠ 0
  · have e1 : (fe != 0) = true := by rw [bne_iff_ne]; exact hbad
    clear hbad
    go_wp2
    go_ret
    exact ⟨rfl, X0.trans x2⟩
  obtain rfl : fe = 0 := Classical.byContradiction hbad
  clear hbad
  by_cases hm : st ≤ more ∧ more ≤ 2400000
  case neg =>
    by_cases h0 : more < st
    all_goals
      (try (have h1 : 2400000 < more := by omega))
      clear hm
      go_wp2
      go_ret
      exact ⟨rfl, X0.trans x2⟩
  have hok := from_ok (s := s) (xs := xs) (n := n) (st := st) (by rw [HF.out]; simp)
  have hff := from_eq hok.1 hok.2.1 hok.2.2
  rw [HF.out] at hff
  obtain ⟨j, hj, hja⟩ := find_more hff.symm hm.1
  have HG : Hid (fromR s xs n more = (j, 0)) := Lib.hid (by rw [from_eq hok.1 hok.2.1 (by omega)]; exact hj)
  have f1 : decide (more < st) = false := decide_eq_false (by omega)
  have f2 : decide (2400000 < more) = false := decide_eq_false (by omega)
  clear hm hok hff hj
  obtain ⟨c0, c1, c2, c3⟩ := CB.out _ x2
  go_wp2_with fail
  refine (from_walk _ _ _ _ s xs n more _ (G1.ext x2) (S1.ext x2) (V1.ext x2)).mono ?_
  rw [HG.out]
  rintro e w3 ⟨rfl, y3⟩
  have HX := Lib.hid (X0.trans (x2.trans y3))
  have f3 : decide (j ≤ fa) = true := decide_eq_true hja
  clear c0 c1 c2 c3 f1 f2
  go_wp2
  go_ret
  exact ⟨by first | rfl | simp [hja], HX.out⟩

theorem singSteps_args (H : Type) (enc : TypeId × Value → H) (W : World) (base : Nat) (vs : List Value) (ds : List (DataW H)) (_ : ∀ k, (OpenSpec.ofChange Rows.singStepsSpec).cond = some k → k H ds = true) (hL : laidMetH Tryd.prog Rows.singStepsRow.laid W) (hA : Args enc Tryd.prog W base Tryd.f5.params.toList vs ds) :
    Calls Tryd.prog 5 vs.toArray W fun e W' => e = .returned (.bool true) ∧ Ext W W' := by
  rw [Tryd.params5] at hA
  obtain ⟨v0, _, d0, _, rfl, rfl, h0, hA⟩ := hA.cons
  obtain ⟨v1, _, d1, _, rfl, rfl, h1, hA⟩ := hA.cons
  obtain ⟨v2, _, d2, _, rfl, rfl, h2, hA⟩ := hA.cons
  obtain ⟨v3, _, d3, _, rfl, rfl, h3, hA⟩ := hA.cons
  obtain ⟨v4, _, d4, _, rfl, rfl, h4, hA⟩ := hA.cons
  obtain ⟨rfl, rfl⟩ := hA.nil
  obtain ⟨s, vn, vp, vc, rfl, S⟩ := arg_score h0
  obtain ⟨xs, V, n1⟩ := arg_vecs h1
  obtain ⟨n, rfl, _⟩ := h2.int Tryd.underlying3
  obtain ⟨st, rfl, _⟩ := h3.int Tryd.underlying3
  obtain ⟨more, rfl, _⟩ := h4.int Tryd.underlying3
  exact sgstp_law _ _ _ _ s xs n st more W (gv_of hL) S V

theorem singSteps_met (os : Os) : laidMet Tryd.prog Rows.singStepsRow.laid ((laidWorld os).forCall (fun _ _ => 0) ⟨#[], #[.agg #[.int .i64 0, .slice none 0 0, .slice none 0 0, .slice none 0 0], .slice none 0 0, .int .i64 0, .int .i64 0, .int .i64 0], []⟩).memory := laidMet_of_run' 8 (by kernel_rfl) (by kernel_rfl)
theorem singSteps_reads (os : Os) {H : Type} (enc : TypeId × Value → H) : ∃ places, DataW.whole enc Tryd.prog ((laidWorld os).forCall (fun _ _ => 0) ⟨#[], #[.agg #[.int .i64 0, .slice none 0 0, .slice none 0 0, .slice none 0 0], .slice none 0 0, .int .i64 0, .int .i64 0, .int .i64 0], []⟩).memory Tryd.f5.params.toList Rows.singStepsSpec.vars false #[.agg #[.int .i64 0, .slice none 0 0, .slice none 0 0, .slice none 0 0], .slice none 0 0, .int .i64 0, .int .i64 0, .int .i64 0].toList 8 = some ([.agg [.lit (.int .i64 0), .nil, .nil, .nil], .nil, .lit (.int .i64 0), .lit (.int .i64 0), .lit (.int .i64 0)], [], places) := ⟨[], by kernel_rfl⟩
set_option maxRecDepth 100000 in
theorem singSteps_lifted (os : Os) (started : os.Started) (H : Type) (enc : TypeId × Value → H) (F : Stop.Interp) :
    ReturnsInHanded {} Tryd.checked os 5 .any ((OpenSpec.ofChange Rows.singStepsSpec).preRow enc Tryd.prog Tryd.f5 Rows.singStepsRow.domain false Rows.singStepsRow.laid) (((OpenSpec.ofChange Rows.singStepsSpec).at F).post enc Tryd.prog Tryd.f5 false true false false) := by
  obtain ⟨places, hx⟩ := singSteps_reads os enc
  exact law_row (C := Tryd.checked) (s := (OpenSpec.ofChange Rows.singStepsSpec)) (by kernel_rfl) started (by kernel_rfl) Tryd.func5
    (witness_row_at (enc := enc) (C := Tryd.checked) false (laidWorld os) #[.agg #[.int .i64 0, .slice none 0 0, .slice none 0 0, .slice none 0 0], .slice none 0 0, .int .i64 0, .int .i64 0, .int .i64 0] rfl (by kernel_rfl) (by kernel_rfl) (by kernel_rfl) (OpenSpec.preRow_of_cond 8 hx (by kernel_rfl) (fun k hk => by cases hk) (by kernel_rfl) (singSteps_met os)))
    (by kernel_rfl) (by kernel_rfl) (by kernel_rfl) rfl (fun ds h => by match ds, h with | [_, _, _, _, _], _ => rfl) (singSteps_args H enc)
theorem singSteps_said : Rows.SingStepsSaid :=
  OpenClaim.holds_of_cond 5 Tryd.f5 rfl rfl rfl rfl rfl rfl rfl ⟨rfl, rfl, rfl, rfl, rfl⟩ rfl rfl rfl rfl rfl (by kernel_rfl) Tryd.func5 (by kernel_rfl)
    (of_decide_eq_true (by kernel_rfl)) (by unfold Func.isWrapper; first | (rw [if_pos (by decide +kernel)]; kernel_rfl) | (rw [if_neg (by decide +kernel)]; exact ⟨rfl, rfl⟩))
    (fun os started H enc _ F => by rw [OpenClaim.pre_eq_preRow]; exact singSteps_lifted os started H enc F)
theorem singSteps_plain (f : FuncId) (fn : Func) (hf : Tryd.pinned.checked.prog.funcNamed "schisma/schismalaw22.SingSteps" = some f) (hfn : Tryd.pinned.checked.prog.funcs[f]? = some fn) :
    false = Tryd.pinned.checked.prog.looks [] ∧ ∀ (j : Nat) t, fn.params[j]? = some t → Tryd.pinned.checked.prog.wantsStandIn t = false := by
  obtain rfl : f = 5 := Option.some.inj ((show Tryd.prog.funcNamed "schisma/schismalaw22.SingSteps" = some 5 by kernel_rfl).symm.trans hf) |>.symm
  obtain rfl : fn = Tryd.f5 := (Option.some.inj (Tryd.func5.symm.trans hfn)).symm
  refine ⟨by kernel_rfl, fun j t ht => ?_⟩
  have hall : Tryd.f5.params.all (fun t => !Tryd.prog.wantsStandIn t) = true := by kernel_rfl
  have := (Array.all_eq_true'.1 hall) t (Array.mem_of_getElem? ht)
  have e : Tryd.prog.wantsStandIn t = false := by simpa using this
  exact e
/-- The card. -/
theorem singSteps_holds : Rows.SingStepsCardSaid :=
  Claim7.holds_tied_plain_at .later [] _ _ _ _ singSteps_said (fun _ h => by cases h) (by kernel_rfl) (fun _ h => by cases h) singSteps_row_tie rfl ⟨rfl, rfl⟩ (by kernel_rfl) rfl singSteps_plain (by kernel_rfl)
end Go.Proofs.YtigigcbondhmmaaDoor
