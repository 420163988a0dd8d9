/-
  Proved: 'SingLeast' returns true for every input and leaves its arguments as they were. No condition.
-/
import Derived.Test.YtigigcbondhmmaaDoorSgStp0
set_option linter.unusedVariables false
namespace Go.Proofs.YtigigcbondhmmaaDoor
open Go.RowKit Go.Sx Go.Sx.Sz Go.Sx.Sc Go.Sx.Sg Go.ChangeShapes Go.WideShapes Go.ChangeAt

set_option maxRecDepth 100000 in
set_option maxHeartbeats 8000000 in
theorem sglea_law (vn vp vc vx : Value) (s : Sc) (xs : List V6) (n : Int) (w : World) (G0 : Gl 0 w) (S : ScR w vn vp vc s) (V : Sl w 6 V6.list vx xs) :
    Calls Tryd.prog 6 #[.agg #[.int .i64 s.voices, vn, vp, vc], vx, .int .i64 n] w fun e w' => e = .returned (.bool true) ∧ Ext w w' := by
  obtain ⟨an, cn, rfl, -, -, hln⟩ := S.nt.len
  obtain ⟨ap, cp, rfl, -, -, hlp⟩ := S.pr.len
  obtain ⟨ac, cc, rfl, -, -, hlc⟩ := S.cd.len
  obtain ⟨ax, cx, rfl, -, -, hlx⟩ := V.len
  have X0 : Ext w (w.alloc (.cells #[.int .i64 s.voices, .slice an s.notes.length cn, .slice ap s.pairs.length cp, .slice ac s.cads.length cc] 26)) := (by repeat (first | with_reducible exact Ext.refl _ | with_reducible assumption | with_reducible apply Ext.alloc | with_reducible apply Ext.drew | (with_reducible refine Ext.setCell ?_ (by (try simp) <;> omega) _)))
  have b0_0 := block_new w (.cells #[.int .i64 s.voices, .slice an s.notes.length cn, .slice ap s.pairs.length cp, .slice ac s.cads.length cc] 26)
  obtain ⟨W0, hW0⟩ : ∃ W, (w.alloc (.cells #[.int .i64 s.voices, .slice an s.notes.length cn, .slice ap s.pairs.length cp, .slice ac s.cads.length cc] 26)) = W := ⟨_, rfl⟩
  obtain ⟨B0, hB0⟩ : ∃ B, w.heap.size = B := ⟨_, rfl⟩
  rw [hW0] at X0 b0_0
  rw [hB0] at b0_0
  have HZ0 : Hid (w.heap.size ≤ B0) := Lib.hid (by omega)
  have HW0 := Lib.hid hW0; have HB0 := Lib.hid hB0
  clear hW0 hB0
  have CB := Lib.hid (boxS b0_0)
  have S1 := S.ext X0; have V1 := V.ext X0; have G1 := G0.ext X0
  clear S V G0 b0_0
  go_enter Tryd.func6, Tryd.ntmps6
  go_wp2_with fail
  rw [HW0.out, HB0.out]
  clear HW0 HB0
  refine (head_walk _ G1).mono ?_
  rintro e w1 ⟨rfl, x1⟩
  obtain ⟨c0, c1, c2, c3⟩ := CB.out _ x1
  go_wp2_with fail
  refine (least_walk _ _ _ _ s xs n _ (G1.ext x1) (S1.ext x1) (V1.ext x1)).mono ?_
  by_cases hb : hallB s xs = true ∧ entryB s n = true
  case neg =>
    have HL : Hid (leastR s xs n = (0, 0, 1)) := Lib.hid (if_neg hb)
    rw [HL.out]
    rintro e w2 ⟨rfl, y2⟩
    have x2 := x1.trans y2
    clear c0 c1 c2 c3 hb
    go_wp2
    go_ret
    exact ⟨by first | rfl | simp, X0.trans x2⟩
  have hls : leastR s xs n = leastN s xs n.toNat := if_pos hb
  have FE := Lib.hid fun st (h : 0 ≤ st ∧ st ≤ 2400000) => from_eq hb.1 hb.2 h
  clear hb
  rcases least_cases s xs n.toNat with ⟨a, b, h⟩ | h
  · have HL : Hid (leastR s xs n = (a, b, 0)) := Lib.hid (hls.trans h)
    obtain ⟨-, -, ⟨r1, r2⟩, -, -⟩ := least_ok h
    have HF : Hid (fromR s xs n a = (b, 0)) := Lib.hid ((FE.out a ⟨r1, r2⟩).trans (least_find h))
    have HG : Hid (0 < a → fromR s xs n (a - 1) = (0, 4)) := Lib.hid fun h0 => (FE.out (a - 1) ⟨by omega, by omega⟩).trans (least_less h)
    have e1 : (b != b) = false := by simp
    have f1 : decide (a < 0) = false := decide_eq_false (by omega)
    have f2 : decide (2400000 < a) = false := decide_eq_false (by omega)
    have E1 : IntKind.i64.wrap (a - 1) = a - 1 := IntWalk.i64_in _ (by omega)
    clear hls h
    rw [HL.out]
    rintro e w2 ⟨rfl, y2⟩
    have x2 := x1.trans y2
    clear c0 c1 c2 c3
    obtain ⟨c0, c1, c2, c3⟩ := CB.out _ x2
    go_wp2_with fail
    refine (from_walk _ _ _ _ s xs n a _ (G1.ext x2) (S1.ext x2) (V1.ext x2)).mono ?_
    rw [HF.out]
    rintro e w3 ⟨rfl, y3⟩
    have x3 := x2.trans y3
    clear c0 c1 c2 c3
    obtain ⟨c0, c1, c2, c3⟩ := CB.out _ x3
    by_cases ha : a = 0
    · have e2 : (a == 0) = true := by rw [beq_iff_eq]; exact ha
      clear ha HG
      go_wp2
      go_ret
      exact ⟨by first | rfl | simp, X0.trans x3⟩
    · have e2 : (a == 0) = false := by rw [beq_eq_false_iff_ne]; exact ha
      have HG2 := Lib.hid (HG.out (by omega))
      clear ha HG
      go_wp2_with fail
      refine (from_walk _ _ _ _ s xs n (a - 1) _ (G1.ext x3) (S1.ext x3) (V1.ext x3)).mono ?_
      rw [HG2.out]
      rintro e w4 ⟨rfl, y4⟩
      have HX := Lib.hid (X0.trans (x3.trans y4))
      clear c0 c1 c2 c3 e1 e2 f1 f2 E1
      go_wp2
      go_ret
      exact ⟨by first | rfl | simp, HX.out⟩
  · have HL : Hid (leastR s xs n = (0, 0, 3)) := Lib.hid (hls.trans h)
    have hnone := (least_none (s := s) (xs := xs) (n := n.toNat) (by rw [h]; simp)).2
    have HF : Hid (fromR s xs n 2400000 = (0, 4)) := Lib.hid (by
      rw [FE.out 2400000 (by omega)]
      rcases find_cases s xs n.toNat 2400000 with ⟨i, h⟩ | h
      · have := find_none.2 hnone
        rw [h] at this; exact absurd rfl this
      · exact h)
    clear hls h hnone
    rw [HL.out]
    rintro e w2 ⟨rfl, y2⟩
    have x2 := x1.trans y2
    clear c0 c1 c2 c3
    obtain ⟨c0, c1, c2, c3⟩ := CB.out _ x2
    go_wp2_with fail
    refine (from_walk _ _ _ _ s xs n 2400000 _ (G1.ext x2) (S1.ext x2) (V1.ext x2)).mono ?_
    rw [HF.out]
    rintro e w3 ⟨rfl, y3⟩
    have HX := Lib.hid (X0.trans (x2.trans y3))
    clear c0 c1 c2 c3
    go_wp2
    go_ret
    exact ⟨by first | rfl | simp, HX.out⟩

theorem singLeast_args (H : Type) (enc : TypeId × Value → H) (W : World) (base : Nat) (vs : List Value) (ds : List (DataW H)) (_ : ∀ k, (OpenSpec.ofChange Rows.singLeastSpec).cond = some k → k H ds = true) (hL : laidMetH Tryd.prog Rows.singLeastRow.laid W) (hA : Args enc Tryd.prog W base Tryd.f6.params.toList vs ds) :
    Calls Tryd.prog 6 vs.toArray W fun e W' => e = .returned (.bool true) ∧ Ext W W' := by
  rw [Tryd.params6] at hA
  obtain ⟨v0, _, d0, _, rfl, rfl, h0, hA⟩ := hA.cons
  obtain ⟨v1, _, d1, _, rfl, rfl, h1, hA⟩ := hA.cons
  obtain ⟨v2, _, d2, _, rfl, rfl, h2, hA⟩ := hA.cons
  obtain ⟨rfl, rfl⟩ := hA.nil
  obtain ⟨s, vn, vp, vc, rfl, S⟩ := arg_score h0
  obtain ⟨xs, V, n1⟩ := arg_vecs h1
  obtain ⟨n, rfl, _⟩ := h2.int Tryd.underlying3
  exact sglea_law _ _ _ _ s xs n W (gv_of hL) S V

theorem singLeast_met (os : Os) : laidMet Tryd.prog Rows.singLeastRow.laid ((laidWorld os).forCall (fun _ _ => 0) ⟨#[], #[.agg #[.int .i64 0, .slice none 0 0, .slice none 0 0, .slice none 0 0], .slice none 0 0, .int .i64 0], []⟩).memory := laidMet_of_run' 8 (by kernel_rfl) (by kernel_rfl)
theorem singLeast_reads (os : Os) {H : Type} (enc : TypeId × Value → H) : ∃ places, DataW.whole enc Tryd.prog ((laidWorld os).forCall (fun _ _ => 0) ⟨#[], #[.agg #[.int .i64 0, .slice none 0 0, .slice none 0 0, .slice none 0 0], .slice none 0 0, .int .i64 0], []⟩).memory Tryd.f6.params.toList Rows.singLeastSpec.vars false #[.agg #[.int .i64 0, .slice none 0 0, .slice none 0 0, .slice none 0 0], .slice none 0 0, .int .i64 0].toList 8 = some ([.agg [.lit (.int .i64 0), .nil, .nil, .nil], .nil, .lit (.int .i64 0)], [], places) := ⟨[], by kernel_rfl⟩
set_option maxRecDepth 100000 in
theorem singLeast_lifted (os : Os) (started : os.Started) (H : Type) (enc : TypeId × Value → H) (F : Stop.Interp) :
    ReturnsInHanded {} Tryd.checked os 6 .any ((OpenSpec.ofChange Rows.singLeastSpec).preRow enc Tryd.prog Tryd.f6 Rows.singLeastRow.domain false Rows.singLeastRow.laid) (((OpenSpec.ofChange Rows.singLeastSpec).at F).post enc Tryd.prog Tryd.f6 false true false false) := by
  obtain ⟨places, hx⟩ := singLeast_reads os enc
  exact law_row (C := Tryd.checked) (s := (OpenSpec.ofChange Rows.singLeastSpec)) (by kernel_rfl) started (by kernel_rfl) Tryd.func6
    (witness_row_at (enc := enc) (C := Tryd.checked) false (laidWorld os) #[.agg #[.int .i64 0, .slice none 0 0, .slice none 0 0, .slice none 0 0], .slice none 0 0, .int .i64 0] rfl (by kernel_rfl) (by kernel_rfl) (by kernel_rfl) (OpenSpec.preRow_of_cond 8 hx (by kernel_rfl) (fun k hk => by cases hk) (by kernel_rfl) (singLeast_met os)))
    (by kernel_rfl) (by kernel_rfl) (by kernel_rfl) rfl (fun ds h => by match ds, h with | [_, _, _], _ => rfl) (singLeast_args H enc)
theorem singLeast_said : Rows.SingLeastSaid :=
  OpenClaim.holds_of_cond 6 Tryd.f6 rfl rfl rfl rfl rfl rfl rfl ⟨rfl, rfl, rfl, rfl, rfl⟩ rfl rfl rfl rfl rfl (by kernel_rfl) Tryd.func6 (by kernel_rfl)
    (of_decide_eq_true (by kernel_rfl)) (by unfold Func.isWrapper; first | (rw [if_pos (by decide +kernel)]; kernel_rfl) | (rw [if_neg (by decide +kernel)]; exact ⟨rfl, rfl⟩))
    (fun os started H enc _ F => by rw [OpenClaim.pre_eq_preRow]; exact singLeast_lifted os started H enc F)
theorem singLeast_plain (f : FuncId) (fn : Func) (hf : Tryd.pinned.checked.prog.funcNamed "schisma/schismalaw22.SingLeast" = some f) (hfn : Tryd.pinned.checked.prog.funcs[f]? = some fn) :
    false = Tryd.pinned.checked.prog.looks [] ∧ ∀ (j : Nat) t, fn.params[j]? = some t → Tryd.pinned.checked.prog.wantsStandIn t = false := by
  obtain rfl : f = 6 := Option.some.inj ((show Tryd.prog.funcNamed "schisma/schismalaw22.SingLeast" = some 6 by kernel_rfl).symm.trans hf) |>.symm
  obtain rfl : fn = Tryd.f6 := (Option.some.inj (Tryd.func6.symm.trans hfn)).symm
  refine ⟨by kernel_rfl, fun j t ht => ?_⟩
  have hall : Tryd.f6.params.all (fun t => !Tryd.prog.wantsStandIn t) = true := by kernel_rfl
  have := (Array.all_eq_true'.1 hall) t (Array.mem_of_getElem? ht)
  have e : Tryd.prog.wantsStandIn t = false := by simpa using this
  exact e
/-- The card. -/
theorem singLeast_holds : Rows.SingLeastCardSaid :=
  Claim7.holds_tied_plain_at .later [] _ _ _ _ singLeast_said (fun _ h => by cases h) (by kernel_rfl) (fun _ h => by cases h) singLeast_row_tie rfl ⟨rfl, rfl⟩ (by kernel_rfl) rfl singLeast_plain (by kernel_rfl)
end Go.Proofs.YtigigcbondhmmaaDoor
