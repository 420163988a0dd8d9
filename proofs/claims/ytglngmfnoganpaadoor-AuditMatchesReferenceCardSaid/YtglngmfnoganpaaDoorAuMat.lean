/-
  Proved: 'AuditMatchesReference' returns true for every input and leaves its arguments as they were. No condition.
-/
import Derived.Test.YtglngmfnoganpaaDoorAuL
import Derived.Deep.DeepCutAuto
set_option linter.unusedVariables false
namespace Go.Proofs.YtglngmfnoganpaaDoor
open Go.RowKit Go.Sx Go.Sx.Sz Go.Sx.Sc Go.Sx.Au Go.ChangeShapes Go.WideShapes Go.ChangeAt

set_option maxRecDepth 100000 in
set_option maxHeartbeats 4000000 in
theorem aumat_law (vn vp vc vt vo vx : Value) (s : Sc) (l o : List S2) (xs : List V6) (k : Int) (w : World) (G0 : Gl 0 w) (S : ScR w vn vp vc s) (R : Sl w 2 encS vt l) (O : Sl w 2 encS vo o) (V : Sl w 6 V6.list vx xs) :
    Calls Tryd.prog 3 #[.agg #[.int .i64 s.voices, vn, vp, vc], vt, vo, vx, .int .i64 k] w fun e w' => e = .returned (.bool true) ∧ Ext w w' := by
  obtain ⟨an, cn, rfl, -, -, hln⟩ := S.nt.len
  obtain ⟨ap, cp, rfl, -, -, hlp⟩ := S.pr.len
  obtain ⟨ac, cc, rfl, -, -, hlc⟩ := S.cd.len
  obtain ⟨at', ct, rfl, -, -, hlt⟩ := R.len
  obtain ⟨ao, co, rfl, -, -, hlo⟩ := O.len
  obtain ⟨ax, cx, rfl, -, -, hlx⟩ := V.len
  have X0 : Ext w (w.alloc (.cells #[.int .i64 s.voices, .slice an s.notes.length cn, .slice ap s.pairs.length cp, .slice ac s.cads.length cc] 26)) := (by repeat (first | with_reducible exact Ext.refl _ | with_reducible assumption | with_reducible apply Ext.alloc | with_reducible apply Ext.drew | (with_reducible refine Ext.setCell ?_ (by (try simp) <;> omega) _)))
  have b0_0 := block_new w (.cells #[.int .i64 s.voices, .slice an s.notes.length cn, .slice ap s.pairs.length cp, .slice ac s.cads.length cc] 26)
  obtain ⟨W0, hW0⟩ : ∃ W, (w.alloc (.cells #[.int .i64 s.voices, .slice an s.notes.length cn, .slice ap s.pairs.length cp, .slice ac s.cads.length cc] 26)) = W := ⟨_, rfl⟩
  obtain ⟨B0, hB0⟩ : ∃ B, w.heap.size = B := ⟨_, rfl⟩
  rw [hW0] at X0 b0_0
  rw [hB0] at b0_0
  have HZ0 : Hid (w.heap.size ≤ B0) := Lib.hid (by omega)
  have HW0 := Lib.hid hW0; have HB0 := Lib.hid hB0
  clear hW0 hB0
  have CB := Lib.hid (boxS39 b0_0)
  have S1 := S.ext X0; have R1 := R.ext X0; have O1 := O.ext X0; have V1 := V.ext X0; have G1 := G0.ext X0
  clear S R O V G0 b0_0
  go_enter Tryd.func3, Tryd.ntmps3
  go_wp2_with fail
  rw [HW0.out, HB0.out]
  clear HW0 HB0
  refine (head_walk _ G1).mono ?_
  rintro e w1 ⟨rfl, x1⟩
  obtain ⟨bad, hbad⟩ : ∃ b, ((!fewB s && scB s) || decide ((100 : Int) < (o.length : Int))) = b := ⟨_, rfl⟩
  have HBAD := Lib.hid hbad
  clear hbad
  go_upto_region 2 with fail
  go_cut [32] (fun c wx => c = .bool bad ∧ Ext w1 wx)
  case first =>
    obtain ⟨c0, c1, c2, c3⟩ := CB.out _ x1
    go_wp2_with fail
    refine (few_walk _ _ _ s _ (S1.ext x1)).mono ?_
    cases hf : fewB s with
    | true =>
      have HF := Lib.hid hf
      rintro e w2 ⟨rfl, y2⟩
      clear c0 c1 c2 c3 hf
      by_cases h100 : (100 : Int) < (o.length : Int)
      · have h1 : decide ((100 : Int) < (o.length : Int)) = true := decide_eq_true h100
        have HB : Hid (bad = true) := Lib.hid (by rw [← HBAD.out, h1, Bool.or_true])
        clear h100
        go_wp2
        go_meet
        exact ⟨by rw [HB.out], y2⟩
      · have h1 : decide ((100 : Int) < (o.length : Int)) = false := decide_eq_false h100
        have HB : Hid (bad = false) := Lib.hid (by rw [← HBAD.out, h1, HF.out]; rfl)
        clear h100
        go_wp2
        go_meet
        exact ⟨by rw [HB.out], y2⟩
    | false =>
      have HF := Lib.hid hf
      rintro e w2 ⟨rfl, y2⟩
      clear c0 c1 c2 c3 hf
      obtain ⟨c0, c1, c2, c3⟩ := CB.out _ (x1.trans y2)
      go_wp2_with fail
      refine (rvalid19_walk _ _ _ s _ (S1.ext (x1.trans y2))).mono ?_
      cases hv : scB s with
      | true =>
        have HB : Hid (bad = true) := Lib.hid (by rw [← HBAD.out, HF.out, hv]; rfl)
        clear hv
        rintro e w3 ⟨rfl, y3⟩
        clear c0 c1 c2 c3
        go_wp2
        go_meet
        exact ⟨by rw [HB.out], y2.trans y3⟩
      | false =>
        have HV := Lib.hid hv
        clear hv
        rintro e w3 ⟨rfl, y3⟩
        clear c0 c1 c2 c3
        by_cases h100 : (100 : Int) < (o.length : Int)
        · have h1 : decide ((100 : Int) < (o.length : Int)) = true := decide_eq_true h100
          have HB : Hid (bad = true) := Lib.hid (by rw [← HBAD.out, h1, Bool.or_true])
          clear h100
          go_wp2
          go_meet
          exact ⟨by rw [HB.out], y2.trans y3⟩
        · have h1 : decide ((100 : Int) < (o.length : Int)) = false := decide_eq_false h100
          have HB : Hid (bad = false) := Lib.hid (by rw [← HBAD.out, h1, HV.out, Bool.and_false]; rfl)
          clear h100
          go_wp2
          go_meet
          exact ⟨by rw [HB.out], y2.trans y3⟩
  case rest =>
    obtain ⟨rfl, y2⟩ := hcut
    have x2 := x1.trans y2
    cases bad with
    | true =>
      go_wp2
      go_ret
      exact ⟨rfl, X0.trans x2⟩
    | false =>
      have h100 : o.length ≤ 100 := by
        have := HBAD.out
        rw [Bool.or_eq_false_iff, decide_eq_false_iff_not] at this
        omega
      obtain ⟨⟨⟨ji, jv, jb⟩, je⟩, hj⟩ : ∃ r, judgeR s l k = r := ⟨_, rfl⟩
      obtain ⟨⟨al, ae⟩, ha⟩ : ∃ r, auditR s l = r := ⟨_, rfl⟩
      obtain ⟨⟨nl, ne⟩, hn⟩ : ∃ r, narrowQ l o = r := ⟨_, rfl⟩
      obtain ⟨⟨il, ie⟩, hi⟩ : ∃ r, idealR s xs = r := ⟨_, rfl⟩
      have HJ := Lib.hid hj; have HA := Lib.hid ha; have HN := Lib.hid hn; have HI := Lib.hid hi
      have e1 : (ji == ji) = true := beq_self_eq_true _
      have e2 : (jv == jv) = true := beq_self_eq_true _
      have e3 : (jb == jb) = true := beq_self_eq_true _
      have e4 : (je == je) = true := beq_self_eq_true _
      have e5 : (ae == ae) = true := beq_self_eq_true _
      have e6 : (ne == ne) = true := beq_self_eq_true _
      have e7 : (ie == ie) = true := beq_self_eq_true _
      clear hj ha hn hi
      obtain ⟨c0, c1, c2, c3⟩ := CB.out _ x2
      go_wp2_with fail
      refine (judge_walk _ _ _ _ s l k _ (G1.ext x2) (S1.ext x2) (R1.ext x2)).mono ?_
      rw [HJ.out]
      rintro e w3 ⟨rfl, y3⟩
      have f3 := Ext.alloc' w3 (.cells #[.int .i64 ji, .int .i64 jv, .int .i64 jb] 32)
      have b3 := block_new w3 (.cells #[.int .i64 ji, .int .i64 jv, .int .i64 jb] 32)
      have x3 := x2.trans (y3.trans f3)
      clear c0 c1 c2 c3
      obtain ⟨c0, c1, c2, c3⟩ := CB.out _ x3
      go_wp2_with fail
      refine (rjudge_walk _ _ _ _ s l k _ (S1.ext x3) (R1.ext x3)).mono ?_
      rw [HJ.out]
      rintro e w4 ⟨rfl, y4⟩
      have f4 := Ext.alloc' w4 (.cells #[.int .i64 ji, .int .i64 jv, .int .i64 jb] 32)
      have b4 := block_new w4 (.cells #[.int .i64 ji, .int .i64 jv, .int .i64 jb] 32)
      have b3' := block_ext (y4.trans f4) b3
      have d0 := block_cell b3' 0 _ rfl; have d1 := block_cell b3' 1 _ rfl; have d2 := block_cell b3' 2 _ rfl
      have g0 := block_cell b4 0 _ rfl; have g1 := block_cell b4 1 _ rfl; have g2 := block_cell b4 2 _ rfl
      have x4 := x3.trans (y4.trans f4)
      clear c0 c1 c2 c3
      obtain ⟨c0, c1, c2, c3⟩ := CB.out _ x4
      go_wp2_with fail
      refine (audit_walk _ _ _ _ s l _ (G1.ext x4) (S1.ext x4) (R1.ext x4)).mono ?_
      rw [HA.out]
      rintro e w5 ⟨v5, rfl, L5, y5⟩
      have x5 := x4.trans y5
      clear c0 c1 c2 c3 d0 d1 d2 g0 g1 g2 b3 b4 b3' f3 f4
      obtain ⟨c0, c1, c2, c3⟩ := CB.out _ x5
      go_wp2_with fail
      refine (raudit_walk _ _ _ _ s l _ (S1.ext x5) (R1.ext x5)).mono ?_
      rw [HA.out]
      rintro e w6 ⟨v6, rfl, L6, y6⟩
      have x6 := x5.trans y6
      clear c0 c1 c2 c3
      go_wp2_with fail
      refine (samefd_walk _ _ _ _ _ (L5.ext y6) L6).mono ?_
      rw [decide_eq_true rfl]
      rintro e w7 ⟨rfl, y7⟩
      have x7 := x6.trans y7
      clear L5 L6
      go_wp2_with fail
      refine (narrow_walk _ _ l o (fun h9 => by omega) _ (R1.ext x7) (O1.ext x7)).mono ?_
      rw [HN.out]
      rintro e w8 ⟨v8, rfl, L8, y8⟩
      have x8 := x7.trans y8
      go_wp2_with fail
      refine (rnarrow_walk _ _ l o (fun h9 => by omega) _ (R1.ext x8) (O1.ext x8)).mono ?_
      rw [HN.out]
      rintro e w9 ⟨v9, rfl, L9, y9⟩
      have x9 := x8.trans y9
      go_wp2_with fail
      refine (samesz_walk _ _ _ _ _ (L8.ext y9) L9).mono ?_
      rw [decide_eq_true rfl]
      rintro e w10 ⟨rfl, y10⟩
      have x10 := x9.trans y10
      clear L8 L9
      obtain ⟨c0, c1, c2, c3⟩ := CB.out _ x10
      go_wp2_with fail
      refine (ideal_walk _ _ _ _ s xs _ (G1.ext x10) (S1.ext x10) (V1.ext x10)).mono ?_
      rw [HI.out]
      rintro e w11 ⟨v11, rfl, L11, y11⟩
      have x11 := x10.trans y11
      clear c0 c1 c2 c3
      obtain ⟨c0, c1, c2, c3⟩ := CB.out _ x11
      go_wp2_with fail
      refine (rideal_walk _ _ _ _ s xs _ (S1.ext x11) (V1.ext x11)).mono ?_
      rw [HI.out]
      rintro e w12 ⟨v12, rfl, L12, y12⟩
      have x12 := x11.trans y12
      clear c0 c1 c2 c3
      go_wp2_with fail
      refine (samesz_walk _ _ _ _ _ (L11.ext y12) L12).mono ?_
      rw [decide_eq_true rfl]
      rintro e w13 ⟨rfl, y13⟩
      have HX := Lib.hid (X0.trans (x12.trans y13))
      go_wp2
      go_ret
      exact ⟨rfl, HX.out⟩

theorem auditMatchesReference_args (H : Type) (enc : TypeId × Value → H) (W : World) (base : Nat) (vs : List Value) (ds : List (DataW H)) (_ : ∀ k, (OpenSpec.ofChange Rows.auditMatchesReferenceSpec).cond = some k → k H ds = true) (hL : laidMetH Tryd.prog Rows.auditMatchesReferenceRow.laid W) (hA : Args enc Tryd.prog W base Tryd.f3.params.toList vs ds) :
    Calls Tryd.prog 3 vs.toArray W fun e W' => e = .returned (.bool true) ∧ Ext W W' := by
  rw [Tryd.params3] at hA
  obtain ⟨v0, _, d0, _, rfl, rfl, h0, hA⟩ := hA.cons
  obtain ⟨v1, _, d1, _, rfl, rfl, h1, hA⟩ := hA.cons
  obtain ⟨v2, _, d2, _, rfl, rfl, h2, hA⟩ := hA.cons
  obtain ⟨v3, _, d3, _, rfl, rfl, h3, hA⟩ := hA.cons
  obtain ⟨v4, _, d4, _, rfl, rfl, h4, hA⟩ := hA.cons
  obtain ⟨rfl, rfl⟩ := hA.nil
  obtain ⟨s, vn, vp, vc, rfl, S⟩ := arg_score h0
  obtain ⟨l1, S1, n1⟩ := arg_sizes h1
  obtain ⟨l2, S2, n2⟩ := arg_sizes h2
  obtain ⟨l3, S3, n3⟩ := arg_vecs h3
  obtain ⟨k, rfl, _⟩ := h4.int Tryd.underlying3
  exact aumat_law _ _ _ _ _ _ s l1 l2 l3 k W (gv_of hL) S S1 S2 S3

theorem auditMatchesReference_met (os : Os) : laidMet Tryd.prog Rows.auditMatchesReferenceRow.laid ((laidWorld os).forCall (fun _ _ => 0) ⟨#[], #[.agg #[.int .i64 0, .slice none 0 0, .slice none 0 0, .slice none 0 0], .slice none 0 0, .slice none 0 0, .slice none 0 0, .int .i64 0], []⟩).memory := laidMet_of_run' 8 (by kernel_rfl) (by kernel_rfl)
theorem auditMatchesReference_reads (os : Os) {H : Type} (enc : TypeId × Value → H) : ∃ places, DataW.whole enc Tryd.prog ((laidWorld os).forCall (fun _ _ => 0) ⟨#[], #[.agg #[.int .i64 0, .slice none 0 0, .slice none 0 0, .slice none 0 0], .slice none 0 0, .slice none 0 0, .slice none 0 0, .int .i64 0], []⟩).memory Tryd.f3.params.toList Rows.auditMatchesReferenceSpec.vars false #[.agg #[.int .i64 0, .slice none 0 0, .slice none 0 0, .slice none 0 0], .slice none 0 0, .slice none 0 0, .slice none 0 0, .int .i64 0].toList 8 = some ([.agg [.lit (.int .i64 0), .nil, .nil, .nil], .nil, .nil, .nil, .lit (.int .i64 0)], [], places) := ⟨[], by kernel_rfl⟩
set_option maxRecDepth 100000 in
theorem auditMatchesReference_lifted (os : Os) (started : os.Started) (H : Type) (enc : TypeId × Value → H) (F : Stop.Interp) :
    ReturnsInHanded {} Tryd.checked os 3 .any ((OpenSpec.ofChange Rows.auditMatchesReferenceSpec).preRow enc Tryd.prog Tryd.f3 Rows.auditMatchesReferenceRow.domain false Rows.auditMatchesReferenceRow.laid) (((OpenSpec.ofChange Rows.auditMatchesReferenceSpec).at F).post enc Tryd.prog Tryd.f3 false true false false) := by
  obtain ⟨places, hx⟩ := auditMatchesReference_reads os enc
  exact law_row (C := Tryd.checked) (s := (OpenSpec.ofChange Rows.auditMatchesReferenceSpec)) (by kernel_rfl) started (by kernel_rfl) Tryd.func3
    (witness_row_at (enc := enc) (C := Tryd.checked) false (laidWorld os) #[.agg #[.int .i64 0, .slice none 0 0, .slice none 0 0, .slice none 0 0], .slice none 0 0, .slice none 0 0, .slice none 0 0, .int .i64 0] rfl (by kernel_rfl) (by kernel_rfl) (by kernel_rfl) (OpenSpec.preRow_of_cond 8 hx (by kernel_rfl) (fun k hk => by cases hk) (by kernel_rfl) (auditMatchesReference_met os)))
    (by kernel_rfl) (by kernel_rfl) (by kernel_rfl) rfl (fun ds h => by match ds, h with | [_, _, _, _, _], _ => rfl) (auditMatchesReference_args H enc)
theorem auditMatchesReference_said : Rows.AuditMatchesReferenceSaid :=
  OpenClaim.holds_of_cond 3 Tryd.f3 rfl rfl rfl rfl rfl rfl rfl ⟨rfl, rfl, rfl, rfl, rfl⟩ rfl rfl rfl rfl rfl (by kernel_rfl) Tryd.func3 (by kernel_rfl)
    (of_decide_eq_true (by kernel_rfl)) (by unfold Func.isWrapper; first | (rw [if_pos (by decide +kernel)]; kernel_rfl) | (rw [if_neg (by decide +kernel)]; exact ⟨rfl, rfl⟩))
    (fun os started H enc _ F => by rw [OpenClaim.pre_eq_preRow]; exact auditMatchesReference_lifted os started H enc F)
theorem auditMatchesReference_plain (f : FuncId) (fn : Func) (hf : Tryd.pinned.checked.prog.funcNamed "schisma/schismalaw39.AuditMatchesReference" = some f) (hfn : Tryd.pinned.checked.prog.funcs[f]? = some fn) :
    false = Tryd.pinned.checked.prog.looks [] ∧ ∀ (j : Nat) t, fn.params[j]? = some t → Tryd.pinned.checked.prog.wantsStandIn t = false := by
  obtain rfl : f = 3 := Option.some.inj ((show Tryd.prog.funcNamed "schisma/schismalaw39.AuditMatchesReference" = some 3 by kernel_rfl).symm.trans hf) |>.symm
  obtain rfl : fn = Tryd.f3 := (Option.some.inj (Tryd.func3.symm.trans hfn)).symm
  refine ⟨by kernel_rfl, fun j t ht => ?_⟩
  have hall : Tryd.f3.params.all (fun t => !Tryd.prog.wantsStandIn t) = true := by kernel_rfl
  have := (Array.all_eq_true'.1 hall) t (Array.mem_of_getElem? ht)
  have e : Tryd.prog.wantsStandIn t = false := by simpa using this
  exact e
/-- The card. -/
theorem auditMatchesReference_holds : Rows.AuditMatchesReferenceCardSaid :=
  Claim7.holds_tied_plain_at .later [] _ _ _ _ auditMatchesReference_said (fun _ h => by cases h) (by kernel_rfl) (fun _ h => by cases h) auditMatchesReference_row_tie rfl ⟨rfl, rfl⟩ (by kernel_rfl) rfl auditMatchesReference_plain (by kernel_rfl)
end Go.Proofs.YtglngmfnoganpaaDoor
