/-
  Proved: 'AuditGreater' returns true for every input and leaves its arguments as they were. No condition.
-/
import Derived.Test.YtglngmfnoganpaaDoorAuReb
set_option linter.unusedVariables false
namespace Go.Proofs.YtglngmfnoganpaaDoor
open Go.RowKit Go.Sx Go.Sx.Sz Go.Sx.Sc Go.Sx.Au Go.ChangeShapes Go.WideShapes Go.ChangeAt

set_option maxRecDepth 100000 in
set_option maxHeartbeats 8000000 in
theorem augre_law (vn vp vc vt : Value) (s : Sc) (l : List S2) (u b : Int) (hu : 0 ≤ u ∧ u ≤ 255) (w : World) (G0 : Gl 0 w) (S : ScR w vn vp vc s) (R : Sl w 2 encS vt l) :
    Calls Tryd.prog 7 #[.agg #[.int .i64 s.voices, vn, vp, vc], vt, .int .u8 u, .int .i64 b] w fun e w' => e = .returned (.bool true) ∧ Ext w w' := by
  obtain ⟨an, cn, rfl, -, -, hln⟩ := S.nt.len
  obtain ⟨ap, cp, rfl, -, -, hlp⟩ := S.pr.len
  obtain ⟨ac, cc, rfl, -, -, hlc⟩ := S.cd.len
  obtain ⟨at', ct, rfl, -, -, hlt⟩ := R.len
  obtain ⟨u1, u2⟩ := hu
  have X0 : Ext w (w.alloc (.cells #[.int .i64 s.voices, .slice an s.notes.length cn, .slice ap s.pairs.length cp, .slice ac s.cads.length cc] 26)) := (by repeat (first | with_reducible exact Ext.refl _ | with_reducible assumption | with_reducible apply Ext.alloc | with_reducible apply Ext.drew | (with_reducible refine Ext.setCell ?_ (by (try simp) <;> omega) _)))
  have b0_0 := block_new w (.cells #[.int .i64 s.voices, .slice an s.notes.length cn, .slice ap s.pairs.length cp, .slice ac s.cads.length cc] 26)
  obtain ⟨W0, hW0⟩ : ∃ W, (w.alloc (.cells #[.int .i64 s.voices, .slice an s.notes.length cn, .slice ap s.pairs.length cp, .slice ac s.cads.length cc] 26)) = W := ⟨_, rfl⟩
  obtain ⟨B0, hB0⟩ : ∃ B, w.heap.size = B := ⟨_, rfl⟩
  rw [hW0] at X0 b0_0
  rw [hB0] at b0_0
  have HZ0 : Hid (w.heap.size ≤ B0) := Lib.hid (by omega)
  have HW0 := Lib.hid hW0; have HB0 := Lib.hid hB0
  clear hW0 hB0
  have CB := Lib.hid (boxS39 b0_0)
  have S1 := S.ext X0; have R1 := R.ext X0; have G1 := G0.ext X0
  clear S R G0 b0_0
  go_enter Tryd.func7, Tryd.ntmps7
  go_wp2_with fail
  rw [HW0.out, HB0.out]
  clear HW0 HB0
  refine (head_walk _ G1).mono ?_
  rintro e w1 ⟨rfl, x1⟩
  obtain ⟨c0, c1, c2, c3⟩ := CB.out _ x1
  go_wp2_with fail
  refine (few_walk _ _ _ s _ (S1.ext x1)).mono ?_
  cases hf : fewB s with
  | false =>
    clear hf
    rintro e w2 ⟨rfl, y2⟩
    clear c0 c1 c2 c3
    go_wp2
    go_ret
    exact ⟨rfl, X0.trans (x1.trans y2)⟩
  | true =>
  clear hf
  rintro e w2 ⟨rfl, y2⟩
  have x2 := x1.trans y2
  clear c0 c1 c2 c3
  obtain ⟨c0, c1, c2, c3⟩ := CB.out _ x2
  by_cases hp : s.pairs.length = 0
  · have e1 : ((s.pairs.length : Int) == 0) = true := by rw [beq_iff_eq]; omega
    clear hp
    go_wp2
    go_ret
    exact ⟨rfl, X0.trans x2⟩
  have e1 : ((s.pairs.length : Int) == 0) = false := by rw [beq_eq_false_iff_ne]; omega
  have HP : Hid (0 < s.pairs.length) := Lib.hid (by omega)
  clear hp
  by_cases hb0 : b < 0
  · go_wp2
    go_ret
    exact ⟨rfl, X0.trans x2⟩
  by_cases hb1 : 100000 < b
  · go_wp2
    go_ret
    exact ⟨rfl, X0.trans x2⟩
  have HB : Hid (0 ≤ b ∧ b ≤ 100000) := Lib.hid (by omega)
  go_wp2_with fail
  refine (rtones_walk _ _ _ _ s l _ (S1.ext x2) (R1.ext x2)).mono ?_
  cases hok : tonesB s l with
  | false =>
    clear hok
    rintro e w3 ⟨rfl, y3⟩
    clear c0 c1 c2 c3
    go_wp2
    go_ret
    exact ⟨rfl, X0.trans (x2.trans y3)⟩
  | true =>
  have HO := Lib.hid hok
  have HT := Lib.hid (tonesB_iff.1 hok)
  clear hok
  rintro e w3 ⟨rfl, y3⟩
  have x3 := x2.trans y3
  clear c0 c1 c2 c3 e1
  obtain ⟨c0, c1, c2, c3⟩ := CB.out _ x3
  obtain ⟨m, hm, hml⟩ := pair_at HP.out u1
  have HM := Lib.hid hm
  have hpos : (0 : Int) < (s.pairs.length : Int) := by omega
  have hne : ¬ ((s.pairs.length : Int) = 0) := by omega
  have HJ1 := Lib.hid (judgeR_at HO.out hml)
  have HJ2 := Lib.hid (reb_judge HT.out hml HB.out)
  obtain ⟨-, -, -, hbd, hlh⟩ := pairD_ok HT.out hml
  have hg1 : (s.P m).bound ≤ b → _ := fun h => verd_greater hbd.1 h hlh
  have hg2 : b ≤ (s.P m).bound → _ := fun h => verd_greater HB.out.1 h hlh
  have hfd : fdOf s l m = findZ m (pairD s l (s.P m)) (s.P m).bound := rfl
  rw [hfd] at HJ1
  clear hm hfd
  obtain ⟨bp, op, rfl, q⟩ := Sl.pr S1.pr m hml
  rw [← Sc.P_eq hml] at q
  obtain ⟨-, -, -, -, -, -, -, -, q8⟩ := q
  obtain ⟨p0, hp0⟩ : ∃ z, (s.P m).bound = z := ⟨_, rfl⟩
  obtain ⟨d, hd⟩ : ∃ z, pairD s l (s.P m) = z := ⟨_, rfl⟩
  rw [hp0] at HJ1 hbd hg1 hg2 q8
  rw [hd] at HJ1 HJ2 hg1 hg2 hlh
  have hs1 : verdZ d p0 = verdZ d b → bndZ d p0 = bndZ d b := fun h => bnd_same h
  obtain ⟨va, hva⟩ : ∃ z, verdZ d p0 = z := ⟨_, rfl⟩
  obtain ⟨vb, hvb⟩ : ∃ z, verdZ d b = z := ⟨_, rfl⟩
  obtain ⟨ba, hba⟩ : ∃ z, bndZ d p0 = z := ⟨_, rfl⟩
  obtain ⟨bb, hbb⟩ : ∃ z, bndZ d b = z := ⟨_, rfl⟩
  unfold findZ at HJ1 HJ2
  rw [hva, hba] at HJ1
  rw [hvb, hbb] at HJ2
  rw [hva, hvb] at hg1 hg2 hs1
  rw [hba, hbb] at hs1
  have HG1 := Lib.hid hg1; have HG2 := Lib.hid hg2; have HS := Lib.hid hs1
  clear hp0 hd hva hvb hba hbb hg1 hg2 hs1 hbd hlh
  have i1 : (0 : Int) ≤ (m : Int) := by omega
  have i2 : (m : Int) < (s.pairs.length : Int) := by omega
  go_wp2_with fail
  rw [HM.out]
  refine (judge_walk _ _ _ _ s l m _ (G1.ext x3) (S1.ext x3) (R1.ext x3)).mono ?_
  rw [HJ1.out]
  rintro e w4 ⟨rfl, y4⟩
  have f4 := Ext.alloc' w4 (.cells #[.int .i64 m, .int .i64 va, .int .i64 ba] 32)
  have b4 := block_new w4 (.cells #[.int .i64 m, .int .i64 va, .int .i64 ba] 32)
  have x4 := x3.trans (y4.trans f4)
  clear c0 c1 c2 c3
  obtain ⟨c0, c1, c2, c3⟩ := CB.out _ x4
  have hpl : s.pairs.length ≤ 400 := HT.out.1.sz.2.2.1
  go_wp2_with fail
  refine (rebound_walk _ _ _ s hpl m hml b _ (S1.ext x4)).mono ?_
  rintro e w5 ⟨up, rfl, S5, y5⟩
  have x5 := x4.trans y5
  clear c0 c1 c2 c3
  go_wp2_with fail
  refine (judge_walk _ _ _ _ (rebS s m b) l m _ (G1.ext x5) S5 (R1.ext x5)).mono ?_
  rw [HJ2.out]
  rintro e w6 ⟨rfl, y6⟩
  have f6 := Ext.alloc' w6 (.cells #[.int .i64 m, .int .i64 vb, .int .i64 bb] 32)
  have b6 := block_new w6 (.cells #[.int .i64 m, .int .i64 vb, .int .i64 bb] 32)
  have b4' := block_ext (y5.trans (y6.trans f6)) b4
  have x6 := x5.trans (y6.trans f6)
  have q8' := x6.cell q8
  have d0 := block_cell b4' 0 _ rfl; have d1 := block_cell b4' 1 _ rfl; have d2 := block_cell b4' 2 _ rfl
  have g0 := block_cell b6 0 _ rfl; have g1 := block_cell b6 1 _ rfl; have g2 := block_cell b6 2 _ rfl
  obtain ⟨c0, c1, c2, c3⟩ := CB.out _ x6
  have em : ((m : Int) == (m : Int)) = true := beq_self_eq_true _
  have HX := Lib.hid (X0.trans x6)
  clear b4 b6 b4' f4 f6 q8 S5
  by_cases hle : p0 ≤ b
  · obtain ⟨k1, k2⟩ := HG1.out hle
    by_cases ha : va = 1
    · obtain rfl : vb = va := by rw [k1 ha, ha]
      obtain rfl := HS.out rfl
      subst ha
      go_wp2
      go_ret
      exact ⟨by first | rfl | simp, HX.out⟩
    · have ea : (va != 1) = true := bne_iff_ne.2 ha
      by_cases hb : vb = 2
      · obtain rfl : va = vb := by rw [k2 hb, hb]
        obtain rfl := HS.out rfl
        subst hb
        clear ha ea
        go_wp2
        go_ret
        exact ⟨by first | rfl | simp, HX.out⟩
      · have eb : (vb != 2) = true := bne_iff_ne.2 hb
        clear ha hb k1 k2
        go_wp2
        go_ret
        exact ⟨by first | rfl | simp, HX.out⟩
  · obtain ⟨k1, k2⟩ := HG2.out (by omega)
    by_cases ha : vb = 1
    · obtain rfl : vb = va := by rw [k1 ha, ha]
      obtain rfl := HS.out rfl
      subst ha
      go_wp2
      go_ret
      exact ⟨by first | rfl | simp, HX.out⟩
    · have ea : (vb != 1) = true := bne_iff_ne.2 ha
      by_cases hb : va = 2
      · obtain rfl : va = vb := by rw [k2 hb, hb]
        obtain rfl := HS.out rfl
        subst hb
        clear ha ea
        go_wp2
        go_ret
        exact ⟨by first | rfl | simp, HX.out⟩
      · have eb : (va != 2) = true := bne_iff_ne.2 hb
        clear ha hb k1 k2
        go_wp2
        go_ret
        exact ⟨by first | rfl | simp, HX.out⟩

theorem auditGreater_args (H : Type) (enc : TypeId × Value → H) (W : World) (base : Nat) (vs : List Value) (ds : List (DataW H)) (_ : ∀ k, (OpenSpec.ofChange Rows.auditGreaterSpec).cond = some k → k H ds = true) (hL : laidMetH Tryd.prog Rows.auditGreaterRow.laid W) (hA : Args enc Tryd.prog W base Tryd.f7.params.toList vs ds) :
    Calls Tryd.prog 7 vs.toArray W fun e W' => e = .returned (.bool true) ∧ Ext W W' := by
  rw [Tryd.params7] at hA
  obtain ⟨v0, _, d0, _, rfl, rfl, h0, hA⟩ := hA.cons
  obtain ⟨v1, _, d1, _, rfl, rfl, h1, hA⟩ := hA.cons
  obtain ⟨v2, _, d2, _, rfl, rfl, h2, hA⟩ := hA.cons
  obtain ⟨v3, _, d3, _, rfl, rfl, h3, hA⟩ := hA.cons
  obtain ⟨rfl, rfl⟩ := hA.nil
  obtain ⟨s, vn, vp, vc, rfl, S⟩ := arg_score h0
  obtain ⟨l1, S1, n1⟩ := arg_sizes h1
  obtain ⟨n, rfl, s0, s1⟩ := h2.int Tryd.underlying5
  obtain ⟨k, rfl, _⟩ := h3.int Tryd.underlying3
  exact augre_law _ _ _ _ s l1 n k ⟨s0, s1⟩ W (gv_of hL) S S1

theorem auditGreater_met (os : Os) : laidMet Tryd.prog Rows.auditGreaterRow.laid ((laidWorld os).forCall (fun _ _ => 0) ⟨#[], #[.agg #[.int .i64 0, .slice none 0 0, .slice none 0 0, .slice none 0 0], .slice none 0 0, .int .u8 0, .int .i64 0], []⟩).memory := laidMet_of_run' 8 (by kernel_rfl) (by kernel_rfl)
theorem auditGreater_reads (os : Os) {H : Type} (enc : TypeId × Value → H) : ∃ places, DataW.whole enc Tryd.prog ((laidWorld os).forCall (fun _ _ => 0) ⟨#[], #[.agg #[.int .i64 0, .slice none 0 0, .slice none 0 0, .slice none 0 0], .slice none 0 0, .int .u8 0, .int .i64 0], []⟩).memory Tryd.f7.params.toList Rows.auditGreaterSpec.vars false #[.agg #[.int .i64 0, .slice none 0 0, .slice none 0 0, .slice none 0 0], .slice none 0 0, .int .u8 0, .int .i64 0].toList 8 = some ([.agg [.lit (.int .i64 0), .nil, .nil, .nil], .nil, .lit (.int .u8 0), .lit (.int .i64 0)], [], places) := ⟨[], by kernel_rfl⟩
set_option maxRecDepth 100000 in
theorem auditGreater_lifted (os : Os) (started : os.Started) (H : Type) (enc : TypeId × Value → H) (F : Stop.Interp) :
    ReturnsInHanded {} Tryd.checked os 7 .any ((OpenSpec.ofChange Rows.auditGreaterSpec).preRow enc Tryd.prog Tryd.f7 Rows.auditGreaterRow.domain false Rows.auditGreaterRow.laid) (((OpenSpec.ofChange Rows.auditGreaterSpec).at F).post enc Tryd.prog Tryd.f7 false true false false) := by
  obtain ⟨places, hx⟩ := auditGreater_reads os enc
  exact law_row (C := Tryd.checked) (s := (OpenSpec.ofChange Rows.auditGreaterSpec)) (by kernel_rfl) started (by kernel_rfl) Tryd.func7
    (witness_row_at (enc := enc) (C := Tryd.checked) false (laidWorld os) #[.agg #[.int .i64 0, .slice none 0 0, .slice none 0 0, .slice none 0 0], .slice none 0 0, .int .u8 0, .int .i64 0] rfl (by kernel_rfl) (by kernel_rfl) (by kernel_rfl) (OpenSpec.preRow_of_cond 8 hx (by kernel_rfl) (fun k hk => by cases hk) (by kernel_rfl) (auditGreater_met os)))
    (by kernel_rfl) (by kernel_rfl) (by kernel_rfl) rfl (fun ds h => by match ds, h with | [_, _, _, _], _ => rfl) (auditGreater_args H enc)
theorem auditGreater_said : Rows.AuditGreaterSaid :=
  OpenClaim.holds_of_cond 7 Tryd.f7 rfl rfl rfl rfl rfl rfl rfl ⟨rfl, rfl, rfl, rfl, rfl⟩ rfl rfl rfl rfl rfl (by kernel_rfl) Tryd.func7 (by kernel_rfl)
    (of_decide_eq_true (by kernel_rfl)) (by unfold Func.isWrapper; first | (rw [if_pos (by decide +kernel)]; kernel_rfl) | (rw [if_neg (by decide +kernel)]; exact ⟨rfl, rfl⟩))
    (fun os started H enc _ F => by rw [OpenClaim.pre_eq_preRow]; exact auditGreater_lifted os started H enc F)
theorem auditGreater_plain (f : FuncId) (fn : Func) (hf : Tryd.pinned.checked.prog.funcNamed "schisma/schismalaw39.AuditGreater" = some f) (hfn : Tryd.pinned.checked.prog.funcs[f]? = some fn) :
    false = Tryd.pinned.checked.prog.looks [] ∧ ∀ (j : Nat) t, fn.params[j]? = some t → Tryd.pinned.checked.prog.wantsStandIn t = false := by
  obtain rfl : f = 7 := Option.some.inj ((show Tryd.prog.funcNamed "schisma/schismalaw39.AuditGreater" = some 7 by kernel_rfl).symm.trans hf) |>.symm
  obtain rfl : fn = Tryd.f7 := (Option.some.inj (Tryd.func7.symm.trans hfn)).symm
  refine ⟨by kernel_rfl, fun j t ht => ?_⟩
  have hall : Tryd.f7.params.all (fun t => !Tryd.prog.wantsStandIn t) = true := by kernel_rfl
  have := (Array.all_eq_true'.1 hall) t (Array.mem_of_getElem? ht)
  have e : Tryd.prog.wantsStandIn t = false := by simpa using this
  exact e
/-- The card. -/
theorem auditGreater_holds : Rows.AuditGreaterCardSaid :=
  Claim7.holds_tied_plain_at .later [] _ _ _ _ auditGreater_said (fun _ h => by cases h) (by kernel_rfl) (fun _ h => by cases h) auditGreater_row_tie rfl ⟨rfl, rfl⟩ (by kernel_rfl) rfl auditGreater_plain (by kernel_rfl)
end Go.Proofs.YtglngmfnoganpaaDoor
