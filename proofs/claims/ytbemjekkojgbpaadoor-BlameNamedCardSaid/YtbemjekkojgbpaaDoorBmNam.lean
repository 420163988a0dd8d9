/-
  Proved: 'BlameNamed' returns true for every input and leaves its arguments as they were. No condition.
-/
import Derived.Test.YtbemjekkojgbpaaDoorBmI
import Derived.Test.YtbemjekkojgbpaaDoorBlN
import Derived.Test.YtbemjekkojgbpaaDoorR23A
import Derived.Test.YtbemjekkojgbpaaDoorAuD
import Derived.Test.YtbemjekkojgbpaaDoorBmL
import Derived.Deep.MidRow
set_option linter.unusedVariables false
namespace Go.Sx.Bl
open Go.Sx.Sz Go.Sx.Sc Go.Sx.Au Go.Sx.Po
theorem nam_facts (s : Sc) (h : List V6) (l : List S2) : (chgR s h l).2 ≠ 0 ∨ ((chgR s h l).2 = 0 ∧ (chgR s h l).1.length ≤ 400 ∧
    ∀ k (hk : k < (chgR s h l).1.length), ∃ i : Nat, i < s.pairs.length ∧ (chgR s h l).1[k].pair = i ∧ ((chgR s h l).1[k].kind = 3 → judgeR s l i = (⟨i, 2, (s.P i).bound⟩, 0))) := by
  by_cases he : hearE s h l = 0
  case neg => exact .inl (by unfold chgR; rw [if_neg he]; exact he)
  obtain ⟨h1, h2⟩ := hear_ok.1 he
  have hc : chgR s h l = (chgL s (tuneR s h).1 l, 0) := by unfold chgR; rw [if_pos he]
  rw [hc]
  have hp := h2.1.sz.2.2.1
  obtain ⟨-, hx, ha⟩ := tune_ok h1
  rw [← hx] at ha
  refine .inr ⟨rfl, ?_, ?_⟩
  · have : (chgL s (tuneR s h).1 l).length ≤ s.pairs.length := by
      unfold chgL
      rw [List.length_map]
      have := (List.range s.pairs.length).length_filter_le (chgB s (tuneR s h).1 l)
      rwa [List.length_range] at this
    show (chgL s (tuneR s h).1 l).length ≤ 400
    omega
  · intro k hk
    obtain ⟨i, hi, e, hv, a1, a2, a3⟩ := chg_get h2.1 (xs := (tuneR s h).1) (l := l) (k := k) hk
    refine ⟨i, hi, ?_, fun h3 => ?_⟩
    · show (chgL s (tuneR s h).1 l)[k].pair = _
      rw [e]; exact chg_pair
    · have h3 : (chgL s (tuneR s h).1 l)[k].kind = 3 := h3
      rw [e] at h3
      have hb := chg_named h2.1 ha hi hv a3 h3
      unfold judgeR
      rw [if_pos ⟨tonesB_iff.2 h2, by omega, by omega⟩, Int.toNat_natCast]
      have e1 : fdOf s l i = ⟨(fdOf s l i).i, (fdOf s l i).verdict, (fdOf s l i).bound⟩ := rfl
      rw [e1, hv, hb]
      rfl
end Go.Sx.Bl
namespace Go.Proofs.YtbemjekkojgbpaaDoor
open Go.RowKit Go.Sx Go.Sx.Sz Go.Sx.Sc Go.Sx.Au Go.Sx.Po Go.Sx.Bl Go.ChangeShapes Go.WideShapes Go.ChangeAt

set_option maxRecDepth 100000 in
set_option maxHeartbeats 8000000 in
theorem bnam_law (vn vp vc vh vt : Value) (s : Sc) (h : List V6) (l : List S2) (w : World) (GL : Gl 0 w) (S : ScR w vn vp vc s) (V : Sl w 6 V6.list vh h) (R : Sl w 2 encS vt l) :
    Calls Tryd.prog 8 #[.agg #[.int .i64 s.voices, vn, vp, vc], vh, vt] w fun e w' => e = .returned (.bool true) ∧ Ext w w' := by
  obtain ⟨an, cn, rfl, -, -, hln⟩ := S.nt.len
  obtain ⟨ap, cp, rfl, -, -, hlp⟩ := S.pr.len
  obtain ⟨ac, cc, rfl, -, -, hlc⟩ := S.cd.len
  obtain ⟨ah, ch, rfl, hch, -, -⟩ := V.len
  obtain ⟨at', ct, rfl, -, -, -⟩ := R.len
  have CW := @charges_walk (.slice an s.notes.length cn) (.slice ap s.pairs.length cp) (.slice ac s.cads.length cc) (.slice ah h.length ch) (.slice at' l.length ct) s h l
  have hf := nam_facts s h l
  obtain ⟨⟨cl, ce⟩, eCW⟩ : ∃ z, chgR s h l = z := ⟨_, rfl⟩
  rw [eCW] at CW hf
  simp only at CW hf
  have HCW := Lib.hid CW; have HF := Lib.hid hf
  clear eCW CW hf
  have JW := Lib.hid (@judge_walk (.slice an s.notes.length cn) (.slice ap s.pairs.length cp) (.slice ac s.cads.length cc) (.slice at' l.length ct) s l)
  have X0 : Ext w (w.alloc (.cells #[.int .i64 s.voices, .slice an s.notes.length cn, .slice ap s.pairs.length cp, .slice ac s.cads.length cc] 26)) := (by repeat (first | with_reducible exact Ext.refl _ | with_reducible assumption | with_reducible apply Ext.alloc | with_reducible apply Ext.drew | (with_reducible refine Ext.setCell ?_ (by (try simp) <;> omega) _)))
  have b0_0 := block_new w (.cells #[.int .i64 s.voices, .slice an s.notes.length cn, .slice ap s.pairs.length cp, .slice ac s.cads.length cc] 26)
  obtain ⟨W0, hW0⟩ : ∃ W, (w.alloc (.cells #[.int .i64 s.voices, .slice an s.notes.length cn, .slice ap s.pairs.length cp, .slice ac s.cads.length cc] 26)) = W := ⟨_, rfl⟩
  obtain ⟨B0, hB0⟩ : ∃ B, w.heap.size = B := ⟨_, rfl⟩
  rw [hW0] at X0 b0_0
  rw [hB0] at b0_0
  have HZ0 : Hid (w.heap.size ≤ B0) := Lib.hid (by omega)
  have HW0 := Lib.hid hW0; have HB0 := Lib.hid hB0
  clear hW0 hB0
  have CB := Lib.hid (boxS b0_0)
  have S1 := S.ext X0; have V1 := V.ext X0; have G1 := GL.ext X0; have R1 := R.ext X0
  have HCH := Lib.hid hch
  clear S V GL R b0_0 hch
  go_enter Tryd.func8, Tryd.ntmps8
  go_wp2_with fail
  rw [HW0.out, HB0.out]
  clear HW0 HB0
  refine (bhead_walk _ G1).mono ?_
  rintro e w1 ⟨rfl, x1⟩
  obtain ⟨c0, c1, c2, c3⟩ := CB.out _ x1
  go_wp2_with fail
  refine (rfew_walk _ _ _ s _ (S1.ext x1)).mono ?_
  obtain ⟨fw, hfw⟩ : ∃ z, (decide (s.notes.length ≤ 40) && decide (s.pairs.length ≤ 60)) = z := ⟨_, rfl⟩
  rw [hfw]
  clear hfw
  rintro e w2 ⟨rfl, y2⟩
  have x2 := x1.trans y2
  clear c0 c1 c2 c3
  cases fw with
  | false =>
    have HX := Lib.hid (X0.trans x2)
    go_wp2
    go_ret
    exact ⟨by first | rfl | simp, HX.out⟩
  | true =>
  obtain ⟨c0, c1, c2, c3⟩ := CB.out _ x2
  go_wp2_with fail
  refine (HCW.out _ (G1.ext x2) (S1.ext x2) (V1.ext x2) (R1.ext x2)).mono ?_
  rintro e w3 ⟨v3, rfl, L3, y3⟩
  have x3 := x2.trans y3
  clear c0 c1 c2 c3
  obtain ⟨a3, q3, rfl, -, -, -⟩ := L3.len
  have HX3 := Lib.hid (X0.trans x3)
  have HY3 := Lib.hid x3
  clear y2 y3 x1 x2 x3
  by_cases hce : ce = 0
  case neg =>
    have t1 : (ce != 0) = true := by rw [bne_iff_ne]; exact hce
    clear hce
    go_wp2
    go_ret
    exact ⟨by first | rfl | simp, HX3.out⟩
  subst hce
  obtain ⟨-, hcl, hfa⟩ : (0 : Int) = 0 ∧ cl.length ≤ 400 ∧ _ := by
    rcases HF.out with h9 | h9
    · exact absurd rfl h9
    · exact h9
  have HFA := Lib.hid hfa
  clear hfa HCW
  go_wp2
  go_loopw [10] (fun i wr => ∃ k : Nat, k ≤ cl.length ∧ i = .int .i64 k ∧ Ext w3 wr) (fun i _ => cl.length - (intOf i).toNat)
  case atStart => exact ⟨0, by omega, by first | rfl | trivial, Ext.refl _⟩
  case round =>
    obtain ⟨k, hk, rfl, X⟩ := hrel
    by_cases hlt : k < cl.length
    case neg =>
      obtain rfl : k = cl.length := by omega
      have HX := Lib.hid (HX3.out.trans X)
      go_wp2
      go_ret
      exact ⟨by first | rfl | simp, HX.out⟩
    case pos =>
    obtain ⟨i, hip, hi, hj⟩ := HFA.out k hlt
    obtain ⟨bC, oC, rfl, k0, k1, k2⟩ := Sl.cg (L3.ext X) k hlt
    rw [hi] at k0
    obtain ⟨kd, hkd⟩ : ∃ z, cl[k].kind = z := ⟨_, rfl⟩
    rw [hkd] at k1 hj
    have i1 : (0 : Int) ≤ (k : Int) := by omega
    have i2 : (k : Int) < (cl.length : Int) := by omega
    obtain ⟨W, rfl⟩ : ∃ z : World, z = wr := ⟨_, rfl⟩
    clear hi hkd k2
    by_cases hk3 : kd = 3
    case neg =>
      have t1 : (kd != 3) = true := by rw [bne_iff_ne]; exact hk3
      clear hk3
      go_wp2
      go_roundw
      case rel => exact ⟨k + 1, by omega, by go_num, X⟩
      case measure => simp [intOf] <;> omega
    subst hk3
    have hJ := hj rfl
    have JJ := Lib.hid fun w' (x : Ext W w') => JW.out (i : Int) w' (G1.ext (HY3.out.trans (X.trans x))) (S1.ext (HY3.out.trans (X.trans x))) (R1.ext (HY3.out.trans (X.trans x)))
    rw [hJ] at JJ
    simp only at JJ
    obtain ⟨bp, op, rfl, A⟩ := Sl.pr (S1.pr.ext (HY3.out.trans X)) i hip
    rw [← Sc.P_eq hip] at A
    obtain ⟨q0, q1, q2, q3, q4, q5, q6, q7, q8⟩ := A
    obtain ⟨bd, hbd⟩ : ∃ z, (s.P i).bound = z := ⟨_, rfl⟩
    rw [hbd] at q8 JJ
    have Q8 := ext_cells q8; have K0 := ext_cells k0
    obtain ⟨c0, c1, c2, c3⟩ := CB.out _ (HY3.out.trans X)
    have C2 := ext_cells c2
    clear q0 q1 q2 q3 q4 q5 q6 q7 hj hJ hbd q8
    go_upto_region 11 with fail
    have k0 := K0; have c0 := ext_cells c0; have c1 := ext_cells c1; have c2 := ext_cells c2; have c3 := ext_cells c3
    apply Z.wp_region_ordZ [(0, .det _), (1, .det _), (2, .det _), (3, .det _), (4, .det _), (5, .det _), (6, .det _), (7, .det _), (8, .det _), (9, .det _), (10, .det _), (11, .new (fun v => ∃ g : Nat, v = .pointer (some ⟨g, 0, none⟩)) (ZRow 70 W.heap.size 3) (.pointer (some ⟨0, 0, none⟩)) ⟨0, rfl⟩), (12, .one (fun u => u = undef) (fun vs _ w => ZAt 70 #[.int .i64 (i : Int), .int .i64 2, .int .i64 bd] (vs.headD undef) w) undef rfl [11]), (13, .det _)] 14 Ext (Zr 70 W.heap.size) (Ext W) (fun _ => True) wide [(0,true),(1,true),(2,true),(3,true),(4,true),(5,true),(6,true),(7,true),(8,true),(9,true),(10,true),(11,true),(12,false),(13,true)] [(0,[]),(1,[]),(2,[]),(3,[]),(4,[]),(5,[]),(6,[]),(7,[]),(8,[]),(9,[]),(10,[]),(11,[]),(12,[11]),(13,[])] (by kernel_rfl) (by kernel_rfl) rfl rfl (by simp [Z.Kd.new, Z.Kd.det, Z.Kd.one, Z.kdOf]) (by decide) (sub_zr _ _) stable_zr (fun _ _ _ _ => trivial) (Ext.drawn _ _) trivial ?main
    case' main =>
      iterate 7 (apply Z.ordX_det rfl rfl; (intro w' hw'; unfold opR; go_simp; exact ⟨Ext.refl _, rfl⟩); (simp only [List.getElem_toArray, List.getElem_cons_succ, List.getElem_cons_zero, Act.put, List.setIfInBounds_toArray, List.set_cons_succ, List.set_cons_zero]; rfl))
      (apply Z.ordX_det rfl rfl; (intro w' hw'; refine opR_call rfl (Go.Proofs.enters_of Tryd.func27 (by kernel_rfl) rfl) (by simp only [List.map_toArray, List.map_cons, List.map_nil, Act.eval, Array.getD_eq_getD_getElem?, List.getElem?_toArray, List.getElem?_cons_succ, List.getElem?_cons_zero, Option.getD_some]; rfl) ?_; refine (JJ.out w' hw').mono ?_; rintro e w'' ⟨rfl, hx⟩; exact ⟨_, rfl, hx, rfl⟩); (simp only [List.getElem_toArray, List.getElem_cons_succ, List.getElem_cons_zero, Act.put, List.setIfInBounds_toArray, List.set_cons_succ, List.set_cons_zero]; rfl))
      iterate 3 (apply Z.ordX_det rfl rfl; (intro w' hw'; unfold opR; go_simp; exact ⟨Ext.refl _, rfl⟩); (simp only [List.getElem_toArray, List.getElem_cons_succ, List.getElem_cons_zero, Act.put, List.setIfInBounds_toArray, List.set_cons_succ, List.set_cons_zero]; rfl))
      apply Z.ordX_new (fun v _ _ h k => h.zr k) rfl rfl
      · intro w' hw' _
        unfold opR
        go_simp
        exact ⟨Ext.alloc' _ _, ⟨_, rfl⟩, ZRow.new w' hw'.size _⟩
      · intro v; (simp only [List.getElem_toArray, List.getElem_cons_succ, List.getElem_cons_zero, Act.put, List.setIfInBounds_toArray, List.set_cons_succ, List.set_cons_zero]; rfl)
      rintro _ ⟨g8, rfl⟩
      apply Z.ordX_one (fun vs v _ _ h k => h.ext k) rfl rfl
      · intro w' hw' _ hN
        exact opR_zstore _ _ _ rfl _ rfl rfl (hN 11 (by simp)) (by kernel_rfl) rfl (by simp [Value.oneCell'])
      · intro v; (simp only [List.getElem_toArray, List.getElem_cons_succ, List.getElem_cons_zero, Act.put, List.setIfInBounds_toArray, List.set_cons_succ, List.set_cons_zero]; rfl)
      rintro _ rfl
      iterate 1 (apply Z.ordX_det rfl rfl; (intro w' hw'; unfold opR; go_simp; exact ⟨Ext.refl _, rfl⟩); (simp only [List.getElem_toArray, List.getElem_cons_succ, List.getElem_cons_zero, Act.put, List.setIfInBounds_toArray, List.set_cons_succ, List.set_cons_zero]; rfl))
      refine Z.ordX_nil (l := []) rfl ?_
    rintro w4 x4 ⟨gg, e9, hb4⟩ -
    simp [Z.upd] at e9
    subst e9
    clear k0 k1 c0 c1 c2 c3
    have f0 := block_cell hb4 0 _ rfl; have f1 := block_cell hb4 1 _ rfl; have f2 := block_cell hb4 2 _ rfl
    have k0 := K0 _ x4; have c2 := C2 _ x4; have q8 := Q8 _ x4
    have t1 : decide ((i : Int) < 0) = false := decide_eq_false (by omega)
    have t2 : decide (s.pairs.length ≤ i) = false := decide_eq_false (by omega)
    have t3 : (bd != bd) = false := by simp
    have j1 : (0 : Int) ≤ (i : Int) := by omega
    have j2 : (i : Int) < (s.pairs.length : Int) := by omega
    have HX4 := Lib.hid (X.trans x4)
    clear K0 C2 Q8 x4 hb4
    go_wp2
    go_quiet (fail)
    go_wp2
    go_roundw
    case rel => exact ⟨k + 1, by omega, by go_num, HX4.out.trans (Ext.drawn _ _)⟩
    case measure => simp [intOf] <;> omega

theorem blameNamed_args (H : Type) (enc : TypeId × Value → H) (W : World) (base : Nat) (vs : List Value) (ds : List (DataW H)) (_ : ∀ k, (OpenSpec.ofChange Rows.blameNamedSpec).cond = some k → k H ds = true) (hL : laidMetH Tryd.prog Rows.blameNamedRow.laid W) (hA : Args enc Tryd.prog W base Tryd.f8.params.toList vs ds) :
    Calls Tryd.prog 8 vs.toArray W fun e W' => e = .returned (.bool true) ∧ Ext W W' := by
  rw [Tryd.params8] at hA
  obtain ⟨v0, _, d0, _, rfl, rfl, h0, hA⟩ := hA.cons
  obtain ⟨v1, _, d1, _, rfl, rfl, h1, hA⟩ := hA.cons
  obtain ⟨v2, _, d2, _, rfl, rfl, h2, hA⟩ := hA.cons
  obtain ⟨rfl, rfl⟩ := hA.nil
  obtain ⟨s0, vn0, vp0, vc0, rfl, S0⟩ := arg_score h0
  obtain ⟨l1, S1, n1⟩ := arg_vecs h1
  obtain ⟨l2, S2, n2⟩ := arg_sizes h2
  exact bnam_law _ _ _ _ _ s0 l1 l2 W (gv_of hL) S0 S1 S2

theorem blameNamed_met (os : Os) : laidMet Tryd.prog Rows.blameNamedRow.laid ((laidWorld os).forCall (fun _ _ => 0) ⟨#[], #[.agg #[.int .i64 0, .slice none 0 0, .slice none 0 0, .slice none 0 0], .slice none 0 0, .slice none 0 0], []⟩).memory := laidMet_of_run' 8 (by kernel_rfl) (by kernel_rfl)
theorem blameNamed_reads (os : Os) {H : Type} (enc : TypeId × Value → H) : ∃ places, DataW.whole enc Tryd.prog ((laidWorld os).forCall (fun _ _ => 0) ⟨#[], #[.agg #[.int .i64 0, .slice none 0 0, .slice none 0 0, .slice none 0 0], .slice none 0 0, .slice none 0 0], []⟩).memory Tryd.f8.params.toList Rows.blameNamedSpec.vars false #[.agg #[.int .i64 0, .slice none 0 0, .slice none 0 0, .slice none 0 0], .slice none 0 0, .slice none 0 0].toList 8 = some ([.agg [.lit (.int .i64 0), .nil, .nil, .nil], .nil, .nil], [], places) := ⟨[], by kernel_rfl⟩
set_option maxRecDepth 100000 in
theorem blameNamed_lifted (os : Os) (started : os.Started) (H : Type) (enc : TypeId × Value → H) (F : Stop.Interp) :
    ReturnsInHanded {} Tryd.checked os 8 .any ((OpenSpec.ofChange Rows.blameNamedSpec).preRow enc Tryd.prog Tryd.f8 Rows.blameNamedRow.domain false Rows.blameNamedRow.laid) (((OpenSpec.ofChange Rows.blameNamedSpec).at F).post enc Tryd.prog Tryd.f8 false true false false) := by
  obtain ⟨places, hx⟩ := blameNamed_reads os enc
  exact law_row (C := Tryd.checked) (s := (OpenSpec.ofChange Rows.blameNamedSpec)) (by kernel_rfl) started (by kernel_rfl) Tryd.func8
    (witness_row_at (enc := enc) (C := Tryd.checked) false (laidWorld os) #[.agg #[.int .i64 0, .slice none 0 0, .slice none 0 0, .slice none 0 0], .slice none 0 0, .slice none 0 0] rfl (by kernel_rfl) (by kernel_rfl) (by kernel_rfl) (OpenSpec.preRow_of_cond 8 hx (by kernel_rfl) (fun k hk => by cases hk) (by kernel_rfl) (blameNamed_met os)))
    (by kernel_rfl) (by kernel_rfl) (by kernel_rfl) rfl (fun ds h => by match ds, h with | [_, _, _], _ => rfl) (blameNamed_args H enc)
theorem blameNamed_said : Rows.BlameNamedSaid :=
  OpenClaim.holds_of_cond 8 Tryd.f8 rfl rfl rfl rfl rfl rfl rfl ⟨rfl, rfl, rfl, rfl, rfl⟩ rfl rfl rfl rfl rfl (by kernel_rfl) Tryd.func8 (by kernel_rfl)
    (of_decide_eq_true (by kernel_rfl)) (by unfold Func.isWrapper; first | (rw [if_pos (by decide +kernel)]; kernel_rfl) | (rw [if_neg (by decide +kernel)]; exact ⟨rfl, rfl⟩))
    (fun os started H enc _ F => by rw [OpenClaim.pre_eq_preRow]; exact blameNamed_lifted os started H enc F)
theorem blameNamed_plain (f : FuncId) (fn : Func) (hf : Tryd.pinned.checked.prog.funcNamed "schisma/schismalaw40.BlameNamed" = some f) (hfn : Tryd.pinned.checked.prog.funcs[f]? = some fn) :
    false = Tryd.pinned.checked.prog.looks [] ∧ ∀ (j : Nat) t, fn.params[j]? = some t → Tryd.pinned.checked.prog.wantsStandIn t = false := by
  obtain rfl : f = 8 := Option.some.inj ((show Tryd.prog.funcNamed "schisma/schismalaw40.BlameNamed" = some 8 by kernel_rfl).symm.trans hf) |>.symm
  obtain rfl : fn = Tryd.f8 := (Option.some.inj (Tryd.func8.symm.trans hfn)).symm
  refine ⟨by kernel_rfl, fun j t ht => ?_⟩
  have hall : Tryd.f8.params.all (fun t => !Tryd.prog.wantsStandIn t) = true := by kernel_rfl
  have := (Array.all_eq_true'.1 hall) t (Array.mem_of_getElem? ht)
  have e : Tryd.prog.wantsStandIn t = false := by simpa using this
  exact e
/-- The card. -/
theorem blameNamed_holds : Rows.BlameNamedCardSaid :=
  Claim7.holds_tied_plain_at .later [] _ _ _ _ blameNamed_said (fun _ h => by cases h) (by kernel_rfl) (fun _ h => by cases h) blameNamed_row_tie rfl ⟨rfl, rfl⟩ (by kernel_rfl) rfl blameNamed_plain (by kernel_rfl)
end Go.Proofs.YtbemjekkojgbpaaDoor
