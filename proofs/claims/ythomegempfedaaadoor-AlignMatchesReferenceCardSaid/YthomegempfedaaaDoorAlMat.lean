/-
  Proved: 'AlignMatchesReference' returns true for every input and leaves its arguments as they were. No condition.
-/
import Derived.Test.YthomegempfedaaaDoorRfH
set_option linter.unusedVariables false
namespace Go.Proofs.YthomegempfedaaaDoor
open Go.RowKit Go.Sx Go.Sx.Sz Go.Sx.Al Go.ChangeShapes Go.WideShapes Go.ChangeAt

set_option maxRecDepth 100000 in
set_option maxHeartbeats 4000000 in
theorem matref_walk (vd vh vl vt : Value) (ds : List Due) (hs : List Hrd) (p : Prc) (l : List Mt) (t : List (List Int)) (hn1 : ds.length * 56 ≤ 140737488351232) (hn2 : hs.length * 24 ≤ 140737488351232) (w : World) (G : Gl 0 w)
    (Sd : Sl w 7 encD vd ds) (Sh : Sl w 3 encH vh hs) (Sm : Sl w 2 encM vl l) (T : Tab w vt t) :
    Calls Tryd.prog 3 #[vd, vh, .agg #[.int .i64 p.skip, .int .i64 p.off], vl, vt] w fun e w' => e = .returned (.bool true) ∧ Ext w w' := by
  obtain ⟨ad, cd, rfl, -, -, -⟩ := Sd.len
  obtain ⟨ah, ch, rfl, -, -, -⟩ := Sh.len
  obtain ⟨am, cm, rfl, -, -, -⟩ := Sm.len
  obtain ⟨aT, cT, rfl, -⟩ := T.len
  obtain ⟨ok, hok⟩ : ∃ o, alOk ds hs p = o := ⟨_, rfl⟩
  obtain ⟨c, hc⟩ : ∃ o, costR ds hs p l = o := ⟨_, rfl⟩
  obtain ⟨k, hk⟩ : ∃ o, checkR ds hs p l t = o := ⟨_, rfl⟩
  obtain ⟨ca, hca⟩ : ∃ o, alCr ds hs p = o := ⟨_, rfl⟩
  obtain ⟨ea, hea⟩ : ∃ o, alEr ds hs p = o := ⟨_, rfl⟩
  obtain ⟨la, hla⟩ : ∃ o, alLr ds hs p = o := ⟨_, rfl⟩
  obtain ⟨ta, hta⟩ : ∃ o, alTr ds hs p = o := ⟨_, rfl⟩
  have HO := Lib.hid hok; have HC := Lib.hid hc; have HK := Lib.hid hk; have HCA := Lib.hid hca; have HEA := Lib.hid hea; have HLA := Lib.hid hla; have HTA := Lib.hid hta
  clear hok hc hk hca hea hla hta
  go_enter Tryd.func3, Tryd.ntmps3
  go_wp2_with fail
  refine (head_walk _ (G.ext (by repeat (first | with_reducible exact Ext.refl _ | with_reducible assumption | with_reducible apply Ext.alloc | with_reducible apply Ext.drew | (with_reducible refine Ext.setCell ?_ (by (try simp) <;> omega) _))))).mono ?_
  rintro e w1 ⟨rfl, x1⟩
  have X1 : Ext w w1 := Ext.trans (by repeat (first | with_reducible exact Ext.refl _ | with_reducible assumption | with_reducible apply Ext.alloc | with_reducible apply Ext.drew | (with_reducible refine Ext.setCell ?_ (by (try simp) <;> omega) _))) x1
  have B1 := Lib.hid (block_ext x1 (block_new w (.cells #[.int .i64 p.skip, .int .i64 p.off] 25)))
  have f0 := ext_cells (block_cell B1.out 0 (.int .i64 p.skip) rfl)
  have f1 := ext_cells (block_cell B1.out 1 (.int .i64 p.off) rfl)
  have D1 := Sd.ext X1; have H1 := Sh.ext X1; have M1 := Sm.ext X1; have T1 := T.ext X1; have G1 := G.ext X1
  have V := Lib.hid fun w' (x : Ext w1 w') => alvalid_walk _ _ ds hs p hn1 hn2 w' (D1.ext x) (H1.ext x)
  have R := Lib.hid fun w' (x : Ext w1 w') => rvalid_walk _ _ ds hs p w' (D1.ext x) (H1.ext x)
  clear x1 Sd Sh Sm T G
  go_wp2
  refine wp_region_ord [(0,true), (1,true), (2,true), (3,true), (4,true), (5,true), (6,true), (7,true), (8,true), (9,true), (10,true), (11,true), (12,true)] 13 Ext (Ext w1) wide (by kernel_rfl) (stable_ext _) (Ext.drawn _ _) ?_
  iterate 2 (apply wpOrd_det rfl rfl; (intro w' hw'; unfold opR; go_simp; exact ⟨Ext.refl _, rfl⟩); (simp only [List.getElem_toArray, List.getElem_cons_succ, List.getElem_cons_zero, Act.put, List.setIfInBounds_toArray, List.set_cons_succ, List.set_cons_zero]; rfl))
  iterate 3 (apply wpOrd_yes rfl (by rfl); (intro w' hw'; unfold opR; go_simp; exact ⟨Ext.refl _, rfl⟩); (simp only [List.getElem_toArray, List.getElem_cons_succ, List.getElem_cons_zero, Act.put, List.setIfInBounds_toArray, List.set_cons_succ, List.set_cons_zero]; rfl))
  (apply wpOrd_yes rfl (by rfl); (intro w' hw'; refine opR_call rfl (Go.Proofs.enters_of Tryd.func12 (by kernel_rfl) rfl) (by simp only [List.map_toArray, List.map_cons, List.map_nil, Act.eval, Array.getD_eq_getD_getElem?, List.getElem?_toArray, List.getElem?_cons_succ, List.getElem?_cons_zero, Option.getD_some]; rfl) ?_; refine (V.out w' hw').mono ?_; rw [HO.out]; rintro e w4 ⟨rfl, hx⟩; exact ⟨_, rfl, hx, rfl⟩); (simp only [List.getElem_toArray, List.getElem_cons_succ, List.getElem_cons_zero, Act.put, List.setIfInBounds_toArray, List.set_cons_succ, List.set_cons_zero]; rfl))
  iterate 3 (apply wpOrd_yes rfl (by rfl); (intro w' hw'; unfold opR; go_simp; exact ⟨Ext.refl _, rfl⟩); (simp only [List.getElem_toArray, List.getElem_cons_succ, List.getElem_cons_zero, Act.put, List.setIfInBounds_toArray, List.set_cons_succ, List.set_cons_zero]; rfl))
  (apply wpOrd_yes rfl (by rfl); (intro w' hw'; refine opR_call rfl (Go.Proofs.enters_of Tryd.func13 (by kernel_rfl) rfl) (by simp only [List.map_toArray, List.map_cons, List.map_nil, Act.eval, Array.getD_eq_getD_getElem?, List.getElem?_toArray, List.getElem?_cons_succ, List.getElem?_cons_zero, Option.getD_some]; rfl) ?_; refine (R.out w' hw').mono ?_; rw [HO.out]; rintro e w4 ⟨rfl, hx⟩; exact ⟨_, rfl, hx, rfl⟩); (simp only [List.getElem_toArray, List.getElem_cons_succ, List.getElem_cons_zero, Act.put, List.setIfInBounds_toArray, List.set_cons_succ, List.set_cons_zero]; rfl))
  (apply wpOrd_yes rfl (by rfl); (intro w' hw'; unfold opR; go_simp; exact ⟨Ext.refl _, rfl⟩); (simp only [List.getElem_toArray, List.getElem_cons_succ, List.getElem_cons_zero, Act.put, List.setIfInBounds_toArray, List.set_cons_succ, List.set_cons_zero]; rfl))
  iterate 2 (apply wpOrd_det rfl rfl; (intro w' hw'; unfold opR; go_simp; exact ⟨Ext.refl _, rfl⟩); (simp only [List.getElem_toArray, List.getElem_cons_succ, List.getElem_cons_zero, Act.put, List.setIfInBounds_toArray, List.set_cons_succ, List.set_cons_zero]; rfl))
  refine wpOrd_nil rfl ?_
  intro w2 x2
  have y2 : Ext w1 w2 := x2
  clear f0 f1 x2 V R
  have c0 := block_cell (block_ext y2 B1.out) 0 (.int .i64 p.skip) rfl
  have c1 := block_cell (block_ext y2 B1.out) 1 (.int .i64 p.off) rfl
  have eqb : (ok == ok) = true := by simp
  go_wp2_with fail
  refine (cost_walk _ _ _ ds hs p l hn1 hn2 _ (G1.ext y2) (D1.ext y2) (H1.ext y2) (M1.ext y2)).mono ?_
  rw [HC.out]
  rintro e w3 ⟨rfl, x3⟩
  have y3 := y2.trans x3
  clear x3 c0 c1
  have c0 := block_cell (block_ext y3 B1.out) 0 (.int .i64 p.skip) rfl
  have c1 := block_cell (block_ext y3 B1.out) 1 (.int .i64 p.off) rfl
  go_wp2_with fail
  refine (rcost_walk _ _ _ ds hs p l _ (D1.ext y3) (H1.ext y3) (M1.ext y3)).mono ?_
  rw [HC.out]
  rintro e w4 ⟨rfl, x4⟩
  have y4 := y3.trans x4
  clear x4 c0 c1
  have c0 := block_cell (block_ext y4 B1.out) 0 (.int .i64 p.skip) rfl
  have c1 := block_cell (block_ext y4 B1.out) 1 (.int .i64 p.off) rfl
  go_wp2_with fail
  refine (align_walk _ _ ds hs p hn1 hn2 _ (G1.ext y4) (D1.ext y4) (H1.ext y4)).mono ?_
  rw [HCA.out, HEA.out, HLA.out, HTA.out]
  rintro e w5 ⟨va, wa, rfl, SL, TL, x5⟩
  have y5 := y4.trans x5
  clear x5 c0 c1
  have c0 := block_cell (block_ext y5 B1.out) 0 (.int .i64 p.skip) rfl
  have c1 := block_cell (block_ext y5 B1.out) 1 (.int .i64 p.off) rfl
  go_wp2_with fail
  refine (ralignA_walk _ _ ds hs p _ (D1.ext y5) (H1.ext y5)).mono ?_
  rw [HCA.out, HEA.out, HLA.out, HTA.out]
  rintro e w6 ⟨vb, wb, rfl, SM, TM, x6⟩
  have y6 := y5.trans x6
  replace SL := SL.ext x6; replace TL := TL.ext x6
  clear x6 c0 c1
  have c0 := block_cell (block_ext y6 B1.out) 0 (.int .i64 p.skip) rfl
  have c1 := block_cell (block_ext y6 B1.out) 1 (.int .i64 p.off) rfl
  go_wp2_with fail
  refine (matches_walk _ _ la la _ SL SM).mono ?_
  rw [decide_eq_true rfl]
  rintro e w7 ⟨rfl, x7⟩
  have y7 := y6.trans x7
  replace TL := TL.ext x7; replace TM := TM.ext x7
  clear x7 c0 c1 SL SM
  have c0 := block_cell (block_ext y7 B1.out) 0 (.int .i64 p.skip) rfl
  have c1 := block_cell (block_ext y7 B1.out) 1 (.int .i64 p.off) rfl
  go_wp2_with fail
  refine (tables_walk _ _ ta ta _ TL TM).mono ?_
  rw [decide_eq_true rfl]
  rintro e w8 ⟨rfl, x8⟩
  have y8 := y7.trans x8
  clear x8 c0 c1 TL TM
  have c0 := block_cell (block_ext y8 B1.out) 0 (.int .i64 p.skip) rfl
  have c1 := block_cell (block_ext y8 B1.out) 1 (.int .i64 p.off) rfl
  go_wp2_with fail
  refine (check_walk _ _ _ _ ds hs p l t hn1 hn2 _ (G1.ext y8) (D1.ext y8) (H1.ext y8) (M1.ext y8) (T1.ext y8)).mono ?_
  rw [HK.out]
  rintro e w9 ⟨rfl, x9⟩
  have y9 := y8.trans x9
  clear x9 c0 c1
  have c0 := block_cell (block_ext y9 B1.out) 0 (.int .i64 p.skip) rfl
  have c1 := block_cell (block_ext y9 B1.out) 1 (.int .i64 p.off) rfl
  go_wp2_with fail
  refine (rcheck_walk _ _ _ _ ds hs p l t _ (D1.ext y9) (H1.ext y9) (M1.ext y9) (T1.ext y9)).mono ?_
  rw [HK.out]
  rintro e w10 ⟨rfl, x10⟩
  have y10 := y9.trans x10
  clear x10 c0 c1
  go_wp2
  go_ret
  exact ⟨by first | rfl | simp, X1.trans y10⟩

theorem alignMatchesReference_args (H : Type) (enc : TypeId × Value → H) (W : World) (base : Nat) (vs : List Value) (ds : List (DataW H)) (_ : ∀ k, (OpenSpec.ofChange Rows.alignMatchesReferenceSpec).cond = some k → k H ds = true) (hL : laidMetH Tryd.prog Rows.alignMatchesReferenceRow.laid W) (hA : Args enc Tryd.prog W base Tryd.f3.params.toList vs ds) :
    Calls Tryd.prog 3 vs.toArray W fun e W' => e = .returned (.bool true) ∧ Ext W W' := by
  rw [Tryd.params3] at hA
  obtain ⟨v0, _, d0, _, rfl, rfl, h0, hA⟩ := hA.cons
  obtain ⟨v1, _, d1, _, rfl, rfl, h1, hA⟩ := hA.cons
  obtain ⟨v2, _, d2, _, rfl, rfl, h2, hA⟩ := hA.cons
  obtain ⟨v3, _, d3, _, rfl, rfl, h3, hA⟩ := hA.cons
  obtain ⟨v4, _, d4, _, rfl, rfl, h4, hA⟩ := hA.cons
  obtain ⟨rfl, rfl⟩ := hA.nil
  obtain ⟨l0, S0, n0⟩ := arg_dues h0
  obtain ⟨l1, S1, n1⟩ := arg_heard h1
  obtain ⟨p, rfl, _⟩ := arg_price h2
  obtain ⟨l3, S3⟩ := arg_matches h3
  obtain ⟨t4, T4⟩ := arg_table h4
  exact matref_walk _ _ _ _ l0 l1 p l3 t4 n0 n1 W (gv_of hL) S0 S1 S3 T4

theorem alignMatchesReference_met (os : Os) : laidMet Tryd.prog Rows.alignMatchesReferenceRow.laid ((laidWorld os).forCall (fun _ _ => 0) ⟨#[], #[.slice none 0 0, .slice none 0 0, .agg #[.int .i64 0, .int .i64 0], .slice none 0 0, .slice none 0 0], []⟩).memory := laidMet_of_run' 8 (by kernel_rfl) (by kernel_rfl)
theorem alignMatchesReference_reads (os : Os) {H : Type} (enc : TypeId × Value → H) : ∃ places, DataW.whole enc Tryd.prog ((laidWorld os).forCall (fun _ _ => 0) ⟨#[], #[.slice none 0 0, .slice none 0 0, .agg #[.int .i64 0, .int .i64 0], .slice none 0 0, .slice none 0 0], []⟩).memory Tryd.f3.params.toList Rows.alignMatchesReferenceSpec.vars false #[.slice none 0 0, .slice none 0 0, .agg #[.int .i64 0, .int .i64 0], .slice none 0 0, .slice none 0 0].toList 8 = some ([.nil, .nil, .agg [.lit (.int .i64 0), .lit (.int .i64 0)], .nil, .nil], [], places) := ⟨[], by kernel_rfl⟩
set_option maxRecDepth 100000 in
theorem alignMatchesReference_lifted (os : Os) (started : os.Started) (H : Type) (enc : TypeId × Value → H) (F : Stop.Interp) :
    ReturnsInHanded {} Tryd.checked os 3 .any ((OpenSpec.ofChange Rows.alignMatchesReferenceSpec).preRow enc Tryd.prog Tryd.f3 Rows.alignMatchesReferenceRow.domain false Rows.alignMatchesReferenceRow.laid) (((OpenSpec.ofChange Rows.alignMatchesReferenceSpec).at F).post enc Tryd.prog Tryd.f3 false true false false) := by
  obtain ⟨places, hx⟩ := alignMatchesReference_reads os enc
  exact law_row (C := Tryd.checked) (s := (OpenSpec.ofChange Rows.alignMatchesReferenceSpec)) (by kernel_rfl) started (by kernel_rfl) Tryd.func3
    (witness_row_at (enc := enc) (C := Tryd.checked) false (laidWorld os) #[.slice none 0 0, .slice none 0 0, .agg #[.int .i64 0, .int .i64 0], .slice none 0 0, .slice none 0 0] rfl (by kernel_rfl) (by kernel_rfl) (by kernel_rfl) (OpenSpec.preRow_of_cond 8 hx (by kernel_rfl) (fun k hk => by cases hk) (by kernel_rfl) (alignMatchesReference_met os)))
    (by kernel_rfl) (by kernel_rfl) (by kernel_rfl) rfl (fun ds h => by match ds, h with | [_, _, _, _, _], _ => rfl) (alignMatchesReference_args H enc)
theorem alignMatchesReference_said : Rows.AlignMatchesReferenceSaid :=
  OpenClaim.holds_of_cond 3 Tryd.f3 rfl rfl rfl rfl rfl rfl rfl ⟨rfl, rfl, rfl, rfl, rfl⟩ rfl rfl rfl rfl rfl (by kernel_rfl) Tryd.func3 (by kernel_rfl)
    (of_decide_eq_true (by kernel_rfl)) (by unfold Func.isWrapper; first | (rw [if_pos (by decide +kernel)]; kernel_rfl) | (rw [if_neg (by decide +kernel)]; exact ⟨rfl, rfl⟩))
    (fun os started H enc _ F => by rw [OpenClaim.pre_eq_preRow]; exact alignMatchesReference_lifted os started H enc F)
theorem alignMatchesReference_plain (f : FuncId) (fn : Func) (hf : Tryd.pinned.checked.prog.funcNamed "schisma/schismalaw38.AlignMatchesReference" = some f) (hfn : Tryd.pinned.checked.prog.funcs[f]? = some fn) :
    false = Tryd.pinned.checked.prog.looks [] ∧ ∀ (j : Nat) t, fn.params[j]? = some t → Tryd.pinned.checked.prog.wantsStandIn t = false := by
  obtain rfl : f = 3 := Option.some.inj ((show Tryd.prog.funcNamed "schisma/schismalaw38.AlignMatchesReference" = some 3 by kernel_rfl).symm.trans hf) |>.symm
  obtain rfl : fn = Tryd.f3 := (Option.some.inj (Tryd.func3.symm.trans hfn)).symm
  refine ⟨by kernel_rfl, fun j t ht => ?_⟩
  have hall : Tryd.f3.params.all (fun t => !Tryd.prog.wantsStandIn t) = true := by kernel_rfl
  have := (Array.all_eq_true'.1 hall) t (Array.mem_of_getElem? ht)
  have e : Tryd.prog.wantsStandIn t = false := by simpa using this
  exact e
/-- The card. -/
theorem alignMatchesReference_holds : Rows.AlignMatchesReferenceCardSaid :=
  Claim7.holds_tied_plain_at .later [] _ _ _ _ alignMatchesReference_said (fun _ h => by cases h) (by kernel_rfl) (fun _ h => by cases h) alignMatchesReference_row_tie rfl ⟨rfl, rfl⟩ (by kernel_rfl) rfl alignMatchesReference_plain (by kernel_rfl)
end Go.Proofs.YthomegempfedaaaDoor
