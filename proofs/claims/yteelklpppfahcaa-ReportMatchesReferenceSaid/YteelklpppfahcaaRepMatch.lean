/-
  Proved: 'ReportMatchesReference' returns true for every input and leaves its arguments as they were. No condition.
-/
import Derived.Test.YteelklpppfahcaaRepZ
import Derived.Test.YteelklpppfahcaaShut
import Derived.Lib.SmallJoins
set_option linter.unusedVariables false
namespace Go.Proofs.Yteelklpppfahcaa
open Go.RowKit Go.Sx Go.Sx.Rep Go.ChangeShapes Go.WideShapes Go.ChangeAt

theorem pathL_len (xs : List Int) (i : Int) : (pathL xs i).length ≤ 10 := by
  unfold pathL
  by_cases h : pathErr xs i = 0
  · rw [if_pos h]
    obtain ⟨⟨_, z2⟩, z3, z4⟩ := pathErr_zero.1 h
    exact pathG_deep xs i.toNat (by omega) z2
  · rw [if_neg h]; simp
theorem growL_len (xs : List Int) (i : Int) : (growL xs i).length ≤ 11 := by
  unfold growL
  by_cases h : growErr xs i = 0
  · rw [if_pos h]
    obtain ⟨⟨_, z2⟩, z3, z4⟩ := growErr_zero.1 h
    exact growG_deep xs i.toNat (by omega) (by omega) z2
  · rw [if_neg h]; simp

set_option maxRecDepth 100000 in
set_option maxHeartbeats 8000000 in
theorem match_walk (bv lv xv pv : Value) (bs l xs ps : List Int) (f0 f1 f2 i m old rt : Int) (w : World) (B : Sl w 1 encB bv bs) (L : Sl w 1 encI lv l) (S : Sl w 1 encU xv xs) (T : Sl w 1 encU pv ps) (hl : l.length * 8 ≤ 140737488351232) :
    Calls Try.prog 9 #[bv, lv, .agg #[.int .i64 f0, .int .i64 f1, .int .i64 f2], xv, .int .i64 i, .int .i64 m, .int .u64 old, .int .u64 rt, pv] w fun e w' => e = .returned (.bool true) ∧ Ext w w' := by
  obtain ⟨ba, bc, rfl, _, _, _⟩ := B.len
  obtain ⟨la, lc, rfl, _, _, _⟩ := L.len
  obtain ⟨xa, xc, rfl, _, _, _⟩ := S.len
  obtain ⟨pa, pc, rfl, _, _, _⟩ := T.len
  have x0 := Ext.alloc' w (.cells #[.int .i64 f0, .int .i64 f1, .int .i64 f2] 51)
  have q0 := alloc_cell w #[.int .i64 f0, .int .i64 f1, .int .i64 f2] 51 0 (.int .i64 f0) rfl
  have q1 := alloc_cell w #[.int .i64 f0, .int .i64 f1, .int .i64 f2] 51 1 (.int .i64 f1) rfl
  have q2 := alloc_cell w #[.int .i64 f0, .int .i64 f1, .int .i64 f2] 51 2 (.int .i64 f2) rfl
  go_enter Try.func9, Try.ntmps9
  go_wp2_with fail
  refine (head_walk _).mono ?_
  rintro e w1 ⟨rfl, x1⟩
  have X1 := x0.trans x1
  have r0 := ext_cells (x1.cell q0)
  have r1 := ext_cells (x1.cell q1)
  have r2 := ext_cells (x1.cell q2)
  have B1 := B.ext X1
  have L1 := L.ext X1
  clear q0 q1 q2
  go_wp2_with fail
  refine wp_region_ord [(0,true),(1,true),(2,true),(3,true),(4,true),(5,true),(6,true),(7,true),(8,true),(9,true),(10,true),(11,true),(12,true),(13,true),(14,true),(15,true),(16,true),(17,true),(18,true),(19,true),(20,true),(21,true),(22,true),(23,true),(24,true),(25,true),(26,true),(27,true),(28,true),(29,true),(30,true),(31,true)] 32 Ext (Ext w1) wide (by kernel_rfl) (stable_ext _) (Ext.drawn _ _) ?_
  iterate 2 (apply wpOrd_det rfl rfl; (intro w' hw'; unfold opR; go_simp; exact ⟨Ext.refl _, rfl⟩); (simp only [List.getElem_toArray, List.getElem_cons_succ, List.getElem_cons_zero, Act.put, List.setIfInBounds_toArray, List.set_cons_succ, List.set_cons_zero]; rfl))
  (apply wpOrd_yes rfl (by rfl); (intro w' hw'; unfold opR; go_simp; exact ⟨Ext.refl _, rfl⟩); (simp only [List.getElem_toArray, List.getElem_cons_succ, List.getElem_cons_zero, Act.put, List.setIfInBounds_toArray, List.set_cons_succ, List.set_cons_zero]; rfl))
  (apply wpOrd_yes rfl (by rfl); (intro w' hw'; refine opR_call rfl (Go.Proofs.enters_of Try.func11 (by kernel_rfl) rfl) (by simp only [List.map_toArray, List.map_cons, List.map_nil, Act.eval, Array.getD_eq_getD_getElem?, List.getElem?_toArray, List.getElem?_cons_succ, List.getElem?_cons_zero, Option.getD_some]; rfl) ?_; refine (sum_walk _ bs w' (B1.ext hw')).mono ?_; rintro e w4 ⟨rfl, rfl⟩; exact ⟨_, rfl, Ext.refl _, rfl⟩); (simp only [List.getElem_toArray, List.getElem_cons_succ, List.getElem_cons_zero, Act.put, List.setIfInBounds_toArray, List.set_cons_succ, List.set_cons_zero]; rfl))
  (apply wpOrd_yes rfl (by rfl); (intro w' hw'; unfold opR; go_simp; exact ⟨Ext.refl _, rfl⟩); (simp only [List.getElem_toArray, List.getElem_cons_succ, List.getElem_cons_zero, Act.put, List.setIfInBounds_toArray, List.set_cons_succ, List.set_cons_zero]; rfl))
  (apply wpOrd_yes rfl (by rfl); (intro w' hw'; refine opR_call rfl (Go.Proofs.enters_of Try.func23 (by kernel_rfl) rfl) (by simp only [List.map_toArray, List.map_cons, List.map_nil, Act.eval, Array.getD_eq_getD_getElem?, List.getElem?_toArray, List.getElem?_cons_succ, List.getElem?_cons_zero, Option.getD_some]; rfl) ?_; refine (rsum_walk _ bs w' (B1.ext hw')).mono ?_; rintro e w4 ⟨rfl, rfl⟩; exact ⟨_, rfl, Ext.refl _, rfl⟩); (simp only [List.getElem_toArray, List.getElem_cons_succ, List.getElem_cons_zero, Act.put, List.setIfInBounds_toArray, List.set_cons_succ, List.set_cons_zero]; rfl))
  (apply wpOrd_yes rfl (by rfl); (intro w' hw'; unfold opR; go_simp; exact ⟨Ext.refl _, rfl⟩); (simp only [List.getElem_toArray, List.getElem_cons_succ, List.getElem_cons_zero, Act.put, List.setIfInBounds_toArray, List.set_cons_succ, List.set_cons_zero]; rfl))
  iterate 2 (apply wpOrd_det rfl rfl; (intro w' hw'; unfold opR; go_simp; exact ⟨Ext.refl _, rfl⟩); (simp only [List.getElem_toArray, List.getElem_cons_succ, List.getElem_cons_zero, Act.put, List.setIfInBounds_toArray, List.set_cons_succ, List.set_cons_zero]; rfl))
  (apply wpOrd_yes rfl (by rfl); (intro w' hw'; unfold opR; go_simp; exact ⟨Ext.refl _, rfl⟩); (simp only [List.getElem_toArray, List.getElem_cons_succ, List.getElem_cons_zero, Act.put, List.setIfInBounds_toArray, List.set_cons_succ, List.set_cons_zero]; rfl))
  (apply wpOrd_yes rfl (by rfl); (intro w' hw'; refine opR_call rfl (Go.Proofs.enters_of Try.func24 (by kernel_rfl) rfl) (by simp only [List.map_toArray, List.map_cons, List.map_nil, Act.eval, Array.getD_eq_getD_getElem?, List.getElem?_toArray, List.getElem?_cons_succ, List.getElem?_cons_zero, Option.getD_some]; rfl) ?_; refine (ints_walk _ l w' (L1.ext hw') hl).mono ?_; rintro e w4 ⟨rfl, hx⟩; exact ⟨_, rfl, hx, rfl⟩); (simp only [List.getElem_toArray, List.getElem_cons_succ, List.getElem_cons_zero, Act.put, List.setIfInBounds_toArray, List.set_cons_succ, List.set_cons_zero]; rfl))
  (apply wpOrd_yes rfl (by rfl); (intro w' hw'; unfold opR; go_simp; exact ⟨Ext.refl _, rfl⟩); (simp only [List.getElem_toArray, List.getElem_cons_succ, List.getElem_cons_zero, Act.put, List.setIfInBounds_toArray, List.set_cons_succ, List.set_cons_zero]; rfl))
  (apply wpOrd_yes rfl (by rfl); (intro w' hw'; refine opR_call rfl (Go.Proofs.enters_of Try.func25 (by kernel_rfl) rfl) (by simp only [List.map_toArray, List.map_cons, List.map_nil, Act.eval, Array.getD_eq_getD_getElem?, List.getElem?_toArray, List.getElem?_cons_succ, List.getElem?_cons_zero, Option.getD_some]; rfl) ?_; refine (rints_walk _ l w' (L1.ext hw') hl).mono ?_; rintro e w4 ⟨rfl, hx⟩; exact ⟨_, rfl, hx, rfl⟩); (simp only [List.getElem_toArray, List.getElem_cons_succ, List.getElem_cons_zero, Act.put, List.setIfInBounds_toArray, List.set_cons_succ, List.set_cons_zero]; rfl))
  (apply wpOrd_yes rfl (by rfl); (intro w' hw'; unfold opR; go_simp; exact ⟨Ext.refl _, rfl⟩); (simp only [List.getElem_toArray, List.getElem_cons_succ, List.getElem_cons_zero, Act.put, List.setIfInBounds_toArray, List.set_cons_succ, List.set_cons_zero]; rfl))
  iterate 2 (apply wpOrd_det rfl rfl; (intro w' hw'; unfold opR; go_simp; exact ⟨Ext.refl _, rfl⟩); (simp only [List.getElem_toArray, List.getElem_cons_succ, List.getElem_cons_zero, Act.put, List.setIfInBounds_toArray, List.set_cons_succ, List.set_cons_zero]; rfl))
  (apply wpOrd_yes rfl (by rfl); (intro w' hw'; unfold opR; go_simp; exact ⟨Ext.refl _, rfl⟩); (simp only [List.getElem_toArray, List.getElem_cons_succ, List.getElem_cons_zero, Act.put, List.setIfInBounds_toArray, List.set_cons_succ, List.set_cons_zero]; rfl))
  (apply wpOrd_yes rfl (by rfl); (intro w' hw'; refine opR_call rfl (Go.Proofs.enters_of Try.func26 (by kernel_rfl) rfl) (by simp only [List.map_toArray, List.map_cons, List.map_nil, Act.eval, Array.getD_eq_getD_getElem?, List.getElem?_toArray, List.getElem?_cons_succ, List.getElem?_cons_zero, Option.getD_some]; rfl) ?_; refine (leaf_walk f0 f1 f2 w').mono ?_; rintro e w4 ⟨rfl, hx⟩; exact ⟨_, rfl, hx, rfl⟩); (simp only [List.getElem_toArray, List.getElem_cons_succ, List.getElem_cons_zero, Act.put, List.setIfInBounds_toArray, List.set_cons_succ, List.set_cons_zero]; rfl))
  (apply wpOrd_yes rfl (by rfl); (intro w' hw'; unfold opR; go_simp; exact ⟨Ext.refl _, rfl⟩); (simp only [List.getElem_toArray, List.getElem_cons_succ, List.getElem_cons_zero, Act.put, List.setIfInBounds_toArray, List.set_cons_succ, List.set_cons_zero]; rfl))
  (apply wpOrd_yes rfl (by rfl); (intro w' hw'; refine opR_call rfl (Go.Proofs.enters_of Try.func27 (by kernel_rfl) rfl) (by simp only [List.map_toArray, List.map_cons, List.map_nil, Act.eval, Array.getD_eq_getD_getElem?, List.getElem?_toArray, List.getElem?_cons_succ, List.getElem?_cons_zero, Option.getD_some]; rfl) ?_; refine (rleaf_walk f0 f1 f2 w').mono ?_; rintro e w4 ⟨rfl, hx⟩; exact ⟨_, rfl, hx, rfl⟩); (simp only [List.getElem_toArray, List.getElem_cons_succ, List.getElem_cons_zero, Act.put, List.setIfInBounds_toArray, List.set_cons_succ, List.set_cons_zero]; rfl))
  (apply wpOrd_yes rfl (by rfl); (intro w' hw'; unfold opR; go_simp; exact ⟨Ext.refl _, rfl⟩); (simp only [List.getElem_toArray, List.getElem_cons_succ, List.getElem_cons_zero, Act.put, List.setIfInBounds_toArray, List.set_cons_succ, List.set_cons_zero]; rfl))
  iterate 2 (apply wpOrd_det rfl rfl; (intro w' hw'; unfold opR; go_simp; exact ⟨Ext.refl _, rfl⟩); (simp only [List.getElem_toArray, List.getElem_cons_succ, List.getElem_cons_zero, Act.put, List.setIfInBounds_toArray, List.set_cons_succ, List.set_cons_zero]; rfl))
  iterate 2 (apply wpOrd_yes rfl (by rfl); (intro w' hw'; unfold opR; go_simp; exact ⟨Ext.refl _, rfl⟩); (simp only [List.getElem_toArray, List.getElem_cons_succ, List.getElem_cons_zero, Act.put, List.setIfInBounds_toArray, List.set_cons_succ, List.set_cons_zero]; rfl))
  (apply wpOrd_yes rfl (by rfl); (intro w' hw'; refine opR_call rfl (Go.Proofs.enters_of Try.func22 (by kernel_rfl) rfl) (by simp only [List.map_toArray, List.map_cons, List.map_nil, Act.eval, Array.getD_eq_getD_getElem?, List.getElem?_toArray, List.getElem?_cons_succ, List.getElem?_cons_zero, Option.getD_some]; rfl) ?_; refine (node_walk old rt w').mono ?_; rintro e w4 ⟨rfl, hx⟩; exact ⟨_, rfl, hx, rfl⟩); (simp only [List.getElem_toArray, List.getElem_cons_succ, List.getElem_cons_zero, Act.put, List.setIfInBounds_toArray, List.set_cons_succ, List.set_cons_zero]; rfl))
  iterate 2 (apply wpOrd_yes rfl (by rfl); (intro w' hw'; unfold opR; go_simp; exact ⟨Ext.refl _, rfl⟩); (simp only [List.getElem_toArray, List.getElem_cons_succ, List.getElem_cons_zero, Act.put, List.setIfInBounds_toArray, List.set_cons_succ, List.set_cons_zero]; rfl))
  (apply wpOrd_yes rfl (by rfl); (intro w' hw'; refine opR_call rfl (Go.Proofs.enters_of Try.func28 (by kernel_rfl) rfl) (by simp only [List.map_toArray, List.map_cons, List.map_nil, Act.eval, Array.getD_eq_getD_getElem?, List.getElem?_toArray, List.getElem?_cons_succ, List.getElem?_cons_zero, Option.getD_some]; rfl) ?_; refine (rnode_walk old rt w').mono ?_; rintro e w4 ⟨rfl, hx⟩; exact ⟨_, rfl, hx, rfl⟩); (simp only [List.getElem_toArray, List.getElem_cons_succ, List.getElem_cons_zero, Act.put, List.setIfInBounds_toArray, List.set_cons_succ, List.set_cons_zero]; rfl))
  (apply wpOrd_yes rfl (by rfl); (intro w' hw'; unfold opR; go_simp; exact ⟨Ext.refl _, rfl⟩); (simp only [List.getElem_toArray, List.getElem_cons_succ, List.getElem_cons_zero, Act.put, List.setIfInBounds_toArray, List.set_cons_succ, List.set_cons_zero]; rfl))
  iterate 2 (apply wpOrd_det rfl rfl; (intro w' hw'; unfold opR; go_simp; exact ⟨Ext.refl _, rfl⟩); (simp only [List.getElem_toArray, List.getElem_cons_succ, List.getElem_cons_zero, Act.put, List.setIfInBounds_toArray, List.set_cons_succ, List.set_cons_zero]; rfl))
  refine wpOrd_nil (l := []) rfl ?_
  intro w2 x2
  have X2 := X1.trans x2
  clear B L B1 L1 r0 r1 r2
  go_wp2_with fail
  refine (root_walk _ xs _ (S.ext X2)).mono ?_
  rintro e w3 ⟨rfl, x3⟩
  have X3 := X2.trans x3
  go_wp2_with fail
  refine (rroot_walk _ xs _ (S.ext X3)).mono ?_
  rintro e w4 ⟨rfl, x4⟩
  have X4 := X3.trans x4
  go_wp2_with fail
  refine (path_walk _ xs i _ (S.ext X4)).mono ?_
  rintro e w5 ⟨p, rfl, o5, x5⟩
  have X5 := X4.trans x5
  have lp := pathL_len xs i
  have lg := growL_len xs m
  have s5 := o5.sl (fun _ _ => rfl) (by omega)
  obtain ⟨_, _, _, rfl⟩ := o5.shape
  go_wp2_with fail
  refine (rpath_walk _ xs i _ (S.ext X5)).mono ?_
  rintro e w6 ⟨q, rfl, o6, x6⟩
  have X6 := X5.trans x6
  have s6 := o6.sl (fun _ _ => rfl) (by omega)
  obtain ⟨_, _, _, rfl⟩ := o6.shape
  go_wp2_with fail
  refine (same_walk _ _ (pathL xs i) (pathL xs i) _ (s5.ext x6) s6).mono ?_
  rw [decide_eq_true rfl]
  rintro e w7 ⟨rfl, x7⟩
  have X7 := X6.trans x7
  clear o5 o6 s5 s6 lp
  go_wp2_with fail
  refine (grow_walk _ xs m _ (S.ext X7)).mono ?_
  rintro e w8 ⟨p, rfl, o8, x8⟩
  have X8 := X7.trans x8
  have s8 := o8.sl (fun _ _ => rfl) (by omega)
  obtain ⟨_, _, _, rfl⟩ := o8.shape
  go_wp2_with fail
  refine (rgrow_walk _ xs m _ (S.ext X8)).mono ?_
  rintro e w9 ⟨q, rfl, o9, x9⟩
  have X9 := X8.trans x9
  have s9 := o9.sl (fun _ _ => rfl) (by omega)
  obtain ⟨_, _, _, rfl⟩ := o9.shape
  go_wp2_with fail
  refine (same_walk _ _ (growL xs m) (growL xs m) _ (s8.ext x9) s9).mono ?_
  rw [decide_eq_true rfl]
  rintro e w10 ⟨rfl, x10⟩
  have X10 := X9.trans x10
  clear o8 o9 s8 s9 lg S
  go_wp2_with fail
  refine (check_walk rt old i m _ ps _ (T.ext X10)).mono ?_
  rintro e w11 ⟨rfl, x11⟩
  have X11 := X10.trans x11
  go_wp2_with fail
  refine (rcheck_walk rt old i m _ ps _ (T.ext X11)).mono ?_
  rintro e w12 ⟨rfl, x12⟩
  have X12 := X11.trans x12
  go_wp2_with fail
  refine (follows_walk old rt i m _ ps _ (T.ext X12)).mono ?_
  rintro e w13 ⟨rfl, x13⟩
  have X13 := X12.trans x13
  go_wp2_with fail
  refine (rfollows_walk old rt i m _ ps _ (T.ext X13)).mono ?_
  rintro e w14 ⟨rfl, x14⟩
  have X14 := X13.trans x14
  clear T
  go_wp2
  go_ret
  exact ⟨by simp, X14⟩

/-- A struct of three integers, by value. -/
theorem arg_agg3 {H : Type} {enc : TypeId × Value → H} {P : Program} {W : World} {base : Nat} {t : TypeId} {f0 f1 f2 : Field} {k : IntKind} {v : Value} {d : DataW H} (hs : P.underlying t = some (.struct #[f0, f1, f2])) (hone : Go.Deep.oneCellFields P #[f0, f1, f2] = true) (hC : P.cellsOf t = 3)
    (h0 : P.underlying f0.type = some (.int k)) (h1 : P.underlying f1.type = some (.int k)) (h2 : P.underlying f2.type = some (.int k)) (h : Arg enc P W base t v d) : ∃ a b c, v = .agg #[.int k a, .int k b, .int k c] := by
  obtain ⟨hv, ⟨p, hd⟩, _⟩ := h
  obtain ⟨v0, v1, v2, y0, y1, y2, n, rfl, _, _, t0, t1, t2⟩ := Go.Joins.open_agg3 hs hone hC hv hd
  obtain ⟨a, e0, _, _⟩ := DataW.trod_int h0 t0
  obtain ⟨b, e1, _, _⟩ := DataW.trod_int h1 t1
  obtain ⟨c, e2, _, _⟩ := DataW.trod_int h2 t2
  injection e0 with e0 _
  injection e1 with e1 _
  injection e2 with e2 _
  subst e0 e1 e2
  exact ⟨a, b, c, rfl⟩

theorem reportMatchesReference_args (H : Type) (enc : TypeId × Value → H) (W : World) (base : Nat) (vs : List Value) (ds : List (DataW H)) (hA : Args enc Try.prog W base Try.f9.params.toList vs ds) :
    Calls Try.prog 9 vs.toArray W fun e W' => e = .returned (.bool true) ∧ Ext W W' := by
  rw [Try.params9] at hA
  obtain ⟨v0, _, d0, _, rfl, rfl, h0, hA⟩ := hA.cons
  obtain ⟨v1, _, d1, _, rfl, rfl, h1, hA⟩ := hA.cons
  obtain ⟨v2, _, d2, _, rfl, rfl, h2, hA⟩ := hA.cons
  obtain ⟨v3, _, d3, _, rfl, rfl, h3, hA⟩ := hA.cons
  obtain ⟨v4, _, d4, _, rfl, rfl, h4, hA⟩ := hA.cons
  obtain ⟨v5, _, d5, _, rfl, rfl, h5, hA⟩ := hA.cons
  obtain ⟨v6, _, d6, _, rfl, rfl, h6, hA⟩ := hA.cons
  obtain ⟨v7, _, d7, _, rfl, rfl, h7, hA⟩ := hA.cons
  obtain ⟨v8, _, d8, _, rfl, rfl, h8, hA⟩ := hA.cons
  obtain ⟨rfl, rfl⟩ := hA.nil
  obtain ⟨bs, B, _, _⟩ := h0.sl Try.underlying22 (by kernel_rfl) (of_decide_eq_true (by kernel_rfl)) (elem_int Try.underlying5)
  obtain ⟨l, L, l1, _⟩ := h1.sl Try.underlying49 (by kernel_rfl) (of_decide_eq_true (by kernel_rfl)) (elem_int Try.underlying3)
  have hb := h1.sl_reach Try.underlying49 l1
  have h88 : Try.prog.bytesOf 3 = 8 := by kernel_rfl
  rw [h88] at hb
  obtain ⟨f0, f1, f2, rfl⟩ := arg_agg3 Try.underlying51 (by kernel_rfl) (by kernel_rfl) Try.underlying3 Try.underlying3 Try.underlying3 h2
  obtain ⟨xs, S, _, _⟩ := h3.sl Try.underlying27 (by kernel_rfl) (of_decide_eq_true (by kernel_rfl)) (elem_int Try.underlying24)
  obtain ⟨i, rfl, _⟩ := h4.int Try.underlying3
  obtain ⟨m, rfl, _⟩ := h5.int Try.underlying3
  obtain ⟨old, rfl, _⟩ := h6.int Try.underlying24
  obtain ⟨rt, rfl, _⟩ := h7.int Try.underlying24
  obtain ⟨ps, T, _, _⟩ := h8.sl Try.underlying27 (by kernel_rfl) (of_decide_eq_true (by kernel_rfl)) (elem_int Try.underlying24)
  exact match_walk v0 v1 v3 v8 bs l xs ps f0 f1 f2 i m old rt W B L S T (by simpa [reachBytes] using hb)

set_option maxRecDepth 100000 in
theorem reportMatchesReference_lifted (os : Os) (started : os.Started) (H : Type) (enc : TypeId × Value → H) :
    ReturnsInHanded {} Try.checked os 9 .any (Rows.reportMatchesReferenceSpec.pre6 enc Try.prog Try.f9 Rows.reportMatchesReferenceRow.domain false) (Rows.reportMatchesReferenceSpec.post enc Try.prog Try.f9 false true false false) :=
  law_said (C := Try.checked) (by kernel_rfl) started (by kernel_rfl) Try.func9
    (ChangeSpec.witness6 (enc := enc) (C := Try.checked) false ⟨#[], #[.slice none 0 0, .slice none 0 0, .agg #[.int .i64 0, .int .i64 0, .int .i64 0], .slice none 0 0, .int .i64 0, .int .i64 0, .int .u64 0, .int .u64 0, .slice none 0 0], []⟩ 8 (by kernel_rfl) (by kernel_rfl) (by kernel_rfl) (by kernel_rfl))
    (by kernel_rfl) (by kernel_rfl) (by kernel_rfl) rfl (fun ds h => by match ds, h with | [_, _, _, _, _, _, _, _, _], _ => rfl) (reportMatchesReference_args H enc)

theorem reportMatchesReference_holds : Rows.ReportMatchesReferenceSaid :=
  OpenClaim.holds_of_wide 9 Try.f9 rfl rfl rfl rfl rfl rfl rfl ⟨rfl, rfl, rfl, rfl, rfl⟩ rfl rfl rfl rfl rfl (by kernel_rfl) Try.func9 (by kernel_rfl)
    (of_decide_eq_true (by kernel_rfl)) (by unfold Func.isWrapper; first | (rw [if_pos (by decide +kernel)]; kernel_rfl) | (rw [if_neg (by decide +kernel)]; exact ⟨rfl, rfl⟩))
    (fun os started H enc _ => reportMatchesReference_lifted os started H enc)
end Go.Proofs.Yteelklpppfahcaa
