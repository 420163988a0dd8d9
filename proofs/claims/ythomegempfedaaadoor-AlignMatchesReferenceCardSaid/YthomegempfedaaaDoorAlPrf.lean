/-
  Proved: 'AlignProof' returns true for every input and leaves its arguments as they were. No condition.
-/
import Derived.Test.YthomegempfedaaaDoorAlL
set_option linter.unusedVariables false
namespace Go.Proofs.YthomegempfedaaaDoor
open Go.RowKit Go.Sx Go.Sx.Sz Go.Sx.Al Go.ChangeShapes Go.WideShapes Go.ChangeAt

theorem cellsOk_get {ds : List Due} {hs : List Hrd} {p : Prc} {t : List (List Int)} {i j : Nat} : ∀ {n k : Nat}, cellsOk ds hs p t i j n = true → k < n → cellOk ds hs p t i j k = true
  | n + 1, k, h, hk => by
    rw [cellsOk, Bool.and_eq_true] at h
    by_cases e : k = n
    · subst e; exact h.2
    · exact cellsOk_get h.1 (by omega)
theorem cellsOk_mk {ds : List Due} {hs : List Hrd} {p : Prc} {t : List (List Int)} {i j : Nat} : ∀ {n : Nat}, (∀ k, k < n → cellOk ds hs p t i j k = true) → cellsOk ds hs p t i j n = true
  | 0, _ => rfl
  | n + 1, h => by rw [cellsOk, cellsOk_mk (fun k hk => h k (by omega)), h n (by omega)]; rfl
theorem bndB_get {ds : List Due} {hs : List Hrd} {p : Prc} {t : List (List Int)} : ∀ {L K : Nat}, bndB ds hs p t L = true → K < L → cellsOk ds hs p t (ds.length - K / (hs.length + 1)) (hs.length - K % (hs.length + 1)) 3 = true
  | L + 1, K, h, hk => by
    rw [bndB, Bool.and_eq_true] at h
    by_cases e : K = L
    · subst e; exact h.2
    · exact bndB_get h.1 (by omega)
theorem bndB_mk {ds : List Due} {hs : List Hrd} {p : Prc} {t : List (List Int)} : ∀ {L : Nat}, (∀ K, K < L → cellsOk ds hs p t (ds.length - K / (hs.length + 1)) (hs.length - K % (hs.length + 1)) 3 = true) → bndB ds hs p t L = true
  | 0, _ => rfl
  | L + 1, h => by rw [bndB, bndB_mk (fun K hK => h K (by omega)), h L (by omega)]; rfl
theorem bndB_cell {ds : List Due} {hs : List Hrd} {p : Prc} {t : List (List Int)} (h : bndB ds hs p t ((ds.length + 1) * (hs.length + 1)) = true) {i j k : Nat} (hi : i ≤ ds.length) (hj : j ≤ hs.length) (hk : k < 3) (ho : stOk ds hs i j k) :
    tv t i j ≤ stC ds hs p i j k + tv t (i + mD k) (j + mH k) := by
  have hK : (ds.length - i) * (hs.length + 1) + (hs.length - j) < (ds.length + 1) * (hs.length + 1) := by
    have : (ds.length - i + 1) * (hs.length + 1) ≤ (ds.length + 1) * (hs.length + 1) := Nat.mul_le_mul_right _ (by omega)
    rw [Nat.add_mul] at this; omega
  have h1 := bndB_get h hK
  have e1 : ((ds.length - i) * (hs.length + 1) + (hs.length - j)) / (hs.length + 1) = ds.length - i := by
    rw [Nat.mul_comm, Nat.mul_add_div (Nat.succ_pos _), Nat.div_eq_of_lt (by omega), Nat.add_zero]
  have e2 : ((ds.length - i) * (hs.length + 1) + (hs.length - j)) % (hs.length + 1) = hs.length - j := by
    rw [Nat.mul_comm, Nat.mul_add_mod, Nat.mod_eq_of_lt (by omega)]
  rw [e1, e2, show ds.length - (ds.length - i) = i by omega, show hs.length - (hs.length - j) = j by omega] at h1
  have h2 := cellsOk_get h1 hk
  rw [cellOk, decide_eq_true ho] at h2
  simpa using h2
/-- A table that Check accepts bounds the costs. -/
theorem check_bnd {ds : List Due} {hs : List Hrd} {p : Prc} {l : List Mt} {t : List (List Int)} (h : checkB ds hs p l t = true) : Bnd ds hs p (tv t) := by
  rw [checkB, headB, Bool.and_eq_true, Bool.and_eq_true, Bool.and_eq_true, Bool.and_eq_true, decide_eq_true_eq, decide_eq_true_eq, decide_eq_true_eq] at h
  obtain ⟨⟨h1, h2, h3, h4⟩, h5⟩ := h
  refine ⟨h3, fun i j hi hj => ?_, fun i j hi hj => ?_, fun i j hi hj => ?_⟩
  · exact bndB_cell h5 (by omega) hj (show 1 < 3 by omega) ⟨by simp only [mD]; omega, by simp only [mH]; omega⟩
  · exact bndB_cell h5 hi (by omega) (show 2 < 3 by omega) ⟨by simp only [mD]; omega, by simp only [mH]; omega⟩
  · have := bndB_cell h5 (show i ≤ ds.length by omega) (show j ≤ hs.length by omega) (show 0 < 3 by omega) ⟨by simp only [mD]; omega, by simp only [mH]; omega⟩
    rw [show stC ds hs p i j 0 = mcT ds hs p i j from rfl, mcT_eq ds hs p hi hj] at this
    exact this
theorem tv_table {ds : List Due} {hs : List Hrd} {p : Prc} {i j : Nat} (hi : i ≤ ds.length) (hj : j ≤ hs.length) : tv (tableL ds hs p) i j = tab ds hs p i j := by
  unfold tv tableL
  rw [List.getD_eq_getElem?_getD, List.getD_eq_getElem?_getD, List.getElem?_map, List.getElem?_range (by omega)]
  simp only [Option.map_some, Option.getD_some]
  rw [List.getElem?_map, List.getElem?_range (by omega)]; rfl
theorem shape_table {ds : List Due} {hs : List Hrd} {p : Prc} (hv : AlOk ds hs p) : shapeB (tableL ds hs p) ds.length hs.length = true := by
  unfold shapeB
  rw [Bool.and_eq_true, decide_eq_true_eq, List.all_eq_true]
  refine ⟨fun r hr => ?_, by simp [tableL]⟩
  unfold tableL at hr
  obtain ⟨i, hi, rfl⟩ := List.mem_map.1 hr
  rw [List.mem_range] at hi
  unfold rowB
  rw [Bool.and_eq_true, decide_eq_true_eq, Bool.not_eq_true', List.any_eq_false]
  refine ⟨by simp, fun x hx => ?_⟩
  obtain ⟨j, hj, rfl⟩ := List.mem_map.1 hx
  rw [List.mem_range] at hj
  have := @tab_small ds hs p hv i j (by omega) (by omega)
  simp [inR]; omega
/-- The table that Align returns proves its alignment. -/
theorem check_align {ds : List Due} {hs : List Hrd} {p : Prc} (hok : alOk ds hs p = true) : checkB ds hs p (pathL ds hs p) (tableL ds hs p) = true := by
  have hv := alOk_iff.1 hok
  have hc := cost_path hok
  rw [checkB, headB, hc, shape_table hv, tv_table (Nat.le_refl _) (Nat.le_refl _), tv_table (Nat.zero_le _) (Nat.zero_le _), tab_nm]
  simp only [decide_true, Bool.true_and]
  refine bndB_mk fun K hK => cellsOk_mk fun k hk => ?_
  have here := here_of hK
  obtain ⟨l1, l2⟩ := here.le
  rw [cellOk]
  by_cases ho : stOk ds hs (ds.length - K / (hs.length + 1)) (hs.length - K % (hs.length + 1)) k
  · rw [decide_eq_true ho, tv_table l1 l2, tv_table ho.1 ho.2]
    simp only [Bool.not_true, Bool.false_or, decide_eq_true_eq]
    have B := @tab_bnd ds hs p
    generalize ds.length - K / (hs.length + 1) = i at *
    generalize hs.length - K % (hs.length + 1) = j at *
    obtain rfl | rfl | rfl : k = 0 ∨ k = 1 ∨ k = 2 := by omega
    · have h1 : i < ds.length := ho.1
      have h2 : j < hs.length := ho.2
      rw [show stC ds hs p i j 0 = mcT ds hs p i j from rfl, mcT_eq ds hs p h1 h2]
      exact B.both i j h1 h2
    · exact B.due i j ho.1 l2
    · exact B.tone i j l1 ho.2
  · rw [decide_eq_false ho]; rfl
/-- An alignment that some table proves costs what Align's costs. -/
theorem check_cost {ds : List Due} {hs : List Hrd} {p : Prc} {l : List Mt} {t : List (List Int)} (hok : alOk ds hs p = true) (h : checkB ds hs p l t = true) : costR ds hs p l = (tab ds hs p 0 0, 0) := by
  have B := check_bnd h
  rw [checkB, headB, Bool.and_eq_true, Bool.and_eq_true, Bool.and_eq_true, Bool.and_eq_true, decide_eq_true_eq, decide_eq_true_eq, decide_eq_true_eq] at h
  obtain ⟨⟨h1, h2, h3, h4⟩, h5⟩ := h
  have a := cost_least (tab_bnd (ds := ds) (hs := hs) (p := p)) h1
  have b := cost_least B (l := pathL ds hs p) (by rw [cost_path hok])
  rw [cost_path hok] at b
  have : (costR ds hs p l).1 = tab ds hs p 0 0 := by omega
  exact Prod.ext this h1

set_option maxHeartbeats 4000000 in
theorem proof_walk (vd vh vl vt : Value) (ds : List Due) (hs : List Hrd) (p : Prc) (l : List Mt) (t : List (List Int)) (hn1 : ds.length * 56 ≤ 140737488351232) (hn2 : hs.length * 24 ≤ 140737488351232) (w : World) (G : Gl 0 w)
    (Sd : Sl w 7 encD vd ds) (Sh : Sl w 3 encH vh hs) (Sm : Sl w 2 encM vl l) (T : Tab w vt t) :
    Calls Tryd.prog 5 #[vd, vh, .agg #[.int .i64 p.skip, .int .i64 p.off], vl, vt] w fun e w' => e = .returned (.bool true) ∧ Ext w w' := by
  obtain ⟨ad, cd, rfl, -, -, -⟩ := Sd.len
  obtain ⟨ah, ch, rfl, -, -, -⟩ := Sh.len
  obtain ⟨am, cm, rfl, -, -, -⟩ := Sm.len
  obtain ⟨aT, cT, rfl, -⟩ := T.len
  go_enter Tryd.func5, Tryd.ntmps5
  go_wp2_with fail
  refine (head_walk _ (G.ext (by repeat (first | with_reducible exact Ext.refl _ | with_reducible assumption | with_reducible apply Ext.alloc | with_reducible apply Ext.drew | (with_reducible refine Ext.setCell ?_ (by (try simp) <;> omega) _))))).mono ?_
  rintro e w1 ⟨rfl, x1⟩
  have X1 : Ext w w1 := Ext.trans (by repeat (first | with_reducible exact Ext.refl _ | with_reducible assumption | with_reducible apply Ext.alloc | with_reducible apply Ext.drew | (with_reducible refine Ext.setCell ?_ (by (try simp) <;> omega) _))) x1
  have b1 := block_ext x1 (block_new w (.cells #[.int .i64 p.skip, .int .i64 p.off] 25))
  have c10 := block_cell b1 0 (.int .i64 p.skip) rfl
  have c11 := block_cell b1 1 (.int .i64 p.off) rfl
  have B1 := Lib.hid b1
  clear x1 b1
  go_wp2_with fail
  refine (align_walk _ _ ds hs p hn1 hn2 _ (G.ext X1) (Sd.ext X1) (Sh.ext X1)).mono ?_
  cases hok : alOk ds hs p with
  | false =>
    have h1 : alCr ds hs p = 0 := by rw [alCr, hok]; rfl
    have h2 : alEr ds hs p = 1 := by rw [alEr, hok]; rfl
    have h3 : ∀ l t, checkR ds hs p l t = (false, 1) := fun l t => by rw [checkR, hok]; rfl
    have HC := Lib.hid h3
    rw [h1, h2]
    clear hok h1 h2 h3
    rintro e w2 ⟨vl, vt, rfl, SL, TT, x2⟩
    have X2 := X1.trans x2
    have B2 := Lib.hid (block_ext x2 B1.out)
    have c20 := block_cell B2.out 0 (.int .i64 p.skip) rfl
    have c21 := block_cell B2.out 1 (.int .i64 p.off) rfl
    obtain ⟨aL, cL, rfl, -, -, -⟩ := SL.len
    obtain ⟨aW, cW, rfl, -⟩ := TT.len
    clear B1 c10 c11
    go_wp2_with fail
    refine (check_walk _ _ _ _ ds hs p _ _ hn1 hn2 _ (G.ext X2) (Sd.ext X2) (Sh.ext X2) SL TT).mono ?_
    rw [HC.out]
    rintro e w3 ⟨rfl, x3⟩
    have X3 := X2.trans x3
    have B3 := Lib.hid (block_ext x3 B2.out)
    have c30 := block_cell B3.out 0 (.int .i64 p.skip) rfl
    have c31 := block_cell B3.out 1 (.int .i64 p.off) rfl
    clear x3 B2 c20 c21
    go_wp2_with fail
    refine (check_walk _ _ _ _ ds hs p l t hn1 hn2 _ (G.ext X3) (Sd.ext X3) (Sh.ext X3) (Sm.ext X3) (T.ext X3)).mono ?_
    rw [HC.out]
    rintro e w4 ⟨rfl, x4⟩
    have X4 := X3.trans x4
    have B4 := Lib.hid (block_ext x4 B3.out)
    have c40 := block_cell B4.out 0 (.int .i64 p.skip) rfl
    have c41 := block_cell B4.out 1 (.int .i64 p.off) rfl
    clear x4 B3 c30 c31
    go_wp2
    go_ret
    exact ⟨rfl, X4⟩
  | true =>
    have h1 : alCr ds hs p = tab ds hs p 0 0 := by rw [alCr, hok]; rfl
    have h2 : alEr ds hs p = 0 := by rw [alEr, hok]; rfl
    have h3 : alLr ds hs p = pathL ds hs p := by rw [alLr, hok]; rfl
    have h4 : alTr ds hs p = tableL ds hs p := by rw [alTr, hok]; rfl
    have hc : checkR ds hs p (pathL ds hs p) (tableL ds hs p) = (true, 0) := by rw [checkR, if_pos hok, check_align hok]
    have hb : checkR ds hs p l t = (checkB ds hs p l t, 0) := by rw [checkR, if_pos hok]
    have hcost : checkB ds hs p l t = true → costR ds hs p l = (tab ds hs p 0 0, 0) := check_cost hok
    obtain ⟨c, hcc⟩ : ∃ c, tab ds hs p 0 0 = c := ⟨_, rfl⟩
    obtain ⟨b, hbb⟩ : ∃ b, checkB ds hs p l t = b := ⟨_, rfl⟩
    rw [h1, h2, h3, h4]
    rw [hcc] at hcost ⊢
    rw [hbb] at hb hcost
    have HC := Lib.hid hc; have HB := Lib.hid hb; have HCO := Lib.hid hcost
    clear hok h1 h2 h3 h4 hcc hbb hc hb hcost
    rintro e w2 ⟨vl, vt, rfl, SL, TT, x2⟩
    have X2 := X1.trans x2
    have B2 := Lib.hid (block_ext x2 B1.out)
    have c20 := block_cell B2.out 0 (.int .i64 p.skip) rfl
    have c21 := block_cell B2.out 1 (.int .i64 p.off) rfl
    obtain ⟨aL, cL, rfl, -, -, -⟩ := SL.len
    obtain ⟨aW, cW, rfl, -⟩ := TT.len
    clear B1 c10 c11
    go_wp2_with fail
    refine (check_walk _ _ _ _ ds hs p _ _ hn1 hn2 _ (G.ext X2) (Sd.ext X2) (Sh.ext X2) SL TT).mono ?_
    rw [HC.out]
    rintro e w3 ⟨rfl, x3⟩
    have X3 := X2.trans x3
    have B3 := Lib.hid (block_ext x3 B2.out)
    have c30 := block_cell B3.out 0 (.int .i64 p.skip) rfl
    have c31 := block_cell B3.out 1 (.int .i64 p.off) rfl
    clear x3 B2 c20 c21
    go_wp2_with fail
    refine (check_walk _ _ _ _ ds hs p l t hn1 hn2 _ (G.ext X3) (Sd.ext X3) (Sh.ext X3) (Sm.ext X3) (T.ext X3)).mono ?_
    rw [HB.out]
    rintro e w4 ⟨rfl, x4⟩
    have X4 := X3.trans x4
    have B4 := Lib.hid (block_ext x4 B3.out)
    have c40 := block_cell B4.out 0 (.int .i64 p.skip) rfl
    have c41 := block_cell B4.out 1 (.int .i64 p.off) rfl
    clear x4 B3 c30 c31
    cases b with
    | false =>
      go_wp2
      go_ret
      exact ⟨rfl, X4⟩
    | true =>
      have hco := HCO.out rfl
      have HK := Lib.hid hco
      clear hco
      go_wp2_with fail
      refine (cost_walk _ _ _ ds hs p l hn1 hn2 _ (G.ext X4) (Sd.ext X4) (Sh.ext X4) (Sm.ext X4)).mono ?_
      rw [HK.out]
      rintro e w5 ⟨rfl, x5⟩
      have X5 := X4.trans x5
      go_wp2
      go_ret
      exact ⟨by first | rfl | simp, X5⟩

theorem alignProof_args (H : Type) (enc : TypeId × Value → H) (W : World) (base : Nat) (vs : List Value) (ds : List (DataW H)) (_ : ∀ k, (OpenSpec.ofChange Rows.alignProofSpec).cond = some k → k H ds = true) (hL : laidMetH Tryd.prog Rows.alignProofRow.laid W) (hA : Args enc Tryd.prog W base Tryd.f5.params.toList vs ds) :
    Calls Tryd.prog 5 vs.toArray W fun e W' => e = .returned (.bool true) ∧ Ext W W' := by
  rw [Tryd.params5] at hA
  obtain ⟨v0, _, d0, _, rfl, rfl, h0, hA⟩ := hA.cons
  obtain ⟨v1, _, d1, _, rfl, rfl, h1, hA⟩ := hA.cons
  obtain ⟨v2, _, d2, _, rfl, rfl, h2, hA⟩ := hA.cons
  obtain ⟨v3, _, d3, _, rfl, rfl, h3, hA⟩ := hA.cons
  obtain ⟨v4, _, d4, _, rfl, rfl, h4, hA⟩ := hA.cons
  obtain ⟨rfl, rfl⟩ := hA.nil
  obtain ⟨l0, S0, n0⟩ := arg_dues h0
  obtain ⟨l1, S1, n1⟩ := arg_heard h1
  obtain ⟨p, rfl, _⟩ := arg_price h2
  obtain ⟨l3, S3⟩ := arg_matches h3
  obtain ⟨l4, S4⟩ := arg_table h4
  exact proof_walk _ _ _ _ l0 l1 p l3 l4 n0 n1 W (gv_of hL) S0 S1 S3 S4

theorem alignProof_met (os : Os) : laidMet Tryd.prog Rows.alignProofRow.laid ((laidWorld os).forCall (fun _ _ => 0) ⟨#[], #[.slice none 0 0, .slice none 0 0, .agg #[.int .i64 0, .int .i64 0], .slice none 0 0, .slice none 0 0], []⟩).memory := laidMet_of_run' 8 (by kernel_rfl) (by kernel_rfl)
theorem alignProof_reads (os : Os) {H : Type} (enc : TypeId × Value → H) : ∃ places, DataW.whole enc Tryd.prog ((laidWorld os).forCall (fun _ _ => 0) ⟨#[], #[.slice none 0 0, .slice none 0 0, .agg #[.int .i64 0, .int .i64 0], .slice none 0 0, .slice none 0 0], []⟩).memory Tryd.f5.params.toList Rows.alignProofSpec.vars false #[.slice none 0 0, .slice none 0 0, .agg #[.int .i64 0, .int .i64 0], .slice none 0 0, .slice none 0 0].toList 8 = some ([.nil, .nil, .agg [.lit (.int .i64 0), .lit (.int .i64 0)], .nil, .nil], [], places) := ⟨[], by kernel_rfl⟩
set_option maxRecDepth 100000 in
theorem alignProof_lifted (os : Os) (started : os.Started) (H : Type) (enc : TypeId × Value → H) (F : Stop.Interp) :
    ReturnsInHanded {} Tryd.checked os 5 .any ((OpenSpec.ofChange Rows.alignProofSpec).preRow enc Tryd.prog Tryd.f5 Rows.alignProofRow.domain false Rows.alignProofRow.laid) (((OpenSpec.ofChange Rows.alignProofSpec).at F).post enc Tryd.prog Tryd.f5 false true false false) := by
  obtain ⟨places, hx⟩ := alignProof_reads os enc
  exact law_row (C := Tryd.checked) (s := (OpenSpec.ofChange Rows.alignProofSpec)) (by kernel_rfl) started (by kernel_rfl) Tryd.func5
    (witness_row_at (enc := enc) (C := Tryd.checked) false (laidWorld os) #[.slice none 0 0, .slice none 0 0, .agg #[.int .i64 0, .int .i64 0], .slice none 0 0, .slice none 0 0] rfl (by kernel_rfl) (by kernel_rfl) (by kernel_rfl) (OpenSpec.preRow_of_cond 8 hx (by kernel_rfl) (fun k hk => by cases hk) (by kernel_rfl) (alignProof_met os)))
    (by kernel_rfl) (by kernel_rfl) (by kernel_rfl) rfl (fun ds h => by match ds, h with | [_, _, _, _, _], _ => rfl) (alignProof_args H enc)
theorem alignProof_said : Rows.AlignProofSaid :=
  OpenClaim.holds_of_cond 5 Tryd.f5 rfl rfl rfl rfl rfl rfl rfl ⟨rfl, rfl, rfl, rfl, rfl⟩ rfl rfl rfl rfl rfl (by kernel_rfl) Tryd.func5 (by kernel_rfl)
    (of_decide_eq_true (by kernel_rfl)) (by unfold Func.isWrapper; first | (rw [if_pos (by decide +kernel)]; kernel_rfl) | (rw [if_neg (by decide +kernel)]; exact ⟨rfl, rfl⟩))
    (fun os started H enc _ F => by rw [OpenClaim.pre_eq_preRow]; exact alignProof_lifted os started H enc F)
theorem alignProof_plain (f : FuncId) (fn : Func) (hf : Tryd.pinned.checked.prog.funcNamed "schisma/schismalaw38.AlignProof" = some f) (hfn : Tryd.pinned.checked.prog.funcs[f]? = some fn) :
    false = Tryd.pinned.checked.prog.looks [] ∧ ∀ (j : Nat) t, fn.params[j]? = some t → Tryd.pinned.checked.prog.wantsStandIn t = false := by
  obtain rfl : f = 5 := Option.some.inj ((show Tryd.prog.funcNamed "schisma/schismalaw38.AlignProof" = some 5 by kernel_rfl).symm.trans hf) |>.symm
  obtain rfl : fn = Tryd.f5 := (Option.some.inj (Tryd.func5.symm.trans hfn)).symm
  refine ⟨by kernel_rfl, fun j t ht => ?_⟩
  have hall : Tryd.f5.params.all (fun t => !Tryd.prog.wantsStandIn t) = true := by kernel_rfl
  have := (Array.all_eq_true'.1 hall) t (Array.mem_of_getElem? ht)
  have e : Tryd.prog.wantsStandIn t = false := by simpa using this
  exact e
/-- The card. -/
theorem alignProof_holds : Rows.AlignProofCardSaid :=
  Claim7.holds_tied_plain_at .later [] _ _ _ _ alignProof_said (fun _ h => by cases h) (by kernel_rfl) (fun _ h => by cases h) alignProof_row_tie rfl ⟨rfl, rfl⟩ (by kernel_rfl) rfl alignProof_plain (by kernel_rfl)
end Go.Proofs.YthomegempfedaaaDoor
