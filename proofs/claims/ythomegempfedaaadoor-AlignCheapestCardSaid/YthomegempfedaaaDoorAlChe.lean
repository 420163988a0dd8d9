/-
  Proved: 'AlignCheapest' returns true for every input and leaves its arguments as they were. No condition.
-/
import Derived.Test.YthomegempfedaaaDoorAlL
set_option linter.unusedVariables false
namespace Go.Proofs.YthomegempfedaaaDoor
open Go.RowKit Go.Sx Go.Sx.Sz Go.Sx.Al Go.ChangeShapes Go.WideShapes Go.ChangeAt

set_option maxHeartbeats 4000000 in
theorem cheapest_walk (vd vh vl : Value) (ds : List Due) (hs : List Hrd) (p : Prc) (l : List Mt) (hn1 : ds.length * 56 ≤ 140737488351232) (hn2 : hs.length * 24 ≤ 140737488351232) (w : World) (G : Gl 0 w)
    (Sd : Sl w 7 encD vd ds) (Sh : Sl w 3 encH vh hs) (Sm : Sl w 2 encM vl l) :
    Calls Tryd.prog 4 #[vd, vh, .agg #[.int .i64 p.skip, .int .i64 p.off], vl] w fun e w' => e = .returned (.bool true) ∧ Ext w w' := by
  obtain ⟨ad, cd, rfl, -, -, -⟩ := Sd.len
  obtain ⟨ah, ch, rfl, -, -, -⟩ := Sh.len
  obtain ⟨am, cm, rfl, -, -, -⟩ := Sm.len
  go_enter Tryd.func4, Tryd.ntmps4
  go_wp2_with fail
  refine (head_walk _ (G.ext (by repeat (first | with_reducible exact Ext.refl _ | with_reducible assumption | with_reducible apply Ext.alloc | with_reducible apply Ext.drew | (with_reducible refine Ext.setCell ?_ (by (try simp) <;> omega) _))))).mono ?_
  rintro e w1 ⟨rfl, x1⟩
  have X1 : Ext w w1 := Ext.trans (by repeat (first | with_reducible exact Ext.refl _ | with_reducible assumption | with_reducible apply Ext.alloc | with_reducible apply Ext.drew | (with_reducible refine Ext.setCell ?_ (by (try simp) <;> omega) _))) x1
  have b1 := block_ext x1 (block_new w (.cells #[.int .i64 p.skip, .int .i64 p.off] 25))
  have c10 := block_cell b1 0 (.int .i64 p.skip) rfl
  have c11 := block_cell b1 1 (.int .i64 p.off) rfl
  have B1 := Lib.hid b1
  clear x1 b1
  go_wp2_with fail
  refine (align_walk _ _ ds hs p hn1 hn2 _ (G.ext X1) (Sd.ext X1) (Sh.ext X1)).mono ?_
  cases hok : alOk ds hs p with
  | false =>
    have h1 : alCr ds hs p = 0 := by rw [alCr, hok]; rfl
    have h2 : alEr ds hs p = 1 := by rw [alEr, hok]; rfl
    have HO := Lib.hid hok
    rw [h1, h2]
    clear hok h1 h2
    rintro e w2 ⟨vl, vt, rfl, SL, TT, x2⟩
    have X2 := X1.trans x2
    have B2 := Lib.hid (block_ext x2 B1.out)
    have c20 := block_cell B2.out 0 (.int .i64 p.skip) rfl
    have c21 := block_cell B2.out 1 (.int .i64 p.off) rfl
    clear x2 B1 c10 c11
    go_wp2_with fail
    refine (alvalid_walk _ _ ds hs p hn1 hn2 _ (Sd.ext X2) (Sh.ext X2)).mono ?_
    rw [HO.out]
    rintro e w3 ⟨rfl, x3⟩
    have X3 := X2.trans x3
    go_wp2
    go_ret
    exact ⟨rfl, X3⟩
  | true =>
    have h1 : alCr ds hs p = tab ds hs p 0 0 := by rw [alCr, hok]; rfl
    have h2 : alEr ds hs p = 0 := by rw [alEr, hok]; rfl
    have h3 : alLr ds hs p = pathL ds hs p := by rw [alLr, hok]; rfl
    have hc := cost_path hok
    have hb := @cost_least ds hs p _ tab_bnd l
    obtain ⟨c, hcc⟩ : ∃ c, tab ds hs p 0 0 = c := ⟨_, rfl⟩
    obtain ⟨r, hr⟩ : ∃ r, costR ds hs p l = r := ⟨_, rfl⟩
    rw [h1, h2, h3]
    rw [hcc] at hc hb ⊢
    rw [hr] at hb
    have HC := Lib.hid hc; have HR := Lib.hid hr; have HB := Lib.hid hb
    clear hok h1 h2 h3 hcc hc hr hb
    rintro e w2 ⟨vl, vt, rfl, SL, TT, x2⟩
    have X2 := X1.trans x2
    have B2 := Lib.hid (block_ext x2 B1.out)
    have c20 := block_cell B2.out 0 (.int .i64 p.skip) rfl
    have c21 := block_cell B2.out 1 (.int .i64 p.off) rfl
    clear x2 B1 c10 c11
    go_wp2_with fail
    refine (cost_walk _ _ _ ds hs p _ hn1 hn2 _ (G.ext X2) (Sd.ext X2) (Sh.ext X2) SL).mono ?_
    rw [HC.out]
    rintro e w3 ⟨rfl, x3⟩
    have X3 := X2.trans x3
    have B3 := Lib.hid (block_ext x3 B2.out)
    have c30 := block_cell B3.out 0 (.int .i64 p.skip) rfl
    have c31 := block_cell B3.out 1 (.int .i64 p.off) rfl
    clear x3 B2 c20 c21
    go_wp2_with fail
    refine (cost_walk _ _ _ ds hs p l hn1 hn2 _ (G.ext X3) (Sd.ext X3) (Sh.ext X3) (Sm.ext X3)).mono ?_
    rw [HR.out]
    rintro e w4 ⟨rfl, x4⟩
    have X4 := X3.trans x4
    clear x4 c30 c31 B3
    by_cases h0 : r.2 = 0
    · have hle := HB.out h0
      have hb0 : (r.2 != 0) = false := by rw [h0]; rfl
      have hdec : decide (c ≤ r.1) = true := decide_eq_true hle
      have H0 := Lib.hid h0
      clear h0
      go_wp2
      go_ret
      exact ⟨by first | rfl | (rw [hdec]; rfl) | simp [hdec], X4⟩
    · have hb0 : (r.2 != 0) = true := by rw [bne_iff_ne]; exact h0
      clear h0
      go_wp2
      go_ret
      exact ⟨rfl, X4⟩

theorem alignCheapest_args (H : Type) (enc : TypeId × Value → H) (W : World) (base : Nat) (vs : List Value) (ds : List (DataW H)) (_ : ∀ k, (OpenSpec.ofChange Rows.alignCheapestSpec).cond = some k → k H ds = true) (hL : laidMetH Tryd.prog Rows.alignCheapestRow.laid W) (hA : Args enc Tryd.prog W base Tryd.f4.params.toList vs ds) :
    Calls Tryd.prog 4 vs.toArray W fun e W' => e = .returned (.bool true) ∧ Ext W W' := by
  rw [Tryd.params4] at hA
  obtain ⟨v0, _, d0, _, rfl, rfl, h0, hA⟩ := hA.cons
  obtain ⟨v1, _, d1, _, rfl, rfl, h1, hA⟩ := hA.cons
  obtain ⟨v2, _, d2, _, rfl, rfl, h2, hA⟩ := hA.cons
  obtain ⟨v3, _, d3, _, rfl, rfl, h3, hA⟩ := hA.cons
  obtain ⟨rfl, rfl⟩ := hA.nil
  obtain ⟨l0, S0, n0⟩ := arg_dues h0
  obtain ⟨l1, S1, n1⟩ := arg_heard h1
  obtain ⟨p, rfl, _⟩ := arg_price h2
  obtain ⟨l3, S3⟩ := arg_matches h3
  exact cheapest_walk _ _ _ l0 l1 p l3 n0 n1 W (gv_of hL) S0 S1 S3

theorem alignCheapest_met (os : Os) : laidMet Tryd.prog Rows.alignCheapestRow.laid ((laidWorld os).forCall (fun _ _ => 0) ⟨#[], #[.slice none 0 0, .slice none 0 0, .agg #[.int .i64 0, .int .i64 0], .slice none 0 0], []⟩).memory := laidMet_of_run' 8 (by kernel_rfl) (by kernel_rfl)
theorem alignCheapest_reads (os : Os) {H : Type} (enc : TypeId × Value → H) : ∃ places, DataW.whole enc Tryd.prog ((laidWorld os).forCall (fun _ _ => 0) ⟨#[], #[.slice none 0 0, .slice none 0 0, .agg #[.int .i64 0, .int .i64 0], .slice none 0 0], []⟩).memory Tryd.f4.params.toList Rows.alignCheapestSpec.vars false #[.slice none 0 0, .slice none 0 0, .agg #[.int .i64 0, .int .i64 0], .slice none 0 0].toList 8 = some ([.nil, .nil, .agg [.lit (.int .i64 0), .lit (.int .i64 0)], .nil], [], places) := ⟨[], by kernel_rfl⟩
set_option maxRecDepth 100000 in
theorem alignCheapest_lifted (os : Os) (started : os.Started) (H : Type) (enc : TypeId × Value → H) (F : Stop.Interp) :
    ReturnsInHanded {} Tryd.checked os 4 .any ((OpenSpec.ofChange Rows.alignCheapestSpec).preRow enc Tryd.prog Tryd.f4 Rows.alignCheapestRow.domain false Rows.alignCheapestRow.laid) (((OpenSpec.ofChange Rows.alignCheapestSpec).at F).post enc Tryd.prog Tryd.f4 false true false false) := by
  obtain ⟨places, hx⟩ := alignCheapest_reads os enc
  exact law_row (C := Tryd.checked) (s := (OpenSpec.ofChange Rows.alignCheapestSpec)) (by kernel_rfl) started (by kernel_rfl) Tryd.func4
    (witness_row_at (enc := enc) (C := Tryd.checked) false (laidWorld os) #[.slice none 0 0, .slice none 0 0, .agg #[.int .i64 0, .int .i64 0], .slice none 0 0] rfl (by kernel_rfl) (by kernel_rfl) (by kernel_rfl) (OpenSpec.preRow_of_cond 8 hx (by kernel_rfl) (fun k hk => by cases hk) (by kernel_rfl) (alignCheapest_met os)))
    (by kernel_rfl) (by kernel_rfl) (by kernel_rfl) rfl (fun ds h => by match ds, h with | [_, _, _, _], _ => rfl) (alignCheapest_args H enc)
theorem alignCheapest_said : Rows.AlignCheapestSaid :=
  OpenClaim.holds_of_cond 4 Tryd.f4 rfl rfl rfl rfl rfl rfl rfl ⟨rfl, rfl, rfl, rfl, rfl⟩ rfl rfl rfl rfl rfl (by kernel_rfl) Tryd.func4 (by kernel_rfl)
    (of_decide_eq_true (by kernel_rfl)) (by unfold Func.isWrapper; first | (rw [if_pos (by decide +kernel)]; kernel_rfl) | (rw [if_neg (by decide +kernel)]; exact ⟨rfl, rfl⟩))
    (fun os started H enc _ F => by rw [OpenClaim.pre_eq_preRow]; exact alignCheapest_lifted os started H enc F)
theorem alignCheapest_plain (f : FuncId) (fn : Func) (hf : Tryd.pinned.checked.prog.funcNamed "schisma/schismalaw38.AlignCheapest" = some f) (hfn : Tryd.pinned.checked.prog.funcs[f]? = some fn) :
    false = Tryd.pinned.checked.prog.looks [] ∧ ∀ (j : Nat) t, fn.params[j]? = some t → Tryd.pinned.checked.prog.wantsStandIn t = false := by
  obtain rfl : f = 4 := Option.some.inj ((show Tryd.prog.funcNamed "schisma/schismalaw38.AlignCheapest" = some 4 by kernel_rfl).symm.trans hf) |>.symm
  obtain rfl : fn = Tryd.f4 := (Option.some.inj (Tryd.func4.symm.trans hfn)).symm
  refine ⟨by kernel_rfl, fun j t ht => ?_⟩
  have hall : Tryd.f4.params.all (fun t => !Tryd.prog.wantsStandIn t) = true := by kernel_rfl
  have := (Array.all_eq_true'.1 hall) t (Array.mem_of_getElem? ht)
  have e : Tryd.prog.wantsStandIn t = false := by simpa using this
  exact e
/-- The card. -/
theorem alignCheapest_holds : Rows.AlignCheapestCardSaid :=
  Claim7.holds_tied_plain_at .later [] _ _ _ _ alignCheapest_said (fun _ h => by cases h) (by kernel_rfl) (fun _ h => by cases h) alignCheapest_row_tie rfl ⟨rfl, rfl⟩ (by kernel_rfl) rfl alignCheapest_plain (by kernel_rfl)
end Go.Proofs.YthomegempfedaaaDoor
