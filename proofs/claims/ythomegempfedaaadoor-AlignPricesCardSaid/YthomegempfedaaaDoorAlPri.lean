/-
  Proved: 'AlignPrices' returns true for every input and leaves its arguments as they were. No condition.
-/
import Derived.Test.YthomegempfedaaaDoorAlL
set_option linter.unusedVariables false
namespace Go.Proofs.YthomegempfedaaaDoor
open Go.RowKit Go.Sx Go.Sx.Sz Go.Sx.Al Go.ChangeShapes Go.WideShapes Go.ChangeAt

theorem mc_mono {p q : Prc} (h : p.off ≤ q.off) (d : Due) (x : Hrd) : mc p d x ≤ mc q d x := by unfold mc; split <;> omega
theorem tab_prices {ds : List Due} {hs : List Hrd} {p q : Prc} (hq : alOk ds hs q = true) (h1 : p.skip ≤ q.skip) (h2 : p.off ≤ q.off) : tab ds hs p 0 0 ≤ tab ds hs q 0 0 := by
  have B := @tab_bnd ds hs p
  have B' : Bnd ds hs q (tab ds hs p) := ⟨B.last, fun i j hi hj => by have := B.due i j hi hj; omega, fun i j hi hj => by have := B.tone i j hi hj; omega, fun i j hi hj => by have := B.both i j hi hj; have := mc_mono h2 ds[i] hs[j]; omega⟩
  have := cost_least B' (l := pathL ds hs q) (by rw [cost_path hq])
  rwa [cost_path hq] at this
def hiP (p : Prc) (s o : Int) : Prc := ⟨if p.skip + s < 1000000 then p.skip + s else 1000000, if p.off + o < 1000000 then p.off + o else 1000000⟩
theorem hiP_ok {ds : List Due} {hs : List Hrd} {p : Prc} {s o : Int} (hs' : 0 ≤ s) (ho : 0 ≤ o) (h : alOk ds hs p = true) : alOk ds hs (hiP p s o) = true ∧ p.skip ≤ (hiP p s o).skip ∧ p.off ≤ (hiP p s o).off := by
  have hv := alOk_iff.1 h
  have h1 := hv.skip; have h2 := hv.off
  have e1 : p.skip ≤ (hiP p s o).skip ∧ (hiP p s o).skip ≤ 1000000 := by unfold hiP; simp only; split <;> omega
  have e2 : p.off ≤ (hiP p s o).off ∧ (hiP p s o).off ≤ 1000000 := by unfold hiP; simp only; split <;> omega
  exact ⟨alOk_iff.2 ⟨hv.dx, hv.hx, hv.dn, hv.hn, hv.dr, hv.dt, hv.hr, hv.ht, ⟨by omega, e1.2⟩, ⟨by omega, e2.2⟩⟩, e1.1, e2.1⟩

set_option maxHeartbeats 4000000 in
theorem prices_law_walk (vd vh : Value) (ds : List Due) (hs : List Hrd) (p : Prc) (s o : Int) (hs0 : 0 ≤ s) (hs1 : s ≤ 65535) (ho0 : 0 ≤ o) (ho1 : o ≤ 65535) (hn1 : ds.length * 56 ≤ 140737488351232) (hn2 : hs.length * 24 ≤ 140737488351232) (w : World) (G : Gl 0 w)
    (Sd : Sl w 7 encD vd ds) (Sh : Sl w 3 encH vh hs) :
    Calls Tryd.prog 7 #[vd, vh, .agg #[.int .i64 p.skip, .int .i64 p.off], .int .u16 s, .int .u16 o] w fun e w' => e = .returned (.bool true) ∧ Ext w w' := by
  obtain ⟨ad, cd, rfl, -, -, -⟩ := Sd.len
  obtain ⟨ah, ch, rfl, -, -, -⟩ := Sh.len
  go_enter Tryd.func7, Tryd.ntmps7
  go_wp2_with fail
  refine (head_walk _ (G.ext (by repeat (first | with_reducible exact Ext.refl _ | with_reducible assumption | with_reducible apply Ext.alloc | with_reducible apply Ext.drew | (with_reducible refine Ext.setCell ?_ (by (try simp) <;> omega) _))))).mono ?_
  rintro e w1 ⟨rfl, x1⟩
  have X1 : Ext w w1 := Ext.trans (by repeat (first | with_reducible exact Ext.refl _ | with_reducible assumption | with_reducible apply Ext.alloc | with_reducible apply Ext.drew | (with_reducible refine Ext.setCell ?_ (by (try simp) <;> omega) _))) x1
  have b1 := block_ext x1 (block_new w (.cells #[.int .i64 p.skip, .int .i64 p.off] 25))
  have c10 := block_cell b1 0 (.int .i64 p.skip) rfl
  have c11 := block_cell b1 1 (.int .i64 p.off) rfl
  have B1 := Lib.hid b1
  clear x1 b1
  go_wp2_with fail
  refine (align_walk _ _ ds hs p hn1 hn2 _ (G.ext X1) (Sd.ext X1) (Sh.ext X1)).mono ?_
  cases hok : alOk ds hs p with
  | false =>
    have h1 : alCr ds hs p = 0 := by rw [alCr, hok]; rfl
    have h2 : alEr ds hs p = 1 := by rw [alEr, hok]; rfl
    rw [h1, h2]
    clear hok h1 h2
    rintro e w2 ⟨vl, vt, rfl, SL, TT, x2⟩
    have X2 := X1.trans x2
    clear x2 B1 c10 c11
    go_wp2
    go_ret
    exact ⟨rfl, X2⟩
  | true =>
    have h1 : alCr ds hs p = tab ds hs p 0 0 := by rw [alCr, hok]; rfl
    have h2 : alEr ds hs p = 0 := by rw [alEr, hok]; rfl
    obtain ⟨q1, q2, q3⟩ := hiP_ok hs0 ho0 hok
    have hle := tab_prices q1 q2 q3
    have hv := alOk_iff.1 hok
    have hsm := (tab_small hv (Nat.zero_le _) (Nat.zero_le _)).1
    have k1 : alCr ds hs (hiP p s o) = tab ds hs (hiP p s o) 0 0 := by rw [alCr, q1]; rfl
    have k2 : alEr ds hs (hiP p s o) = 0 := by rw [alEr, q1]; rfl
    obtain ⟨sk1, sk2⟩ := hv.skip; obtain ⟨of1, of2⟩ := hv.off
    obtain ⟨c, hcc⟩ : ∃ c, tab ds hs p 0 0 = c := ⟨_, rfl⟩
    obtain ⟨c', hcc'⟩ : ∃ c, tab ds hs (hiP p s o) 0 0 = c := ⟨_, rfl⟩
    rw [h1, h2]
    rw [hcc'] at k1 hle
    rw [hcc] at hsm hle ⊢
    have K1 := Lib.hid k1; have K2 := Lib.hid k2
    clear hok h1 h2 hcc hcc' k1 k2 q1 q2 q3 hv
    rintro e w2 ⟨vl, vt, rfl, SL, TT, x2⟩
    have X2 := X1.trans x2
    have B2 := Lib.hid (block_ext x2 B1.out)
    have c20 := block_cell B2.out 0 (.int .i64 p.skip) rfl
    have c21 := block_cell B2.out 1 (.int .i64 p.off) rfl
    clear x2 B1 c10 c11
    by_cases m1 : p.skip + s < 1000000
    all_goals by_cases m2 : p.off + o < 1000000
    · have hq : hiP p s o = ⟨p.skip + s, p.off + o⟩ := by unfold hiP; rw [if_pos m1, if_pos m2]
      rw [hq] at K1 K2
      clear hq
      go_wp2_with fail
      refine (align_walk _ _ ds hs ⟨p.skip + s, p.off + o⟩ hn1 hn2 _ ((G.ext X2).ext (by repeat (first | with_reducible exact Ext.refl _ | with_reducible assumption | with_reducible apply Ext.alloc | with_reducible apply Ext.drew | (with_reducible refine Ext.setCell ?_ (by (try simp) <;> omega) _)))) ((Sd.ext X2).ext (by repeat (first | with_reducible exact Ext.refl _ | with_reducible assumption | with_reducible apply Ext.alloc | with_reducible apply Ext.drew | (with_reducible refine Ext.setCell ?_ (by (try simp) <;> omega) _)))) ((Sh.ext X2).ext (by repeat (first | with_reducible exact Ext.refl _ | with_reducible assumption | with_reducible apply Ext.alloc | with_reducible apply Ext.drew | (with_reducible refine Ext.setCell ?_ (by (try simp) <;> omega) _))))).mono ?_
      rw [K1.out, K2.out]
      rintro e w3 ⟨vl', vt', rfl, SL', TT', x3⟩
      have X3 : Ext w w3 := X2.trans (Ext.trans (by repeat (first | with_reducible exact Ext.refl _ | with_reducible assumption | with_reducible apply Ext.alloc | with_reducible apply Ext.drew | (with_reducible refine Ext.setCell ?_ (by (try simp) <;> omega) _))) x3)
      go_wp2
      go_ret
      exact ⟨by first | rfl | simp, X3⟩
    · have hq : hiP p s o = ⟨p.skip + s, 1000000⟩ := by unfold hiP; rw [if_pos m1, if_neg m2]
      rw [hq] at K1 K2
      clear hq
      go_wp2_with fail
      refine (align_walk _ _ ds hs ⟨p.skip + s, 1000000⟩ hn1 hn2 _ ((G.ext X2).ext (by repeat (first | with_reducible exact Ext.refl _ | with_reducible assumption | with_reducible apply Ext.alloc | with_reducible apply Ext.drew | (with_reducible refine Ext.setCell ?_ (by (try simp) <;> omega) _)))) ((Sd.ext X2).ext (by repeat (first | with_reducible exact Ext.refl _ | with_reducible assumption | with_reducible apply Ext.alloc | with_reducible apply Ext.drew | (with_reducible refine Ext.setCell ?_ (by (try simp) <;> omega) _)))) ((Sh.ext X2).ext (by repeat (first | with_reducible exact Ext.refl _ | with_reducible assumption | with_reducible apply Ext.alloc | with_reducible apply Ext.drew | (with_reducible refine Ext.setCell ?_ (by (try simp) <;> omega) _))))).mono ?_
      rw [K1.out, K2.out]
      rintro e w3 ⟨vl', vt', rfl, SL', TT', x3⟩
      have X3 : Ext w w3 := X2.trans (Ext.trans (by repeat (first | with_reducible exact Ext.refl _ | with_reducible assumption | with_reducible apply Ext.alloc | with_reducible apply Ext.drew | (with_reducible refine Ext.setCell ?_ (by (try simp) <;> omega) _))) x3)
      go_wp2
      go_ret
      exact ⟨by first | rfl | simp, X3⟩
    · have hq : hiP p s o = ⟨1000000, p.off + o⟩ := by unfold hiP; rw [if_neg m1, if_pos m2]
      rw [hq] at K1 K2
      clear hq
      go_wp2_with fail
      refine (align_walk _ _ ds hs ⟨1000000, p.off + o⟩ hn1 hn2 _ ((G.ext X2).ext (by repeat (first | with_reducible exact Ext.refl _ | with_reducible assumption | with_reducible apply Ext.alloc | with_reducible apply Ext.drew | (with_reducible refine Ext.setCell ?_ (by (try simp) <;> omega) _)))) ((Sd.ext X2).ext (by repeat (first | with_reducible exact Ext.refl _ | with_reducible assumption | with_reducible apply Ext.alloc | with_reducible apply Ext.drew | (with_reducible refine Ext.setCell ?_ (by (try simp) <;> omega) _)))) ((Sh.ext X2).ext (by repeat (first | with_reducible exact Ext.refl _ | with_reducible assumption | with_reducible apply Ext.alloc | with_reducible apply Ext.drew | (with_reducible refine Ext.setCell ?_ (by (try simp) <;> omega) _))))).mono ?_
      rw [K1.out, K2.out]
      rintro e w3 ⟨vl', vt', rfl, SL', TT', x3⟩
      have X3 : Ext w w3 := X2.trans (Ext.trans (by repeat (first | with_reducible exact Ext.refl _ | with_reducible assumption | with_reducible apply Ext.alloc | with_reducible apply Ext.drew | (with_reducible refine Ext.setCell ?_ (by (try simp) <;> omega) _))) x3)
      go_wp2
      go_ret
      exact ⟨by first | rfl | simp, X3⟩
    · have hq : hiP p s o = ⟨1000000, 1000000⟩ := by unfold hiP; rw [if_neg m1, if_neg m2]
      rw [hq] at K1 K2
      clear hq
      go_wp2_with fail
      refine (align_walk _ _ ds hs ⟨1000000, 1000000⟩ hn1 hn2 _ ((G.ext X2).ext (by repeat (first | with_reducible exact Ext.refl _ | with_reducible assumption | with_reducible apply Ext.alloc | with_reducible apply Ext.drew | (with_reducible refine Ext.setCell ?_ (by (try simp) <;> omega) _)))) ((Sd.ext X2).ext (by repeat (first | with_reducible exact Ext.refl _ | with_reducible assumption | with_reducible apply Ext.alloc | with_reducible apply Ext.drew | (with_reducible refine Ext.setCell ?_ (by (try simp) <;> omega) _)))) ((Sh.ext X2).ext (by repeat (first | with_reducible exact Ext.refl _ | with_reducible assumption | with_reducible apply Ext.alloc | with_reducible apply Ext.drew | (with_reducible refine Ext.setCell ?_ (by (try simp) <;> omega) _))))).mono ?_
      rw [K1.out, K2.out]
      rintro e w3 ⟨vl', vt', rfl, SL', TT', x3⟩
      have X3 : Ext w w3 := X2.trans (Ext.trans (by repeat (first | with_reducible exact Ext.refl _ | with_reducible assumption | with_reducible apply Ext.alloc | with_reducible apply Ext.drew | (with_reducible refine Ext.setCell ?_ (by (try simp) <;> omega) _))) x3)
      go_wp2
      go_ret
      exact ⟨by first | rfl | simp, X3⟩

theorem alignPrices_args (H : Type) (enc : TypeId × Value → H) (W : World) (base : Nat) (vs : List Value) (ds : List (DataW H)) (_ : ∀ k, (OpenSpec.ofChange Rows.alignPricesSpec).cond = some k → k H ds = true) (hL : laidMetH Tryd.prog Rows.alignPricesRow.laid W) (hA : Args enc Tryd.prog W base Tryd.f7.params.toList vs ds) :
    Calls Tryd.prog 7 vs.toArray W fun e W' => e = .returned (.bool true) ∧ Ext W W' := by
  rw [Tryd.params7] at hA
  obtain ⟨v0, _, d0, _, rfl, rfl, h0, hA⟩ := hA.cons
  obtain ⟨v1, _, d1, _, rfl, rfl, h1, hA⟩ := hA.cons
  obtain ⟨v2, _, d2, _, rfl, rfl, h2, hA⟩ := hA.cons
  obtain ⟨v3, _, d3, _, rfl, rfl, h3, hA⟩ := hA.cons
  obtain ⟨v4, _, d4, _, rfl, rfl, h4, hA⟩ := hA.cons
  obtain ⟨rfl, rfl⟩ := hA.nil
  obtain ⟨l0, S0, n0⟩ := arg_dues h0
  obtain ⟨l1, S1, n1⟩ := arg_heard h1
  obtain ⟨p, rfl, _⟩ := arg_price h2
  obtain ⟨s, rfl, s0, s1⟩ := h3.int Tryd.underlying41
  obtain ⟨o, rfl, o0, o1⟩ := h4.int Tryd.underlying41
  exact prices_law_walk _ _ l0 l1 p s o s0 s1 o0 o1 n0 n1 W (gv_of hL) S0 S1

theorem alignPrices_met (os : Os) : laidMet Tryd.prog Rows.alignPricesRow.laid ((laidWorld os).forCall (fun _ _ => 0) ⟨#[], #[.slice none 0 0, .slice none 0 0, .agg #[.int .i64 0, .int .i64 0], .int .u16 0, .int .u16 0], []⟩).memory := laidMet_of_run' 8 (by kernel_rfl) (by kernel_rfl)
theorem alignPrices_reads (os : Os) {H : Type} (enc : TypeId × Value → H) : ∃ places, DataW.whole enc Tryd.prog ((laidWorld os).forCall (fun _ _ => 0) ⟨#[], #[.slice none 0 0, .slice none 0 0, .agg #[.int .i64 0, .int .i64 0], .int .u16 0, .int .u16 0], []⟩).memory Tryd.f7.params.toList Rows.alignPricesSpec.vars false #[.slice none 0 0, .slice none 0 0, .agg #[.int .i64 0, .int .i64 0], .int .u16 0, .int .u16 0].toList 8 = some ([.nil, .nil, .agg [.lit (.int .i64 0), .lit (.int .i64 0)], .lit (.int .u16 0), .lit (.int .u16 0)], [], places) := ⟨[], by kernel_rfl⟩
set_option maxRecDepth 100000 in
theorem alignPrices_lifted (os : Os) (started : os.Started) (H : Type) (enc : TypeId × Value → H) (F : Stop.Interp) :
    ReturnsInHanded {} Tryd.checked os 7 .any ((OpenSpec.ofChange Rows.alignPricesSpec).preRow enc Tryd.prog Tryd.f7 Rows.alignPricesRow.domain false Rows.alignPricesRow.laid) (((OpenSpec.ofChange Rows.alignPricesSpec).at F).post enc Tryd.prog Tryd.f7 false true false false) := by
  obtain ⟨places, hx⟩ := alignPrices_reads os enc
  exact law_row (C := Tryd.checked) (s := (OpenSpec.ofChange Rows.alignPricesSpec)) (by kernel_rfl) started (by kernel_rfl) Tryd.func7
    (witness_row_at (enc := enc) (C := Tryd.checked) false (laidWorld os) #[.slice none 0 0, .slice none 0 0, .agg #[.int .i64 0, .int .i64 0], .int .u16 0, .int .u16 0] rfl (by kernel_rfl) (by kernel_rfl) (by kernel_rfl) (OpenSpec.preRow_of_cond 8 hx (by kernel_rfl) (fun k hk => by cases hk) (by kernel_rfl) (alignPrices_met os)))
    (by kernel_rfl) (by kernel_rfl) (by kernel_rfl) rfl (fun ds h => by match ds, h with | [_, _, _, _, _], _ => rfl) (alignPrices_args H enc)
theorem alignPrices_said : Rows.AlignPricesSaid :=
  OpenClaim.holds_of_cond 7 Tryd.f7 rfl rfl rfl rfl rfl rfl rfl ⟨rfl, rfl, rfl, rfl, rfl⟩ rfl rfl rfl rfl rfl (by kernel_rfl) Tryd.func7 (by kernel_rfl)
    (of_decide_eq_true (by kernel_rfl)) (by unfold Func.isWrapper; first | (rw [if_pos (by decide +kernel)]; kernel_rfl) | (rw [if_neg (by decide +kernel)]; exact ⟨rfl, rfl⟩))
    (fun os started H enc _ F => by rw [OpenClaim.pre_eq_preRow]; exact alignPrices_lifted os started H enc F)
theorem alignPrices_plain (f : FuncId) (fn : Func) (hf : Tryd.pinned.checked.prog.funcNamed "schisma/schismalaw38.AlignPrices" = some f) (hfn : Tryd.pinned.checked.prog.funcs[f]? = some fn) :
    false = Tryd.pinned.checked.prog.looks [] ∧ ∀ (j : Nat) t, fn.params[j]? = some t → Tryd.pinned.checked.prog.wantsStandIn t = false := by
  obtain rfl : f = 7 := Option.some.inj ((show Tryd.prog.funcNamed "schisma/schismalaw38.AlignPrices" = some 7 by kernel_rfl).symm.trans hf) |>.symm
  obtain rfl : fn = Tryd.f7 := (Option.some.inj (Tryd.func7.symm.trans hfn)).symm
  refine ⟨by kernel_rfl, fun j t ht => ?_⟩
  have hall : Tryd.f7.params.all (fun t => !Tryd.prog.wantsStandIn t) = true := by kernel_rfl
  have := (Array.all_eq_true'.1 hall) t (Array.mem_of_getElem? ht)
  have e : Tryd.prog.wantsStandIn t = false := by simpa using this
  exact e
/-- The card. -/
theorem alignPrices_holds : Rows.AlignPricesCardSaid :=
  Claim7.holds_tied_plain_at .later [] _ _ _ _ alignPrices_said (fun _ h => by cases h) (by kernel_rfl) (fun _ h => by cases h) alignPrices_row_tie rfl ⟨rfl, rfl⟩ (by kernel_rfl) rfl alignPrices_plain (by kernel_rfl)
end Go.Proofs.YthomegempfedaaaDoor
