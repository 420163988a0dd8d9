/-
  Proved: 'TopHonest' returns true for every input and leaves its arguments as they were. No condition.
-/
import Derived.Test.YtkckingkocacjaaDoorTpB
import Derived.Test.YtkckingkocacjaaDoorR23A
import Derived.Test.YtkckingkocacjaaDoorAuG
set_option linter.unusedVariables false
namespace Go.Sx.Tp
open Go.Sx.Sz Go.Sx.Sc Go.Sx.Au Go.Sx.Po Go.Sx.Bl Go.Sx.Al
def denK (s : Sc) (l : List S2) (k : Nat) : List Nat := (List.range k).filter fun i => decide ((fdOf s l i).verdict = 2)
theorem denK_yes {s : Sc} {l : List S2} {k : Nat} (h : (fdOf s l k).verdict = 2) : (denK s l (k + 1)).length = (denK s l k).length + 1 := by
  unfold denK; rw [List.range_succ, List.filter_append, List.filter_cons_of_pos (by simpa using h), List.length_append]; rfl
theorem denK_no {s : Sc} {l : List S2} {k : Nat} (h : (fdOf s l k).verdict ≠ 2) : (denK s l (k + 1)).length = (denK s l k).length := by
  unfold denK; rw [List.range_succ, List.filter_append, List.filter_cons_of_neg (by simpa using h)]; simp
theorem denK_len (s : Sc) (l : List S2) (k : Nat) : (denK s l k).length ≤ k := by
  unfold denK
  have := (List.range k).length_filter_le fun i => decide ((fdOf s l i).verdict = 2)
  rwa [List.length_range] at this
/-- What the law needs when all rows are true. -/
theorem top_facts {s : Sc} {h : List V6} {ls : List (List Row)} (h0 : (tuneR s h).2 = 0) (h1 : (tuneR s h).1.length = ls.length) (h2 : ls.length = s.notes.length)
    (ht : ∀ k (hk : k < ls.length) (hx : k < (tuneR s h).1.length), trueB ls[k] (tuneR s h).1[k] = true) :
    tonR ls = (ls.map fun l => (toneR l).1, true) ∧ (devR s h (ls.map fun l => (toneR l).1)) = ([], 0) ∧
    ∃ cl bl fl, chgR s h (ls.map fun l => (toneR l).1) = (cl, 0) ∧ brkR s h = (bl, 0) ∧ auditR s (ls.map fun l => (toneR l).1) = (fl, 0) ∧ s.pairs.length ≤ 400 ∧ bl.length ≤ 400 ∧ fl.length = s.pairs.length ∧
      cl.length = (denK s (ls.map fun l => (toneR l).1) s.pairs.length).length ∧ (∀ k (hk : k < fl.length), fl[k].verdict = (fdOf s (ls.map fun l => (toneR l).1) k).verdict) ∧
      (∀ k (hk : k < cl.length), ∃ i : Nat, cl[k] = ⟨i, 2, -1⟩ ∧ (bl.any fun c => decide (c.pair = (i : Int))) = true) := by
  obtain ⟨a1, a2, a3, a4⟩ := hon_facts h0 h1 h2 ht
  have hok := (hear_ok.1 a1).2.1
  have hp := hok.sz.2.2.1
  refine ⟨tonR_yes fun l hl => ?_, by unfold devR; rw [if_pos a1, a2]; rfl, _, brkL s (tuneR s h).1, (List.range s.pairs.length).map (fdOf s (ls.map fun l => (toneR l).1)), by unfold chgR; rw [if_pos a1, a3], by unfold brkR; rw [if_pos h0], by unfold auditR; rw [if_pos (tonesB_iff.2 (hear_ok.1 a1).2)], hp, ?_, by rw [List.length_map, List.length_range], by rw [List.length_map]; rfl, ?_, ?_⟩
  · obtain ⟨k, hk, rfl⟩ := List.getElem_of_mem hl
    exact (tone_true (ht k hk (by omega))).1
  · have := brk_len s (tuneR s h).1
    omega
  · intro k hk
    rw [List.getElem_map, List.getElem_range]
  · intro k hk
    rw [List.length_map] at hk
    have hm := List.getElem_mem hk
    obtain ⟨h3, h4⟩ := List.mem_filter.1 hm
    have h3 := List.mem_range.1 h3
    refine ⟨_, by rw [List.getElem_map], ?_⟩
    rw [brk_any h3]
    exact a4 _ h3 (of_decide_eq_true h4)
end Go.Sx.Tp
namespace Go.Proofs.YtkckingkocacjaaDoor
open Go.RowKit Go.Sx Go.Sx.Sz Go.Sx.Sc Go.Sx.Au Go.Sx.Po Go.Sx.Bl Go.Sx.Tp Go.ChangeShapes Go.WideShapes Go.ChangeAt

set_option maxRecDepth 100000 in
set_option maxHeartbeats 16000000 in
theorem tophon_law (vn vp vc vh vr : Value) (s : Sc) (h : List V6) (ls : List (List Row)) (w : World) (GL : Gv 0 1 w) (S : ScR w vn vp vc s) (V : Sl w 6 V6.list vh h) (R : RowsR w vr ls) :
    Calls Tryd.prog 3 #[.agg #[.int .i64 s.voices, vn, vp, vc], vh, vr] w fun e w' => e = .returned (.bool true) ∧ Ext w w' := by
  obtain ⟨an, cn, rfl, -, -, hln⟩ := S.nt.len
  obtain ⟨ap, cp, rfl, -, -, hlp⟩ := S.pr.len
  obtain ⟨ac, cc, rfl, -, -, hlc⟩ := S.cd.len
  obtain ⟨ah, ch, rfl, -, -, -⟩ := V.len
  obtain ⟨ar, cr, rfl, hlr⟩ := R.len
  have TW := @tune_walk (.slice an s.notes.length cn) (.slice ap s.pairs.length cp) (.slice ac s.cads.length cc) (.slice ah h.length ch) s h
  have DW := Lib.hid (@deviants_walk (.slice an s.notes.length cn) (.slice ap s.pairs.length cp) (.slice ac s.cads.length cc) (.slice ah h.length ch))
  have CW := Lib.hid (@charges_walk (.slice an s.notes.length cn) (.slice ap s.pairs.length cp) (.slice ac s.cads.length cc) (.slice ah h.length ch))
  have BW := Lib.hid (@broken0_walk (.slice an s.notes.length cn) (.slice ap s.pairs.length cp) (.slice ac s.cads.length cc) (.slice ah h.length ch) s h)
  have AW := Lib.hid (@audit_walk (.slice an s.notes.length cn) (.slice ap s.pairs.length cp) (.slice ac s.cads.length cc))
  have hf := @top_facts s h ls
  have hto := fun e => (@tune_ok s h e)
  obtain ⟨⟨xs, te⟩, hte⟩ : ∃ z, tuneR s h = z := ⟨_, rfl⟩
  rw [hte] at TW hf hto
  simp only at TW hf hto
  have HTW := Lib.hid TW; have HF := Lib.hid hf; have HTO := Lib.hid hto
  clear TW hf hto hte
  have X0 : Ext w (w.alloc (.cells #[.int .i64 s.voices, .slice an s.notes.length cn, .slice ap s.pairs.length cp, .slice ac s.cads.length cc] 26)) := (by repeat (first | with_reducible exact Ext.refl _ | with_reducible assumption | with_reducible apply Ext.alloc | with_reducible apply Ext.drew | (with_reducible refine Ext.setCell ?_ (by (try simp) <;> omega) _)))
  have b0_0 := block_new w (.cells #[.int .i64 s.voices, .slice an s.notes.length cn, .slice ap s.pairs.length cp, .slice ac s.cads.length cc] 26)
  obtain ⟨W0, hW0⟩ : ∃ W, (w.alloc (.cells #[.int .i64 s.voices, .slice an s.notes.length cn, .slice ap s.pairs.length cp, .slice ac s.cads.length cc] 26)) = W := ⟨_, rfl⟩
  obtain ⟨B0, hB0⟩ : ∃ B, w.heap.size = B := ⟨_, rfl⟩
  rw [hW0] at X0 b0_0
  rw [hB0] at b0_0
  have HZ0 : Hid (w.heap.size ≤ B0) := Lib.hid (by omega)
  have HW0 := Lib.hid hW0; have HB0 := Lib.hid hB0
  clear hW0 hB0
  have CB := Lib.hid (boxS b0_0)
  have S1 := S.ext X0; have V1 := V.ext X0; have G1 := GL.ext X0; have R1 := R.ext X0
  clear S V GL R b0_0
  go_enter Tryd.func3, Tryd.ntmps3
  go_wp2_with fail
  rw [HW0.out, HB0.out]
  clear HW0 HB0
  refine (head41_walk _ G1).mono ?_
  rintro e w1 ⟨rfl, x1⟩
  obtain ⟨c0, c1, c2, c3⟩ := CB.out _ x1
  go_wp2_with fail
  refine (rfew_walk _ _ _ s _ (S1.ext x1)).mono ?_
  obtain ⟨fw, hfw⟩ : ∃ z, (decide (s.notes.length ≤ 40) && decide (s.pairs.length ≤ 60)) = z := ⟨_, rfl⟩
  rw [hfw]
  clear hfw
  rintro e w2 ⟨rfl, y2⟩
  have x2 := x1.trans y2
  clear c0 c1 c2 c3
  obtain ⟨d0, d1, d2, d3⟩ := CB.out _ x2
  cases fw with
  | false =>
    have HX := Lib.hid (X0.trans x2)
    clear d0 d1 d2 d3
    go_wp2
    go_ret
    exact ⟨by first | rfl | simp, HX.out⟩
  | true =>
  by_cases hrn : ls.length = s.notes.length
  case neg =>
    have t1 : ((ls.length : Int) != (s.notes.length : Int)) = true := by rw [bne_iff_ne]; omega
    have HX := Lib.hid (X0.trans x2)
    clear hrn
    go_wp2
    go_ret
    exact ⟨by first | rfl | simp, HX.out⟩
  have t1 : ((ls.length : Int) != (s.notes.length : Int)) = false := by rw [bne_eq_false_iff_eq]; omega
  have HRN := Lib.hid hrn
  clear hrn
  go_wp2_with fail
  refine (HTW.out _ (S1.ext x2) (V1.ext x2)).mono ?_
  rintro e w3 ⟨v3, rfl, T3, y3⟩
  have x3 := x2.trans y3
  clear d0 d1 d2 d3 t1
  obtain ⟨a3, q3, rfl, -, -, -⟩ := T3.len
  have HX3 := Lib.hid (X0.trans x3)
  by_cases h0 : te = 0
  case neg =>
    have t1 : (te != 0) = true := by rw [bne_iff_ne]; exact h0
    clear h0
    go_wp2
    go_ret
    exact ⟨by first | rfl | simp, HX3.out⟩
  subst h0
  by_cases hxl : xs.length = ls.length
  case neg =>
    have t1 : ((xs.length : Int) != (ls.length : Int)) = true := by rw [bne_iff_ne]; omega
    clear hxl
    go_wp2
    go_ret
    exact ⟨by first | rfl | simp, HX3.out⟩
  have t1 : ((xs.length : Int) != (ls.length : Int)) = false := by rw [bne_eq_false_iff_eq]; omega
  have hls : ls.length ≤ 200 := by have := (HTO.out (by first | rfl | trivial)).1.sz.2.1; have := HRN.out; omega
  have HXL := Lib.hid hxl; have HT3 := Lib.hid T3; have HY3 := Lib.hid x3
  clear hxl T3 y3 y2 x1 x2 x3
  go_wp2
  clear t1
  go_loopw [10] (fun i wr => ∃ k : Nat, k ≤ ls.length ∧ i = .int .i64 k ∧ Hid (∀ j (h1 : j < ls.length) (h2 : j < xs.length), j < k → trueB ls[j] xs[j] = true) ∧ Ext w3 wr) (fun i _ => ls.length - (intOf i).toNat)
  case atStart => exact ⟨0, by omega, by first | rfl | trivial, Lib.hid (fun j _ _ h9 => absurd h9 (Nat.not_lt_zero _)), Ext.refl _⟩
  case round =>
    obtain ⟨k, hk, rfl, HT, X⟩ := hrel
    by_cases hlt : k < ls.length
    case pos =>
      have hlt2 : k < xs.length := by have := HXL.out; omega
      obtain ⟨b, o, a, q, rfl, q0, SR⟩ := (R1.ext (HY3.out.trans X)).at k hlt
      obtain ⟨bX, oX, rfl, p0, p1, p2, p3, p4, p5⟩ := Sl.vec (HT3.out.ext X) k hlt2
      have TRW := Lib.hid fun w' (y : Ext wr w') => true41_walk (.slice a ls[k].length q) ls[k] xs[k] w' (G1.ext (HY3.out.trans (X.trans y))) (SR.ext y)
      have FTW := Lib.hid fun w' (y : Ext wr w') => fits_walk (.slice a ls[k].length q) ls[k] xs[k] w' (G1.ext (HY3.out.trans (X.trans y))) (SR.ext y)
      have hft := @fits_true ls[k] xs[k]
      have hst : ∀ tb, trueB ls[k] xs[k] = tb → tb = true → ∀ j (h1 : j < ls.length) (h2 : j < xs.length), j < k + 1 → trueB ls[j] xs[j] = true := fun tb e1 e2 j h1 h2 h3 => by
        rcases Nat.lt_or_ge j k with h4 | h4
        · exact HT.out j h1 h2 h4
        · obtain rfl : j = k := by omega
          rw [e1, e2]
      obtain ⟨tb, htb⟩ : ∃ z, trueB ls[k] xs[k] = z := ⟨_, rfl⟩
      have hst := hst tb htb
      rw [htb] at TRW hft
      obtain ⟨⟨fb, fe⟩, hfe⟩ : ∃ z, fitsR ls[k] xs[k] = z := ⟨_, rfl⟩
      rw [hfe] at FTW hft
      simp only at FTW
      obtain ⟨rl, hrl⟩ : ∃ z, ls[k].length = z := ⟨_, rfl⟩
      obtain ⟨x, hx⟩ : ∃ z, xs[k] = z := ⟨_, rfl⟩
      rw [hx] at p0 p1 p2 p3 p4 p5 TRW FTW
      simp only [hrl] at q0 TRW FTW
      have HST := Lib.hid hst; have HFT := Lib.hid hft; have HXX := Lib.hid X
      have q0 := ext_cells q0
      have p0 := ext_cells p0; have p1 := ext_cells p1; have p2 := ext_cells p2; have p3 := ext_cells p3; have p4 := ext_cells p4; have p5 := ext_cells p5
      have i1 : (0 : Int) ≤ (k : Int) := by omega
      have i2 : (k : Int) < (ls.length : Int) := by omega
      have i3 : (k : Int) < (xs.length : Int) := by omega
      clear hst hft htb hfe hrl hx SR X
      go_wp2_with fail
      refine wp_region_ord [(0,true), (1,true), (2,true), (3,true), (4,true), (5,true), (6,true), (7,true), (8,true), (9,true)] 10 Ext (Ext wr) wide (by kernel_rfl) (stable_ext _) (Ext.drawn _ _) ?_
      iterate 8 (first | (apply wpOrd_no rfl; rfl; (simp only [List.getElem_toArray, List.getElem_cons_succ, List.getElem_cons_zero, Act.put, List.setIfInBounds_toArray, List.set_cons_succ, List.set_cons_zero]; rfl)) | (apply wpOrd_yes rfl; rfl; (intro w' hw'; unfold opR; go_simp; exact ⟨Ext.refl _, rfl⟩); (simp only [List.getElem_toArray, List.getElem_cons_succ, List.getElem_cons_zero, Act.put, List.setIfInBounds_toArray, List.set_cons_succ, List.set_cons_zero]; rfl)))
      (apply wpOrd_det rfl rfl; (intro w' hw'; refine opR_call rfl (Go.Proofs.enters_of Tryd.func7 (by kernel_rfl) rfl) (by simp only [List.map_toArray, List.map_cons, List.map_nil, Act.eval, Array.getD_eq_getD_getElem?, List.getElem?_toArray, List.getElem?_cons_succ, List.getElem?_cons_zero, Option.getD_some]; rfl) ?_; refine (TRW.out w' hw').mono ?_; rintro e w'' ⟨rfl, hx⟩; exact ⟨_, rfl, hx, rfl⟩); (simp only [List.getElem_toArray, List.getElem_cons_succ, List.getElem_cons_zero, Act.put, List.setIfInBounds_toArray, List.set_cons_succ, List.set_cons_zero]; rfl))
      iterate 1 (first | (apply wpOrd_no rfl; rfl; (simp only [List.getElem_toArray, List.getElem_cons_succ, List.getElem_cons_zero, Act.put, List.setIfInBounds_toArray, List.set_cons_succ, List.set_cons_zero]; rfl)) | (apply wpOrd_yes rfl; rfl; (intro w' hw'; unfold opR; go_simp; exact ⟨Ext.refl _, rfl⟩); (simp only [List.getElem_toArray, List.getElem_cons_succ, List.getElem_cons_zero, Act.put, List.setIfInBounds_toArray, List.set_cons_succ, List.set_cons_zero]; rfl)))
      refine wpOrd_nil (l := []) rfl ?_
      intro w4 x4
      cases tb with
      | false =>
        have HX := Lib.hid (HX3.out.trans (HXX.out.trans x4))
        clear q0 p0 p1 p2 p3 p4 p5
        go_wp2
        go_ret
        exact ⟨by first | rfl | simp, HX.out⟩
      | true =>
        obtain ⟨rfl, rfl⟩ := Prod.mk.inj (HFT.out rfl)
        have HX4 := Lib.hid x4
        have q0 := ext_cells (q0 _ x4); have p0 := ext_cells (p0 _ x4); have p1 := ext_cells (p1 _ x4); have p2 := ext_cells (p2 _ x4); have p3 := ext_cells (p3 _ x4); have p4 := ext_cells (p4 _ x4); have p5 := ext_cells (p5 _ x4)
        go_upto_region 12 with fail
        refine wp_region_ord [(0,true), (1,true), (2,true), (3,true), (4,true), (5,true), (6,true), (7,true), (8,true), (9,true), (10,true), (11,true), (12,true), (13,true)] 14 Ext (Ext w4) wide (by kernel_rfl) (stable_ext _) (Ext.drawn _ _) ?_
        iterate 8 (first | (apply wpOrd_no rfl; rfl; (simp only [List.getElem_toArray, List.getElem_cons_succ, List.getElem_cons_zero, Act.put, List.setIfInBounds_toArray, List.set_cons_succ, List.set_cons_zero]; rfl)) | (apply wpOrd_yes rfl; rfl; (intro w' hw'; unfold opR; go_simp; exact ⟨Ext.refl _, rfl⟩); (simp only [List.getElem_toArray, List.getElem_cons_succ, List.getElem_cons_zero, Act.put, List.setIfInBounds_toArray, List.set_cons_succ, List.set_cons_zero]; rfl)))
        (apply wpOrd_det rfl rfl; (intro w' hw'; refine opR_call rfl (Go.Proofs.enters_of Tryd.func8 (by kernel_rfl) rfl) (by simp only [List.map_toArray, List.map_cons, List.map_nil, Act.eval, Array.getD_eq_getD_getElem?, List.getElem?_toArray, List.getElem?_cons_succ, List.getElem?_cons_zero, Option.getD_some]; rfl) ?_; refine (FTW.out w' (HX4.out.trans hw')).mono ?_; rintro e w'' ⟨rfl, hx⟩; exact ⟨_, rfl, hx, rfl⟩); (simp only [List.getElem_toArray, List.getElem_cons_succ, List.getElem_cons_zero, Act.put, List.setIfInBounds_toArray, List.set_cons_succ, List.set_cons_zero]; rfl))
        iterate 5 (first | (apply wpOrd_no rfl; rfl; (simp only [List.getElem_toArray, List.getElem_cons_succ, List.getElem_cons_zero, Act.put, List.setIfInBounds_toArray, List.set_cons_succ, List.set_cons_zero]; rfl)) | (apply wpOrd_yes rfl; rfl; (intro w' hw'; unfold opR; go_simp; exact ⟨Ext.refl _, rfl⟩); (simp only [List.getElem_toArray, List.getElem_cons_succ, List.getElem_cons_zero, Act.put, List.setIfInBounds_toArray, List.set_cons_succ, List.set_cons_zero]; rfl)))
        refine wpOrd_nil (l := []) rfl ?_
        intro w5 x5
        have HT2 := Lib.hid (HST.out rfl)
        have HX := Lib.hid (HXX.out.trans (HX4.out.trans x5))
        clear q0 p0 p1 p2 p3 p4 p5 x4 x5
        go_wp2
        go_roundw
        case rel => exact ⟨k + 1, by omega, by go_num, HT2, HX.out⟩
        case measure => simp [intOf] <;> omega
    case neg =>
    obtain rfl : k = ls.length := by omega
    obtain ⟨htn, hdv, cl, bl, fl, hcl, hbl, hfl, hp400, hb400, hfll, hcd, hfv, hcb⟩ := HF.out (by first | rfl | trivial) HXL.out HRN.out (fun j h1 h2 => HT.out j h1 h2 h1)
    have TNW := tones41_walk (.slice ar ls.length cr) ls (by omega) wr (G1.ext (HY3.out.trans X)) (R1.ext (HY3.out.trans X))
    rw [htn] at TNW
    have htt : ∀ k (h1 : k < ls.length) (h2 : k < xs.length), (toneR ls[k]).1.lo ≤ (wantS xs[k]).lo ∧ (wantS xs[k]).hi ≤ (toneR ls[k]).1.hi ∧ within xs[k] 48 = true := fun k h1 h2 => by
      have h3 := HT.out k h1 h2 h1
      have := tone_true h3
      exact ⟨this.2.2.1, this.2.2.2, (trueB_iff.1 h3).2.1⟩
    obtain ⟨ts, hts⟩ : ∃ z, ls.map (fun l => (toneR l).1) = z := ⟨_, rfl⟩
    have htl : ts.length = ls.length := by rw [← hts, List.length_map]
    have htg : ∀ k (h1 : k < ts.length) (h2 : k < ls.length), ts[k] = (toneR ls[k]).1 := fun k h1 h2 => by subst hts; rw [List.getElem_map]
    rw [hts] at TNW hdv hcl hfl hcd hfv
    simp only at TNW
    have HTT := Lib.hid htt; have HTL := Lib.hid htl; have HTG := Lib.hid htg; have HDV := Lib.hid hdv; have HCL := Lib.hid hcl; have HBL := Lib.hid hbl; have HFL := Lib.hid hfl; have HFLL := Lib.hid hfll; have HCD := Lib.hid hcd; have HFV := Lib.hid hfv; have HCBB := Lib.hid hcb
    have HXX := Lib.hid X
    clear htn hdv hcl hbl hfl hfll hcd hfv hcb htt hts htl htg X HT
    go_wp2_with fail
    refine TNW.mono ?_
    rintro e w4 ⟨v4, rfl, N4, y4⟩
    obtain ⟨a4, q4, rfl, -, -, -⟩ := N4.len
    have HN4 := Lib.hid N4
    have HX4 := Lib.hid (HXX.out.trans y4)
    clear TNW N4 y4
    go_wp2
    go_loopw [15] (fun i wr => ∃ k : Nat, k ≤ ts.length ∧ i = .int .i64 k ∧ Ext w4 wr) (fun i _ => ts.length - (intOf i).toNat)
    case atStart => exact ⟨0, by omega, by first | rfl | trivial, Ext.refl _⟩
    case round =>
      obtain ⟨k, hk, rfl, X⟩ := hrel
      by_cases hlt : k < ts.length
      case pos =>
        have hl1 : k < ls.length := by have := HTL.out; omega
        have hl2 : k < xs.length := by have := HXL.out; omega
        obtain ⟨bX, oX, rfl, p0, p1, p2, p3, p4, p5⟩ := Sl.vec (HT3.out.ext (HX4.out.trans X)) k hl2
        obtain ⟨bT, oT, rfl, z0, z1⟩ := Sl.sz (HN4.out.ext X) k hlt
        have htt := HTT.out k hl1 hl2
        rw [← HTG.out k hlt hl1] at htt
        obtain ⟨x, hx⟩ : ∃ u, xs[k] = u := ⟨_, rfl⟩
        obtain ⟨z, hz⟩ : ∃ u, ts[k] = u := ⟨_, rfl⟩
        rw [hx] at p0 p1 p2 p3 p4 p5 htt
        rw [hz] at z0 z1 htt
        obtain ⟨h5, h6, h7⟩ := htt
        have ho := ofR_ok h7
        have hs := sizeR_ok (want_ok h7).1
        have hwe : wantS x = expo (x.times 12) := rfl
        rw [← hwe] at hs
        obtain ⟨y, hy⟩ : ∃ u, x.times 12 = u := ⟨_, rfl⟩
        obtain ⟨⟨sl, sh⟩, hss⟩ : ∃ u, wantS x = u := ⟨_, rfl⟩
        rw [hy] at ho hs
        rw [hss] at hs h5 h6
        simp only at h5 h6
        have OW := of_walk x wr
        have SW := Lib.hid fun w' (g : Gl 1 w') => sof_walk y w' g
        rw [ho] at OW; rw [hs] at SW
        simp only at OW SW
        have t1 : decide (sl < z.lo) = false := decide_eq_false (by omega)
        have t2 : decide (z.hi < sh) = false := decide_eq_false (by omega)
        have i1 : (0 : Int) ≤ (k : Int) := by omega
        have i2 : (k : Int) < (xs.length : Int) := by omega
        have i3 : (k : Int) < (ts.length : Int) := by omega
        have Z0 := Lib.hid (ext_cells z0); have Z1 := Lib.hid (ext_cells z1)
        have HXY := Lib.hid X
        have htl200 : ts.length ≤ 200 := by have := HTL.out; omega
        clear hx hz ho hs hwe hy hss h5 h6 h7 z0 z1 X hl1 hl2
        go_wp2_with fail
        refine OW.mono ?_
        rintro e w5 ⟨rfl, x5⟩
        have e5 := Ext.alloc' w5 (.cells (#[.int .i64 y.a, .int .i64 y.b, .int .i64 y.c, .int .i64 y.d, .int .i64 y.e, .int .i64 y.f] : Array Value) 43)
        clear p0 p1 p2 p3 p4 p5 OW
        go_wp2_with fail
        refine (SW.out _ (G1.gl.ext (HY3.out.trans (HX4.out.trans (HXY.out.trans (x5.trans e5)))))).mono ?_
        rintro e w6 ⟨rfl, x6⟩
        have X7 : Ext w6 (w6.alloc (.cells #[.int .i64 sl, .int .i64 sh] 47)) := (by repeat (first | with_reducible exact Ext.refl _ | with_reducible assumption | with_reducible apply Ext.alloc | with_reducible apply Ext.drew | (with_reducible refine Ext.setCell ?_ (by (try simp) <;> omega) _)))
        have b7_0 := block_new w6 (.cells #[.int .i64 sl, .int .i64 sh] 47)
        obtain ⟨W7, hW7⟩ : ∃ W, (w6.alloc (.cells #[.int .i64 sl, .int .i64 sh] 47)) = W := ⟨_, rfl⟩
        obtain ⟨B7, hB7⟩ : ∃ B, w6.heap.size = B := ⟨_, rfl⟩
        rw [hW7] at X7 b7_0
        rw [hB7] at b7_0
        have HZ7 : Hid (w6.heap.size ≤ B7) := Lib.hid (by omega)
        have HW7 := Lib.hid hW7; have HB7 := Lib.hid hB7
        clear hW7 hB7
        have X7' := x5.trans (e5.trans (x6.trans X7))
        have s0 := block_cell b7_0 0 _ rfl; have s1 := block_cell b7_0 1 _ rfl
        have z0 := Z0.out _ X7'; have z1 := Z1.out _ X7'
        have HX7 := Lib.hid (HXY.out.trans X7')
        clear b7_0 x5 e5 x6 X7 X7' Z0 Z1
        go_upto_region 23 with fail
        rw [HW7.out, HB7.out]
        clear HW7 HB7
        go_quiet (fail)
        go_wp2
        go_roundw
        case rel => exact ⟨k + 1, by omega, by go_num, HX7.out.trans (Ext.drawn _ _)⟩
        case measure => simp [intOf] <;> omega
      case neg =>
      obtain rfl : k = ts.length := by omega
      have x5 := HY3.out.trans (HX4.out.trans X)
      have N5 := HN4.out.ext X
      have DD := DW.out (.slice a4 ts.length q4) s h ts
      have CC := CW.out (.slice a4 ts.length q4) s h ts
      have AA := AW.out (.slice a4 ts.length q4) s ts
      rw [HDV.out] at DD; rw [HCL.out] at CC; rw [HFL.out] at AA
      have BB := BW.out
      rw [HBL.out] at BB
      simp only at DD CC AA BB
      have HDD := Lib.hid DD; have HCC := Lib.hid CC; have HAA := Lib.hid AA; have HBB := Lib.hid BB
      clear DD CC AA BB X DW CW BW AW HDV HCL HFL HBL
      obtain ⟨c0, c1, c2, c3⟩ := CB.out _ x5
      go_wp2_with fail
      refine (HDD.out _ (G1.gl.ext x5) (S1.ext x5) (V1.ext x5) N5).mono ?_
      rintro e w6 ⟨v6, rfl, L6, y6⟩
      have x6 := x5.trans y6
      clear c0 c1 c2 c3
      obtain ⟨c0, c1, c2, c3⟩ := CB.out _ x6
      go_wp2_with fail
      refine (HCC.out _ (G1.gl.ext x6) (S1.ext x6) (V1.ext x6) (N5.ext y6)).mono ?_
      rintro e w7 ⟨v7, rfl, L7, y7⟩
      have x7 := x6.trans y7
      clear c0 c1 c2 c3
      obtain ⟨c0, c1, c2, c3⟩ := CB.out _ x7
      go_wp2_with fail
      refine (HBB.out _ (G1.gl.ext x7) (S1.ext x7) (V1.ext x7)).mono ?_
      rintro e w8 ⟨v8, rfl, C8, y8⟩
      have x8 := x7.trans y8
      clear c0 c1 c2 c3
      obtain ⟨c0, c1, c2, c3⟩ := CB.out _ x8
      go_wp2_with fail
      refine (HAA.out _ (G1.gl.ext x8) (S1.ext x8) (N5.ext (y6.trans (y7.trans y8)))).mono ?_
      rintro e w9 ⟨v9, rfl, L9, y9⟩
      have x9 := x8.trans y9
      clear c0 c1 c2 c3
      have L7 := L7.ext (y8.trans y9)
      have C8 := C8.ext y9
      obtain ⟨a6, q6, rfl, -, -, -⟩ := L6.len
      obtain ⟨a7, q7, rfl, -, -, -⟩ := L7.len
      obtain ⟨a8, q8, rfl, h8, AT8⟩ := C8.at
      obtain ⟨a9, q9, rfl, -, -, -⟩ := L9.len
      have HAT := Lib.hid AT8
      have HX9 := Lib.hid (X0.trans x9)
      have hfl400 : fl.length ≤ 400 := by have := HFLL.out; omega
      clear x5 x6 x7 x8 x9 y6 y7 y8 y9 HDD HCC HAA HBB AT8 C8 L6 N5
      go_wp2
      go_loopw [28, 29] (fun d i wr => ∃ k : Nat, k ≤ fl.length ∧ d = .int .i64 ((denK s ts k).length : Nat) ∧ i = .int .i64 k ∧ Ext w9 wr) (fun _ i _ => fl.length - (intOf i).toNat)
      case atStart => exact ⟨0, by omega, by first | rfl | simp [denK], by first | rfl | trivial, Ext.refl _⟩
      case round =>
        obtain ⟨k, hk, rfl, rfl, X⟩ := hrel
        have hdl := denK_len s ts k
        by_cases hlt : k < fl.length
        case pos =>
          obtain ⟨bF, oF, rfl, f0, f1, f2⟩ := Sl.fd (L9.ext X) k hlt
          have hfv := HFV.out k hlt
          have hy := @denK_yes s ts k; have hno := @denK_no s ts k
          rw [← hfv] at hy hno
          obtain ⟨vd, hvd⟩ : ∃ z, fl[k].verdict = z := ⟨_, rfl⟩
          rw [hvd] at f1 hy hno
          obtain ⟨dk, hdk⟩ : ∃ z, (denK s ts k).length = z := ⟨_, rfl⟩
          rw [hdk] at hy hno hdl ⊢
          have HYY := Lib.hid hy; have HNO := Lib.hid hno
          have i1 : (0 : Int) ≤ (k : Int) := by omega
          have i2 : (k : Int) < (fl.length : Int) := by omega
          clear hfv hy hno hvd hdk f0 f2
          by_cases h2 : vd = 2
          · have t1 : (vd == 2) = true := beq_iff_eq.2 h2
            have HE := Lib.hid (HYY.out h2)
            clear h2
            go_wp2
            go_roundw
            case rel => exact ⟨k + 1, by omega, by rw [HE.out]; go_num, by go_num, X⟩
            case measure => simp [intOf] <;> omega
          · have t1 : (vd == 2) = false := beq_eq_false_iff_ne.2 h2
            have HE := Lib.hid (HNO.out h2)
            clear h2
            go_wp2
            go_roundw
            case rel => exact ⟨k + 1, by omega, by rw [HE.out], by go_num, X⟩
            case measure => simp [intOf] <;> omega
        case neg =>
        obtain rfl : k = fl.length := by omega
        have hdc : (denK s ts fl.length).length = cl.length := by rw [HFLL.out, HCD.out]
        obtain ⟨dc, hdcc⟩ : ∃ z, (denK s ts fl.length).length = z := ⟨_, rfl⟩
        rw [hdcc] at hdc hdl ⊢
        have HDC := Lib.hid hdc
        have hcl400 : cl.length ≤ 400 := by omega
        obtain ⟨W9, rfl⟩ : ∃ z : World, z = wr := ⟨_, rfl⟩
        have HXW := Lib.hid X
        clear hdc hdcc X hdl
        go_wp2
        go_loopw [30] (fun i wr => ∃ k : Nat, k ≤ cl.length ∧ i = .int .i64 k ∧ Ext W9 wr) (fun i _ => cl.length - (intOf i).toNat)
        case atStart => exact ⟨0, by omega, by first | rfl | trivial, Ext.refl _⟩
        case round =>
          obtain ⟨k, hk, rfl, X⟩ := hrel
          by_cases hlt : k < cl.length
          case neg =>
            obtain rfl : k = cl.length := by omega
            have HX := Lib.hid (HX9.out.trans (HXW.out.trans X))
            have t1 : ((dc : Int) == (cl.length : Int)) = true := by rw [beq_iff_eq, HDC.out]
            go_wp2
            go_ret
            exact ⟨by first | rfl | simp, HX.out⟩
          case pos =>
          obtain ⟨i, hi, ha⟩ := HCBB.out k hlt
          obtain ⟨bC, oC, rfl, k0, k1, k2⟩ := Sl.cg (L7.ext (HXW.out.trans X)) k hlt
          rw [hi] at k0 k1 k2
          dsimp only at k0 k1 k2
          have i1 : (0 : Int) ≤ (k : Int) := by omega
          have i2 : (k : Int) < (cl.length : Int) := by omega
          have HA := Lib.hid ha
          obtain ⟨WB, rfl⟩ : ∃ z : World, z = wr := ⟨_, rfl⟩
          have D0 := ext_cells k0; have D1 := ext_cells k1
          clear hi ha k0 k1 k2
          go_wp2
          go_loopw [31, 32] (fun b j wr => ∃ m : Nat, m ≤ bl.length ∧ b = .bool ((bl.take m).any fun c => decide (c.pair = (i : Int))) ∧ j = .int .i64 m ∧ Ext WB wr) (fun _ j _ => bl.length - (intOf j).toNat)
          case atStart => exact ⟨0, by omega, by first | rfl | simp, by first | rfl | trivial, Ext.refl _⟩
          case round =>
            obtain ⟨m, hm, rfl, rfl, Y⟩ := hrel
            have d0 := D0 _ Y; have d1 := D1 _ Y
            by_cases hml : m < bl.length
            case pos =>
              obtain ⟨b0, o0, sv, rfl, e0, -, -, -, -, -, -, -, -⟩ := HAT.out wr (HXW.out.trans (X.trans Y)) m hml
              have ht := List.take_succ_eq_append_getElem hml
              obtain ⟨x, hx⟩ : ∃ x, bl[m] = x := ⟨_, rfl⟩
              rw [hx] at e0 ht
              have j1 : (0 : Int) ≤ (m : Int) := by omega
              have j2 : (m : Int) < (bl.length : Int) := by omega
              have HTT2 : Hid ((bl.take (m + 1)).any (fun c => decide (c.pair = (i : Int))) = ((bl.take m).any (fun c => decide (c.pair = (i : Int))) || decide (x.pair = (i : Int)))) := Lib.hid (by rw [ht, List.any_append]; simp)
              obtain ⟨p, hp⟩ : ∃ z, (bl.take m).any (fun c => decide (c.pair = (i : Int))) = z := ⟨_, rfl⟩
              rw [hp] at HTT2 ⊢
              clear d1 hx ht hp
              cases p with
              | true =>
                go_wp2
                go_quiet (fail)
                go_wp2
                go_roundw
                case rel => exact ⟨m + 1, by omega, by rw [HTT2.out] <;> rfl, by go_num, Y.trans (Ext.drawn _ _)⟩
                case measure => simp [intOf] <;> omega
              | false =>
                by_cases hxi : x.pair = (i : Int)
                · have t1 : (x.pair == (i : Int)) = true := beq_iff_eq.2 hxi
                  have t2 : Hid (decide (x.pair = (i : Int)) = true) := Lib.hid (decide_eq_true hxi)
                  clear hxi
                  go_wp2
                  go_quiet (fail)
                  go_wp2
                  go_roundw
                  case rel => exact ⟨m + 1, by omega, by rw [HTT2.out, t2.out] <;> rfl, by go_num, Y.trans (Ext.drawn _ _)⟩
                  case measure => simp [intOf] <;> omega
                · have t1 : (x.pair == (i : Int)) = false := beq_eq_false_iff_ne.2 hxi
                  have t2 : Hid (decide (x.pair = (i : Int)) = false) := Lib.hid (decide_eq_false hxi)
                  clear hxi
                  go_wp2
                  go_quiet (fail)
                  go_wp2
                  go_roundw
                  case rel => exact ⟨m + 1, by omega, by rw [HTT2.out, t2.out] <;> rfl, by go_num, Y.trans (Ext.drawn _ _)⟩
                  case measure => simp [intOf] <;> omega
            case neg =>
              obtain rfl : m = bl.length := by omega
              rw [List.take_length, HA.out]
              have HX := Lib.hid (X.trans Y)
              go_wp2
              go_roundw
              case rel => exact ⟨k + 1, by omega, by go_num, HX.out⟩
              case measure => simp [intOf] <;> omega

theorem topHonest_args (H : Type) (enc : TypeId × Value → H) (W : World) (base : Nat) (vs : List Value) (ds : List (DataW H)) (_ : ∀ k, (OpenSpec.ofChange Rows.topHonestSpec).cond = some k → k H ds = true) (hL : laidMetH Tryd.prog Rows.topHonestRow.laid W) (hA : Args enc Tryd.prog W base Tryd.f3.params.toList vs ds) :
    Calls Tryd.prog 3 vs.toArray W fun e W' => e = .returned (.bool true) ∧ Ext W W' := by
  rw [Tryd.params3] at hA
  obtain ⟨v0, _, d0, _, rfl, rfl, h0, hA⟩ := hA.cons
  obtain ⟨v1, _, d1, _, rfl, rfl, h1, hA⟩ := hA.cons
  obtain ⟨v2, _, d2, _, rfl, rfl, h2, hA⟩ := hA.cons
  obtain ⟨rfl, rfl⟩ := hA.nil
  obtain ⟨s0, vn0, vp0, vc0, rfl, S0⟩ := arg_score h0
  obtain ⟨l1, S1, n1⟩ := arg_vecs h1
  obtain ⟨l2, S2, n2⟩ := arg_rows2 h2
  exact tophon_law _ _ _ _ _ s0 l1 l2 W (gv_of hL) S0 S1 S2

theorem topHonest_met (os : Os) : laidMet Tryd.prog Rows.topHonestRow.laid ((laidWorld os).forCall (fun _ _ => 0) ⟨#[], #[.agg #[.int .i64 0, .slice none 0 0, .slice none 0 0, .slice none 0 0], .slice none 0 0, .slice none 0 0], []⟩).memory := laidMet_of_run' 8 (by kernel_rfl) (by kernel_rfl)
theorem topHonest_reads (os : Os) {H : Type} (enc : TypeId × Value → H) : ∃ places, DataW.whole enc Tryd.prog ((laidWorld os).forCall (fun _ _ => 0) ⟨#[], #[.agg #[.int .i64 0, .slice none 0 0, .slice none 0 0, .slice none 0 0], .slice none 0 0, .slice none 0 0], []⟩).memory Tryd.f3.params.toList Rows.topHonestSpec.vars false #[.agg #[.int .i64 0, .slice none 0 0, .slice none 0 0, .slice none 0 0], .slice none 0 0, .slice none 0 0].toList 8 = some ([.agg [.lit (.int .i64 0), .nil, .nil, .nil], .nil, .nil], [], places) := ⟨[], by kernel_rfl⟩
set_option maxRecDepth 100000 in
theorem topHonest_lifted (os : Os) (started : os.Started) (H : Type) (enc : TypeId × Value → H) (F : Stop.Interp) :
    ReturnsInHanded {} Tryd.checked os 3 .any ((OpenSpec.ofChange Rows.topHonestSpec).preRow enc Tryd.prog Tryd.f3 Rows.topHonestRow.domain false Rows.topHonestRow.laid) (((OpenSpec.ofChange Rows.topHonestSpec).at F).post enc Tryd.prog Tryd.f3 false true false false) := by
  obtain ⟨places, hx⟩ := topHonest_reads os enc
  exact law_row (C := Tryd.checked) (s := (OpenSpec.ofChange Rows.topHonestSpec)) (by kernel_rfl) started (by kernel_rfl) Tryd.func3
    (witness_row_at (enc := enc) (C := Tryd.checked) false (laidWorld os) #[.agg #[.int .i64 0, .slice none 0 0, .slice none 0 0, .slice none 0 0], .slice none 0 0, .slice none 0 0] rfl (by kernel_rfl) (by kernel_rfl) (by kernel_rfl) (OpenSpec.preRow_of_cond 8 hx (by kernel_rfl) (fun k hk => by cases hk) (by kernel_rfl) (topHonest_met os)))
    (by kernel_rfl) (by kernel_rfl) (by kernel_rfl) rfl (fun ds h => by match ds, h with | [_, _, _], _ => rfl) (topHonest_args H enc)
theorem topHonest_said : Rows.TopHonestSaid :=
  OpenClaim.holds_of_cond 3 Tryd.f3 rfl rfl rfl rfl rfl rfl rfl ⟨rfl, rfl, rfl, rfl, rfl⟩ rfl rfl rfl rfl rfl (by kernel_rfl) Tryd.func3 (by kernel_rfl)
    (of_decide_eq_true (by kernel_rfl)) (by unfold Func.isWrapper; first | (rw [if_pos (by decide +kernel)]; kernel_rfl) | (rw [if_neg (by decide +kernel)]; exact ⟨rfl, rfl⟩))
    (fun os started H enc _ F => by rw [OpenClaim.pre_eq_preRow]; exact topHonest_lifted os started H enc F)
theorem topHonest_plain (f : FuncId) (fn : Func) (hf : Tryd.pinned.checked.prog.funcNamed "schisma/schismatop.TopHonest" = some f) (hfn : Tryd.pinned.checked.prog.funcs[f]? = some fn) :
    false = Tryd.pinned.checked.prog.looks [] ∧ ∀ (j : Nat) t, fn.params[j]? = some t → Tryd.pinned.checked.prog.wantsStandIn t = false := by
  obtain rfl : f = 3 := Option.some.inj ((show Tryd.prog.funcNamed "schisma/schismatop.TopHonest" = some 3 by kernel_rfl).symm.trans hf) |>.symm
  obtain rfl : fn = Tryd.f3 := (Option.some.inj (Tryd.func3.symm.trans hfn)).symm
  refine ⟨by kernel_rfl, fun j t ht => ?_⟩
  have hall : Tryd.f3.params.all (fun t => !Tryd.prog.wantsStandIn t) = true := by kernel_rfl
  have := (Array.all_eq_true'.1 hall) t (Array.mem_of_getElem? ht)
  have e : Tryd.prog.wantsStandIn t = false := by simpa using this
  exact e
/-- The card. -/
theorem topHonest_holds : Rows.TopHonestCardSaid :=
  Claim7.holds_tied_plain_at .later [] _ _ _ _ topHonest_said (fun _ h => by cases h) (by kernel_rfl) (fun _ h => by cases h) topHonest_row_tie rfl ⟨rfl, rfl⟩ (by kernel_rfl) rfl topHonest_plain (by kernel_rfl)
end Go.Proofs.YtkckingkocacjaaDoor
