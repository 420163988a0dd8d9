/-
  Proved: 'BlameDeviants' returns true for every input and leaves its arguments as they were. No condition.
-/
import Derived.Test.YtbemjekkojgbpaaDoorBmI
import Derived.Test.YtbemjekkojgbpaaDoorBlN
import Derived.Test.YtbemjekkojgbpaaDoorR23A
import Derived.Test.YtbemjekkojgbpaaDoorAuE
import Derived.Test.YtbemjekkojgbpaaDoorBmL
import Derived.Deep.CutRange
set_option linter.unusedVariables false
namespace Go.Sx.Bl
open Go.Sx.Sz Go.Sx.Sc Go.Sx.Au Go.Sx.Po
theorem dev_facts (s : Sc) (h : List V6) (l : List S2) : ((devR s h l).2 ≠ 0 ∧ (devR s h l).1 = []) ∨ ((devR s h l).2 = 0 ∧ (tuneR s h).2 = 0 ∧ (tuneR s h).1.length ≤ l.length ∧ l.length = s.notes.length ∧ l.length ≤ 200 ∧
    (∀ k (hk : k < (devR s h l).1.length), 0 ≤ (devR s h l).1[k] ∧ (devR s h l).1[k] < (tuneR s h).1.length) ∧ (∀ k (hk0 : k < (devR s h l).1.length) (hk : k + 1 < (devR s h l).1.length), (devR s h l).1[k] < (devR s h l).1[k + 1]) ∧
    (∀ i (hi : i < (tuneR s h).1.length) (hl : i < l.length), ∃ (y : V6) (zl zh c : Int), ofR (tuneR s h).1[i] = (y, 0) ∧ sizeR y = (⟨zl, zh⟩, 0) ∧ cmpR ⟨zl, zh⟩ l[i] = (c, 0) ∧ (c != 0) = decide ((i : Int) ∈ (devR s h l).1)) ∧
    ((tuneR s h).1.length = s.notes.length → idealR s (tuneR s h).1 = ((tuneR s h).1.map wantS, 0) ∧ devR s h ((tuneR s h).1.map wantS) = ([], 0))) := by
  by_cases he : hearE s h l = 0
  case neg => exact .inl (by unfold devR; rw [if_neg he]; exact ⟨he, rfl⟩)
  obtain ⟨h1, h2⟩ := hear_ok.1 he
  have hd : devR s h l = ((devL (tuneR s h).1 l).map fun i : Nat => (i : Int), 0) := by unfold devR; rw [if_pos he]
  obtain ⟨-, hx, ha⟩ := tune_ok h1
  rw [← hx] at ha
  have hlen : (tuneR s h).1.length ≤ s.notes.length := by rw [hx, xsL_len]; exact tun_le _ _
  rw [hd]
  have h3 := h2.2.1
  have hn := h2.1.sz.2.1
  have hw : ∀ x ∈ (tuneR s h).1, within x 48 = true := fun x hx => within_mono (by omega) (List.all_eq_true.1 ha x hx)
  refine .inr ⟨rfl, h1, by omega, h3, by omega, ?_, ?_, ?_, ?_⟩
  · intro k hk
    have hk : k < ((devL (tuneR s h).1 l).map fun i : Nat => (i : Int)).length := hk
    rw [List.length_map] at hk
    simp only [List.getElem_map]
    have := devL_lt (xs := (tuneR s h).1) (l := l) hk
    omega
  · intro k hk0 hk
    have hk : k + 1 < ((devL (tuneR s h).1 l).map fun i : Nat => (i : Int)).length := hk
    rw [List.length_map] at hk
    simp only [List.getElem_map]
    have := devL_sorted (xs := (tuneR s h).1) (l := l) hk
    omega
  · intro i hi hl
    have hx48 := hw _ (List.getElem_mem hi)
    obtain ⟨c, hc, hcd⟩ := cmp_dev2 (z := l[i]) (h2.2.2 _ (List.getElem_mem hl)) (want_ok hx48).2
    refine ⟨(tuneR s h).1[i].times 12, (wantS (tuneR s h).1[i]).lo, (wantS (tuneR s h).1[i]).hi, c, ofR_ok hx48, sizeR_ok (want_ok hx48).1, hc, ?_⟩
    rw [hcd]
    show _ = decide ((i : Int) ∈ (devL (tuneR s h).1 l).map fun j : Nat => (j : Int))
    rw [dev_memZ hi]
    unfold devT T
    rw [xAt_get hi, List.getD_eq_getElem?_getD, List.getElem?_eq_getElem hl]; rfl
  · intro hll
    have hs : scB s = true := scB_iff.2 h2.1
    have h4 : tonesOk s ((tuneR s h).1.map wantS) := ⟨h2.1, by rw [List.length_map]; exact hll, fun z hz => by
      obtain ⟨x, hx, rfl⟩ := List.mem_map.1 hz
      exact (want_ok (hw x hx)).2⟩
    have h5 : hearE s h ((tuneR s h).1.map wantS) = 0 := hear_ok.2 ⟨h1, h4⟩
    refine ⟨?_, ?_⟩
    · unfold idealR
      rw [if_pos ⟨hs, hll, List.all_eq_true.2 hw⟩]
    · unfold devR
      rw [if_pos h5, ideal_none]; rfl
end Go.Sx.Bl
namespace Go.Proofs.YtbemjekkojgbpaaDoor
open Go.RowKit Go.Sx Go.Sx.Sz Go.Sx.Sc Go.Sx.Au Go.Sx.Po Go.Sx.Bl Go.ChangeShapes Go.WideShapes Go.ChangeAt

set_option maxRecDepth 100000 in
set_option maxHeartbeats 8000000 in
theorem bdev_law (vn vp vc vh vt : Value) (s : Sc) (h : List V6) (l : List S2) (w : World) (GL : Gl 0 w) (S : ScR w vn vp vc s) (V : Sl w 6 V6.list vh h) (R : Sl w 2 encS vt l) :
    Calls Tryd.prog 3 #[.agg #[.int .i64 s.voices, vn, vp, vc], vh, vt] w fun e w' => e = .returned (.bool true) ∧ Ext w w' := by
  obtain ⟨an, cn, rfl, -, -, hln⟩ := S.nt.len
  obtain ⟨ap, cp, rfl, -, -, hlp⟩ := S.pr.len
  obtain ⟨ac, cc, rfl, -, -, hlc⟩ := S.cd.len
  obtain ⟨ah, ch, rfl, hch, -, -⟩ := V.len
  obtain ⟨at', ct, rfl, -, -, -⟩ := R.len
  have DW := @deviants_walk (.slice an s.notes.length cn) (.slice ap s.pairs.length cp) (.slice ac s.cads.length cc) (.slice ah h.length ch) (.slice at' l.length ct) s h l
  have TW := @tune_walk (.slice an s.notes.length cn) (.slice ap s.pairs.length cp) (.slice ac s.cads.length cc) (.slice ah h.length ch) s h
  have IW := Lib.hid (@ideal_walk (.slice an s.notes.length cn) (.slice ap s.pairs.length cp) (.slice ac s.cads.length cc))
  have DW2 := Lib.hid (@deviants_walk (.slice an s.notes.length cn) (.slice ap s.pairs.length cp) (.slice ac s.cads.length cc) (.slice ah h.length ch))
  have hf := dev_facts s h l
  obtain ⟨⟨dl, de⟩, eDW⟩ : ∃ z, devR s h l = z := ⟨_, rfl⟩
  obtain ⟨⟨tl, te⟩, eTW⟩ : ∃ z, tuneR s h = z := ⟨_, rfl⟩
  rw [eDW] at DW hf; rw [eTW] at TW hf
  simp only at DW TW hf
  have HDW := Lib.hid DW; have HTW := Lib.hid TW; have HF := Lib.hid hf
  clear eDW DW eTW TW hf
  have X0 : Ext w (w.alloc (.cells #[.int .i64 s.voices, .slice an s.notes.length cn, .slice ap s.pairs.length cp, .slice ac s.cads.length cc] 26)) := (by repeat (first | with_reducible exact Ext.refl _ | with_reducible assumption | with_reducible apply Ext.alloc | with_reducible apply Ext.drew | (with_reducible refine Ext.setCell ?_ (by (try simp) <;> omega) _)))
  have b0_0 := block_new w (.cells #[.int .i64 s.voices, .slice an s.notes.length cn, .slice ap s.pairs.length cp, .slice ac s.cads.length cc] 26)
  obtain ⟨W0, hW0⟩ : ∃ W, (w.alloc (.cells #[.int .i64 s.voices, .slice an s.notes.length cn, .slice ap s.pairs.length cp, .slice ac s.cads.length cc] 26)) = W := ⟨_, rfl⟩
  obtain ⟨B0, hB0⟩ : ∃ B, w.heap.size = B := ⟨_, rfl⟩
  rw [hW0] at X0 b0_0
  rw [hB0] at b0_0
  have HZ0 : Hid (w.heap.size ≤ B0) := Lib.hid (by omega)
  have HW0 := Lib.hid hW0; have HB0 := Lib.hid hB0
  clear hW0 hB0
  have CB := Lib.hid (boxS b0_0)
  have S1 := S.ext X0; have V1 := V.ext X0; have G1 := GL.ext X0; have R1 := R.ext X0
  have HCH := Lib.hid hch
  clear S V GL R b0_0 hch
  go_enter Tryd.func3, Tryd.ntmps3
  go_wp2_with fail
  rw [HW0.out, HB0.out]
  clear HW0 HB0
  refine (bhead_walk _ G1).mono ?_
  rintro e w1 ⟨rfl, x1⟩
  obtain ⟨c0, c1, c2, c3⟩ := CB.out _ x1
  go_wp2_with fail
  refine (rfew_walk _ _ _ s _ (S1.ext x1)).mono ?_
  obtain ⟨fw, hfw⟩ : ∃ z, (decide (s.notes.length ≤ 40) && decide (s.pairs.length ≤ 60)) = z := ⟨_, rfl⟩
  rw [hfw]
  clear hfw
  rintro e w2 ⟨rfl, y2⟩
  have x2 := x1.trans y2
  clear c0 c1 c2 c3
  cases fw with
  | false =>
    have HX := Lib.hid (X0.trans x2)
    go_wp2
    go_ret
    exact ⟨by first | rfl | simp, HX.out⟩
  | true =>
  obtain ⟨c0, c1, c2, c3⟩ := CB.out _ x2
  go_wp2_with fail
  refine (HDW.out _ (G1.ext x2) (S1.ext x2) (V1.ext x2) (R1.ext x2)).mono ?_
  rintro e w3 ⟨v3, rfl, L3, y3⟩
  have x3 := x2.trans y3
  clear c0 c1 c2 c3
  obtain ⟨a3, q3, rfl, -, -, hd3⟩ := L3.len
  have HX3 := Lib.hid (X0.trans x3)
  by_cases hde : de = 0
  case neg =>
    obtain rfl : dl = [] := by
      rcases HF.out with h9 | h9
      · exact h9.2
      · exact absurd h9.1 hde
    have t1 : (de != 0) = true := by rw [bne_iff_ne]; exact hde
    clear hde
    go_wp2
    go_ret
    exact ⟨by first | rfl | simp, HX3.out⟩
  subst hde
  obtain ⟨rfl, f1, f2, f3, f4, f5, f6, f7⟩ : te = 0 ∧ _ := by
    rcases HF.out with h9 | h9
    · exact absurd rfl h9.1
    · exact h9.2
  have HF4 := Lib.hid f4; have HF5 := Lib.hid f5; have HF6 := Lib.hid f6; have HF7 := Lib.hid f7; have HF2 := Lib.hid f2; have HF1 := Lib.hid f1; have HF3 := Lib.hid f3
  clear f4 f5 f6 f7 f2
  obtain ⟨c0, c1, c2, c3⟩ := CB.out _ x3
  go_wp2_with fail
  refine (HTW.out _ (S1.ext x3) (V1.ext x3)).mono ?_
  rintro e w4 ⟨v4, rfl, T4, y4⟩
  have x4 := x3.trans y4
  have L3 := L3.ext y4
  clear c0 c1 c2 c3
  obtain ⟨a4, q4, rfl, -, -, -⟩ := T4.len
  obtain ⟨c0, c1, c2, c3⟩ := CB.out _ x4
  have u1 : decide (l.length < tl.length) = false := decide_eq_false (by omega)
  have u2 : ((l.length : Int) != (s.notes.length : Int)) = false := by rw [bne_eq_false_iff_eq, HF2.out]
  have hl200 : tl.length ≤ 200 := by omega
  clear f1 f3
  go_wp2_with fail
  refine (rising_walk _ dl tl.length HF4.out (fun k hk => HF5.out k (by omega) hk) _ L3).mono ?_
  rintro e w5 ⟨rfl, y5⟩
  have x5 := x4.trans y5
  have T5 := T4.ext y5
  have L5 := L3.ext y5
  have HX5 := Lib.hid (X0.trans x5)
  have HY5 := Lib.hid x5
  clear u1 u2 c0 c1 c2 c3 L3 T4 y2 y3 y4 y5 x1 x2 x3 x4 x5 HDW HTW HF
  go_wp2
  go_loopw [12] (fun i wr => ∃ k : Nat, k ≤ tl.length ∧ i = .int .i64 k ∧ Ext w5 wr) (fun i _ => tl.length - (intOf i).toNat)
  case atStart => exact ⟨0, by omega, by first | rfl | trivial, Ext.refl _⟩
  case round =>
    obtain ⟨k, hk, rfl, X⟩ := hrel
    by_cases hlt : k < tl.length
    case pos =>
      obtain ⟨y, zl, zh, c, ho, hs, hc, hcd⟩ := HF6.out k hlt (by have := HF1.out; omega)
      have hlt2 : k < l.length := by have := HF1.out; omega
      obtain ⟨bX, oX, rfl, p0, p1, p2, p3, p4, p5⟩ := Sl.vec (T5.ext X) k hlt
      obtain ⟨bT, oT, rfl, t0, t1⟩ := Sl.sz (R1.ext (HY5.out.trans X)) k hlt2
      obtain ⟨x, hx⟩ : ∃ z, tl[k] = z := ⟨_, rfl⟩
      obtain ⟨z, hz⟩ : ∃ u, l[k] = u := ⟨_, rfl⟩
      rw [hx] at p0 p1 p2 p3 p4 p5 ho
      rw [hz] at t0 t1 hc
      have i1 : (0 : Int) ≤ (k : Int) := by omega
      have i2 : (k : Int) < (tl.length : Int) := by omega
      have i3 : (k : Int) < (l.length : Int) := by omega
      have OW := Lib.hid fun w' => of_walk x w'
      have SW := Lib.hid fun w' (g : Gl 0 w') => sof_walk y w' g
      have CM := Lib.hid fun w' => cmp_walk ⟨zl, zh⟩ z w'
      rw [ho] at OW; rw [hs] at SW; rw [hc] at CM
      simp only at OW SW CM
      obtain ⟨W, rfl⟩ : ∃ z : World, z = wr := ⟨_, rfl⟩
      have T0 := ext_cells t0; have T1 := ext_cells t1
      have HCD := Lib.hid hcd
      clear hx hz ho hs hc hlt2 t0 t1 hcd
      go_wp2_with fail
      refine (OW.out _).mono ?_
      rintro e w6 ⟨rfl, x6⟩
      have e6 := Ext.alloc' w6 (.cells (#[.int .i64 y.a, .int .i64 y.b, .int .i64 y.c, .int .i64 y.d, .int .i64 y.e, .int .i64 y.f] : Array Value) 38)
      have X6 := x6.trans e6
      go_wp2_with fail
      refine (SW.out _ (G1.ext (HY5.out.trans (X.trans X6)))).mono ?_
      rintro e w7 ⟨rfl, x7⟩
      have X7 := X6.trans x7
      have X8 : Ext w7 (w7.alloc (.cells #[.int .i64 zl, .int .i64 zh] 43)) := (by repeat (first | with_reducible exact Ext.refl _ | with_reducible assumption | with_reducible apply Ext.alloc | with_reducible apply Ext.drew | (with_reducible refine Ext.setCell ?_ (by (try simp) <;> omega) _)))
      have b8_0 := block_new w7 (.cells #[.int .i64 zl, .int .i64 zh] 43)
      obtain ⟨W8, hW8⟩ : ∃ W, (w7.alloc (.cells #[.int .i64 zl, .int .i64 zh] 43)) = W := ⟨_, rfl⟩
      obtain ⟨B8, hB8⟩ : ∃ B, w7.heap.size = B := ⟨_, rfl⟩
      rw [hW8] at X8 b8_0
      rw [hB8] at b8_0
      have HZ8 : Hid (w7.heap.size ≤ B8) := Lib.hid (by omega)
      have HW8 := Lib.hid hW8; have HB8 := Lib.hid hB8
      clear hW8 hB8
      have X8' := X7.trans X8
      have t0 := ext_cells (T0 _ X8'); have t1 := ext_cells (T1 _ X8')
      have s0 := ext_cells (block_cell b8_0 0 _ rfl); have s1 := ext_cells (block_cell b8_0 1 _ rfl)
      have HX8 := Lib.hid (X.trans X8')
      clear b8_0 X8 X8' X7 X6 x6 x7 e6 T0 T1 p0 p1 p2 p3 p4 p5
      go_upto_region 15 with fail
      rw [HW8.out, HB8.out]
      clear HW8 HB8
      refine wp_region_ord [(0,true), (1,true), (2,true), (3,true), (4,true), (5,true), (6,true), (7,true), (8,true), (9,true), (10,true)] 11 Ext (Ext W8) wide (by kernel_rfl) (stable_ext _) (Ext.drawn _ _) ?_
      iterate 5 (first | (apply wpOrd_no rfl; rfl; (simp only [List.getElem_toArray, List.getElem_cons_succ, List.getElem_cons_zero, Act.put, List.setIfInBounds_toArray, List.set_cons_succ, List.set_cons_zero]; rfl)) | (apply wpOrd_yes rfl; rfl; (intro w' hw'; unfold opR; go_simp; exact ⟨Ext.refl _, rfl⟩); (simp only [List.getElem_toArray, List.getElem_cons_succ, List.getElem_cons_zero, Act.put, List.setIfInBounds_toArray, List.set_cons_succ, List.set_cons_zero]; rfl)))
      (apply wpOrd_det rfl rfl; (intro w' hw'; refine opR_call rfl (Go.Proofs.enters_of Tryd.func17 (by kernel_rfl) rfl) (by simp only [List.map_toArray, List.map_cons, List.map_nil, Act.eval, Array.getD_eq_getD_getElem?, List.getElem?_toArray, List.getElem?_cons_succ, List.getElem?_cons_zero, Option.getD_some]; rfl) ?_; refine (CM.out w').mono ?_; rintro e w'' ⟨rfl, hx⟩; exact ⟨_, rfl, hx, rfl⟩); (simp only [List.getElem_toArray, List.getElem_cons_succ, List.getElem_cons_zero, Act.put, List.setIfInBounds_toArray, List.set_cons_succ, List.set_cons_zero]; rfl))
      iterate 5 (first | (apply wpOrd_no rfl; rfl; (simp only [List.getElem_toArray, List.getElem_cons_succ, List.getElem_cons_zero, Act.put, List.setIfInBounds_toArray, List.set_cons_succ, List.set_cons_zero]; rfl)) | (apply wpOrd_yes rfl; rfl; (intro w' hw'; unfold opR; go_simp; exact ⟨Ext.refl _, rfl⟩); (simp only [List.getElem_toArray, List.getElem_cons_succ, List.getElem_cons_zero, Act.put, List.setIfInBounds_toArray, List.set_cons_succ, List.set_cons_zero]; rfl)))
      refine wpOrd_nil (l := []) rfl ?_
      intro w9 x9
      clear t0 t1 s0 s1
      go_wp2_with fail
      refine (bhas_walk _ dl k _ (L5.ext (HX8.out.trans x9))).mono ?_
      have HX9 := Lib.hid (HX8.out.trans x9)
      obtain ⟨bb, hbb⟩ : ∃ b, decide ((k : Int) ∈ dl) = b := ⟨_, rfl⟩
      rw [hbb] at HCD ⊢
      rintro e w10 ⟨rfl, x10⟩
      have HX := Lib.hid (HX9.out.trans x10)
      have t1 : (c != 0) = bb := HCD.out
      clear hbb x9 x10 X
      cases bb with
      | true =>
        go_wp2
        go_roundw
        case rel => exact ⟨k + 1, by omega, by go_num, HX.out⟩
        case measure => simp [intOf] <;> omega
      | false =>
        go_wp2
        go_roundw
        case rel => exact ⟨k + 1, by omega, by go_num, HX.out⟩
        case measure => simp [intOf] <;> omega
    case neg =>
    obtain rfl : k = tl.length := by omega
    have X5 := HY5.out.trans X
    have HX := Lib.hid (X0.trans X5)
    obtain ⟨c0, c1, c2, c3⟩ := CB.out _ X5
    by_cases hne : tl.length = s.notes.length
    case neg =>
      have t1 : ((tl.length : Int) != (s.notes.length : Int)) = true := by rw [bne_iff_ne]; omega
      clear hne
      go_wp2
      go_ret
      exact ⟨by first | rfl | simp, HX.out⟩
    obtain ⟨hI, hD⟩ := HF7.out hne
    obtain ⟨il, hil⟩ : ∃ z, tl.map wantS = z := ⟨_, rfl⟩
    rw [hil] at hI hD
    have t1 : ((tl.length : Int) != (s.notes.length : Int)) = false := by rw [bne_eq_false_iff_eq]; omega
    clear hne hil
    go_wp2_with fail
    refine (IW.out _ s tl _ (G1.ext X5) (S1.ext X5) (T5.ext X)).mono ?_
    rw [hI]
    simp only
    rintro e w6 ⟨v6, rfl, L6, y6⟩
    have X6 := X5.trans y6
    obtain ⟨a6, q6, rfl, -, -, -⟩ := L6.len
    clear c0 c1 c2 c3 t1
    obtain ⟨c0, c1, c2, c3⟩ := CB.out _ X6
    go_wp2_with fail
    refine (DW2.out _ s h il _ (G1.ext X6) (S1.ext X6) (V1.ext X6) L6).mono ?_
    rw [hD]
    rintro e w7 ⟨v7, rfl, L7, y7⟩
    obtain ⟨a7, q7, rfl, -, -, -⟩ := L7.len
    have HX7 := Lib.hid (X0.trans (X6.trans y7))
    clear c0 c1 c2 c3
    go_wp2
    go_ret
    exact ⟨by first | rfl | simp, HX7.out⟩

theorem blameDeviants_args (H : Type) (enc : TypeId × Value → H) (W : World) (base : Nat) (vs : List Value) (ds : List (DataW H)) (_ : ∀ k, (OpenSpec.ofChange Rows.blameDeviantsSpec).cond = some k → k H ds = true) (hL : laidMetH Tryd.prog Rows.blameDeviantsRow.laid W) (hA : Args enc Tryd.prog W base Tryd.f3.params.toList vs ds) :
    Calls Tryd.prog 3 vs.toArray W fun e W' => e = .returned (.bool true) ∧ Ext W W' := by
  rw [Tryd.params3] at hA
  obtain ⟨v0, _, d0, _, rfl, rfl, h0, hA⟩ := hA.cons
  obtain ⟨v1, _, d1, _, rfl, rfl, h1, hA⟩ := hA.cons
  obtain ⟨v2, _, d2, _, rfl, rfl, h2, hA⟩ := hA.cons
  obtain ⟨rfl, rfl⟩ := hA.nil
  obtain ⟨s0, vn0, vp0, vc0, rfl, S0⟩ := arg_score h0
  obtain ⟨l1, S1, n1⟩ := arg_vecs h1
  obtain ⟨l2, S2, n2⟩ := arg_sizes h2
  exact bdev_law _ _ _ _ _ s0 l1 l2 W (gv_of hL) S0 S1 S2

theorem blameDeviants_met (os : Os) : laidMet Tryd.prog Rows.blameDeviantsRow.laid ((laidWorld os).forCall (fun _ _ => 0) ⟨#[], #[.agg #[.int .i64 0, .slice none 0 0, .slice none 0 0, .slice none 0 0], .slice none 0 0, .slice none 0 0], []⟩).memory := laidMet_of_run' 8 (by kernel_rfl) (by kernel_rfl)
theorem blameDeviants_reads (os : Os) {H : Type} (enc : TypeId × Value → H) : ∃ places, DataW.whole enc Tryd.prog ((laidWorld os).forCall (fun _ _ => 0) ⟨#[], #[.agg #[.int .i64 0, .slice none 0 0, .slice none 0 0, .slice none 0 0], .slice none 0 0, .slice none 0 0], []⟩).memory Tryd.f3.params.toList Rows.blameDeviantsSpec.vars false #[.agg #[.int .i64 0, .slice none 0 0, .slice none 0 0, .slice none 0 0], .slice none 0 0, .slice none 0 0].toList 8 = some ([.agg [.lit (.int .i64 0), .nil, .nil, .nil], .nil, .nil], [], places) := ⟨[], by kernel_rfl⟩
set_option maxRecDepth 100000 in
theorem blameDeviants_lifted (os : Os) (started : os.Started) (H : Type) (enc : TypeId × Value → H) (F : Stop.Interp) :
    ReturnsInHanded {} Tryd.checked os 3 .any ((OpenSpec.ofChange Rows.blameDeviantsSpec).preRow enc Tryd.prog Tryd.f3 Rows.blameDeviantsRow.domain false Rows.blameDeviantsRow.laid) (((OpenSpec.ofChange Rows.blameDeviantsSpec).at F).post enc Tryd.prog Tryd.f3 false true false false) := by
  obtain ⟨places, hx⟩ := blameDeviants_reads os enc
  exact law_row (C := Tryd.checked) (s := (OpenSpec.ofChange Rows.blameDeviantsSpec)) (by kernel_rfl) started (by kernel_rfl) Tryd.func3
    (witness_row_at (enc := enc) (C := Tryd.checked) false (laidWorld os) #[.agg #[.int .i64 0, .slice none 0 0, .slice none 0 0, .slice none 0 0], .slice none 0 0, .slice none 0 0] rfl (by kernel_rfl) (by kernel_rfl) (by kernel_rfl) (OpenSpec.preRow_of_cond 8 hx (by kernel_rfl) (fun k hk => by cases hk) (by kernel_rfl) (blameDeviants_met os)))
    (by kernel_rfl) (by kernel_rfl) (by kernel_rfl) rfl (fun ds h => by match ds, h with | [_, _, _], _ => rfl) (blameDeviants_args H enc)
theorem blameDeviants_said : Rows.BlameDeviantsSaid :=
  OpenClaim.holds_of_cond 3 Tryd.f3 rfl rfl rfl rfl rfl rfl rfl ⟨rfl, rfl, rfl, rfl, rfl⟩ rfl rfl rfl rfl rfl (by kernel_rfl) Tryd.func3 (by kernel_rfl)
    (of_decide_eq_true (by kernel_rfl)) (by unfold Func.isWrapper; first | (rw [if_pos (by decide +kernel)]; kernel_rfl) | (rw [if_neg (by decide +kernel)]; exact ⟨rfl, rfl⟩))
    (fun os started H enc _ F => by rw [OpenClaim.pre_eq_preRow]; exact blameDeviants_lifted os started H enc F)
theorem blameDeviants_plain (f : FuncId) (fn : Func) (hf : Tryd.pinned.checked.prog.funcNamed "schisma/schismalaw40.BlameDeviants" = some f) (hfn : Tryd.pinned.checked.prog.funcs[f]? = some fn) :
    false = Tryd.pinned.checked.prog.looks [] ∧ ∀ (j : Nat) t, fn.params[j]? = some t → Tryd.pinned.checked.prog.wantsStandIn t = false := by
  obtain rfl : f = 3 := Option.some.inj ((show Tryd.prog.funcNamed "schisma/schismalaw40.BlameDeviants" = some 3 by kernel_rfl).symm.trans hf) |>.symm
  obtain rfl : fn = Tryd.f3 := (Option.some.inj (Tryd.func3.symm.trans hfn)).symm
  refine ⟨by kernel_rfl, fun j t ht => ?_⟩
  have hall : Tryd.f3.params.all (fun t => !Tryd.prog.wantsStandIn t) = true := by kernel_rfl
  have := (Array.all_eq_true'.1 hall) t (Array.mem_of_getElem? ht)
  have e : Tryd.prog.wantsStandIn t = false := by simpa using this
  exact e
/-- The card. -/
theorem blameDeviants_holds : Rows.BlameDeviantsCardSaid :=
  Claim7.holds_tied_plain_at .later [] _ _ _ _ blameDeviants_said (fun _ h => by cases h) (by kernel_rfl) (fun _ h => by cases h) blameDeviants_row_tie rfl ⟨rfl, rfl⟩ (by kernel_rfl) rfl blameDeviants_plain (by kernel_rfl)
end Go.Proofs.YtbemjekkojgbpaaDoor
