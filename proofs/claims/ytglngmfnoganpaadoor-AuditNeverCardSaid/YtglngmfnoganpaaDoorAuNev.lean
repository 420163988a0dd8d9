/-
  Proved: 'AuditNever' returns true for every input and leaves its arguments as they were. No condition.
-/
import Derived.Test.YtglngmfnoganpaaDoorAuNevM
import Derived.Test.YtglngmfnoganpaaDoorAuReb
import Derived.Test.YtglngmfnoganpaaDoorLibB
import Derived.BigQuiet
set_option linter.unusedVariables false
namespace Go.Proofs.YtglngmfnoganpaaDoor
open Go.RowKit Go.Sx Go.Sx.Sz Go.Sx.Sc Go.Sx.Au Go.ChangeShapes Go.WideShapes Go.ChangeAt

/-- The tones behind the first k of them were widened. -/
def widQ (xs : List V6) (ts : List S2) (k : Nat) : Prop := ts.length = xs.length ∧ ∀ i, i < xs.length → ((T (xs.map wantS) i).lo - 65535000 ≤ (T ts i).lo ∧ (T ts i).lo ≤ (T (xs.map wantS) i).lo ∧ (T (xs.map wantS) i).hi ≤ (T ts i).hi ∧ (T ts i).hi ≤ (T (xs.map wantS) i).hi + 65535000) ∧ (k ≤ i → T ts i = T (xs.map wantS) i)
theorem T_map {xs : List V6} {i : Nat} (h : i < xs.length) : T (xs.map wantS) i = wantS xs[i] := by rw [T_eq (by simpa using h)]; simp
theorem T_set {ts : List S2} {k i : Nat} (z : S2) (hk : k < ts.length) (hi : i < ts.length) : T (ts.set k z) i = if i = k then z else T ts i := by
  rw [T_eq (by simpa using hi), T_eq hi, List.getElem_set]
  by_cases h : k = i
  · rw [if_pos h, if_pos h.symm]
  · rw [if_neg h, if_neg (fun e => h e.symm)]
theorem widQ_next {xs : List V6} {ts : List S2} {k : Nat} (h : widQ xs ts k) : widQ xs ts (k + 1) := ⟨h.1, fun i hi => ⟨(h.2 i hi).1, fun hk => (h.2 i hi).2 (by omega)⟩⟩
theorem widQ_set {xs : List V6} {ts : List S2} {k : Nat} (h : widQ xs ts k) (hk : k < xs.length) {m n : Int} (hm : 0 ≤ m ∧ m ≤ 65535) (hn : 0 ≤ n ∧ n ≤ 65535) : widQ xs (ts.set k ⟨(T ts k).lo - 1000 * m, (T ts k).hi + 1000 * n⟩) (k + 1) := by
  obtain ⟨h1, h2⟩ := h
  refine ⟨by rw [List.length_set]; exact h1, fun i hi => ?_⟩
  rw [T_set _ (by omega) (by omega)]
  by_cases e : i = k
  · subst e
    rw [if_pos rfl, (h2 i hi).2 (Nat.le_refl _)]
    dsimp only
    exact ⟨by omega, fun h3 => by omega⟩
  · rw [if_neg e]
    exact ⟨(h2 i hi).1, fun h3 => (h2 i hi).2 (by omega)⟩
theorem wantS_bd {x : V6} (h : within x 48 = true) : -13000000000000 ≤ (wantS x).lo ∧ (wantS x).lo ≤ (wantS x).hi ∧ (wantS x).hi ≤ 13000000000000 := by
  have := expo_bd (times_within h)
  unfold wantS; omega
theorem widQ_ok {xs : List V6} {ts : List S2} {k : Nat} (h : widQ xs ts k) (hw : ∀ x ∈ xs, within x 48 = true) {i : Nat} (hi : i < xs.length) : szOk (T ts i) = true := by
  have h2 := (h.2 i hi).1
  have hb := wantS_bd (hw _ (List.getElem_mem hi))
  rw [T_map hi] at h2
  rw [szOk_iff]
  omega

set_option maxRecDepth 100000 in
set_option maxHeartbeats 8000000 in
theorem aunev_law (vn vp vc vx vm : Value) (s : Sc) (xs : List V6) (ms : List Int) (hms : ∀ y ∈ ms, 0 ≤ y ∧ y ≤ 65535) (hml : ms.length ≤ 140737488351232) (w : World) (G0 : Gl 0 w) (S : ScR w vn vp vc s) (R : Sl w 6 V6.list vx xs) (O : Sl w 1 (fun x => [.int .u16 x]) vm ms) :
    Calls Tryd.prog 9 #[.agg #[.int .i64 s.voices, vn, vp, vc], vx, vm] w fun e w' => e = .returned (.bool true) ∧ Ext w w' := by
  obtain ⟨an, cn, rfl, -, -, hln⟩ := S.nt.len
  obtain ⟨ap, cp, rfl, -, -, hlp⟩ := S.pr.len
  obtain ⟨ac, cc, rfl, -, -, hlc⟩ := S.cd.len
  obtain ⟨at', ct, rfl, -, -, hlt⟩ := R.len
  obtain ⟨ao, co, rfl, -, -, hlo⟩ := O.len
  have X0 : Ext w (w.alloc (.cells #[.int .i64 s.voices, .slice an s.notes.length cn, .slice ap s.pairs.length cp, .slice ac s.cads.length cc] 26)) := (by repeat (first | with_reducible exact Ext.refl _ | with_reducible assumption | with_reducible apply Ext.alloc | with_reducible apply Ext.drew | (with_reducible refine Ext.setCell ?_ (by (try simp) <;> omega) _)))
  have b0_0 := block_new w (.cells #[.int .i64 s.voices, .slice an s.notes.length cn, .slice ap s.pairs.length cp, .slice ac s.cads.length cc] 26)
  obtain ⟨W0, hW0⟩ : ∃ W, (w.alloc (.cells #[.int .i64 s.voices, .slice an s.notes.length cn, .slice ap s.pairs.length cp, .slice ac s.cads.length cc] 26)) = W := ⟨_, rfl⟩
  obtain ⟨B0, hB0⟩ : ∃ B, w.heap.size = B := ⟨_, rfl⟩
  rw [hW0] at X0 b0_0
  rw [hB0] at b0_0
  have HZ0 : Hid (w.heap.size ≤ B0) := Lib.hid (by omega)
  have HW0 := Lib.hid hW0; have HB0 := Lib.hid hB0
  clear hW0 hB0
  have CB := Lib.hid (boxS39 b0_0)
  have S1 := S.ext X0; have R1 := R.ext X0; have G1 := G0.ext X0; have O1 := O.ext X0
  clear S R O G0 b0_0
  go_enter Tryd.func9, Tryd.ntmps9
  go_wp2_with fail
  rw [HW0.out, HB0.out]
  clear HW0 HB0
  refine (head_walk _ G1).mono ?_
  rintro e w1 ⟨rfl, x1⟩
  obtain ⟨c0, c1, c2, c3⟩ := CB.out _ x1
  go_wp2_with fail
  refine (few_walk _ _ _ s _ (S1.ext x1)).mono ?_
  cases hf : fewB s with
  | false =>
    clear hf
    rintro e w2 ⟨rfl, y2⟩
    clear c0 c1 c2 c3
    go_wp2
    go_ret
    exact ⟨rfl, X0.trans (x1.trans y2)⟩
  | true =>
  clear hf
  rintro e w2 ⟨rfl, y2⟩
  have x2 := x1.trans y2
  clear c0 c1 c2 c3
  obtain ⟨c0, c1, c2, c3⟩ := CB.out _ x2
  go_wp2_with fail
  refine (rvalid19_walk _ _ _ s _ (S1.ext x2)).mono ?_
  cases hv : scB s with
  | false =>
    clear hv
    rintro e w3 ⟨rfl, y3⟩
    clear c0 c1 c2 c3
    go_wp2
    go_ret
    exact ⟨rfl, X0.trans (x2.trans y3)⟩
  | true =>
  have HV := Lib.hid hv
  have HK := Lib.hid (scB_iff.1 hv)
  clear hv
  rintro e w3 ⟨rfl, y3⟩
  have x3 := x2.trans y3
  clear c0 c1 c2 c3
  obtain ⟨c0, c1, c2, c3⟩ := CB.out _ x3
  go_wp2_with fail
  refine (ideal_walk _ _ _ _ s xs _ (G1.ext x3) (S1.ext x3) (R1.ext x3)).mono ?_
  by_cases hid : xs.length = s.notes.length ∧ xs.all (fun x => within x 48) = true
  case neg =>
    rw [idealR_bad (fun h => hid ⟨h.2.1, h.2.2⟩)]
    clear hid
    rintro e w4 ⟨v4, rfl, -, y4⟩
    clear c0 c1 c2 c3
    go_wp2
    go_ret
    exact ⟨rfl, X0.trans (x3.trans y4)⟩
  obtain ⟨hxl, hxw⟩ := hid
  have HXW := Lib.hid (List.all_eq_true.1 hxw)
  have HXL := Lib.hid hxl
  rw [show idealR s xs = (xs.map wantS, 0) from if_pos ⟨HV.out, hxl, hxw⟩]
  have hnn : xs.length ≤ 200 := by have := HK.out.sz.2.1; omega
  rintro e w4 ⟨v4, rfl, SI, y4⟩
  have x4 := x3.trans y4
  clear c0 c1 c2 c3
  have hml2 : (xs.map wantS).length = xs.length := List.length_map _
  obtain ⟨ai, ci, rfl, -, -, -⟩ := SI.len
  rw [hml2] at SI ⊢
  have en1 : ((xs.length : Int) != (s.notes.length : Int)) = false := by rw [hxl]; simp
  obtain ⟨c0, c1, c2, c3⟩ := CB.out _ x4
  have o0 : OwnR (w4.alloc (.cells #[] 56)) w4.heap.size 56 2 encS (.slice (some ⟨w4.heap.size, 0, none⟩) 0 0) [] := OwnR.lit w4 #[] [] 0 rfl (Nat.le_refl _) rfl rfl (by simp [maxLen])
  have e4 := Ext.alloc' w4 (.cells #[] 56)
  have S4 := SI.ext e4
  have hz4 := e4.size
  have HLM := Lib.hid hml2
  clear hxw hml2 hxl
  go_wp2_with (first | (at_builtin; go_must (refine wpList_app0 et_sz rfl (.tmp 63) (.tmp 64) rfl o0 rfl (xs.map wantS) _ S4 rfl (fun _ _ => rfl) (by have := HLM.out; omega) hz4 ?_; intro v10 w5 hown5 x5' _; (obtain ⟨a5, q5, rfl⟩ := hown5.len; rw [HLM.out]))) | fail)
  have X45 := e4.trans x5'
  have Q0 := Lib.hid (show widQ xs (xs.map wantS) 0 from ⟨HLM.out, fun i hi => ⟨by omega, fun _ => rfl⟩⟩)
  rw [HLM.out] at hown5
  clear c0 c1 c2 c3 o0 S4 e4 x5' en1
  go_loopw [68] (fun i wr => ∃ (k : Nat) (ts : List S2), k ≤ xs.length ∧ i = .int .i64 k ∧ Hid (widQ xs ts k) ∧ OwnR wr w4.heap.size 56 2 encS (.slice a5 xs.length q5) ts ∧ Ext w4 wr) (fun i _ => xs.length - (intOf i).toNat)
  case atStart => exact ⟨0, _, by omega, rfl, Lib.hid Q0.out, hown5, X45⟩
  case round =>
    obtain ⟨k, ts, hk, rfl, HQ, own, X⟩ := hrel
    clear hown5 X45
    by_cases hlt : k < xs.length
    · have hkt : k < ts.length := by have := HQ.out.1; omega
      obtain ⟨g, cap, he, hg1, hg2, hg3⟩ := own.block (by rintro h9; rw [h9] at hkt; exact absurd hkt (Nat.not_lt_zero _))
      obtain ⟨rfl, -, rfl⟩ : a5 = some ⟨g, 0, none⟩ ∧ xs.length = ts.length ∧ q5 = cap := by simpa using he
      have a0 := own.cell (fun _ _ => rfl) k 0 hkt (by omega)
      have a1 := own.cell (fun _ _ => rfl) k 1 hkt (by omega)
      obtain ⟨⟨zl, zh⟩, hz⟩ : ∃ z, ts[k] = z := ⟨_, rfl⟩
      rw [hz] at a0 a1
      simp only [encS, List.getD_cons_zero, List.getD_cons_succ, Nat.add_zero] at a0 a1
      have hT : T ts k = ⟨zl, zh⟩ := by rw [T_eq hkt, hz]
      have hsz := widQ_ok HQ.out HXW.out hlt
      rw [hT] at hsz
      have HSZ := Lib.hid hsz; have HTT := Lib.hid hT
      have i1 : (0 : Int) ≤ (k : Int) := by omega
      have i2 : (k : Int) < (xs.length : Int) := by omega
      have HLT := Lib.hid hlt
      have HKT := Lib.hid hkt
      clear hz hT hsz he hkt
      go_wp2_with fail
      refine (rszvalid_walk ⟨zl, zh⟩ _).mono ?_
      rw [HSZ.out]
      rintro e w6 ⟨rfl, y6⟩
      have own6 := own.ext y6
      have X6 := X.trans y6
      replace a0 := y6.cell a0
      replace a1 := y6.cell a1
      have hfr : ∀ j, w6.frozen? ⟨g, j, none⟩ = false := fun j => by
        obtain ⟨g', cap', he', -, -, hf'⟩ := own6.block (by rintro h9; have := HKT.out; rw [h9] at this; exact absurd this (Nat.not_lt_zero _))
        obtain ⟨rfl, -⟩ : g = g' ∧ _ := by simpa using he'
        exact hf' j
      clear own hg1 hg2 hg3
      by_cases hm : 2 * (k : Int) + 1 < (ms.length : Int)
      · have O6 := O1.ext (x4.trans X6)
        obtain ⟨bm, om, rfl, hm0⟩ := O6.at1 (2 * k) (by omega)
        obtain ⟨_, _, e', hm1⟩ := O6.at1 (2 * k + 1) (by omega)
        cases e'
        have r0 := hms _ (List.getElem_mem (show 2 * k < ms.length by omega))
        have r1 := hms _ (List.getElem_mem (show 2 * k + 1 < ms.length by omega))
        obtain ⟨u, hu⟩ : ∃ z, ms[2 * k]'(by omega) = z := ⟨_, rfl⟩
        obtain ⟨v, hv⟩ : ∃ z, ms[2 * k + 1]'(by omega) = z := ⟨_, rfl⟩
        rw [hu] at r0; rw [hv] at r1
        simp only [List.getD_cons_zero, hu, hv] at hm0 hm1
        have HU := Lib.hid r0; have HV2 := Lib.hid r1
        have hzz := szOk_iff.1 HSZ.out
        dsimp only at hzz
        have J0 : IntKind.i64.wrap (2 * (k : Int)) = 2 * (k : Int) := IntWalk.i64_in _ (by omega)
        have J1 : IntKind.i64.wrap (2 * (k : Int) + 1) = 2 * (k : Int) + 1 := IntWalk.i64_in _ (by omega)
        have J2 : IntKind.i64.wrap (1000 * u) = 1000 * u := IntWalk.i64_in _ (by omega)
        have J3 : IntKind.i64.wrap (1000 * v) = 1000 * v := IntWalk.i64_in _ (by omega)
        have J4 : IntKind.i64.wrap (zl - 1000 * u) = zl - 1000 * u := IntWalk.i64_in _ (by omega)
        have J5 : IntKind.i64.wrap (zh + 1000 * v) = zh + 1000 * v := IntWalk.i64_in _ (by omega)
        have J6 : IntKind.i64.wrap u = u := IntWalk.i64_in _ (by omega)
        have J7 : IntKind.i64.wrap v = v := IntWalk.i64_in _ (by omega)
        have T0 : (2 * (k : Int)).toNat = 2 * k := by omega
        have T1 : (2 * (k : Int) + 1).toNat = 2 * k + 1 := by omega
        have k0 : (0 : Int) ≤ 2 * (k : Int) := by omega
        have k1 : 2 * (k : Int) < (ms.length : Int) := by omega
        have k2 : (0 : Int) ≤ 2 * (k : Int) + 1 := by omega
        clear hu hv O6
        go_upto_region 14 with fail
        replace a0 := ext_cells a0; replace a1 := ext_cells a1; replace hm0 := ext_cells hm0; replace hm1 := ext_cells hm1
        refine wp_region_ord [(0,true), (1,true), (2,true), (3,true), (4,true), (5,true), (6,true), (7,true), (8,true), (9,true), (10,true), (11,true), (12,true), (13,true), (14,true), (15,true), (16,true), (17,true), (18,true), (19,true), (20,true), (21,true), (22,true), (23,true), (24,true), (25,true), (26,true), (27,true), (28,true), (29,true), (30,true)] 31 Ext (Ext w6) wide (by kernel_rfl) (stable_ext _) (Ext.drawn _ _) ?_
        iterate 31 (first | (apply wpOrd_no rfl; rfl; (simp only [List.getElem_toArray, List.getElem_cons_succ, List.getElem_cons_zero, Act.put, List.setIfInBounds_toArray, List.set_cons_succ, List.set_cons_zero]; rfl)) | (apply wpOrd_yes rfl; rfl; (intro w' hw'; unfold opR; go_simp; exact ⟨Ext.refl _, rfl⟩); (simp only [List.getElem_toArray, List.getElem_cons_succ, List.getElem_cons_zero, Act.put, List.setIfInBounds_toArray, List.set_cons_succ, List.set_cons_zero]; rfl)))
        refine wpOrd_nil (l := [_]) rfl ?_
        intro w7 x7
        have own7 := own6.ext x7
        have b0 := a0 w7 x7
        have b1 := a1 w7 x7
        have f0 : w7.frozen? ⟨g, k * 2, none⟩ = false := by
          obtain ⟨g', cap', he', -, -, hf'⟩ := own7.block (by rintro h9; have := HKT.out; rw [h9] at this; exact absurd this (Nat.not_lt_zero _))
          obtain ⟨rfl, -⟩ : g = g' ∧ _ := by simpa using he'
          exact hf' _
        have n1 := own7.store (fun _ _ => rfl) k 0 HKT.out (by omega) ⟨zl - 1000 * u, zh⟩ (.int .i64 (zl - 1000 * u)) (by rw [← T_eq HKT.out, HTT.out]; rfl)
        have hk2 : k < (ts.set k (⟨zl - 1000 * u, zh⟩ : S2)).length := by rw [List.length_set]; exact HKT.out
        have n2 := n1.store (fun _ _ => rfl) k 1 hk2 (by omega) ⟨zl - 1000 * u, zh + 1000 * v⟩ (.int .i64 (zh + 1000 * v)) (by rw [List.getElem_set_self]; rfl)
        rw [List.set_set] at n2
        simp only [Nat.add_zero] at n1 n2
        have c1' := n1.cell (fun _ _ => rfl) k 1 hk2 (by omega)
        rw [List.getElem_set_self] at c1'
        simp only [encS, List.getD_cons_zero, List.getD_cons_succ] at c1'
        have f1 : (w7.setCell ⟨g, k * 2, none⟩ (.int .i64 (zl - 1000 * u))).frozen? ⟨g, k * 2 + 1, none⟩ = false := by
          obtain ⟨g', cap', he', -, -, hf'⟩ := n1.block (by rintro h9; rw [h9] at hk2; exact absurd hk2 (Nat.not_lt_zero _))
          obtain ⟨rfl, -⟩ : g = g' ∧ _ := by simpa using he'
          exact hf' _
        have hgB : w4.heap.size ≤ g := by
          obtain ⟨g', cap', he', hB', -, -⟩ := own7.block (by rintro h9; have := HKT.out; rw [h9] at this; exact absurd this (Nat.not_lt_zero _))
          obtain ⟨rfl, -⟩ : g = g' ∧ _ := by simpa using he'
          exact hB'
        have X8 := Lib.hid (((X6.trans x7).setCell (p := ⟨g, k * 2, none⟩) hgB (.int .i64 (zl - 1000 * u))).setCell (p := ⟨g, k * 2 + 1, none⟩) hgB (.int .i64 (zh + 1000 * v)))
        have HQ2 : Hid (widQ xs (ts.set k ⟨zl - 1000 * u, zh + 1000 * v⟩) (k + 1)) := Lib.hid (by
          have := widQ_set HQ.out HLT.out HU.out HV2.out
          rw [HTT.out] at this; exact this)
        have N2 := Lib.hid n2
        clear n1 n2 own7 a0 a1 hm0 hm1 hk2 hgB
        go_wp2
        go_roundw
        case rel => exact ⟨k + 1, _, by have := HLT.out; omega, by go_num, Lib.hid HQ2.out, N2.out, X8.out⟩
        case measure => have := HLT.out; simp [intOf] <;> omega
      · go_wp2
        go_roundw
        case rel => exact ⟨k + 1, ts, by have := HLT.out; omega, by go_num, Lib.hid (widQ_next HQ.out), own6, X6⟩
        case measure => have := HLT.out; simp [intOf] <;> omega
    · obtain rfl : k = xs.length := by omega
      have htl : ts.length = xs.length := HQ.out.1
      have ST := own.sl (fun _ _ => rfl) (by omega)
      have HTK := Lib.hid (tonesB_iff.2 (show tonesOk s ts from ⟨HK.out, by rw [htl, HXL.out], fun z hz => by
        obtain ⟨i, hi, rfl⟩ := List.getElem_of_mem hz
        rw [← T_eq hi]
        exact widQ_ok HQ.out HXW.out (by omega)⟩))
      have HT := Lib.hid (tonesB_iff.1 HTK.out)
      have x9 := x4.trans X
      have hpl : s.pairs.length ≤ 400 := HK.out.sz.2.2.1
      obtain ⟨c0, c1, c2, c3⟩ := CB.out _ x9
      have SP := S1.pr.ext x9
      have SX := R1.ext x9
      clear own SI hz4 htl
      go_wp2
      clear c0 c1 c2 c3
      obtain ⟨wt, rfl⟩ : ∃ wt : World, wt = wr := ⟨_, rfl⟩
      go_loopw [118, 7] (fun i u wr => ∃ m : Nat, m ≤ s.pairs.length ∧ i = .int .i64 m ∧ u = .bool true ∧ Ext wt wr) (fun i _ _ => s.pairs.length - (intOf i).toNat)
      case atStart => exact ⟨0, by omega, rfl, rfl, Ext.refl _⟩
      case round =>
        obtain ⟨m, hm, rfl, rfl, Y⟩ := hrel
        obtain ⟨wn, rfl⟩ : ∃ wn : World, wn = wr := ⟨_, rfl⟩
        by_cases hlt2 : m < s.pairs.length
        · have HLT2 := Lib.hid hlt2
          obtain ⟨-, hpw, ⟨A, C, hA, hC, hA', hC'⟩, hbd, -⟩ := pairD_ok HT.out hlt2
          have HJ : Hid (judgeR s ts (m : Int) = (findZ m (diffS (T ts A) (T ts C) (wantS (s.P m).want)) (s.P m).bound, 0)) := Lib.hid (by
            rw [judgeR_at HTK.out hlt2]; unfold fdOf pairD; rw [hA, hC, Int.toNat_natCast, Int.toNat_natCast])
          have hAx : A < xs.length := by have := HQ.out.1; omega
          have hCx : C < xs.length := by have := HQ.out.1; omega
          obtain ⟨bp, op, rfl, q⟩ := Sl.pr (SP.ext Y) m hlt2
          rw [← Sc.P_eq hlt2] at q
          have hpw16 : within (s.P m).want 16 = true := (HK.out.pr.1 m hlt2).2.2.1
          obtain ⟨p, hp⟩ : ∃ p, s.P m = p := ⟨_, rfl⟩
          rw [hp] at q hpw hA hC hbd HJ hpw16
          obtain ⟨q0, q1, q2, q3, q4, q5', q6, q7, q8⟩ := q
          rw [hA] at q0; rw [hC] at q1
          obtain ⟨bx, ox, rfl, v0, v1, v2, v3, v4', v5⟩ := Sl.vec (SX.ext Y) A hAx
          obtain ⟨xa, hxa⟩ : ∃ x, xs[A] = x := ⟨_, rfl⟩
          obtain ⟨xc, hxc⟩ : ∃ x, xs[C] = x := ⟨_, rfl⟩
          have hwa : within xa 48 = true := by rw [← hxa]; exact HXW.out _ (List.getElem_mem hAx)
          have hwc : within xc 48 = true := by rw [← hxc]; exact HXW.out _ (List.getElem_mem hCx)
          rw [hxa] at v0 v1 v2 v3 v4' v5
          have HNV : Hid (_) := Lib.hid (never_law (x := xa) (y := xc) (p := p.want) (t := T ts A) (u := T ts C) hbd.1 (by have := (HQ.out.2 A hAx).1; rw [T_map hAx, hxa] at this; omega) (by have := (HQ.out.2 C hCx).1; rw [T_map hCx, hxc] at this; omega))
          obtain ⟨W, hW⟩ : ∃ W, addV xa p.want = W := ⟨_, rfl⟩
          rw [hW] at HNV
          have HXC := Lib.hid hxc
          have i3 : (0 : Int) ≤ (m : Int) := by omega
          have i4 : (m : Int) < (s.pairs.length : Int) := by omega
          have j1 : (0 : Int) ≤ (A : Int) := by omega
          have j2 : (A : Int) < (xs.length : Int) := by omega
          have j3 : (0 : Int) ≤ (C : Int) := by omega
          have j4 : (C : Int) < (xs.length : Int) := by omega
          have eP := Ext.alloc' wn (.cells #[.int .i64 (A : Int), .int .i64 (C : Int), .int .i64 p.want.a, .int .i64 p.want.b, .int .i64 p.want.c, .int .i64 p.want.d, .int .i64 p.want.e, .int .i64 p.want.f, .int .i64 p.bound] 51)
          replace v0 := eP.cell v0; replace v1 := eP.cell v1; replace v2 := eP.cell v2; replace v3 := eP.cell v3; replace v4' := eP.cell v4'; replace v5 := eP.cell v5
          have X13 : Ext wn ((wn.alloc (.cells #[.int .i64 (A : Int), .int .i64 (C : Int), .int .i64 p.want.a, .int .i64 p.want.b, .int .i64 p.want.c, .int .i64 p.want.d, .int .i64 p.want.e, .int .i64 p.want.f, .int .i64 p.bound] 51)).alloc (.cells (#[.int .i64 xa.a, .int .i64 xa.b, .int .i64 xa.c, .int .i64 xa.d, .int .i64 xa.e, .int .i64 xa.f] : Array Value) 49)) := (by repeat (first | with_reducible exact Ext.refl _ | with_reducible assumption | with_reducible apply Ext.alloc | with_reducible apply Ext.drew | (with_reducible refine Ext.setCell ?_ (by (try simp) <;> omega) _)))
          have b13_0 := block_alloc (block_new wn (.cells #[.int .i64 (A : Int), .int .i64 (C : Int), .int .i64 p.want.a, .int .i64 p.want.b, .int .i64 p.want.c, .int .i64 p.want.d, .int .i64 p.want.e, .int .i64 p.want.f, .int .i64 p.bound] 51)) (.cells (#[.int .i64 xa.a, .int .i64 xa.b, .int .i64 xa.c, .int .i64 xa.d, .int .i64 xa.e, .int .i64 xa.f] : Array Value) 49)
          have b13_1 := block_at (w := (wn.alloc (.cells #[.int .i64 (A : Int), .int .i64 (C : Int), .int .i64 p.want.a, .int .i64 p.want.b, .int .i64 p.want.c, .int .i64 p.want.d, .int .i64 p.want.e, .int .i64 p.want.f, .int .i64 p.bound] 51))) (n := wn.heap.size + 1) (by simp) (.cells (#[.int .i64 xa.a, .int .i64 xa.b, .int .i64 xa.c, .int .i64 xa.d, .int .i64 xa.e, .int .i64 xa.f] : Array Value) 49)
          obtain ⟨W13, hW13⟩ : ∃ W, ((wn.alloc (.cells #[.int .i64 (A : Int), .int .i64 (C : Int), .int .i64 p.want.a, .int .i64 p.want.b, .int .i64 p.want.c, .int .i64 p.want.d, .int .i64 p.want.e, .int .i64 p.want.f, .int .i64 p.bound] 51)).alloc (.cells (#[.int .i64 xa.a, .int .i64 xa.b, .int .i64 xa.c, .int .i64 xa.d, .int .i64 xa.e, .int .i64 xa.f] : Array Value) 49)) = W := ⟨_, rfl⟩
          obtain ⟨B13, hB13⟩ : ∃ B, wn.heap.size = B := ⟨_, rfl⟩
          rw [hW13] at X13 b13_0 b13_1
          rw [hB13] at b13_0 b13_1
          have HZ13 : Hid (wn.heap.size ≤ B13) := Lib.hid (by omega)
          have HW13 := Lib.hid hW13; have HB13 := Lib.hid hB13
          clear hW13 hB13
          have HWV := Lib.hid hW
          have hsum : ∀ j, j < 6 → -64 ≤ xa.get j + p.want.get j ∧ xa.get j + p.want.get j ≤ 64 := fun j hj => by
            have h1 := Sz.within_iff.1 hwa j hj; have h2 := Sz.within_iff.1 hpw16 j hj; omega
          have hPV : ∀ j, j < 6 → (#[.int .i64 (A : Int), .int .i64 (C : Int), .int .i64 p.want.a, .int .i64 p.want.b, .int .i64 p.want.c, .int .i64 p.want.d, .int .i64 p.want.e, .int .i64 p.want.f, .int .i64 p.bound] : Array Value)[2 + j]? = some (.int .i64 (p.want.get j)) := fun j hj => by
            rcases lt6 hj with rfl | rfl | rfl | rfl | rfl | rfl <;> rfl
          have HPV := Lib.hid hPV
          have Y13 := Y.trans X13
          clear hp hA hC hxa hxc hpw16 hA' hC' hW hPV eP
          go_wp2_with fail
          rw [HW13.out, HB13.out]
          clear q0 q1 q2 q3 q4 q5' q6 q7 q8 v0 v1 v2 v3 v4' v5
          have QQ := Lib.hid (show W13.heap[B13 + 1]? = some (.cells (V6.of fun j => if j < 0 then xa.get j + p.want.get j else xa.get j).cells 49 (0, 0)) from b13_1)
          have QP := Lib.hid b13_0
          clear b13_0 b13_1
          go_loopw [128] (fun i wq => ∃ k : Nat, k ≤ 6 ∧ i = .int .i64 k ∧ wq.heap[B13]? = some (.cells #[.int .i64 (A : Int), .int .i64 (C : Int), .int .i64 p.want.a, .int .i64 p.want.b, .int .i64 p.want.c, .int .i64 p.want.d, .int .i64 p.want.e, .int .i64 p.want.f, .int .i64 p.bound] 51 (0, 0)) ∧ wq.heap[B13 + 1]? = some (.cells (V6.of fun j => if j < k then xa.get j + p.want.get j else xa.get j).cells 49 (0, 0)) ∧ Ext wt wq) (fun i _ => 6 - (intOf i).toNat)
          case atStart => exact ⟨0, by omega, rfl, QP.out, QQ.out, Y13⟩
          case round =>
            obtain ⟨k2, hk2, rfl, d0, d1, Z⟩ := hrel
            obtain ⟨wq, rfl⟩ : ∃ wq : World, wq = wr := ⟨_, rfl⟩
            by_cases hlt3 : k2 < 6
            · have g0 := block_cell d0 (2 + k2) _ (HPV.out k2 hlt3)
              have g1 := block_cell d1 k2 _ (V6.cells_at _ hlt3)
              rw [V6.get_of _ hlt3, if_neg (Nat.lt_irrefl k2)] at g1
              have hs3 := hsum k2 hlt3
              obtain ⟨u, hu⟩ : ∃ u, xa.get k2 = u := ⟨_, rfl⟩
              obtain ⟨v, hv⟩ : ∃ u, p.want.get k2 = u := ⟨_, rfl⟩
              have hput : (V6.of fun j => if j < k2 then xa.get j + p.want.get j else xa.get j).put k2 (u + v) = (V6.of fun j => if j < k2 + 1 then xa.get j + p.want.get j else xa.get j) := V6.ext' fun j hj => by
                rw [V6.put_get _ hlt3 _ hj, V6.get_of _ hj, V6.get_of _ hj]
                by_cases h9 : j = k2
                · subst h9; rw [if_pos rfl, if_pos (by omega), hu, hv]
                · rw [if_neg h9]
                  by_cases h8 : j < k2
                  · rw [if_pos h8, if_pos (by omega)]
                  · rw [if_neg h8, if_neg (by omega)]
              rw [hu, hv] at hs3; rw [hv] at g0; rw [hu] at g1
              have HPUT := Lib.hid hput
              have D0 := Lib.hid d0; have D1 := Lib.hid d1
              clear hput hu hv
              obtain ⟨wo, rfl⟩ : ∃ wo : World, wo = wq := ⟨_, rfl⟩
              have e0 := ext_cells g0
              have e1 := ext_cells g1
              have E1 : IntKind.i64.wrap (u + v) = u + v := IntWalk.i64_in _ (by omega)
              have i1 : (0 : Int) ≤ (k2 : Int) := by omega
              have i2 : (k2 : Int) < 6 := by omega
              clear d0 d1 g0 g1
              go_upto_region 23 with fail
              refine wp_region_ord [(0,true), (1,true), (2,true), (3,true), (4,true), (5,true), (6,true), (7,true), (8,true)] 9 Ext (Ext wo) wide (by kernel_rfl) (stable_ext _) (Ext.drawn _ _) ?_
              iterate 9 (first | (apply wpOrd_no rfl; rfl; (simp only [List.getElem_toArray, List.getElem_cons_succ, List.getElem_cons_zero, Act.put, List.setIfInBounds_toArray, List.set_cons_succ, List.set_cons_zero]; rfl)) | (apply wpOrd_yes rfl; rfl; (intro w' hw'; unfold opR; go_simp; exact ⟨Ext.refl _, rfl⟩); (simp only [List.getElem_toArray, List.getElem_cons_succ, List.getElem_cons_zero, Act.put, List.setIfInBounds_toArray, List.set_cons_succ, List.set_cons_zero]; rfl)))
              refine wpOrd_nil (l := [_]) rfl ?_
              intro w3' x3'
              have h0 := block_ext x3' D0.out
              have h1 := block_ext x3' D1.out
              have hc := e1 w3' x3'
              have hf := block_free h1 k2
              have n1 := block_set h1 k2 (.int .i64 (u + v))
              rw [V6.cells_put _ hlt3, HPUT.out] at n1
              have n0 := block_ne h0 (g := B13 + 1) k2 (.int .i64 (u + v)) (by omega)
              have N0 := Lib.hid n0; have N1 := Lib.hid n1
              have Z3 := Lib.hid ((Z.trans x3').setCell (p := ⟨B13 + 1, k2, none⟩) (by have := HZ13.out; have := Y.size; show wt.heap.size ≤ B13 + 1; omega) (.int .i64 (u + v)))
              clear n0 n1 h0 h1 e0 e1 D0 D1
              go_wp2
              go_roundw
              case rel => exact ⟨k2 + 1, by omega, by go_num, N0.out, N1.out, Z3.out⟩
              case measure => simp [intOf]; omega
            · obtain rfl : k2 = 6 := by omega
              have hs6 : (V6.of fun j => if j < 6 then xa.get j + p.want.get j else xa.get j) = W := by
                rw [← HWV.out]; exact V6.ext' fun j hj => by rw [addV, V6.get_of _ hj, V6.get_of _ hj, if_pos hj]
              rw [hs6] at d1
              clear hs6 hsum
              have hwc0 := block_cell d1 0 _ rfl; have hwc1 := block_cell d1 1 _ rfl; have hwc2 := block_cell d1 2 _ rfl; have hwc3 := block_cell d1 3 _ rfl; have hwc4 := block_cell d1 4 _ rfl; have hwc5 := block_cell d1 5 _ rfl
              have D0 := Lib.hid d0; have D1 := Lib.hid d1
              clear d0 d1
              go_wp2_with fail
              refine (rinterval_walk W _).mono ?_
              by_cases hwW : within W 48 = true
              case neg =>
                rw [show within W 48 = false by simpa using hwW]
                clear hwW
                rintro e w10 ⟨rfl, y10⟩
                have Z10 := Z.trans y10
                clear hwc0 hwc1 hwc2 hwc3 hwc4 hwc5
                go_wp2
                go_roundw
                case rel => exact ⟨m + 1, by have := HLT2.out; omega, by go_num, rfl, Z10⟩
                case measure => have := HLT2.out; simp [intOf] <;> omega
              rw [hwW]
              have HWW := Lib.hid hwW
              clear hwW
              rintro e w10 ⟨rfl, y10⟩
              have Z10 := Z.trans y10
              have x10 := x9.trans Z10
              obtain ⟨c0, c1, c2, c3⟩ := CB.out _ x10
              obtain ⟨v1, v2, v3, v4⟩ := HNV.out
              have HOC := Lib.hid (ofR_ok hwc)
              have HOW := Lib.hid (ofR_ok HWW.out)
              have NW := Lib.hid fun w' (y : Ext W0 w') => near_walk (xc.times 12) (W.times 12) (times_within hwc) (times_within HWW.out) p.bound (by omega) w' (G1.ext y)
              obtain ⟨nn, hnn⟩ : ∃ n, surelyF (expo ((xc.times 12).sub (W.times 12))) (-10000 * p.bound) (10000 * p.bound) = n := ⟨_, rfl⟩
              obtain ⟨pc, hpc⟩ : ∃ x, xc.times 12 = x := ⟨_, rfl⟩
              obtain ⟨pw, hpw'⟩ : ∃ x, W.times 12 = x := ⟨_, rfl⟩
              rw [hpc, hpw'] at hnn NW v1 v2 v3 v4
              rw [hnn] at NW v1 v2 v3 v4
              rw [hpc] at HOC; rw [hpw'] at HOW
              unfold findZ at HJ
              obtain ⟨va, hva⟩ : ∃ z, verdZ (diffS (T ts A) (T ts C) (wantS p.want)) p.bound = z := ⟨_, rfl⟩
              obtain ⟨ba, hba⟩ : ∃ z, bndZ (diffS (T ts A) (T ts C) (wantS p.want)) p.bound = z := ⟨_, rfl⟩
              rw [hva, hba] at HJ
              rw [hva] at v1 v2
              have HV1 := Lib.hid v1; have HV2' := Lib.hid v2; have HV3 := Lib.hid v3; have HV4 := Lib.hid v4
              clear hnn hpc hpw' hva hba v1 v2 v3 v4 hwc hwa HNV hwc0 hwc1 hwc2 hwc3 hwc4 hwc5
              go_wp2_with fail
              refine (judge_walk _ _ _ _ s ts m _ (G1.ext x10) (S1.ext x10) (ST.ext Z10)).mono ?_
              rw [HJ.out]
              rintro e w11 ⟨rfl, y11⟩
              have f11 := Ext.alloc' w11 (.cells #[.int .i64 m, .int .i64 va, .int .i64 ba] 32)
              have b11 := block_new w11 (.cells #[.int .i64 m, .int .i64 va, .int .i64 ba] 32)
              have Y11 := y11.trans f11
              have D0a := Lib.hid (block_ext (y10.trans Y11) D0.out)
              have D1a := Lib.hid (block_ext (y10.trans Y11) D1.out)
              have t1 := block_cell D0a.out 1 _ rfl
              have Z11 := Z10.trans Y11
              have x11 := x9.trans Z11
              clear c0 c1 c2 c3
              obtain ⟨bx2, ox2, e2, v0, v1, v2, v3, v4', v5⟩ := Sl.vec (SX.ext Z11) C hCx
              obtain ⟨rfl, rfl⟩ : bx = bx2 ∧ ox = ox2 := by simp at e2; exact e2
              rw [HXC.out] at v0 v1 v2 v3 v4' v5
              clear e2
              go_wp2_with fail
              refine (of_walk xc _).mono ?_
              rw [HOC.out]
              rintro e w12 ⟨rfl, y12⟩
              have f12 := Ext.alloc' w12 (.cells (#[.int .i64 pc.a, .int .i64 pc.b, .int .i64 pc.c, .int .i64 pc.d, .int .i64 pc.e, .int .i64 pc.f] : Array Value) 52)
              have b12 := block_new w12 (.cells (#[.int .i64 pc.a, .int .i64 pc.b, .int .i64 pc.c, .int .i64 pc.d, .int .i64 pc.e, .int .i64 pc.f] : Array Value) 52)
              have Y12 := y12.trans f12
              have D1b := Lib.hid (block_ext Y12 D1a.out)
              have g0 := block_cell D1b.out 0 (.int .i64 W.a) rfl; have g1 := block_cell D1b.out 1 (.int .i64 W.b) rfl; have g2 := block_cell D1b.out 2 (.int .i64 W.c) rfl; have g3 := block_cell D1b.out 3 (.int .i64 W.d) rfl; have g4 := block_cell D1b.out 4 (.int .i64 W.e) rfl; have g5 := block_cell D1b.out 5 (.int .i64 W.f) rfl
              clear t1 v0 v1 v2 v3 v4' v5
              go_wp2_with fail
              refine (of_walk W _).mono ?_
              rw [HOW.out]
              rintro e w14 ⟨rfl, y14⟩
              have f14 := Ext.alloc' w14 (.cells (#[.int .i64 pw.a, .int .i64 pw.b, .int .i64 pw.c, .int .i64 pw.d, .int .i64 pw.e, .int .i64 pw.f] : Array Value) 52)
              have b14 := block_new w14 (.cells (#[.int .i64 pw.a, .int .i64 pw.b, .int .i64 pw.c, .int .i64 pw.d, .int .i64 pw.e, .int .i64 pw.f] : Array Value) 52)
              have Y14 := y14.trans f14
              have b12' := block_ext Y14 b12
              have D0b := Lib.hid (block_ext (Y12.trans Y14) D0a.out)
              have h0 := block_cell b12' 0 _ rfl; have h1 := block_cell b12' 1 _ rfl; have h2 := block_cell b12' 2 _ rfl; have h3 := block_cell b12' 3 _ rfl; have h4 := block_cell b12' 4 _ rfl; have h5 := block_cell b12' 5 _ rfl
              have t8 := block_cell D0b.out 8 _ rfl
              have Z14 := Z11.trans (Y12.trans Y14)
              clear g0 g1 g2 g3 g4 g5
              go_wp2_with fail
              refine (NW.out _ (x9.trans Z14)).mono ?_
              rintro e w15 ⟨rfl, y15⟩
              clear h0 h1 h2 h3 h4 h5 t8 b12 b14 b12' f11 f12 f14
              have Z15 := Z14.trans y15
              have D0c := block_ext y15 D0b.out
              have D1c := block_ext (Y14.trans y15) D1b.out
              have b11c := block_ext (Y12.trans (Y14.trans y15)) b11
              have t1 := block_cell D0c 1 _ rfl
              have g0 := block_cell D1c 0 (.int .i64 W.a) rfl; have g1 := block_cell D1c 1 (.int .i64 W.b) rfl; have g2 := block_cell D1c 2 (.int .i64 W.c) rfl; have g3 := block_cell D1c 3 (.int .i64 W.d) rfl; have g4 := block_cell D1c 4 (.int .i64 W.e) rfl; have g5 := block_cell D1c 5 (.int .i64 W.f) rfl
              have k1 := block_cell b11c 1 _ rfl
              obtain ⟨bx2, ox2, e2, v0, v1, v2, v3, v4', v5⟩ := Sl.vec (SX.ext Z15) C hCx
              obtain ⟨rfl, rfl⟩ : bx = bx2 ∧ ox = ox2 := by simp at e2; exact e2
              rw [HXC.out] at v0 v1 v2 v3 v4' v5
              have hq : ∀ w, (Op.equalIn 10000 49 (.agg #[.int .i64 W.a, .int .i64 W.b, .int .i64 W.c, .int .i64 W.d, .int .i64 W.e, .int .i64 W.f]) (.agg #[.int .i64 xc.a, .int .i64 xc.b, .int .i64 xc.c, .int .i64 xc.d, .int .i64 xc.e, .int .i64 xc.f])).run Tryd.prog w = .ok (decide (W = xc)) w := fun w => run_eq_v6 (P := Tryd.prog) Tryd.underlying49 Tryd.underlying3 (by kernel_rfl) W xc 9998 w
              clear e2 D0c D1c b11c b11 Y11 Y12 Y14 y15 y14 y12 y11
              rcases HV4.out with rfl | rfl | rfl
              · have ev : (va != 2) = true := bne_iff_ne.2 (HV1.out rfl)
                clear hq
                go_wp2
                go_quiet (fail)
                go_wp2
                go_roundw
                case rel => exact ⟨m + 1, by have := HLT2.out; omega, by go_num, rfl, Z15.drewN _⟩
                case measure => have := HLT2.out; simp [intOf] <;> omega
              · rw [decide_eq_false (HV3.out (by decide))] at hq
                go_wp2
                go_quiet (fail)
                go_wp2
                go_roundw
                case rel => exact ⟨m + 1, by have := HLT2.out; omega, by go_num, rfl, Z15.drewN _⟩
                case measure => have := HLT2.out; simp [intOf] <;> omega
              · rw [decide_eq_false (HV3.out (by decide))] at hq
                have ev : (va != 1) = true := bne_iff_ne.2 (HV2'.out rfl)
                go_wp2
                go_quiet (fail)
                go_wp2
                go_roundw
                case rel => exact ⟨m + 1, by have := HLT2.out; omega, by go_num, rfl, Z15.drewN _⟩
                case measure => have := HLT2.out; simp [intOf] <;> omega
        · obtain rfl : m = s.pairs.length := by omega
          go_wp2
          go_ret
          exact ⟨rfl, X0.trans (x9.trans Y)⟩

theorem arg_u16 {H : Type} {enc : TypeId × Value → H} {W : World} {base : Nat} {v : Value} {d : DataW H} (h : Arg enc Tryd.prog W base 67 v d) : ∃ l, Sl W 1 (fun x => [.int .u16 x]) v l ∧ (∀ y ∈ l, 0 ≤ y ∧ y ≤ 65535) ∧ l.length ≤ 140737488351232 := by
  have hb : Tryd.prog.bytesOf 69 = 2 := by kernel_rfl
  obtain ⟨l, a, b, c⟩ := Arg.slice (sz := 1) (enc := fun x => [.int .u16 x]) (ok := Fits .u16) Tryd.underlying67 (by kernel_rfl) (by rw [hb]; decide) (El.int Tryd.underlying69) h
  rw [hb] at c
  have c' : l.length * 2 ≤ 140737488351232 := c
  exact ⟨l, a, fun y hy => b y hy, by omega⟩

theorem auditNever_args (H : Type) (enc : TypeId × Value → H) (W : World) (base : Nat) (vs : List Value) (ds : List (DataW H)) (_ : ∀ k, (OpenSpec.ofChange Rows.auditNeverSpec).cond = some k → k H ds = true) (hL : laidMetH Tryd.prog Rows.auditNeverRow.laid W) (hA : Args enc Tryd.prog W base Tryd.f9.params.toList vs ds) :
    Calls Tryd.prog 9 vs.toArray W fun e W' => e = .returned (.bool true) ∧ Ext W W' := by
  rw [Tryd.params9] at hA
  obtain ⟨v0, _, d0, _, rfl, rfl, h0, hA⟩ := hA.cons
  obtain ⟨v1, _, d1, _, rfl, rfl, h1, hA⟩ := hA.cons
  obtain ⟨v2, _, d2, _, rfl, rfl, h2, hA⟩ := hA.cons
  obtain ⟨rfl, rfl⟩ := hA.nil
  obtain ⟨s, vn, vp, vc, rfl, S⟩ := arg_score h0
  obtain ⟨l1, S1, n1⟩ := arg_vecs h1
  obtain ⟨l2, S2, n2, n3⟩ := arg_u16 h2
  exact aunev_law _ _ _ _ _ s l1 l2 n2 n3 W (gv_of hL) S S1 S2

theorem auditNever_met (os : Os) : laidMet Tryd.prog Rows.auditNeverRow.laid ((laidWorld os).forCall (fun _ _ => 0) ⟨#[], #[.agg #[.int .i64 0, .slice none 0 0, .slice none 0 0, .slice none 0 0], .slice none 0 0, .slice none 0 0], []⟩).memory := laidMet_of_run' 8 (by kernel_rfl) (by kernel_rfl)
theorem auditNever_reads (os : Os) {H : Type} (enc : TypeId × Value → H) : ∃ places, DataW.whole enc Tryd.prog ((laidWorld os).forCall (fun _ _ => 0) ⟨#[], #[.agg #[.int .i64 0, .slice none 0 0, .slice none 0 0, .slice none 0 0], .slice none 0 0, .slice none 0 0], []⟩).memory Tryd.f9.params.toList Rows.auditNeverSpec.vars false #[.agg #[.int .i64 0, .slice none 0 0, .slice none 0 0, .slice none 0 0], .slice none 0 0, .slice none 0 0].toList 8 = some ([.agg [.lit (.int .i64 0), .nil, .nil, .nil], .nil, .nil], [], places) := ⟨[], by kernel_rfl⟩
set_option maxRecDepth 100000 in
theorem auditNever_lifted (os : Os) (started : os.Started) (H : Type) (enc : TypeId × Value → H) (F : Stop.Interp) :
    ReturnsInHanded {} Tryd.checked os 9 .any ((OpenSpec.ofChange Rows.auditNeverSpec).preRow enc Tryd.prog Tryd.f9 Rows.auditNeverRow.domain false Rows.auditNeverRow.laid) (((OpenSpec.ofChange Rows.auditNeverSpec).at F).post enc Tryd.prog Tryd.f9 false true false false) := by
  obtain ⟨places, hx⟩ := auditNever_reads os enc
  exact law_row (C := Tryd.checked) (s := (OpenSpec.ofChange Rows.auditNeverSpec)) (by kernel_rfl) started (by kernel_rfl) Tryd.func9
    (witness_row_at (enc := enc) (C := Tryd.checked) false (laidWorld os) #[.agg #[.int .i64 0, .slice none 0 0, .slice none 0 0, .slice none 0 0], .slice none 0 0, .slice none 0 0] rfl (by kernel_rfl) (by kernel_rfl) (by kernel_rfl) (OpenSpec.preRow_of_cond 8 hx (by kernel_rfl) (fun k hk => by cases hk) (by kernel_rfl) (auditNever_met os)))
    (by kernel_rfl) (by kernel_rfl) (by kernel_rfl) rfl (fun ds h => by match ds, h with | [_, _, _], _ => rfl) (auditNever_args H enc)
theorem auditNever_said : Rows.AuditNeverSaid :=
  OpenClaim.holds_of_cond 9 Tryd.f9 rfl rfl rfl rfl rfl rfl rfl ⟨rfl, rfl, rfl, rfl, rfl⟩ rfl rfl rfl rfl rfl (by kernel_rfl) Tryd.func9 (by kernel_rfl)
    (of_decide_eq_true (by kernel_rfl)) (by unfold Func.isWrapper; first | (rw [if_pos (by decide +kernel)]; kernel_rfl) | (rw [if_neg (by decide +kernel)]; exact ⟨rfl, rfl⟩))
    (fun os started H enc _ F => by rw [OpenClaim.pre_eq_preRow]; exact auditNever_lifted os started H enc F)
theorem auditNever_plain (f : FuncId) (fn : Func) (hf : Tryd.pinned.checked.prog.funcNamed "schisma/schismalaw39.AuditNever" = some f) (hfn : Tryd.pinned.checked.prog.funcs[f]? = some fn) :
    false = Tryd.pinned.checked.prog.looks [] ∧ ∀ (j : Nat) t, fn.params[j]? = some t → Tryd.pinned.checked.prog.wantsStandIn t = false := by
  obtain rfl : f = 9 := Option.some.inj ((show Tryd.prog.funcNamed "schisma/schismalaw39.AuditNever" = some 9 by kernel_rfl).symm.trans hf) |>.symm
  obtain rfl : fn = Tryd.f9 := (Option.some.inj (Tryd.func9.symm.trans hfn)).symm
  refine ⟨by kernel_rfl, fun j t ht => ?_⟩
  have hall : Tryd.f9.params.all (fun t => !Tryd.prog.wantsStandIn t) = true := by kernel_rfl
  have := (Array.all_eq_true'.1 hall) t (Array.mem_of_getElem? ht)
  have e : Tryd.prog.wantsStandIn t = false := by simpa using this
  exact e
/-- The card. -/
theorem auditNever_holds : Rows.AuditNeverCardSaid :=
  Claim7.holds_tied_plain_at .later [] _ _ _ _ auditNever_said (fun _ h => by cases h) (by kernel_rfl) (fun _ h => by cases h) auditNever_row_tie rfl ⟨rfl, rfl⟩ (by kernel_rfl) rfl auditNever_plain (by kernel_rfl)
end Go.Proofs.YtglngmfnoganpaaDoor
