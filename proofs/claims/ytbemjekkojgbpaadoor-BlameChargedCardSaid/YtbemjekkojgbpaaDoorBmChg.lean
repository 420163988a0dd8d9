/-
  Proved: 'BlameCharged' returns true for every input and leaves its arguments as they were. No condition.
-/
import Derived.Test.YtbemjekkojgbpaaDoorBmI
import Derived.Test.YtbemjekkojgbpaaDoorBlN
import Derived.Test.YtbemjekkojgbpaaDoorR23A
import Derived.Test.YtbemjekkojgbpaaDoorAuD
import Derived.Test.YtbemjekkojgbpaaDoorBmL
set_option linter.unusedVariables false
namespace Go.Sx.Bl
open Go.Sx.Sz Go.Sx.Sc Go.Sx.Au Go.Sx.Po
theorem cgK_all (s : Sc) (xs : List V6) (l : List S2) : cgK s xs l s.pairs.length = chgL s xs l := rfl
theorem cgK_pre (s : Sc) (xs : List V6) (l : List S2) (k d : Nat) : ∃ r, cgK s xs l (k + d) = cgK s xs l k ++ r := by
  induction d with
  | zero => exact ⟨[], by rw [Nat.add_zero, List.append_nil]⟩
  | succ d ih =>
    obtain ⟨r, hr⟩ := ih
    rw [← Nat.add_assoc]
    cases hb : chgB s xs l (k + d) with
    | true => exact ⟨r ++ [chgF s xs l (k + d)], by rw [cgK_yes hb, hr, List.append_assoc]⟩
    | false => exact ⟨r, by rw [cgK_no hb, hr]⟩
theorem chg_facts (s : Sc) (h : List V6) (l : List S2) : ((chgR s h l).2 ≠ 0 ∧ (devR s h l).2 = (chgR s h l).2 ∧ (chgR s h l).1 = []) ∨ ((chgR s h l).2 = 0 ∧ (devR s h l).2 = 0 ∧ (tuneR s h).2 = 0 ∧ (brkR s h).2 = 0 ∧ (chgR s h l).1.length ≤ 400 ∧ (brkR s h).1.length ≤ 400 ∧ s.pairs.length ≤ 400 ∧ (tuneR s h).1.length ≤ 200 ∧
    ∃ K : Nat → Nat, K 0 = 0 ∧ K s.pairs.length = (chgR s h l).1.length ∧ ∀ i, i < s.pairs.length → ∃ (vd bd : Int), judgeR s l i = (⟨i, vd, bd⟩, 0) ∧ 0 ≤ (s.P i).a ∧ (s.P i).a < (s.P i).b ∧
      ((¬ (vd = 2 ∧ (s.P i).b < (tuneR s h).1.length) ∧ K (i + 1) = K i) ∨ (vd = 2 ∧ (s.P i).b < (tuneR s h).1.length ∧ K (i + 1) = K i + 1 ∧ ∃ (hk : K i < (chgR s h l).1.length) (d1 d2 bb : Bool), decide ((s.P i).a ∈ (devR s h l).1) = d1 ∧ decide ((s.P i).b ∈ (devR s h l).1) = d2 ∧
        ((brkR s h).1.any fun c => decide (c.pair = (i : Int))) = bb ∧ (chgR s h l).1[K i] = chgX d1 d2 bb i (s.P i)))) := by
  by_cases he : hearE s h l = 0
  case neg => exact .inl (by unfold chgR devR; rw [if_neg he, if_neg he]; exact ⟨he, rfl, rfl⟩)
  obtain ⟨h1, h2⟩ := hear_ok.1 he
  have hb : brkR s h = (brkL s (tuneR s h).1, 0) := by unfold brkR; rw [if_pos h1]
  have hd : devR s h l = ((devL (tuneR s h).1 l).map fun i : Nat => (i : Int), 0) := by unfold devR; rw [if_pos he]
  have hc : chgR s h l = (chgL s (tuneR s h).1 l, 0) := by unfold chgR; rw [if_pos he]
  have hlen : (tuneR s h).1.length ≤ s.notes.length := by rw [(tune_ok h1).2.1, xsL_len]; exact tun_le _ _
  have hn := h2.1.sz.2.1
  have hp := h2.1.sz.2.2.1
  rw [hb, hd, hc]
  obtain ⟨xs, hxs⟩ : ∃ x, (tuneR s h).1 = x := ⟨_, rfl⟩
  rw [hxs] at hlen ⊢
  refine .inr ⟨rfl, rfl, h1, rfl, ?_, ?_, hp, by omega, fun k => (cgK s xs l k).length, rfl, rfl, ?_⟩
  · have := cgK_len s xs l s.pairs.length
    show (cgK s xs l s.pairs.length).length ≤ 400
    omega
  · have := brk_len s xs
    show (brkL s xs).length ≤ 400
    omega
  · intro i hi
    have hpo := h2.1.pr.1 i hi
    unfold pairOk at hpo
    refine ⟨(fdOf s l i).verdict, (fdOf s l i).bound, ?_, by omega, by omega, ?_⟩
    · unfold judgeR
      rw [if_pos ⟨tonesB_iff.2 h2, by omega, by omega⟩, Int.toNat_natCast]; rfl
    cases hB : chgB s xs l i with
    | false =>
      left
      refine ⟨fun h9 => ?_, by show (cgK s xs l (i + 1)).length = (cgK s xs l i).length; rw [cgK_no hB]⟩
      unfold chgB at hB
      rw [decide_eq_true h9.1, decide_eq_true h9.2] at hB
      cases hB
    | true =>
      right
      have hB2 := hB
      unfold chgB at hB2
      rw [Bool.and_eq_true, decide_eq_true_eq, decide_eq_true_eq] at hB2
      obtain ⟨r, hr⟩ := cgK_pre s xs l (i + 1) (s.pairs.length - (i + 1))
      rw [show i + 1 + (s.pairs.length - (i + 1)) = s.pairs.length by omega, cgK_yes hB, cgK_all] at hr
      have hk : (cgK s xs l i).length < (chgL s xs l).length := by rw [hr]; simp
      have e1 : ((s.P i).a.toNat : Int) = (s.P i).a := by omega
      have e2 : ((s.P i).b.toNat : Int) = (s.P i).b := by omega
      refine ⟨hB2.1, hB2.2, by show (cgK s xs l (i + 1)).length = (cgK s xs l i).length + 1; rw [cgK_yes hB, List.length_append]; rfl, hk, devT xs l (s.P i).a.toNat, devT xs l (s.P i).b.toNat, brkT s xs i, ?_, ?_, brk_any hi, ?_⟩
      · rw [← dev_memZ (show (s.P i).a.toNat < xs.length by omega), e1]
      · rw [← dev_memZ (show (s.P i).b.toNat < xs.length by omega), e2]
      · rw [chgX_eq]
        show (chgL s xs l)[(cgK s xs l i).length]'hk = _
        rw [← Option.some_inj, ← List.getElem?_eq_getElem hk, hr, List.append_assoc, List.getElem?_append_right (Nat.le_refl _), Nat.sub_self]; rfl
end Go.Sx.Bl
namespace Go.Proofs.YtbemjekkojgbpaaDoor
open Go.RowKit Go.Sx Go.Sx.Sz Go.Sx.Sc Go.Sx.Au Go.Sx.Po Go.Sx.Bl Go.ChangeShapes Go.WideShapes Go.ChangeAt

set_option maxRecDepth 100000 in
set_option maxHeartbeats 16000000 in
theorem bchg_law (vn vp vc vh vt : Value) (s : Sc) (h : List V6) (l : List S2) (w : World) (GL : Gl 0 w) (S : ScR w vn vp vc s) (V : Sl w 6 V6.list vh h) (R : Sl w 2 encS vt l) :
    Calls Tryd.prog 7 #[.agg #[.int .i64 s.voices, vn, vp, vc], vh, vt] w fun e w' => e = .returned (.bool true) ∧ Ext w w' := by
  obtain ⟨an, cn, rfl, -, -, hln⟩ := S.nt.len
  obtain ⟨ap, cp, rfl, -, -, hlp⟩ := S.pr.len
  obtain ⟨ac, cc, rfl, -, -, hlc⟩ := S.cd.len
  obtain ⟨ah, ch, rfl, hch, -, -⟩ := V.len
  obtain ⟨at', ct, rfl, -, -, -⟩ := R.len
  have CW := @charges_walk (.slice an s.notes.length cn) (.slice ap s.pairs.length cp) (.slice ac s.cads.length cc) (.slice ah h.length ch) (.slice at' l.length ct) s h l
  have DW := @deviants_walk (.slice an s.notes.length cn) (.slice ap s.pairs.length cp) (.slice ac s.cads.length cc) (.slice ah h.length ch) (.slice at' l.length ct) s h l
  have TW := @tune_walk (.slice an s.notes.length cn) (.slice ap s.pairs.length cp) (.slice ac s.cads.length cc) (.slice ah h.length ch) s h
  have BW := @broken0_walk (.slice an s.notes.length cn) (.slice ap s.pairs.length cp) (.slice ac s.cads.length cc) (.slice ah h.length ch) s h
  have JW := Lib.hid (@judge_walk (.slice an s.notes.length cn) (.slice ap s.pairs.length cp) (.slice ac s.cads.length cc) (.slice at' l.length ct) s l)
  have hf := chg_facts s h l
  obtain ⟨⟨cl, ce⟩, eCW⟩ : ∃ z, chgR s h l = z := ⟨_, rfl⟩
  obtain ⟨⟨dl, de⟩, eDW⟩ : ∃ z, devR s h l = z := ⟨_, rfl⟩
  obtain ⟨⟨tl, te⟩, eTW⟩ : ∃ z, tuneR s h = z := ⟨_, rfl⟩
  obtain ⟨⟨bl, be⟩, eBW⟩ : ∃ z, brkR s h = z := ⟨_, rfl⟩
  rw [eCW] at CW hf; rw [eDW] at DW hf; rw [eTW] at TW hf; rw [eBW] at BW hf
  simp only at CW DW TW BW hf
  have HCW := Lib.hid CW; have HDW := Lib.hid DW; have HTW := Lib.hid TW; have HBW := Lib.hid BW; have HF := Lib.hid hf
  clear eCW CW eDW DW eTW TW eBW BW hf
  have X0 : Ext w (w.alloc (.cells #[.int .i64 s.voices, .slice an s.notes.length cn, .slice ap s.pairs.length cp, .slice ac s.cads.length cc] 26)) := (by repeat (first | with_reducible exact Ext.refl _ | with_reducible assumption | with_reducible apply Ext.alloc | with_reducible apply Ext.drew | (with_reducible refine Ext.setCell ?_ (by (try simp) <;> omega) _)))
  have b0_0 := block_new w (.cells #[.int .i64 s.voices, .slice an s.notes.length cn, .slice ap s.pairs.length cp, .slice ac s.cads.length cc] 26)
  obtain ⟨W0, hW0⟩ : ∃ W, (w.alloc (.cells #[.int .i64 s.voices, .slice an s.notes.length cn, .slice ap s.pairs.length cp, .slice ac s.cads.length cc] 26)) = W := ⟨_, rfl⟩
  obtain ⟨B0, hB0⟩ : ∃ B, w.heap.size = B := ⟨_, rfl⟩
  rw [hW0] at X0 b0_0
  rw [hB0] at b0_0
  have HZ0 : Hid (w.heap.size ≤ B0) := Lib.hid (by omega)
  have HW0 := Lib.hid hW0; have HB0 := Lib.hid hB0
  clear hW0 hB0
  have CB := Lib.hid (boxS b0_0)
  have S1 := S.ext X0; have V1 := V.ext X0; have G1 := GL.ext X0; have R1 := R.ext X0
  have HCH := Lib.hid hch
  clear S V GL R b0_0 hch
  go_enter Tryd.func7, Tryd.ntmps7
  go_wp2_with fail
  rw [HW0.out, HB0.out]
  clear HW0 HB0
  refine (bhead_walk _ G1).mono ?_
  rintro e w1 ⟨rfl, x1⟩
  obtain ⟨c0, c1, c2, c3⟩ := CB.out _ x1
  go_wp2_with fail
  refine (rfew_walk _ _ _ s _ (S1.ext x1)).mono ?_
  obtain ⟨fw, hfw⟩ : ∃ z, (decide (s.notes.length ≤ 40) && decide (s.pairs.length ≤ 60)) = z := ⟨_, rfl⟩
  rw [hfw]
  clear hfw
  rintro e w2 ⟨rfl, y2⟩
  have x2 := x1.trans y2
  clear c0 c1 c2 c3
  cases fw with
  | false =>
    have HX := Lib.hid (X0.trans x2)
    go_wp2
    go_ret
    exact ⟨by first | rfl | simp, HX.out⟩
  | true =>
  obtain ⟨c0, c1, c2, c3⟩ := CB.out _ x2
  go_wp2_with fail
  refine (HCW.out _ (G1.ext x2) (S1.ext x2) (V1.ext x2) (R1.ext x2)).mono ?_
  rintro e w3 ⟨v3, rfl, L3, y3⟩
  have x3 := x2.trans y3
  clear c0 c1 c2 c3
  obtain ⟨c0, c1, c2, c3⟩ := CB.out _ x3
  go_wp2_with fail
  refine (HDW.out _ (G1.ext x3) (S1.ext x3) (V1.ext x3) (R1.ext x3)).mono ?_
  rintro e w4 ⟨v4, rfl, L4, y4⟩
  have x4 := x3.trans y4
  have L3 := L3.ext y4
  clear c0 c1 c2 c3
  obtain ⟨a3, q3, rfl, -, -, -⟩ := L3.len
  obtain ⟨a4, q4, rfl, -, -, -⟩ := L4.len
  have HX4 := Lib.hid (X0.trans x4)
  by_cases hce : ce = 0
  case neg =>
    obtain ⟨rfl, rfl⟩ : de = ce ∧ cl = [] := by
      rcases HF.out with h9 | h9
      · exact h9.2
      · exact absurd h9.1 hce
    have t1 : (de != 0) = true := by rw [bne_iff_ne]; exact hce
    have t2 : (de == de) = true := beq_self_eq_true _
    clear hce
    go_wp2
    go_ret
    exact ⟨by first | rfl | simp, HX4.out⟩
  subst hce
  obtain ⟨rfl, rfl, rfl, f1, f2, f3, f4, K, hK0, hKn, hKK⟩ : de = 0 ∧ te = 0 ∧ be = 0 ∧ _ := by
    rcases HF.out with h9 | h9
    · exact absurd rfl h9.1
    · exact h9.2
  have HK := Lib.hid hKK; have HK0 := Lib.hid hK0; have HKN := Lib.hid hKn
  clear hKK hK0 hKn
  obtain ⟨c0, c1, c2, c3⟩ := CB.out _ x4
  go_wp2_with fail
  refine (HTW.out _ (S1.ext x4) (V1.ext x4)).mono ?_
  rintro e w5 ⟨v5, rfl, T5, y5⟩
  have x5 := x4.trans y5
  have L3 := L3.ext y5
  have L4 := L4.ext y5
  clear c0 c1 c2 c3
  obtain ⟨c0, c1, c2, c3⟩ := CB.out _ x5
  go_wp2_with fail
  refine (HBW.out _ (G1.ext x5) (S1.ext x5) (V1.ext x5)).mono ?_
  rintro e w6 ⟨v6, rfl, C6, y6⟩
  have x6 := x5.trans y6
  have L3 := L3.ext y6
  have L4 := L4.ext y6
  have T5 := T5.ext y6
  clear c0 c1 c2 c3
  obtain ⟨a5, q5, rfl, -, -, -⟩ := T5.len
  obtain ⟨a6, q6, rfl, -, AT6⟩ := C6.at
  have HAT := Lib.hid AT6
  have HY6 := Lib.hid x6
  clear y2 y3 y4 y5 y6 x1 x2 x3 x4 x5 x6 HDW HTW HCW HBW HF AT6 C6
  go_wp2
  go_loopw [16, 17] (fun nx i wr => ∃ k : Nat, k ≤ s.pairs.length ∧ nx = .int .i64 (K k) ∧ i = .int .i64 k ∧ Ext w6 wr) (fun _ i _ => s.pairs.length - (intOf i).toNat)
  case atStart => exact ⟨0, by omega, by rw [HK0.out]; rfl, by first | rfl | trivial, Ext.refl _⟩
  case round =>
    obtain ⟨k, hk, rfl, rfl, X⟩ := hrel
    obtain ⟨c0, c1, c2, c3⟩ := CB.out _ (HY6.out.trans X)
    by_cases hlt : k < s.pairs.length
    case neg =>
      obtain rfl : k = s.pairs.length := by omega
      have HX := Lib.hid (X0.trans (HY6.out.trans X))
      have t1 : ((K s.pairs.length : Int) == (cl.length : Int)) = true := by rw [HKN.out, beq_iff_eq]
      go_wp2
      go_ret
      exact ⟨by first | rfl | simp, HX.out⟩
    case pos =>
    obtain ⟨vd, bd, hj, h0a, hab, hcs⟩ := HK.out k hlt
    obtain ⟨bp, op, rfl, A⟩ := Sl.pr (S1.pr.ext (HY6.out.trans X)) k hlt
    rw [← Sc.P_eq hlt] at A
    obtain ⟨p, hp⟩ : ∃ p, s.P k = p := ⟨_, rfl⟩
    rw [hp] at A h0a hab hcs
    obtain ⟨q0, q1, q2, q3, q4, q5, q6, q7, q8⟩ := A
    have JJ := Lib.hid fun w' (x : Ext w6 w') => JW.out (k : Int) w' (G1.ext (HY6.out.trans x)) (S1.ext (HY6.out.trans x)) (R1.ext (HY6.out.trans x))
    rw [hj] at JJ
    simp only at JJ
    have i1 : (0 : Int) ≤ (k : Int) := by omega
    have i2 : (k : Int) < (s.pairs.length : Int) := by omega
    obtain ⟨WA, rfl⟩ : ∃ z : World, z = wr := ⟨_, rfl⟩
    have HCS := Lib.hid hcs
    have X4 : Ext WA (WA.alloc (.cells #[.int .i64 p.a, .int .i64 p.b, .int .i64 p.want.a, .int .i64 p.want.b, .int .i64 p.want.c, .int .i64 p.want.d, .int .i64 p.want.e, .int .i64 p.want.f, .int .i64 p.bound] 63)) := (by repeat (first | with_reducible exact Ext.refl _ | with_reducible assumption | with_reducible apply Ext.alloc | with_reducible apply Ext.drew | (with_reducible refine Ext.setCell ?_ (by (try simp) <;> omega) _)))
    have b4_0 := block_new WA (.cells #[.int .i64 p.a, .int .i64 p.b, .int .i64 p.want.a, .int .i64 p.want.b, .int .i64 p.want.c, .int .i64 p.want.d, .int .i64 p.want.e, .int .i64 p.want.f, .int .i64 p.bound] 63)
    obtain ⟨W4, hW4⟩ : ∃ W, (WA.alloc (.cells #[.int .i64 p.a, .int .i64 p.b, .int .i64 p.want.a, .int .i64 p.want.b, .int .i64 p.want.c, .int .i64 p.want.d, .int .i64 p.want.e, .int .i64 p.want.f, .int .i64 p.bound] 63)) = W := ⟨_, rfl⟩
    obtain ⟨B4, hB4⟩ : ∃ B, WA.heap.size = B := ⟨_, rfl⟩
    rw [hW4] at X4 b4_0
    rw [hB4] at b4_0
    have HZ4 : Hid (WA.heap.size ≤ B4) := Lib.hid (by omega)
    have HW4 := Lib.hid hW4; have HB4 := Lib.hid hB4
    clear hW4 hB4
    clear hj hp hcs
    go_upto_region 17 with fail
    rw [HW4.out, HB4.out]
    clear HW4 HB4 c0 c1 c2 c3 q0 q1 q2 q3 q4 q5 q6 q7 q8
    have X4 := X.trans X4
    obtain ⟨c0, c1, c2, c3⟩ := CB.out _ (HY6.out.trans X4)
    go_wp2_with fail
    refine (JJ.out _ X4).mono ?_
    rintro e w5 ⟨rfl, y5⟩
    have X6 : Ext w5 (w5.alloc (.cells #[.int .i64 (k : Int), .int .i64 vd, .int .i64 bd] 70)) := (by repeat (first | with_reducible exact Ext.refl _ | with_reducible assumption | with_reducible apply Ext.alloc | with_reducible apply Ext.drew | (with_reducible refine Ext.setCell ?_ (by (try simp) <;> omega) _)))
    have b6_0 := block_new w5 (.cells #[.int .i64 (k : Int), .int .i64 vd, .int .i64 bd] 70)
    obtain ⟨W6, hW6⟩ : ∃ W, (w5.alloc (.cells #[.int .i64 (k : Int), .int .i64 vd, .int .i64 bd] 70)) = W := ⟨_, rfl⟩
    obtain ⟨B6, hB6⟩ : ∃ B, w5.heap.size = B := ⟨_, rfl⟩
    rw [hW6] at X6 b6_0
    rw [hB6] at b6_0
    have HZ6 : Hid (w5.heap.size ≤ B6) := Lib.hid (by omega)
    have HW6 := Lib.hid hW6; have HB6 := Lib.hid hB6
    clear hW6 hB6
    have X46 := y5.trans X6
    have HX6 := Lib.hid (X4.trans X46)
    have P6 := Lib.hid (block_ext X46 b4_0)
    have p0 := block_cell P6.out 0 _ rfl; have p1 := block_cell P6.out 1 _ rfl
    have g1 := block_cell b6_0 1 _ rfl
    clear c0 c1 c2 c3 b4_0 b6_0 y5 X6 X46 X4 X
    go_upto_region 20 with fail
    rw [HW6.out, HB6.out]
    clear HW6 HB6
    by_cases hvd : vd = 2
    case neg =>
      have HKK : Hid (K (k + 1) = K k) := Lib.hid (by
        rcases HCS.out with h9 | h9
        · exact h9.2
        · exact absurd h9.1 hvd)
      have t1 : (vd != 2) = true := by rw [bne_iff_ne]; exact hvd
      clear hvd
      go_wp2
      go_roundw
      case rel => exact ⟨k + 1, by omega, by rw [HKK.out], by go_num, HX6.out⟩
      case measure => simp [intOf] <;> omega
    subst hvd
    by_cases hax : p.a < tl.length
    case neg =>
      have HKK : Hid (K (k + 1) = K k) := Lib.hid (by
        rcases HCS.out with h9 | h9
        · exact h9.2
        · have := h9.2.1; omega)
      have t1 : decide ((tl.length : Int) ≤ p.a) = true := decide_eq_true (by omega)
      clear hax
      go_wp2
      go_roundw
      case rel => exact ⟨k + 1, by omega, by rw [HKK.out], by go_num, HX6.out⟩
      case measure => simp [intOf] <;> omega
    have t1 : decide ((tl.length : Int) ≤ p.a) = false := decide_eq_false (by omega)
    by_cases hbx : p.b < tl.length
    case neg =>
      have HKK : Hid (K (k + 1) = K k) := Lib.hid (by
        rcases HCS.out with h9 | h9
        · exact h9.2
        · exact absurd h9.2.1 hbx)
      have t2 : decide ((tl.length : Int) ≤ p.b) = true := decide_eq_true (by omega)
      clear hax hbx
      go_wp2
      go_roundw
      case rel => exact ⟨k + 1, by omega, by rw [HKK.out], by go_num, HX6.out⟩
      case measure => simp [intOf] <;> omega
    have t2 : decide ((tl.length : Int) ≤ p.b) = false := decide_eq_false (by omega)
    obtain ⟨hKK, hkk, d1, d2, bb, hd1, hd2, hbb, hcc⟩ : K (k + 1) = K k + 1 ∧ _ := by
      rcases HCS.out with h9 | h9
      · exact absurd ⟨rfl, hbx⟩ h9.1
      · exact h9.2.2
    have HKK := Lib.hid hKK
    have HBB := Lib.hid hbb
    obtain ⟨bC, oC, rfl, r0, r1, r2⟩ := Sl.cg (L3.ext HX6.out) (K k) hkk
    rw [hcc] at r0 r1 r2
    have R0 := Lib.hid (ext_cells r0); have R1 := Lib.hid (ext_cells r1); have R2 := Lib.hid (ext_cells r2)
    clear r0 r1 r2 hcc
    clear hax hbx HCS hKK hbb
    have X7 : Ext W6 (W6.alloc (.cells #[.int .i64 (k : Int), .int .i64 3, .int .i64 (-1)] 61)) := (by repeat (first | with_reducible exact Ext.refl _ | with_reducible assumption | with_reducible apply Ext.alloc | with_reducible apply Ext.drew | (with_reducible refine Ext.setCell ?_ (by (try simp) <;> omega) _)))
    have b7_0 := block_new W6 (.cells #[.int .i64 (k : Int), .int .i64 3, .int .i64 (-1)] 61)
    obtain ⟨W7, hW7⟩ : ∃ W, (W6.alloc (.cells #[.int .i64 (k : Int), .int .i64 3, .int .i64 (-1)] 61)) = W := ⟨_, rfl⟩
    obtain ⟨B7, hB7⟩ : ∃ B, W6.heap.size = B := ⟨_, rfl⟩
    rw [hW7] at X7 b7_0
    rw [hB7] at b7_0
    have HZ7 : Hid (W6.heap.size ≤ B7) := Lib.hid (by omega)
    have HW7 := Lib.hid hW7; have HB7 := Lib.hid hB7
    clear hW7 hB7
    have HB7C := Lib.hid b7_0
    have HX7 := Lib.hid (HX6.out.trans X7)
    have HZ7' : Hid (W6.heap.size ≤ B7) := HZ7
    clear b7_0
    go_upto_region 22 with fail
    rw [HW7.out, HB7.out]
    clear HW7 HB7 p0 p1 g1 t1 t2
    go_wp2
    go_loopw [22] (fun j wr => ∃ m : Nat, m ≤ bl.length ∧ j = .int .i64 m ∧ wr.heap[B7]? = some (.cells #[.int .i64 (k : Int), .int .i64 (if ((bl.take m).any fun c => decide (c.pair = (k : Int))) = true then 2 else 3), .int .i64 (-1)] 61 (0, 0)) ∧ Ext W6 wr) (fun j _ => bl.length - (intOf j).toNat)
    case atStart => exact ⟨0, by omega, by first | rfl | trivial, HB7C.out, X7⟩
    case round =>
      obtain ⟨m, hm, rfl, hb, Y⟩ := hrel
      by_cases hml : m < bl.length
      case pos =>
        obtain ⟨b0, o0, sv, rfl, e0, -, -, -, -, -, -, -, -⟩ := HAT.out wr (HX6.out.trans Y) m hml
        have ht := List.take_succ_eq_append_getElem hml
        obtain ⟨x, hx⟩ : ∃ x, bl[m] = x := ⟨_, rfl⟩
        rw [hx] at e0 ht
        have j1 : (0 : Int) ≤ (m : Int) := by omega
        have j2 : (m : Int) < (bl.length : Int) := by omega
        have HTT : Hid ((bl.take (m + 1)).any (fun c => decide (c.pair = (k : Int))) = ((bl.take m).any (fun c => decide (c.pair = (k : Int))) || decide (x.pair = (k : Int)))) := Lib.hid (by rw [ht, List.any_append]; simp)
        obtain ⟨pb, hpb⟩ : ∃ z, (bl.take m).any (fun c => decide (c.pair = (k : Int))) = z := ⟨_, rfl⟩
        rw [hpb] at HTT hb
        obtain ⟨W8, rfl⟩ : ∃ z : World, z = wr := ⟨_, rfl⟩
        have HY := Lib.hid Y
        clear hx ht hpb Y
        by_cases hxk : x.pair = (k : Int)
        · have t1 : (x.pair == (k : Int)) = true := beq_iff_eq.2 hxk
          have t2 : decide (x.pair = (k : Int)) = true := decide_eq_true hxk
          rw [t2, Bool.or_true] at HTT
          have k1 := block_cell hb 1 _ rfl
          have kf := block_free hb 1
          have N := Lib.hid (And.intro (block_set hb 1 (.int .i64 2)) (HY.out.setCell (p := ⟨B7, 1, none⟩) (by have := HZ7'.out; show W6.heap.size ≤ B7; omega) (.int .i64 2)))
          clear hxk t2 hb
          go_wp2
          go_roundw
          case rel => exact ⟨m + 1, by omega, by go_num, by rw [HTT.out]; exact N.out.1, N.out.2⟩
          case measure => simp [intOf] <;> omega
        · have t1 : (x.pair == (k : Int)) = false := beq_eq_false_iff_ne.2 hxk
          have t2 : decide (x.pair = (k : Int)) = false := decide_eq_false hxk
          rw [t2, Bool.or_false] at HTT
          have N := Lib.hid hb
          clear hxk t2 hb
          go_wp2
          go_roundw
          case rel => exact ⟨m + 1, by omega, by go_num, by rw [HTT.out]; exact N.out, HY.out⟩
          case measure => simp [intOf] <;> omega
      case neg =>
        obtain rfl : m = bl.length := by omega
        rw [List.take_length, HBB.out] at hb
        have P8 := block_ext Y P6.out
        have p0 := block_cell P8 0 _ rfl; have p1 := block_cell P8 1 _ rfl
        have u1 : decide (cl.length ≤ K k) = false := decide_eq_false (by omega)
        have v1 : (0 : Int) ≤ (K k : Int) := by omega
        have v2 : (K k : Int) < (cl.length : Int) := by omega
        have HB := Lib.hid hb
        obtain ⟨W8, rfl⟩ : ∃ z : World, z = wr := ⟨_, rfl⟩
        have HY := Lib.hid Y
        have HP0 := Lib.hid fun w' (x : Ext W8 w') => And.intro (x.cell p0) (x.cell p1)
        clear hb P8 Y p1 HBB
        have hm4 := bhas_walk (.slice a4 dl.length q4) dl p.a W8 (L4.ext (HX6.out.trans HY.out))
        rw [hd1] at hm4
        go_wp2_with fail
        refine hm4.mono ?_
        clear hm4 hd1
        cases d1 with
        | true =>
          rintro e w9 ⟨rfl, x9⟩
          obtain ⟨p0, p1⟩ := HP0.out _ x9
          have HB9 := Lib.hid (block_ext x9 HB.out)
          have N := setRow_at HB9.out #[.int .i64 (k : Int), .int .i64 1, .int .i64 p.a]
          have XX := (HY.out.trans x9).setRow (g := B7) (by have := HZ7'.out; omega) #[.int .i64 (k : Int), .int .i64 1, .int .i64 p.a]
          have FIN := Lib.hid (HX6.out.trans XX)
          have s0 := block_cell N 0 _ rfl; have s1 := block_cell N 1 _ rfl; have s2 := block_cell N 2 _ rfl
          have r0 : _ = some (Value.int .i64 (k : Int)) := R0.out _ XX; have r1 : _ = some (Value.int .i64 1) := R1.out _ XX; have r2 : _ = some (Value.int .i64 p.a) := R2.out _ XX
          obtain ⟨WS, hWS⟩ : ∃ z, w9.setRow B7 #[.int .i64 (k : Int), .int .i64 1, .int .i64 p.a] = z := ⟨_, rfl⟩
          rw [hWS] at s0 s1 s2 r0 r1 r2 FIN
          have HWS := Lib.hid hWS
          clear hWS
          obtain ⟨y0, hy0⟩ : ∃ z : Int, (k : Int) = z := ⟨_, rfl⟩
          obtain ⟨y1, hy1⟩ : ∃ z : Int, (1 : Int) = z := ⟨_, rfl⟩
          obtain ⟨y2, hy2⟩ : ∃ z : Int, (p.a : Int) = z := ⟨_, rfl⟩
          rw [hy0] at s0 r0; rw [hy1] at s1 r1; rw [hy2] at s2 r2
          have g0 : (y0 == y0) = true := beq_self_eq_true _
          have g1 : (y1 == y1) = true := beq_self_eq_true _
          have g2 : (y2 == y2) = true := beq_self_eq_true _
          clear hy0 hy1 hy2
          clear N XX x9
          go_wp2_with (first | (refine wpList_store_row rfl _ _ _ rfl B7 _ rfl rfl _ _ HB9.out (by kernel_rfl) rfl (by simp [Value.oneCell']) ?_) | fail)
          rw [HWS.out]
          go_quiet (fail)
          go_wp2
          go_roundw
          case rel => exact ⟨k + 1, by omega, by rw [HKK.out]; go_num, by go_num, FIN.out.trans (Ext.drawn _ _)⟩
          case measure => simp [intOf] <;> omega
        | false =>
        rintro e w9 ⟨rfl, x9⟩
        obtain ⟨-, p1⟩ := HP0.out _ x9
        have hm4 := bhas_walk (.slice a4 dl.length q4) dl p.b w9 (L4.ext (HX6.out.trans (HY.out.trans x9)))
        rw [hd2] at hm4
        clear p0
        go_wp2_with fail
        refine hm4.mono ?_
        clear hm4 hd2 p1
        rintro e w9' ⟨rfl, x9'⟩
        replace x9 := x9.trans x9'
        obtain ⟨w9, rfl⟩ : ∃ z : World, z = w9' := ⟨_, rfl⟩
        cases d2 with
        | true =>
          obtain ⟨p0, p1⟩ := HP0.out _ x9
          have HB9 := Lib.hid (block_ext x9 HB.out)
          have N := setRow_at HB9.out #[.int .i64 (k : Int), .int .i64 1, .int .i64 p.b]
          have XX := (HY.out.trans x9).setRow (g := B7) (by have := HZ7'.out; omega) #[.int .i64 (k : Int), .int .i64 1, .int .i64 p.b]
          have FIN := Lib.hid (HX6.out.trans XX)
          have s0 := block_cell N 0 _ rfl; have s1 := block_cell N 1 _ rfl; have s2 := block_cell N 2 _ rfl
          have r0 : _ = some (Value.int .i64 (k : Int)) := R0.out _ XX; have r1 : _ = some (Value.int .i64 1) := R1.out _ XX; have r2 : _ = some (Value.int .i64 p.b) := R2.out _ XX
          obtain ⟨WS, hWS⟩ : ∃ z, w9.setRow B7 #[.int .i64 (k : Int), .int .i64 1, .int .i64 p.b] = z := ⟨_, rfl⟩
          rw [hWS] at s0 s1 s2 r0 r1 r2 FIN
          have HWS := Lib.hid hWS
          clear hWS
          obtain ⟨y0, hy0⟩ : ∃ z : Int, (k : Int) = z := ⟨_, rfl⟩
          obtain ⟨y1, hy1⟩ : ∃ z : Int, (1 : Int) = z := ⟨_, rfl⟩
          obtain ⟨y2, hy2⟩ : ∃ z : Int, (p.b : Int) = z := ⟨_, rfl⟩
          rw [hy0] at s0 r0; rw [hy1] at s1 r1; rw [hy2] at s2 r2
          have g0 : (y0 == y0) = true := beq_self_eq_true _
          have g1 : (y1 == y1) = true := beq_self_eq_true _
          have g2 : (y2 == y2) = true := beq_self_eq_true _
          clear hy0 hy1 hy2
          clear N XX x9
          go_wp2_with (first | (refine wpList_store_row rfl _ _ _ rfl B7 _ rfl rfl _ _ HB9.out (by kernel_rfl) rfl (by simp [Value.oneCell']) ?_) | fail)
          rw [HWS.out]
          go_quiet (fail)
          go_wp2
          go_roundw
          case rel => exact ⟨k + 1, by omega, by rw [HKK.out]; go_num, by go_num, FIN.out.trans (Ext.drawn _ _)⟩
          case measure => simp [intOf] <;> omega
        | false =>
        have XX := HY.out.trans x9
        have hb9 := block_ext x9 HB.out
        have FIN := Lib.hid (HX6.out.trans XX)
        cases bb with
        | true =>
          have s0 := block_cell hb9 0 _ rfl; have s1 := block_cell hb9 1 _ rfl; have s2 := block_cell hb9 2 _ rfl
          simp only [if_true] at s1
          have r0 : _ = some (Value.int .i64 (k : Int)) := R0.out _ XX; have r1 : _ = some (Value.int .i64 2) := R1.out _ XX; have r2 : _ = some (Value.int .i64 (-1)) := R2.out _ XX
          obtain ⟨y0, hy0⟩ : ∃ z : Int, (k : Int) = z := ⟨_, rfl⟩
          obtain ⟨y1, hy1⟩ : ∃ z : Int, (2 : Int) = z := ⟨_, rfl⟩
          obtain ⟨y2, hy2⟩ : ∃ z : Int, (-1 : Int) = z := ⟨_, rfl⟩
          rw [hy0] at s0 r0; rw [hy1] at s1 r1; rw [hy2] at s2 r2
          have g0 : (y0 == y0) = true := beq_self_eq_true _
          have g1 : (y1 == y1) = true := beq_self_eq_true _
          have g2 : (y2 == y2) = true := beq_self_eq_true _
          clear hy0 hy1 hy2
          clear hb9 XX x9 x9'
          go_wp2_with fail
          go_quiet (fail)
          go_wp2
          go_roundw
          case rel => exact ⟨k + 1, by omega, by rw [HKK.out]; go_num, by go_num, FIN.out.trans (Ext.drawn _ _)⟩
          case measure => simp [intOf] <;> omega
        | false =>
          have s0 := block_cell hb9 0 _ rfl; have s1 := block_cell hb9 1 _ rfl; have s2 := block_cell hb9 2 _ rfl
          simp only [Bool.false_eq_true, if_false] at s1
          have r0 : _ = some (Value.int .i64 (k : Int)) := R0.out _ XX; have r1 : _ = some (Value.int .i64 3) := R1.out _ XX; have r2 : _ = some (Value.int .i64 (-1)) := R2.out _ XX
          obtain ⟨y0, hy0⟩ : ∃ z : Int, (k : Int) = z := ⟨_, rfl⟩
          obtain ⟨y1, hy1⟩ : ∃ z : Int, (3 : Int) = z := ⟨_, rfl⟩
          obtain ⟨y2, hy2⟩ : ∃ z : Int, (-1 : Int) = z := ⟨_, rfl⟩
          rw [hy0] at s0 r0; rw [hy1] at s1 r1; rw [hy2] at s2 r2
          have g0 : (y0 == y0) = true := beq_self_eq_true _
          have g1 : (y1 == y1) = true := beq_self_eq_true _
          have g2 : (y2 == y2) = true := beq_self_eq_true _
          clear hy0 hy1 hy2
          clear hb9 XX x9 x9'
          go_wp2_with fail
          go_quiet (fail)
          go_wp2
          go_roundw
          case rel => exact ⟨k + 1, by omega, by rw [HKK.out]; go_num, by go_num, FIN.out.trans (Ext.drawn _ _)⟩
          case measure => simp [intOf] <;> omega

theorem blameCharged_args (H : Type) (enc : TypeId × Value → H) (W : World) (base : Nat) (vs : List Value) (ds : List (DataW H)) (_ : ∀ k, (OpenSpec.ofChange Rows.blameChargedSpec).cond = some k → k H ds = true) (hL : laidMetH Tryd.prog Rows.blameChargedRow.laid W) (hA : Args enc Tryd.prog W base Tryd.f7.params.toList vs ds) :
    Calls Tryd.prog 7 vs.toArray W fun e W' => e = .returned (.bool true) ∧ Ext W W' := by
  rw [Tryd.params7] at hA
  obtain ⟨v0, _, d0, _, rfl, rfl, h0, hA⟩ := hA.cons
  obtain ⟨v1, _, d1, _, rfl, rfl, h1, hA⟩ := hA.cons
  obtain ⟨v2, _, d2, _, rfl, rfl, h2, hA⟩ := hA.cons
  obtain ⟨rfl, rfl⟩ := hA.nil
  obtain ⟨s0, vn0, vp0, vc0, rfl, S0⟩ := arg_score h0
  obtain ⟨l1, S1, n1⟩ := arg_vecs h1
  obtain ⟨l2, S2, n2⟩ := arg_sizes h2
  exact bchg_law _ _ _ _ _ s0 l1 l2 W (gv_of hL) S0 S1 S2

theorem blameCharged_met (os : Os) : laidMet Tryd.prog Rows.blameChargedRow.laid ((laidWorld os).forCall (fun _ _ => 0) ⟨#[], #[.agg #[.int .i64 0, .slice none 0 0, .slice none 0 0, .slice none 0 0], .slice none 0 0, .slice none 0 0], []⟩).memory := laidMet_of_run' 8 (by kernel_rfl) (by kernel_rfl)
theorem blameCharged_reads (os : Os) {H : Type} (enc : TypeId × Value → H) : ∃ places, DataW.whole enc Tryd.prog ((laidWorld os).forCall (fun _ _ => 0) ⟨#[], #[.agg #[.int .i64 0, .slice none 0 0, .slice none 0 0, .slice none 0 0], .slice none 0 0, .slice none 0 0], []⟩).memory Tryd.f7.params.toList Rows.blameChargedSpec.vars false #[.agg #[.int .i64 0, .slice none 0 0, .slice none 0 0, .slice none 0 0], .slice none 0 0, .slice none 0 0].toList 8 = some ([.agg [.lit (.int .i64 0), .nil, .nil, .nil], .nil, .nil], [], places) := ⟨[], by kernel_rfl⟩
set_option maxRecDepth 100000 in
theorem blameCharged_lifted (os : Os) (started : os.Started) (H : Type) (enc : TypeId × Value → H) (F : Stop.Interp) :
    ReturnsInHanded {} Tryd.checked os 7 .any ((OpenSpec.ofChange Rows.blameChargedSpec).preRow enc Tryd.prog Tryd.f7 Rows.blameChargedRow.domain false Rows.blameChargedRow.laid) (((OpenSpec.ofChange Rows.blameChargedSpec).at F).post enc Tryd.prog Tryd.f7 false true false false) := by
  obtain ⟨places, hx⟩ := blameCharged_reads os enc
  exact law_row (C := Tryd.checked) (s := (OpenSpec.ofChange Rows.blameChargedSpec)) (by kernel_rfl) started (by kernel_rfl) Tryd.func7
    (witness_row_at (enc := enc) (C := Tryd.checked) false (laidWorld os) #[.agg #[.int .i64 0, .slice none 0 0, .slice none 0 0, .slice none 0 0], .slice none 0 0, .slice none 0 0] rfl (by kernel_rfl) (by kernel_rfl) (by kernel_rfl) (OpenSpec.preRow_of_cond 8 hx (by kernel_rfl) (fun k hk => by cases hk) (by kernel_rfl) (blameCharged_met os)))
    (by kernel_rfl) (by kernel_rfl) (by kernel_rfl) rfl (fun ds h => by match ds, h with | [_, _, _], _ => rfl) (blameCharged_args H enc)
theorem blameCharged_said : Rows.BlameChargedSaid :=
  OpenClaim.holds_of_cond 7 Tryd.f7 rfl rfl rfl rfl rfl rfl rfl ⟨rfl, rfl, rfl, rfl, rfl⟩ rfl rfl rfl rfl rfl (by kernel_rfl) Tryd.func7 (by kernel_rfl)
    (of_decide_eq_true (by kernel_rfl)) (by unfold Func.isWrapper; first | (rw [if_pos (by decide +kernel)]; kernel_rfl) | (rw [if_neg (by decide +kernel)]; exact ⟨rfl, rfl⟩))
    (fun os started H enc _ F => by rw [OpenClaim.pre_eq_preRow]; exact blameCharged_lifted os started H enc F)
theorem blameCharged_plain (f : FuncId) (fn : Func) (hf : Tryd.pinned.checked.prog.funcNamed "schisma/schismalaw40.BlameCharged" = some f) (hfn : Tryd.pinned.checked.prog.funcs[f]? = some fn) :
    false = Tryd.pinned.checked.prog.looks [] ∧ ∀ (j : Nat) t, fn.params[j]? = some t → Tryd.pinned.checked.prog.wantsStandIn t = false := by
  obtain rfl : f = 7 := Option.some.inj ((show Tryd.prog.funcNamed "schisma/schismalaw40.BlameCharged" = some 7 by kernel_rfl).symm.trans hf) |>.symm
  obtain rfl : fn = Tryd.f7 := (Option.some.inj (Tryd.func7.symm.trans hfn)).symm
  refine ⟨by kernel_rfl, fun j t ht => ?_⟩
  have hall : Tryd.f7.params.all (fun t => !Tryd.prog.wantsStandIn t) = true := by kernel_rfl
  have := (Array.all_eq_true'.1 hall) t (Array.mem_of_getElem? ht)
  have e : Tryd.prog.wantsStandIn t = false := by simpa using this
  exact e
/-- The card. -/
theorem blameCharged_holds : Rows.BlameChargedCardSaid :=
  Claim7.holds_tied_plain_at .later [] _ _ _ _ blameCharged_said (fun _ h => by cases h) (by kernel_rfl) (fun _ h => by cases h) blameCharged_row_tie rfl ⟨rfl, rfl⟩ (by kernel_rfl) rfl blameCharged_plain (by kernel_rfl)
end Go.Proofs.YtbemjekkojgbpaaDoor
