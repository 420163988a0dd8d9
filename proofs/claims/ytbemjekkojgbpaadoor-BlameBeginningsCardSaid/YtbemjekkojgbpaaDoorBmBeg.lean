/-
  Proved: 'BlameBeginnings' returns true for every input and leaves its arguments as they were. No condition.
-/
import Derived.Test.YtbemjekkojgbpaaDoorBmI
import Derived.Test.YtbemjekkojgbpaaDoorBlN
import Derived.Test.YtbemjekkojgbpaaDoorR23A
import Derived.Test.YtbemjekkojgbpaaDoorBmL
set_option linter.unusedVariables false
namespace Go.Sx.Bl
open Go.Sx.Sz Go.Sx.Sc Go.Sx.Au Go.Sx.Po
def tup0 : List Value → Value := fun vs => match vs.headD undef with | .tuple cs => cs.getD 0 undef | _ => undef
def dcut (dl : List Int) (m : Nat) : List Int := dl.filter fun x => decide (x < (m : Int))
def ccut (s : Sc) (cl : List Chg) (m : Nat) : List Chg := cl.filter fun c => decide ((s.P c.pair.toNat).b < (m : Int))
theorem dcut_yes {dl : List Int} {m k : Nat} (hk : k < dl.length) (h : dl[k] < (m : Int)) : dcut (dl.take (k + 1)) m = dcut (dl.take k) m ++ [dl[k]] := by
  unfold dcut; rw [List.take_succ_eq_append_getElem hk, List.filter_append, List.filter_cons_of_pos (by simpa using h)]; rfl
theorem dcut_no {dl : List Int} {m k : Nat} (hk : k < dl.length) (h : ¬ dl[k] < (m : Int)) : dcut (dl.take (k + 1)) m = dcut (dl.take k) m := by
  unfold dcut; rw [List.take_succ_eq_append_getElem hk, List.filter_append, List.filter_cons_of_neg (by simpa using h)]; simp
theorem ccut_yes {s : Sc} {cl : List Chg} {m k : Nat} (hk : k < cl.length) (h : (s.P cl[k].pair.toNat).b < (m : Int)) : ccut s (cl.take (k + 1)) m = ccut s (cl.take k) m ++ [cl[k]] := by
  unfold ccut; rw [List.take_succ_eq_append_getElem hk, List.filter_append, List.filter_cons_of_pos (by simpa using h)]; rfl
theorem ccut_no {s : Sc} {cl : List Chg} {m k : Nat} (hk : k < cl.length) (h : ¬ (s.P cl[k].pair.toNat).b < (m : Int)) : ccut s (cl.take (k + 1)) m = ccut s (cl.take k) m := by
  unfold ccut; rw [List.take_succ_eq_append_getElem hk, List.filter_append, List.filter_cons_of_neg (by simpa using h)]; simp
theorem dcut_len {dl : List Int} {m k : Nat} : (dcut (dl.take k) m).length ≤ k := Nat.le_trans (List.length_filter_le _ _) (by rw [List.length_take]; omega)
theorem ccut_len {s : Sc} {cl : List Chg} {m k : Nat} : (ccut s (cl.take k) m).length ≤ k := Nat.le_trans (List.length_filter_le _ _) (by rw [List.length_take]; omega)
theorem beg_facts (s : Sc) (h : List V6) (l : List S2) (c : Nat) (hc : c ≤ h.length) : ((devR s h l).2 ≠ 0 ∧ (chgR s h l).2 = (devR s h l).2) ∨ ((devR s h l).2 = 0 ∧ (chgR s h l).2 = 0 ∧ (devR s h l).1.length ≤ 400 ∧ (chgR s h l).1.length ≤ 400 ∧
    (∀ k (hk : k < (chgR s h l).1.length), ∃ i : Nat, i < s.pairs.length ∧ (chgR s h l).1[k].pair = i) ∧
    ∃ (m : Nat) (yl : List V6), yl.length = m ∧ tuneR s (h.take c) = (yl, 0) ∧ devR s (h.take c) l = (dcut (devR s h l).1 m, 0) ∧ chgR s (h.take c) l = (ccut s (chgR s h l).1 m, 0)) := by
  by_cases he : hearE s h l = 0
  case neg => exact .inl (by unfold chgR devR; rw [if_neg he, if_neg he]; exact ⟨he, rfl⟩)
  obtain ⟨h1, h2⟩ := hear_ok.1 he
  have hd : devR s h l = ((devL (tuneR s h).1 l).map fun i : Nat => (i : Int), 0) := by unfold devR; rw [if_pos he]
  have hcg : chgR s h l = (chgL s (tuneR s h).1 l, 0) := by unfold chgR; rw [if_pos he]
  have ht := tune_take h1 c hc
  have hx := (tune_ok h1).2.1
  have hlen : (tuneR s h).1.length ≤ s.notes.length := by rw [hx, xsL_len]; exact tun_le _ _
  have hml : tunN s c ≤ (tuneR s h).1.length := by rw [hx, xsL_len]; exact tun_mono s hc
  have hn := h2.1.sz.2.1
  have hp := h2.1.sz.2.2.1
  rw [hd, hcg]
  refine .inr ⟨rfl, rfl, ?_, ?_, ?_, tunN s c, (tuneR s h).1.take (tunN s c), ?_, ht, ?_, ?_⟩
  · show ((devL (tuneR s h).1 l).map fun i : Nat => (i : Int)).length ≤ 400
    rw [List.length_map]
    unfold devL
    have := (List.range (tuneR s h).1.length).length_filter_le (devT (tuneR s h).1 l)
    rw [List.length_range] at this
    omega
  · have := cgK_len s (tuneR s h).1 l s.pairs.length
    show (cgK s (tuneR s h).1 l s.pairs.length).length ≤ 400
    omega
  · intro k hk
    obtain ⟨i, hi, e, -⟩ := chg_get h2.1 (xs := (tuneR s h).1) (l := l) (k := k) hk
    refine ⟨i, hi, ?_⟩
    show (chgL s (tuneR s h).1 l)[k].pair = _
    rw [e]; exact chg_pair
  · rw [List.length_take]; omega
  · have h3 : hearE s (h.take c) l = 0 := hear_ok.2 ⟨by rw [ht], h2⟩
    unfold devR
    rw [if_pos h3, ht]
    simp only
    rw [devL_take hml]
    unfold dcut
    rw [List.filter_map]
    simp only [Function.comp_def, Int.ofNat_lt]
  · have h3 : hearE s (h.take c) l = 0 := hear_ok.2 ⟨by rw [ht], h2⟩
    unfold chgR
    rw [if_pos h3, ht]
    simp only
    rw [chgL_take h2.1 hml]
    rfl
end Go.Sx.Bl
namespace Go.Proofs.YtbemjekkojgbpaaDoor
open Go.RowKit Go.Sx Go.Sx.Sz Go.Sx.Sc Go.Sx.Au Go.Sx.Po Go.Sx.Bl Go.ChangeShapes Go.WideShapes Go.ChangeAt

set_option maxRecDepth 100000 in
set_option maxHeartbeats 16000000 in
theorem bbeg_law (vn vp vc vh vt : Value) (s : Sc) (h : List V6) (l : List S2) (k : Nat) (hk : k ≤ h.length) (hhb : h.length ≤ 2932031007317) (w : World) (GL : Gl 0 w) (S : ScR w vn vp vc s) (V : Sl w 6 V6.list vh h) (R : Sl w 2 encS vt l) :
    Calls Tryd.prog 5 #[.agg #[.int .i64 s.voices, vn, vp, vc], vh, vt, .int .i64 k] w fun e w' => e = .returned (.bool true) ∧ Ext w w' := by
  obtain ⟨an, cn, rfl, -, -, hln⟩ := S.nt.len
  obtain ⟨ap, cp, rfl, -, -, hlp⟩ := S.pr.len
  obtain ⟨ac, cc, rfl, -, -, hlc⟩ := S.cd.len
  obtain ⟨ah, ch, rfl, hch, -, -⟩ := V.len
  obtain ⟨at', ct, rfl, -, -, -⟩ := R.len
  have DW := @deviants_walk (.slice an s.notes.length cn) (.slice ap s.pairs.length cp) (.slice ac s.cads.length cc) (.slice ah h.length ch) (.slice at' l.length ct) s h l
  have CW := @charges_walk (.slice an s.notes.length cn) (.slice ap s.pairs.length cp) (.slice ac s.cads.length cc) (.slice ah h.length ch) (.slice at' l.length ct) s h l
  have hf := beg_facts s h l k hk
  obtain ⟨⟨dl, de⟩, eDW⟩ : ∃ z, devR s h l = z := ⟨_, rfl⟩
  obtain ⟨⟨cl, ce⟩, eCW⟩ : ∃ z, chgR s h l = z := ⟨_, rfl⟩
  rw [eDW] at DW hf; rw [eCW] at CW hf
  simp only at DW CW hf
  have HDW := Lib.hid DW; have HCW := Lib.hid CW; have HF := Lib.hid hf
  clear eDW DW eCW CW hf
  have VC := V.cut (by omega) 0 k (Nat.zero_le _) hk
  rw [List.drop_zero] at VC
  obtain ⟨vk, hvk⟩ : ∃ v, sliced ah 0 k ch 6 = v := ⟨_, rfl⟩
  rw [hvk] at VC
  have HVK := Lib.hid hvk
  clear hvk
  have X0 : Ext w (w.alloc (.cells #[.int .i64 s.voices, .slice an s.notes.length cn, .slice ap s.pairs.length cp, .slice ac s.cads.length cc] 26)) := (by repeat (first | with_reducible exact Ext.refl _ | with_reducible assumption | with_reducible apply Ext.alloc | with_reducible apply Ext.drew | (with_reducible refine Ext.setCell ?_ (by (try simp) <;> omega) _)))
  have b0_0 := block_new w (.cells #[.int .i64 s.voices, .slice an s.notes.length cn, .slice ap s.pairs.length cp, .slice ac s.cads.length cc] 26)
  obtain ⟨W0, hW0⟩ : ∃ W, (w.alloc (.cells #[.int .i64 s.voices, .slice an s.notes.length cn, .slice ap s.pairs.length cp, .slice ac s.cads.length cc] 26)) = W := ⟨_, rfl⟩
  obtain ⟨B0, hB0⟩ : ∃ B, w.heap.size = B := ⟨_, rfl⟩
  rw [hW0] at X0 b0_0
  rw [hB0] at b0_0
  have HZ0 : Hid (w.heap.size ≤ B0) := Lib.hid (by omega)
  have HW0 := Lib.hid hW0; have HB0 := Lib.hid hB0
  clear hW0 hB0
  have CB := Lib.hid (boxS b0_0)
  have S1 := S.ext X0; have V1 := V.ext X0; have G1 := GL.ext X0; have R1 := R.ext X0
  have HCH := Lib.hid hch
  have VC1 := VC.ext X0
  clear S V GL R b0_0 hch VC
  go_enter Tryd.func5, Tryd.ntmps5
  go_wp2_with fail
  rw [HW0.out, HB0.out]
  clear HW0 HB0
  refine (bhead_walk _ G1).mono ?_
  rintro e w1 ⟨rfl, x1⟩
  have u1 : decide ((k : Int) < 0) = false := decide_eq_false (by omega)
  have u2 : decide (h.length < k) = false := decide_eq_false (by omega)
  obtain ⟨c0, c1, c2, c3⟩ := CB.out _ x1
  go_wp2_with fail
  refine (rfew_walk _ _ _ s _ (S1.ext x1)).mono ?_
  obtain ⟨fw, hfw⟩ : ∃ z, (decide (s.notes.length ≤ 40) && decide (s.pairs.length ≤ 60)) = z := ⟨_, rfl⟩
  rw [hfw]
  clear hfw
  rintro e w2 ⟨rfl, y2⟩
  have x2 := x1.trans y2
  clear c0 c1 c2 c3
  cases fw with
  | false =>
    have HX := Lib.hid (X0.trans x2)
    go_wp2
    go_ret
    exact ⟨by first | rfl | simp, HX.out⟩
  | true =>
  obtain ⟨c0, c1, c2, c3⟩ := CB.out _ x2
  go_wp2_with fail
  refine (HDW.out _ (G1.ext x2) (S1.ext x2) (V1.ext x2) (R1.ext x2)).mono ?_
  rintro e w3 ⟨v3, rfl, L3, y3⟩
  have x3 := x2.trans y3
  clear c0 c1 c2 c3
  obtain ⟨c0, c1, c2, c3⟩ := CB.out _ x3
  go_wp2_with fail
  refine (HCW.out _ (G1.ext x3) (S1.ext x3) (V1.ext x3) (R1.ext x3)).mono ?_
  rintro e w4 ⟨v4, rfl, L4, y4⟩
  have x4 := x3.trans y4
  have L3 := L3.ext y4
  clear c0 c1 c2 c3
  obtain ⟨a3, q3, rfl, -, -, -⟩ := L3.len
  obtain ⟨a4, q4, rfl, -, -, -⟩ := L4.len
  have HX4 := Lib.hid (X0.trans x4)
  clear u1 u2
  by_cases hde : de = 0
  case neg =>
    obtain rfl : ce = de := by
      rcases HF.out with h9 | h9
      · exact h9.2
      · exact absurd h9.1 hde
    have t1 : (ce != 0) = true := by rw [bne_iff_ne]; exact hde
    have t2 : (ce == ce) = true := beq_self_eq_true _
    clear hde
    go_wp2
    go_ret
    exact ⟨by first | rfl | simp, HX4.out⟩
  subst hde
  obtain ⟨rfl, hdl, hcl, hpr, m, yl, hyl, htk, hdk, hck⟩ : ce = 0 ∧ _ := by
    rcases HF.out with h9 | h9
    · exact absurd rfl h9.1
    · exact h9.2
  have TK := Lib.hid fun w' (y : Ext W0 w') => @tune_walk (.slice an s.notes.length cn) (.slice ap s.pairs.length cp) (.slice ac s.cads.length cc) vk s (h.take k) w' (S1.ext y) (VC1.ext y)
  have DK := Lib.hid fun w' (y : Ext W0 w') => @deviants_walk (.slice an s.notes.length cn) (.slice ap s.pairs.length cp) (.slice ac s.cads.length cc) vk (.slice at' l.length ct) s (h.take k) l w' (G1.ext y) (S1.ext y) (VC1.ext y) (R1.ext y)
  have CK := Lib.hid fun w' (y : Ext W0 w') => @charges_walk (.slice an s.notes.length cn) (.slice ap s.pairs.length cp) (.slice ac s.cads.length cc) vk (.slice at' l.length ct) s (h.take k) l w' (G1.ext y) (S1.ext y) (VC1.ext y) (R1.ext y)
  rw [htk] at TK; rw [hdk] at DK; rw [hck] at CK
  simp only at TK DK CK
  have HPR := Lib.hid hpr
  have hch := HCH.out
  have i1 : (0 : Int) ≤ (k : Int) := by omega
  have i2 : (k : Int) ≤ (ch : Int) := by omega
  clear htk hdk hck hpr HDW HCW HF
  go_upto_region 8 with fail
  obtain ⟨c0, c1, c2, c3⟩ := CB.out _ x4
  have z0 := ext_cells c0; have z1 := ext_cells c1; have z2 := ext_cells c2; have z3 := ext_cells c3
  clear c0 c1 c2 c3
  apply Z.wp_region_ordZ [(0,.det _), (1,.det _), (2,.det _), (3,.det (sliced ah 0 k ch 6)), (4,.det _), (5, .new (fun u => ∃ a n c, u = .tuple #[.slice a n c, .int .i64 0]) (fun u w' => ∃ v, u = .tuple #[v, .int .i64 0] ∧ Sl w' 1 encZ v (dcut dl m)) (.tuple #[.slice none 0 0, .int .i64 0]) ⟨_, _, _, rfl⟩), (6, .fn [5] (fun vs => vs.headD undef)), (7, .fn [6] tup0), (8,.det _), (9, .fn [7] (fun vs => vs.headD undef)), (10,.det _)] 11 Ext Ext (Ext w4) (fun _ => True) wide
    [(0,true), (1,true), (2,true), (3,true), (4,true), (5,true), (6,true), (7,true), (8,true), (9,true), (10,true)] [(0,[]),(1,[]),(2,[]),(3,[]),(4,[]),(5,[]),(6,[5]),(7,[6]),(8,[]),(9,[7]),(10,[])] (by kernel_rfl) (by kernel_rfl) rfl rfl (by simp [Z.Kd.new, Z.Kd.det, Z.Kd.fn, Z.kdOf]) (by decide) (fun _ _ h => h) (stable_ext _) (fun _ _ _ _ => trivial) (Ext.drawn _ _) trivial ?main8
  case' main8 =>
    iterate 3 (apply Z.ordX_det rfl rfl; (intro w' hw'; unfold opR; go_simp; exact ⟨Ext.refl _, rfl⟩); (simp only [List.getElem_toArray, List.getElem_cons_succ, List.getElem_cons_zero, Act.put, List.setIfInBounds_toArray, List.set_cons_succ, List.set_cons_zero]; rfl))
    apply Z.ordX_det rfl rfl
    · intro w' hw'
      unfold opR
      go_simp
      exact ⟨Ext.refl _, rfl⟩
    · (simp only [List.getElem_toArray, List.getElem_cons_succ, List.getElem_cons_zero, Act.put, List.setIfInBounds_toArray, List.set_cons_succ, List.set_cons_zero]; rfl)
    iterate 1 (apply Z.ordX_det rfl rfl; (intro w' hw'; unfold opR; go_simp; exact ⟨Ext.refl _, rfl⟩); (simp only [List.getElem_toArray, List.getElem_cons_succ, List.getElem_cons_zero, Act.put, List.setIfInBounds_toArray, List.set_cons_succ, List.set_cons_zero]; rfl))
    apply Z.ordX_new (fun v w1 w2 ⟨v', e, h1⟩ k => ⟨v', e, h1.ext k⟩) rfl rfl
    · intro w' hw' _
      refine opR_call rfl (Go.Proofs.enters_of Tryd.func12 (by kernel_rfl) rfl) (by simp only [List.map_toArray, List.map_cons, List.map_nil, Act.eval, Array.getD_eq_getD_getElem?, List.getElem?_toArray, List.getElem?_cons_succ, List.getElem?_cons_zero, Option.getD_some]; rfl) ?_
      rw [HVK.out]
      refine (DK.out w' (x4.trans hw')).mono ?_
      rintro e w'' ⟨v, rfl, hv, hx⟩
      obtain ⟨a, c, rfl, -, -, -⟩ := hv.len
      exact ⟨_, rfl, hx, ⟨_, _, _, rfl⟩, _, rfl, hv⟩
    · intro v; (simp only [List.getElem_toArray, List.getElem_cons_succ, List.getElem_cons_zero, Act.put, List.setIfInBounds_toArray, List.set_cons_succ, List.set_cons_zero]; rfl)
    rintro _ ⟨ya, yn, yc, rfl⟩
    apply Z.ordX_fn (v := .tuple #[.slice ya yn yc, .int .i64 0]) rfl rfl
    · intro w' hw' _; unfold opR; go_simp; exact ⟨Ext.refl _, rfl⟩
    · rfl
    · (simp only [List.getElem_toArray, List.getElem_cons_succ, List.getElem_cons_zero, Act.put, List.setIfInBounds_toArray, List.set_cons_succ, List.set_cons_zero]; rfl)
    apply Z.ordX_fn (v := .slice ya yn yc) rfl rfl
    · intro w' hw' _; unfold opR; go_simp; exact ⟨Ext.refl _, rfl⟩
    · rfl
    · (simp only [List.getElem_toArray, List.getElem_cons_succ, List.getElem_cons_zero, Act.put, List.setIfInBounds_toArray, List.set_cons_succ, List.set_cons_zero]; rfl)
    iterate 1 (apply Z.ordX_det rfl rfl; (intro w' hw'; unfold opR; go_simp; exact ⟨Ext.refl _, rfl⟩); (simp only [List.getElem_toArray, List.getElem_cons_succ, List.getElem_cons_zero, Act.put, List.setIfInBounds_toArray, List.set_cons_succ, List.set_cons_zero]; rfl))
    apply Z.ordX_fn (v := .slice ya yn yc) rfl rfl
    · intro w' hw' _; unfold opR; go_simp; exact ⟨Ext.refl _, rfl⟩
    · rfl
    · (simp only [List.getElem_toArray, List.getElem_cons_succ, List.getElem_cons_zero, Act.put, List.setIfInBounds_toArray, List.set_cons_succ, List.set_cons_zero]; rfl)
    iterate 1 (apply Z.ordX_det rfl rfl; (intro w' hw'; unfold opR; go_simp; exact ⟨Ext.refl _, rfl⟩); (simp only [List.getElem_toArray, List.getElem_cons_succ, List.getElem_cons_zero, Act.put, List.setIfInBounds_toArray, List.set_cons_succ, List.set_cons_zero]; rfl))
    refine Z.ordX_nil (l := []) rfl ?_
  rintro w5 yw5 - ⟨-, vy, hvy, Yw5⟩
  obtain rfl : .slice ya yn yc = vy := by simpa using hvy
  rw [HVK.out]
  have xw5 := x4.trans yw5
  clear z0 z1 z2 z3 hvy
  go_upto_region 9 with fail
  obtain ⟨c0, c1, c2, c3⟩ := CB.out _ xw5
  have z0 := ext_cells c0; have z1 := ext_cells c1; have z2 := ext_cells c2; have z3 := ext_cells c3
  clear c0 c1 c2 c3
  apply Z.wp_region_ordZ [(0,.det _), (1,.det _), (2,.det _), (3,.det (sliced ah 0 k ch 6)), (4,.det _), (5, .new (fun u => ∃ a n c, u = .tuple #[.slice a n c, .int .i64 0]) (fun u w' => ∃ v, u = .tuple #[v, .int .i64 0] ∧ Sl w' 3 encCg v (ccut s cl m)) (.tuple #[.slice none 0 0, .int .i64 0]) ⟨_, _, _, rfl⟩), (6, .fn [5] (fun vs => vs.headD undef)), (7, .fn [6] tup0), (8,.det _), (9, .fn [7] (fun vs => vs.headD undef)), (10,.det _)] 11 Ext Ext (Ext w5) (fun _ => True) wide
    [(0,true), (1,true), (2,true), (3,true), (4,true), (5,true), (6,true), (7,true), (8,true), (9,true), (10,true)] [(0,[]),(1,[]),(2,[]),(3,[]),(4,[]),(5,[]),(6,[5]),(7,[6]),(8,[]),(9,[7]),(10,[])] (by kernel_rfl) (by kernel_rfl) rfl rfl (by simp [Z.Kd.new, Z.Kd.det, Z.Kd.fn, Z.kdOf]) (by decide) (fun _ _ h => h) (stable_ext _) (fun _ _ _ _ => trivial) (Ext.drawn _ _) trivial ?main9
  case' main9 =>
    iterate 3 (apply Z.ordX_det rfl rfl; (intro w' hw'; unfold opR; go_simp; exact ⟨Ext.refl _, rfl⟩); (simp only [List.getElem_toArray, List.getElem_cons_succ, List.getElem_cons_zero, Act.put, List.setIfInBounds_toArray, List.set_cons_succ, List.set_cons_zero]; rfl))
    apply Z.ordX_det rfl rfl
    · intro w' hw'
      unfold opR
      go_simp
      exact ⟨Ext.refl _, rfl⟩
    · (simp only [List.getElem_toArray, List.getElem_cons_succ, List.getElem_cons_zero, Act.put, List.setIfInBounds_toArray, List.set_cons_succ, List.set_cons_zero]; rfl)
    iterate 1 (apply Z.ordX_det rfl rfl; (intro w' hw'; unfold opR; go_simp; exact ⟨Ext.refl _, rfl⟩); (simp only [List.getElem_toArray, List.getElem_cons_succ, List.getElem_cons_zero, Act.put, List.setIfInBounds_toArray, List.set_cons_succ, List.set_cons_zero]; rfl))
    apply Z.ordX_new (fun v w1 w2 ⟨v', e, h1⟩ k => ⟨v', e, h1.ext k⟩) rfl rfl
    · intro w' hw' _
      refine opR_call rfl (Go.Proofs.enters_of Tryd.func20 (by kernel_rfl) rfl) (by simp only [List.map_toArray, List.map_cons, List.map_nil, Act.eval, Array.getD_eq_getD_getElem?, List.getElem?_toArray, List.getElem?_cons_succ, List.getElem?_cons_zero, Option.getD_some]; rfl) ?_
      rw [HVK.out]
      refine (CK.out w' (xw5.trans hw')).mono ?_
      rintro e w'' ⟨v, rfl, hv, hx⟩
      obtain ⟨a, c, rfl, -, -, -⟩ := hv.len
      exact ⟨_, rfl, hx, ⟨_, _, _, rfl⟩, _, rfl, hv⟩
    · intro v; (simp only [List.getElem_toArray, List.getElem_cons_succ, List.getElem_cons_zero, Act.put, List.setIfInBounds_toArray, List.set_cons_succ, List.set_cons_zero]; rfl)
    rintro _ ⟨ya, yn, yc, rfl⟩
    apply Z.ordX_fn (v := .tuple #[.slice ya yn yc, .int .i64 0]) rfl rfl
    · intro w' hw' _; unfold opR; go_simp; exact ⟨Ext.refl _, rfl⟩
    · rfl
    · (simp only [List.getElem_toArray, List.getElem_cons_succ, List.getElem_cons_zero, Act.put, List.setIfInBounds_toArray, List.set_cons_succ, List.set_cons_zero]; rfl)
    apply Z.ordX_fn (v := .slice ya yn yc) rfl rfl
    · intro w' hw' _; unfold opR; go_simp; exact ⟨Ext.refl _, rfl⟩
    · rfl
    · (simp only [List.getElem_toArray, List.getElem_cons_succ, List.getElem_cons_zero, Act.put, List.setIfInBounds_toArray, List.set_cons_succ, List.set_cons_zero]; rfl)
    iterate 1 (apply Z.ordX_det rfl rfl; (intro w' hw'; unfold opR; go_simp; exact ⟨Ext.refl _, rfl⟩); (simp only [List.getElem_toArray, List.getElem_cons_succ, List.getElem_cons_zero, Act.put, List.setIfInBounds_toArray, List.set_cons_succ, List.set_cons_zero]; rfl))
    apply Z.ordX_fn (v := .slice ya yn yc) rfl rfl
    · intro w' hw' _; unfold opR; go_simp; exact ⟨Ext.refl _, rfl⟩
    · rfl
    · (simp only [List.getElem_toArray, List.getElem_cons_succ, List.getElem_cons_zero, Act.put, List.setIfInBounds_toArray, List.set_cons_succ, List.set_cons_zero]; rfl)
    iterate 1 (apply Z.ordX_det rfl rfl; (intro w' hw'; unfold opR; go_simp; exact ⟨Ext.refl _, rfl⟩); (simp only [List.getElem_toArray, List.getElem_cons_succ, List.getElem_cons_zero, Act.put, List.setIfInBounds_toArray, List.set_cons_succ, List.set_cons_zero]; rfl))
    refine Z.ordX_nil (l := []) rfl ?_
  rintro w6 yw6 - ⟨-, vy, hvy, Yw6⟩
  obtain rfl : .slice ya yn yc = vy := by simpa using hvy
  rw [HVK.out]
  have xw6 := xw5.trans yw6
  clear z0 z1 z2 z3 hvy
  go_upto_region 10 with fail
  obtain ⟨c0, c1, c2, c3⟩ := CB.out _ xw6
  have z0 := ext_cells c0; have z1 := ext_cells c1; have z2 := ext_cells c2; have z3 := ext_cells c3
  clear c0 c1 c2 c3
  apply Z.wp_region_ordZ [(0,.det _), (1,.det _), (2,.det _), (3,.det (sliced ah 0 k ch 6)), (4, .new (fun u => ∃ a n c, u = .tuple #[.slice a n c, .int .i64 0]) (fun u w' => ∃ v, u = .tuple #[v, .int .i64 0] ∧ Sl w' 6 V6.list v yl) (.tuple #[.slice none 0 0, .int .i64 0]) ⟨_, _, _, rfl⟩), (5, .fn [4] (fun vs => vs.headD undef)), (6, .fn [5] tup0), (7,.det _), (8, .fn [6] (fun vs => vs.headD undef)), (9,.det _)] 10 Ext Ext (Ext w6) (fun _ => True) wide
    [(0,true), (1,true), (2,true), (3,true), (4,true), (5,true), (6,true), (7,true), (8,true), (9,true)] [(0,[]),(1,[]),(2,[]),(3,[]),(4,[]),(5,[4]),(6,[5]),(7,[]),(8,[6]),(9,[])] (by kernel_rfl) (by kernel_rfl) rfl rfl (by simp [Z.Kd.new, Z.Kd.det, Z.Kd.fn, Z.kdOf]) (by decide) (fun _ _ h => h) (stable_ext _) (fun _ _ _ _ => trivial) (Ext.drawn _ _) trivial ?main10
  case' main10 =>
    iterate 3 (apply Z.ordX_det rfl rfl; (intro w' hw'; unfold opR; go_simp; exact ⟨Ext.refl _, rfl⟩); (simp only [List.getElem_toArray, List.getElem_cons_succ, List.getElem_cons_zero, Act.put, List.setIfInBounds_toArray, List.set_cons_succ, List.set_cons_zero]; rfl))
    apply Z.ordX_det rfl rfl
    · intro w' hw'
      unfold opR
      go_simp
      exact ⟨Ext.refl _, rfl⟩
    · (simp only [List.getElem_toArray, List.getElem_cons_succ, List.getElem_cons_zero, Act.put, List.setIfInBounds_toArray, List.set_cons_succ, List.set_cons_zero]; rfl)
    apply Z.ordX_new (fun v w1 w2 ⟨v', e, h1⟩ k => ⟨v', e, h1.ext k⟩) rfl rfl
    · intro w' hw' _
      refine opR_call rfl (Go.Proofs.enters_of Tryd.func13 (by kernel_rfl) rfl) (by simp only [List.map_toArray, List.map_cons, List.map_nil, Act.eval, Array.getD_eq_getD_getElem?, List.getElem?_toArray, List.getElem?_cons_succ, List.getElem?_cons_zero, Option.getD_some]; rfl) ?_
      rw [HVK.out]
      refine (TK.out w' (xw6.trans hw')).mono ?_
      rintro e w'' ⟨v, rfl, hv, hx⟩
      obtain ⟨a, c, rfl, -, -, -⟩ := hv.len
      exact ⟨_, rfl, hx, ⟨_, _, _, rfl⟩, _, rfl, hv⟩
    · intro v; (simp only [List.getElem_toArray, List.getElem_cons_succ, List.getElem_cons_zero, Act.put, List.setIfInBounds_toArray, List.set_cons_succ, List.set_cons_zero]; rfl)
    rintro _ ⟨ya, yn, yc, rfl⟩
    apply Z.ordX_fn (v := .tuple #[.slice ya yn yc, .int .i64 0]) rfl rfl
    · intro w' hw' _; unfold opR; go_simp; exact ⟨Ext.refl _, rfl⟩
    · rfl
    · (simp only [List.getElem_toArray, List.getElem_cons_succ, List.getElem_cons_zero, Act.put, List.setIfInBounds_toArray, List.set_cons_succ, List.set_cons_zero]; rfl)
    apply Z.ordX_fn (v := .slice ya yn yc) rfl rfl
    · intro w' hw' _; unfold opR; go_simp; exact ⟨Ext.refl _, rfl⟩
    · rfl
    · (simp only [List.getElem_toArray, List.getElem_cons_succ, List.getElem_cons_zero, Act.put, List.setIfInBounds_toArray, List.set_cons_succ, List.set_cons_zero]; rfl)
    iterate 1 (apply Z.ordX_det rfl rfl; (intro w' hw'; unfold opR; go_simp; exact ⟨Ext.refl _, rfl⟩); (simp only [List.getElem_toArray, List.getElem_cons_succ, List.getElem_cons_zero, Act.put, List.setIfInBounds_toArray, List.set_cons_succ, List.set_cons_zero]; rfl))
    apply Z.ordX_fn (v := .slice ya yn yc) rfl rfl
    · intro w' hw' _; unfold opR; go_simp; exact ⟨Ext.refl _, rfl⟩
    · rfl
    · (simp only [List.getElem_toArray, List.getElem_cons_succ, List.getElem_cons_zero, Act.put, List.setIfInBounds_toArray, List.set_cons_succ, List.set_cons_zero]; rfl)
    iterate 1 (apply Z.ordX_det rfl rfl; (intro w' hw'; unfold opR; go_simp; exact ⟨Ext.refl _, rfl⟩); (simp only [List.getElem_toArray, List.getElem_cons_succ, List.getElem_cons_zero, Act.put, List.setIfInBounds_toArray, List.set_cons_succ, List.set_cons_zero]; rfl))
    refine Z.ordX_nil (l := []) rfl ?_
  rintro w7 yw7 - ⟨-, vy, hvy, Yw7⟩
  obtain rfl : .slice ya yn yc = vy := by simpa using hvy
  rw [HVK.out]
  have xw7 := xw6.trans yw7
  clear z0 z1 z2 z3 hvy
  obtain ⟨a7, q7, e7, -, -, -⟩ := Yw7.len
  rw [hyl] at e7
  obtain ⟨rfl, hm7, rfl⟩ : ya = a7 ∧ m = yn ∧ yc = q7 := by simp at e7; exact ⟨e7.1, e7.2.1.symm, e7.2.2⟩
  subst hm7
  have L3 := L3.ext (yw5.trans (yw6.trans yw7))
  have L4 := L4.ext (yw5.trans (yw6.trans yw7))
  have Y5 := Yw5.ext (yw6.trans yw7)
  have Y6 := Yw6.ext yw7
  have HY7 := Lib.hid xw7
  have O0 : OwnR (w7.alloc (.cells #[] 3)) w7.heap.size 3 1 encZ (.slice (some ⟨w7.heap.size, 0, none⟩) 0 0) (dcut (dl.take 0) m) := OwnR.lit w7 #[] [] 0 rfl (Nat.le_refl _) rfl rfl (by simp [maxLen])
  have HO0 := Lib.hid O0
  clear e7 Yw5 Yw6 Yw7 yw5 yw6 yw7 xw5 xw6 xw7 x1 x2 x3 x4 y2 y3 y4 hyl O0 TK DK CK i1 i2 hch
  go_wp2
  go_loopw [20, 21] (fun v i wr => ∃ q : Nat, q ≤ dl.length ∧ i = .int .i64 q ∧ OwnR wr w7.heap.size 3 1 encZ v (dcut (dl.take q) m) ∧ Ext w7 wr) (fun _ i _ => dl.length - (intOf i).toNat)
  case atStart => exact ⟨0, by omega, by first | rfl | trivial, HO0.out, Ext.alloc' _ _⟩
  case round =>
    obtain ⟨q, hq, rfl, own, X⟩ := hrel
    by_cases hlt : q < dl.length
    case pos =>
      obtain ⟨b, o, rfl, n0⟩ := Sl.num (L3.ext X) q hlt
      have hy := @dcut_yes dl m q hlt
      have hno := @dcut_no dl m q hlt
      have hlen := @dcut_len dl m q
      obtain ⟨x, hx⟩ : ∃ x, dl[q] = x := ⟨_, rfl⟩
      rw [hx] at n0 hy hno
      have i1 : (0 : Int) ≤ (q : Int) := by omega
      have i2 : (q : Int) < (dl.length : Int) := by omega
      have hsz := X.size
      by_cases hxm : x < (m : Int)
      · have t1 : decide (x < (m : Int)) = true := decide_eq_true hxm
        have HY := Lib.hid (hy hxm)
        obtain ⟨va, vm, vd, rfl⟩ := own.shape
        have hX := Lib.hid X
        clear hx hy hno hxm X
        go_wp2_with (first | (at_builtin; go_must (refine wpList_own1 et_zb rfl _ _ rfl own rfl x rfl rfl rfl (by simp [encZ, Value.oneCell']) (by omega) hsz ?_; intro v' w8 hown' hb' happ _)) | fail)
        rw [← HY.out] at hown'
        have FIN := Lib.hid (And.intro hown' (Below.trans hX.out hb'))
        clear hown' hb' happ own
        go_roundw
        case rel => exact ⟨q + 1, by omega, by go_num, FIN.out.1, FIN.out.2⟩
        case measure => simp [intOf] <;> omega
      · have t1 : decide (x < (m : Int)) = false := decide_eq_false hxm
        have FIN := Lib.hid (And.intro own X)
        have HY := Lib.hid (hno hxm)
        clear hx hy hno hxm own X
        go_wp2
        go_roundw
        case rel => exact ⟨q + 1, by omega, by go_num, by rw [HY.out]; exact FIN.out.1, FIN.out.2⟩
        case measure => simp [intOf] <;> omega
    case neg =>
    obtain rfl : q = dl.length := by omega
    have hlen := @dcut_len dl m dl.length
    rw [List.take_length] at own hlen
    have SW := own.sl (fun _ _ => rfl) (by omega)
    obtain ⟨W9, rfl⟩ : ∃ z : World, z = wr := ⟨_, rfl⟩
    have HX9 := Lib.hid X
    have hsz9 := X.size
    clear own hlen
    go_wp2
    go_loopw [22, 23] (fun v i wr => ∃ q : Nat, q ≤ cl.length ∧ i = .int .i64 q ∧ OwnR wr W9.heap.size 61 3 encCg v (ccut s (cl.take q) m) ∧ Ext W9 wr) (fun _ i _ => cl.length - (intOf i).toNat)
    case atStart => exact ⟨0, by omega, by first | rfl | trivial, OwnR.nil, Ext.refl _⟩
    case round =>
      obtain ⟨q, hq, rfl, own, Y⟩ := hrel
      by_cases hlt : q < cl.length
      case pos =>
        obtain ⟨b, o, rfl, n0, n1, n2⟩ := Sl.cg (L4.ext (HX9.out.trans Y)) q hlt
        obtain ⟨i, hi, hci⟩ := HPR.out q hlt
        have hy := @ccut_yes s cl m q hlt
        have hno := @ccut_no s cl m q hlt
        have hlen := @ccut_len s cl m q
        obtain ⟨⟨xp, xk, xn⟩, hx⟩ : ∃ x, cl[q] = x := ⟨_, rfl⟩
        rw [hx] at n0 n1 n2 hy hno hci
        simp only at n0 n1 n2 hy hno hci
        subst hci
        rw [Int.toNat_natCast] at hy hno
        obtain ⟨bp, op, rfl, A⟩ := Sl.pr (S1.pr.ext (HY7.out.trans (HX9.out.trans Y))) i hi
        rw [← Sc.P_eq hi] at A
        obtain ⟨p, hp⟩ : ∃ p, s.P i = p := ⟨_, rfl⟩
        rw [hp] at A hy hno
        obtain ⟨-, p1, -, -, -, -, -, -, -⟩ := A
        obtain ⟨c0, c1, c2, c3⟩ := CB.out _ (HY7.out.trans (HX9.out.trans Y))
        have i1 : (0 : Int) ≤ (q : Int) := by omega
        have i2 : (q : Int) < (cl.length : Int) := by omega
        have j1 : (0 : Int) ≤ (i : Int) := by omega
        have j2 : (i : Int) < (s.pairs.length : Int) := by omega
        have t1 : decide ((i : Int) < 0) = false := decide_eq_false (by omega)
        have t2 : decide (s.pairs.length ≤ i) = false := decide_eq_false (by omega)
        have hsz := Y.size
        by_cases hxm : p.b < (m : Int)
        · have t3 : decide (p.b < (m : Int)) = true := decide_eq_true hxm
          have HY := Lib.hid (hy hxm)
          obtain ⟨va, vm, vd, rfl⟩ := own.shape
          have hX := Lib.hid Y
          have own' := Lib.hid own
          clear hx hy hno hxm Y hp own hi
          go_wp2
          go_quiet (fail)
          go_wp2
          go_quiet (fail)
          go_wp2_with (first | (at_builtin; go_must (refine wpList_own1 et_cg rfl _ _ rfl (show OwnR (wr.drewN _) _ _ _ _ _ _ from own'.out) rfl (⟨(i : Int), xk, xn⟩ : Chg) rfl rfl rfl (by simp [encCg, Value.oneCell']) (by omega) hsz ?_; intro v' w8 hown' hb' happ _)) | fail)
          rw [← HY.out] at hown'
          have FIN := Lib.hid (And.intro hown' (Below.trans (hX.out.drewN _) hb'))
          clear hown' hb' happ
          go_roundw
          case rel => exact ⟨q + 1, by omega, by go_num, FIN.out.1, FIN.out.2⟩
          case measure => simp [intOf] <;> omega
        · have t3 : decide (p.b < (m : Int)) = false := decide_eq_false hxm
          have FIN := Lib.hid (And.intro own Y)
          have HY := Lib.hid (hno hxm)
          clear hx hy hno hxm own Y hp hi
          go_wp2
          go_quiet (fail)
          go_wp2
          go_quiet (fail)
          go_wp2
          go_roundw
          case rel => exact ⟨q + 1, by omega, by go_num, by rw [HY.out]; exact (FIN.out.1.ext (Ext.drawn _ _)).ext (Ext.drawn _ _), (FIN.out.2.trans (Ext.drawn _ _)).trans (Ext.drawn _ _)⟩
          case measure => simp [intOf] <;> omega
      case neg =>
      obtain rfl : q = cl.length := by omega
      have hlen := @ccut_len s cl m cl.length
      rw [List.take_length] at own hlen
      have SC := own.sl (fun _ _ => rfl) (by omega)
      obtain ⟨av, cv, rfl, -, -, -⟩ := SC.len
      obtain ⟨aw, cw, rfl, -, -, -⟩ := SW.len
      clear own
      go_wp2_with fail
      refine (same16_walk _ _ (dcut dl m) (dcut dl m) _ (Y5.ext (HX9.out.trans Y)) (SW.ext Y)).mono ?_
      rw [decide_eq_true rfl]
      rintro e w10 ⟨rfl, x10⟩
      go_wp2_with fail
      refine (samecg_walk _ _ (ccut s cl m) (ccut s cl m) _ (Y6.ext (HX9.out.trans (Y.trans x10))) (SC.ext x10)).mono ?_
      rw [decide_eq_true rfl]
      rintro e w11 ⟨rfl, x11⟩
      have HX := Lib.hid (X0.trans (HY7.out.trans (HX9.out.trans (Y.trans (x10.trans x11)))))
      go_wp2
      go_ret
      exact ⟨by first | rfl | simp, HX.out⟩

set_option maxRecDepth 100000 in
set_option maxHeartbeats 8000000 in
theorem bbeg_out (vn vp vc vh vt : Value) (s : Sc) (h : List V6) (l : List S2) (k : Int) (hk : ¬ (0 ≤ k ∧ k ≤ h.length)) (w : World) (GL : Gl 0 w) (S : ScR w vn vp vc s) (V : Sl w 6 V6.list vh h) (R : Sl w 2 encS vt l) :
    Calls Tryd.prog 5 #[.agg #[.int .i64 s.voices, vn, vp, vc], vh, vt, .int .i64 k] w fun e w' => e = .returned (.bool true) ∧ Ext w w' := by
  obtain ⟨an, cn, rfl, -, -, hln⟩ := S.nt.len
  obtain ⟨ap, cp, rfl, -, -, hlp⟩ := S.pr.len
  obtain ⟨ac, cc, rfl, -, -, hlc⟩ := S.cd.len
  obtain ⟨ah, ch, rfl, hch, -, -⟩ := V.len
  obtain ⟨at', ct, rfl, -, -, -⟩ := R.len
  have X0 : Ext w (w.alloc (.cells #[.int .i64 s.voices, .slice an s.notes.length cn, .slice ap s.pairs.length cp, .slice ac s.cads.length cc] 26)) := (by repeat (first | with_reducible exact Ext.refl _ | with_reducible assumption | with_reducible apply Ext.alloc | with_reducible apply Ext.drew | (with_reducible refine Ext.setCell ?_ (by (try simp) <;> omega) _)))
  have b0_0 := block_new w (.cells #[.int .i64 s.voices, .slice an s.notes.length cn, .slice ap s.pairs.length cp, .slice ac s.cads.length cc] 26)
  obtain ⟨W0, hW0⟩ : ∃ W, (w.alloc (.cells #[.int .i64 s.voices, .slice an s.notes.length cn, .slice ap s.pairs.length cp, .slice ac s.cads.length cc] 26)) = W := ⟨_, rfl⟩
  obtain ⟨B0, hB0⟩ : ∃ B, w.heap.size = B := ⟨_, rfl⟩
  rw [hW0] at X0 b0_0
  rw [hB0] at b0_0
  have HZ0 : Hid (w.heap.size ≤ B0) := Lib.hid (by omega)
  have HW0 := Lib.hid hW0; have HB0 := Lib.hid hB0
  clear hW0 hB0
  have CB := Lib.hid (boxS b0_0)
  have S1 := S.ext X0; have V1 := V.ext X0; have G1 := GL.ext X0; have R1 := R.ext X0
  have HCH := Lib.hid hch
  clear S V GL R b0_0 hch
  go_enter Tryd.func5, Tryd.ntmps5
  go_wp2_with fail
  rw [HW0.out, HB0.out]
  clear HW0 HB0
  refine (bhead_walk _ G1).mono ?_
  rintro e w1 ⟨rfl, x1⟩
  obtain ⟨c0, c1, c2, c3⟩ := CB.out _ x1
  go_wp2_with fail
  refine (rfew_walk _ _ _ s _ (S1.ext x1)).mono ?_
  obtain ⟨fw, hfw⟩ : ∃ z, (decide (s.notes.length ≤ 40) && decide (s.pairs.length ≤ 60)) = z := ⟨_, rfl⟩
  rw [hfw]
  clear hfw
  rintro e w2 ⟨rfl, y2⟩
  have x2 := x1.trans y2
  clear c0 c1 c2 c3
  cases fw with
  | false =>
    have HX := Lib.hid (X0.trans x2)
    go_wp2
    go_ret
    exact ⟨by first | rfl | simp, HX.out⟩
  | true =>
  by_cases hk0 : k < 0
  · have t1 : decide (k < 0) = true := decide_eq_true hk0
    clear hk0 hk
    have HX := Lib.hid (X0.trans x2)
    go_wp2
    go_ret
    exact ⟨by first | rfl | simp, HX.out⟩
  · have t1 : decide (k < 0) = false := decide_eq_false hk0
    have t2 : decide ((h.length : Int) < k) = true := decide_eq_true (by omega)
    clear hk0 hk
    have HX := Lib.hid (X0.trans x2)
    go_wp2
    go_ret
    exact ⟨by first | rfl | simp, HX.out⟩
theorem bbeg_any (vn vp vc vh vt : Value) (s : Sc) (h : List V6) (l : List S2) (k : Int) (hhb : h.length ≤ 2932031007317) (w : World) (GL : Gl 0 w) (S : ScR w vn vp vc s) (V : Sl w 6 V6.list vh h) (R : Sl w 2 encS vt l) :
    Calls Tryd.prog 5 #[.agg #[.int .i64 s.voices, vn, vp, vc], vh, vt, .int .i64 k] w fun e w' => e = .returned (.bool true) ∧ Ext w w' := by
  by_cases hk : 0 ≤ k ∧ k ≤ h.length
  · obtain ⟨n, rfl⟩ : ∃ n : Nat, k = (n : Int) := ⟨k.toNat, by omega⟩
    exact bbeg_law vn vp vc vh vt s h l n (by omega) hhb w GL S V R
  · exact bbeg_out vn vp vc vh vt s h l k hk w GL S V R

theorem blameBeginnings_args (H : Type) (enc : TypeId × Value → H) (W : World) (base : Nat) (vs : List Value) (ds : List (DataW H)) (_ : ∀ k, (OpenSpec.ofChange Rows.blameBeginningsSpec).cond = some k → k H ds = true) (hL : laidMetH Tryd.prog Rows.blameBeginningsRow.laid W) (hA : Args enc Tryd.prog W base Tryd.f5.params.toList vs ds) :
    Calls Tryd.prog 5 vs.toArray W fun e W' => e = .returned (.bool true) ∧ Ext W W' := by
  rw [Tryd.params5] at hA
  obtain ⟨v0, _, d0, _, rfl, rfl, h0, hA⟩ := hA.cons
  obtain ⟨v1, _, d1, _, rfl, rfl, h1, hA⟩ := hA.cons
  obtain ⟨v2, _, d2, _, rfl, rfl, h2, hA⟩ := hA.cons
  obtain ⟨v3, _, d3, _, rfl, rfl, h3, hA⟩ := hA.cons
  obtain ⟨rfl, rfl⟩ := hA.nil
  obtain ⟨s0, vn0, vp0, vc0, rfl, S0⟩ := arg_score h0
  obtain ⟨l1, S1, n1⟩ := arg_vecs h1
  obtain ⟨l2, S2, n2⟩ := arg_sizes h2
  obtain ⟨k3, rfl, b3⟩ := h3.int Tryd.underlying3
  exact bbeg_any _ _ _ _ _ s0 l1 l2 k3 (by omega) W (gv_of hL) S0 S1 S2

theorem blameBeginnings_met (os : Os) : laidMet Tryd.prog Rows.blameBeginningsRow.laid ((laidWorld os).forCall (fun _ _ => 0) ⟨#[], #[.agg #[.int .i64 0, .slice none 0 0, .slice none 0 0, .slice none 0 0], .slice none 0 0, .slice none 0 0, .int .i64 0], []⟩).memory := laidMet_of_run' 8 (by kernel_rfl) (by kernel_rfl)
theorem blameBeginnings_reads (os : Os) {H : Type} (enc : TypeId × Value → H) : ∃ places, DataW.whole enc Tryd.prog ((laidWorld os).forCall (fun _ _ => 0) ⟨#[], #[.agg #[.int .i64 0, .slice none 0 0, .slice none 0 0, .slice none 0 0], .slice none 0 0, .slice none 0 0, .int .i64 0], []⟩).memory Tryd.f5.params.toList Rows.blameBeginningsSpec.vars false #[.agg #[.int .i64 0, .slice none 0 0, .slice none 0 0, .slice none 0 0], .slice none 0 0, .slice none 0 0, .int .i64 0].toList 8 = some ([.agg [.lit (.int .i64 0), .nil, .nil, .nil], .nil, .nil, .lit (.int .i64 0)], [], places) := ⟨[], by kernel_rfl⟩
set_option maxRecDepth 100000 in
theorem blameBeginnings_lifted (os : Os) (started : os.Started) (H : Type) (enc : TypeId × Value → H) (F : Stop.Interp) :
    ReturnsInHanded {} Tryd.checked os 5 .any ((OpenSpec.ofChange Rows.blameBeginningsSpec).preRow enc Tryd.prog Tryd.f5 Rows.blameBeginningsRow.domain false Rows.blameBeginningsRow.laid) (((OpenSpec.ofChange Rows.blameBeginningsSpec).at F).post enc Tryd.prog Tryd.f5 false true false false) := by
  obtain ⟨places, hx⟩ := blameBeginnings_reads os enc
  exact law_row (C := Tryd.checked) (s := (OpenSpec.ofChange Rows.blameBeginningsSpec)) (by kernel_rfl) started (by kernel_rfl) Tryd.func5
    (witness_row_at (enc := enc) (C := Tryd.checked) false (laidWorld os) #[.agg #[.int .i64 0, .slice none 0 0, .slice none 0 0, .slice none 0 0], .slice none 0 0, .slice none 0 0, .int .i64 0] rfl (by kernel_rfl) (by kernel_rfl) (by kernel_rfl) (OpenSpec.preRow_of_cond 8 hx (by kernel_rfl) (fun k hk => by cases hk) (by kernel_rfl) (blameBeginnings_met os)))
    (by kernel_rfl) (by kernel_rfl) (by kernel_rfl) rfl (fun ds h => by match ds, h with | [_, _, _, _], _ => rfl) (blameBeginnings_args H enc)
theorem blameBeginnings_said : Rows.BlameBeginningsSaid :=
  OpenClaim.holds_of_cond 5 Tryd.f5 rfl rfl rfl rfl rfl rfl rfl ⟨rfl, rfl, rfl, rfl, rfl⟩ rfl rfl rfl rfl rfl (by kernel_rfl) Tryd.func5 (by kernel_rfl)
    (of_decide_eq_true (by kernel_rfl)) (by unfold Func.isWrapper; first | (rw [if_pos (by decide +kernel)]; kernel_rfl) | (rw [if_neg (by decide +kernel)]; exact ⟨rfl, rfl⟩))
    (fun os started H enc _ F => by rw [OpenClaim.pre_eq_preRow]; exact blameBeginnings_lifted os started H enc F)
theorem blameBeginnings_plain (f : FuncId) (fn : Func) (hf : Tryd.pinned.checked.prog.funcNamed "schisma/schismalaw40.BlameBeginnings" = some f) (hfn : Tryd.pinned.checked.prog.funcs[f]? = some fn) :
    false = Tryd.pinned.checked.prog.looks [] ∧ ∀ (j : Nat) t, fn.params[j]? = some t → Tryd.pinned.checked.prog.wantsStandIn t = false := by
  obtain rfl : f = 5 := Option.some.inj ((show Tryd.prog.funcNamed "schisma/schismalaw40.BlameBeginnings" = some 5 by kernel_rfl).symm.trans hf) |>.symm
  obtain rfl : fn = Tryd.f5 := (Option.some.inj (Tryd.func5.symm.trans hfn)).symm
  refine ⟨by kernel_rfl, fun j t ht => ?_⟩
  have hall : Tryd.f5.params.all (fun t => !Tryd.prog.wantsStandIn t) = true := by kernel_rfl
  have := (Array.all_eq_true'.1 hall) t (Array.mem_of_getElem? ht)
  have e : Tryd.prog.wantsStandIn t = false := by simpa using this
  exact e
/-- The card. -/
theorem blameBeginnings_holds : Rows.BlameBeginningsCardSaid :=
  Claim7.holds_tied_plain_at .later [] _ _ _ _ blameBeginnings_said (fun _ h => by cases h) (by kernel_rfl) (fun _ h => by cases h) blameBeginnings_row_tie rfl ⟨rfl, rfl⟩ (by kernel_rfl) rfl blameBeginnings_plain (by kernel_rfl)

end Go.Proofs.YtbemjekkojgbpaaDoor
