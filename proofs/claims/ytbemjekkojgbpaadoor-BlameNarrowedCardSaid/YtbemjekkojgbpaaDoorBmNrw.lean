/-
  Proved: 'BlameNarrowed' returns true for every input and leaves its arguments as they were. No condition.
-/
import Derived.Test.YtbemjekkojgbpaaDoorBmI
import Derived.Test.YtbemjekkojgbpaaDoorBlN
import Derived.Test.YtbemjekkojgbpaaDoorR23A
import Derived.Test.YtbemjekkojgbpaaDoorAuF
import Derived.Test.YtbemjekkojgbpaaDoorBmL
set_option linter.unusedVariables false
namespace Go.Sx.Bl
open Go.Sx.Sz Go.Sx.Sc Go.Sx.Au Go.Sx.Po
end Go.Sx.Bl
namespace Go.Proofs.YtbemjekkojgbpaaDoor
open Go.RowKit Go.Sx Go.Sx.Sz Go.Sx.Sc Go.Sx.Au Go.Sx.Po Go.Sx.Bl Go.ChangeShapes Go.WideShapes Go.ChangeAt

theorem worst_zero (a b : List S2) : ∀ k, worstM a b k = 0 → ∀ i, i < k → (meetR (T a i) (T b i)).2 = 0
  | 0, _, i, hi => absurd hi (Nat.not_lt_zero _)
  | k + 1, h, i, hi => by
    have hb := worst_bd a b k
    have hm := meetR_err (T a k) (T b k)
    unfold worstM at h
    split at h
    · omega
    · next hn =>
      by_cases e : i = k
      · subst e; omega
      · exact worst_zero a b k h i (by omega)
theorem meet_ok {x y : S2} (h : (meetR x y).2 = 0) : szOk (meetR x y).1 = true ∧ (x.lo ≤ (meetR x y).1.lo ∧ (meetR x y).1.hi ≤ x.hi) ∧ y.lo ≤ (meetR x y).1.lo ∧ (meetR x y).1.hi ≤ y.hi := by
  unfold meetR at h ⊢
  split at h
  · next h1 =>
    rw [if_pos h1]
    split at h
    · next h2 =>
      rw [if_pos h2]
      obtain ⟨ha, hb⟩ := h1
      rw [szOk_iff] at ha hb
      unfold meet at h2 ⊢
      dsimp only at h2 ⊢
      rw [szOk_iff]
      dsimp only
      (repeat' split at h2) <;> (repeat' split) <;> omega
    · simp at h
  · simp at h
theorem zipM_len (a b : List S2) (k : Nat) : (zipM a b k).length = k := by unfold zipM; simp
theorem zipM_T {a b : List S2} {k i : Nat} (h : i < k) : T (zipM a b k) i = (meetR (T a i) (T b i)).1 := by
  rw [T_eq (by rw [zipM_len]; exact h)]; simp [zipM]
theorem narrow_ok {a b : List S2} (h : (narrowQ a b).2 = 0) : (narrowQ a b).1 = zipM a b a.length ∧ a.length = b.length ∧ worstM a b a.length = 0 := by
  unfold narrowQ at h ⊢
  by_cases h1 : a.length ≠ b.length
  · rw [if_pos h1] at h; exact absurd (show (1 : Int) = 0 from h) (by decide)
  rw [if_neg h1] at h ⊢
  by_cases h2 : badM a b a.length
  · rw [if_pos h2] at h; exact absurd (show (1 : Int) = 0 from h) (by decide)
  rw [if_neg h2] at h ⊢
  by_cases h3 : worstM a b a.length = 0
  · rw [if_pos h3]; exact ⟨rfl, by omega, h3⟩
  · rw [if_neg h3] at h; exact absurd (show (23 : Int) = 0 from h) (by decide)
theorem meet_val {x y : S2} (h : (meetR x y).2 = 0) : szOk x = true := by
  unfold meetR at h
  split at h
  · next h1 => exact h1.1
  · simp at h
theorem nar_hear {s : Sc} {h : List V6} {a b : List S2} (hq : (narrowQ a b).2 = 0) : hearE s h (narrowQ a b).1 = hearE s h a := by
  obtain ⟨e, hl, hw⟩ := narrow_ok hq
  rw [e]
  have h1 : tonesB s (zipM a b a.length) = tonesB s a := by
    unfold tonesB
    rw [zipM_len]
    have ha : a.all szOk = true := List.all_eq_true.2 fun z hz => by
      obtain ⟨i, hi, rfl⟩ := List.getElem_of_mem hz
      rw [← T_eq]; exact meet_val (worst_zero a b _ hw i hi)
    have hz : (zipM a b a.length).all szOk = true := List.all_eq_true.2 fun z hz => by
      obtain ⟨i, hi, rfl⟩ := List.getElem_of_mem hz
      rw [zipM_len] at hi
      rw [← T_eq, zipM_T hi]; exact (meet_ok (worst_zero a b _ hw i hi)).1
    rw [ha, hz]
  unfold hearE
  rw [h1]
theorem sum_take {l : List Int} (hb : ∀ k (hk : k < l.length), 0 ≤ l[k] ∧ l[k] ≤ 200) : ∀ k, k ≤ l.length → 0 ≤ (l.take k).sum ∧ (l.take k).sum ≤ 200 * k
  | 0, _ => by simp
  | k + 1, hk => by
    have ih := sum_take hb k (by omega)
    have := hb k (by omega)
    rw [List.take_succ_eq_append_getElem (by omega), List.sum_append, List.sum_singleton]
    omega
theorem nrw_facts (s : Sc) (h : List V6) (l o : List S2) (hq : (narrowQ l o).2 = 0) : ((devR s h l).2 ≠ 0 ∧ (devR s h (narrowQ l o).1).2 = (devR s h l).2) ∨ ((devR s h l).2 = 0 ∧ (devR s h (narrowQ l o).1).2 = 0 ∧ (voiR s h l).2 = 0 ∧ (voiR s h (narrowQ l o).1).2 = 0 ∧
    ((voiR s h l).1.length : Int) = s.voices ∧ ((voiR s h (narrowQ l o).1).1.length : Int) = s.voices ∧ s.voices ≤ 8 ∧ (devR s h l).1.length ≤ 200 ∧
    (∀ k (hk : k < (devR s h l).1.length), (devR s h l).1[k] ∈ (devR s h (narrowQ l o).1).1) ∧
    (∀ k (hk : k < (voiR s h l).1.length) (hk2 : k < (voiR s h (narrowQ l o).1).1.length), (voiR s h l).1[k] ≤ (voiR s h (narrowQ l o).1).1[k]) ∧
    (∀ k (hk : k < (voiR s h l).1.length), 0 ≤ (voiR s h l).1[k] ∧ (voiR s h l).1[k] ≤ 200) ∧ (voiR s h l).1.sum = (devR s h l).1.length) := by
  have hh := @nar_hear s h l o hq
  obtain ⟨e, hl, hw⟩ := narrow_ok hq
  by_cases he : hearE s h l = 0
  case neg =>
    left
    rw [(dev_out he).1, (dev_out (l := (narrowQ l o).1) (by rw [hh]; exact he)).1, hh]
    exact ⟨he, rfl⟩
  have he2 : hearE s h (narrowQ l o).1 = 0 := by rw [hh]; exact he
  obtain ⟨d1, d2, d3, d4, d5⟩ := dev_in he
  obtain ⟨g1, g2, g3, g4, g5⟩ := dev_in he2
  obtain ⟨h1, h2⟩ := hear_ok.1 he
  have hlen : (tuneR s h).1.length ≤ l.length := by rw [(tune_ok h1).2.1, xsL_len, h2.2.1]; exact tun_le _ _
  rw [d1, d2, g1, g2]
  rw [e]
  rw [e] at g3
  obtain ⟨xs, hxs⟩ : ∃ x, (tuneR s h).1 = x := ⟨_, rfl⟩
  rw [hxs] at d3 d5 g3 hlen ⊢
  have hsub : (devL xs l).Sublist (devL xs (zipM l o l.length)) := filter_sub _ fun i hi hd => by
    have hi := List.mem_range.1 hi
    unfold devT at hd ⊢
    have hm := (meet_ok (worst_zero l o _ hw i (by omega))).2.1
    rw [zipM_T (by omega)]
    exact dev_narrow hm.1 hm.2 hd
  have hvl : ∀ ds, ((voiL s ds).length : Int) = s.voices := fun ds => by rw [voiL_len]; omega
  refine .inr ⟨rfl, rfl, rfl, rfl, hvl _, hvl _, d4.2, by show ((devL xs l).map fun i : Nat => (i : Int)).length ≤ 200; rw [List.length_map]; exact d3, ?_, ?_, ?_, ?_⟩
  · intro k hk
    have hk : k < ((devL xs l).map fun i : Nat => (i : Int)).length := hk
    rw [List.length_map] at hk
    show ((devL xs l).map fun i : Nat => (i : Int))[k]'(by rw [List.length_map]; exact hk) ∈ (devL xs (zipM l o l.length)).map fun i : Nat => (i : Int)
    rw [List.getElem_map]
    exact List.mem_map.2 ⟨_, hsub.subset (List.getElem_mem hk), rfl⟩
  · intro k hk hk2
    have hk : k < (voiL s (devL xs l)).length := hk
    have hkk : k < s.voices.toNat := by rwa [voiL_len] at hk
    have := voi_mono (s := s) hsub k hkk
    rw [voiL_at hkk, voiL_at hkk] at this
    show (voiL s (devL xs l))[k] ≤ (voiL s (devL xs (zipM l o l.length)))[k]
    rw [voi_get, voi_get]
    exact this
  · intro k hk
    have hk : k < (voiL s (devL xs l)).length := hk
    show 0 ≤ (voiL s (devL xs l))[k] ∧ (voiL s (devL xs l))[k] ≤ 200
    rw [voi_get hk]
    have := List.length_filter_le (fun n => decide ((s.N n).v = (k : Int))) (devL xs l)
    omega
  · show (voiL s (devL xs l)).sum = ((devL xs l).map fun i : Nat => (i : Int)).length
    rw [List.length_map]
    exact voi_sum _ fun n hn => (d5 n hn).2
set_option maxRecDepth 100000 in
set_option maxHeartbeats 16000000 in
theorem bnrw_law (vn vp vc vh vt : Value) (s : Sc) (h : List V6) (l : List S2) (vo : Value) (o : List S2) (hll : l.length ≤ 8796093022208) (w : World) (GL : Gl 0 w) (S : ScR w vn vp vc s) (V : Sl w 6 V6.list vh h) (R : Sl w 2 encS vt l) (O : Sl w 2 encS vo o) :
    Calls Tryd.prog 9 #[.agg #[.int .i64 s.voices, vn, vp, vc], vh, vt, vo] w fun e w' => e = .returned (.bool true) ∧ Ext w w' := by
  obtain ⟨an, cn, rfl, -, -, hln⟩ := S.nt.len
  obtain ⟨ap, cp, rfl, -, -, hlp⟩ := S.pr.len
  obtain ⟨ac, cc, rfl, -, -, hlc⟩ := S.cd.len
  obtain ⟨ah, ch, rfl, hch, -, -⟩ := V.len
  obtain ⟨at', ct, rfl, -, -, -⟩ := R.len
  obtain ⟨ao, co, rfl, -, -, -⟩ := O.len
  have DW := Lib.hid (@deviants_walk (.slice an s.notes.length cn) (.slice ap s.pairs.length cp) (.slice ac s.cads.length cc) (.slice ah h.length ch))
  have OW := Lib.hid (@bvoices_walk (.slice an s.notes.length cn) (.slice ap s.pairs.length cp) (.slice ac s.cads.length cc) (.slice ah h.length ch))
  have NW := @narrow_walk (.slice at' l.length ct) (.slice ao o.length co) l o (fun _ => hll)
  have hf := nrw_facts s h l o
  obtain ⟨⟨z, qe⟩, hz⟩ : ∃ z, narrowQ l o = z := ⟨_, rfl⟩
  rw [hz] at NW hf
  simp only at NW hf
  have HNW := Lib.hid NW; have HF := Lib.hid hf
  clear NW hf hz
  have X0 : Ext w (w.alloc (.cells #[.int .i64 s.voices, .slice an s.notes.length cn, .slice ap s.pairs.length cp, .slice ac s.cads.length cc] 26)) := (by repeat (first | with_reducible exact Ext.refl _ | with_reducible assumption | with_reducible apply Ext.alloc | with_reducible apply Ext.drew | (with_reducible refine Ext.setCell ?_ (by (try simp) <;> omega) _)))
  have b0_0 := block_new w (.cells #[.int .i64 s.voices, .slice an s.notes.length cn, .slice ap s.pairs.length cp, .slice ac s.cads.length cc] 26)
  obtain ⟨W0, hW0⟩ : ∃ W, (w.alloc (.cells #[.int .i64 s.voices, .slice an s.notes.length cn, .slice ap s.pairs.length cp, .slice ac s.cads.length cc] 26)) = W := ⟨_, rfl⟩
  obtain ⟨B0, hB0⟩ : ∃ B, w.heap.size = B := ⟨_, rfl⟩
  rw [hW0] at X0 b0_0
  rw [hB0] at b0_0
  have HZ0 : Hid (w.heap.size ≤ B0) := Lib.hid (by omega)
  have HW0 := Lib.hid hW0; have HB0 := Lib.hid hB0
  clear hW0 hB0
  have CB := Lib.hid (boxS b0_0)
  have S1 := S.ext X0; have V1 := V.ext X0; have G1 := GL.ext X0; have R1 := R.ext X0
  have HCH := Lib.hid hch
  have O1 := O.ext X0
  clear S V GL R b0_0 hch O
  go_enter Tryd.func9, Tryd.ntmps9
  go_wp2_with fail
  rw [HW0.out, HB0.out]
  clear HW0 HB0
  refine (bhead_walk _ G1).mono ?_
  rintro e w1 ⟨rfl, x1⟩
  go_wp2_with fail
  refine (HNW.out _ (R1.ext x1) (O1.ext x1)).mono ?_
  rintro e w1' ⟨v1, rfl, Z1, y1⟩
  have x1' := x1.trans y1
  obtain ⟨az, cz, rfl, -, -, -⟩ := Z1.len
  obtain ⟨c0, c1, c2, c3⟩ := CB.out _ x1'
  go_wp2_with fail
  refine (rfew_walk _ _ _ s _ (S1.ext x1')).mono ?_
  obtain ⟨fw, hfw⟩ : ∃ z, (decide (s.notes.length ≤ 40) && decide (s.pairs.length ≤ 60)) = z := ⟨_, rfl⟩
  rw [hfw]
  clear hfw
  rintro e w2 ⟨rfl, y2⟩
  have x2 := x1'.trans y2
  clear c0 c1 c2 c3
  cases fw with
  | false =>
    have HX := Lib.hid (X0.trans x2)
    go_wp2
    go_ret
    exact ⟨by first | rfl | simp, HX.out⟩
  | true =>
  have Z2 := Z1.ext y2
  have HX2 := Lib.hid (X0.trans x2)
  by_cases hqe : qe = 0
  case neg =>
    have t1 : (qe != 0) = true := by rw [bne_iff_ne]; exact hqe
    clear hqe
    go_wp2
    go_ret
    exact ⟨by first | rfl | simp, HX2.out⟩
  subst hqe
  have hf := HF.out rfl
  obtain ⟨⟨dl, de⟩, e1⟩ : ∃ u, devR s h l = u := ⟨_, rfl⟩
  obtain ⟨⟨gl, ge⟩, e2⟩ : ∃ u, devR s h z = u := ⟨_, rfl⟩
  obtain ⟨⟨ol, oe⟩, e3⟩ : ∃ u, voiR s h l = u := ⟨_, rfl⟩
  obtain ⟨⟨pl, pe⟩, e4⟩ : ∃ u, voiR s h z = u := ⟨_, rfl⟩
  have D1 := Lib.hid fun w' (y : Ext w2 w') => DW.out (.slice at' l.length ct) s h l w' (G1.ext (x2.trans y)) (S1.ext (x2.trans y)) (V1.ext (x2.trans y)) (R1.ext (x2.trans y))
  have D2 := Lib.hid fun w' (y : Ext w2 w') => DW.out (.slice az z.length cz) s h z w' (G1.ext (x2.trans y)) (S1.ext (x2.trans y)) (V1.ext (x2.trans y)) (Z2.ext y)
  have D3 := Lib.hid fun w' (y : Ext w2 w') => OW.out (.slice at' l.length ct) s h l w' (G1.ext (x2.trans y)) (S1.ext (x2.trans y)) (V1.ext (x2.trans y)) (R1.ext (x2.trans y))
  have D4 := Lib.hid fun w' (y : Ext w2 w') => OW.out (.slice az z.length cz) s h z w' (G1.ext (x2.trans y)) (S1.ext (x2.trans y)) (V1.ext (x2.trans y)) (Z2.ext y)
  rw [e1] at D1 hf; rw [e2] at D2 hf; rw [e3] at D3 hf; rw [e4] at D4 hf
  simp only at D1 D2 D3 D4 hf
  have HF2 := Lib.hid hf
  clear e1 e2 e3 e4 hf HF HNW DW OW Z1
  obtain ⟨c0, c1, c2, c3⟩ := CB.out _ x2
  go_wp2_with fail
  refine (D1.out _ (Ext.refl _)).mono ?_
  rintro e w3 ⟨v3, rfl, L3, y3⟩
  clear c0 c1 c2 c3
  obtain ⟨c0, c1, c2, c3⟩ := CB.out _ (x2.trans y3)
  go_wp2_with fail
  refine (D2.out _ y3).mono ?_
  rintro e w4 ⟨v4, rfl, L4, y4'⟩
  have y4 := y3.trans y4'
  clear c0 c1 c2 c3
  obtain ⟨c0, c1, c2, c3⟩ := CB.out _ (x2.trans y4)
  go_wp2_with fail
  refine (D3.out _ y4).mono ?_
  rintro e w5 ⟨v5, rfl, L5, y5'⟩
  have y5 := y4.trans y5'
  clear c0 c1 c2 c3
  obtain ⟨c0, c1, c2, c3⟩ := CB.out _ (x2.trans y5)
  go_wp2_with fail
  refine (D4.out _ y5).mono ?_
  rintro e w6 ⟨v6, rfl, L6, y6'⟩
  have y6 := y5.trans y6'
  have L3 := L3.ext (y4'.trans (y5'.trans y6'))
  have L4 := L4.ext (y5'.trans y6')
  have L5 := L5.ext y6'
  clear c0 c1 c2 c3
  obtain ⟨a3, q3, rfl, -, -, -⟩ := L3.len
  obtain ⟨a4, q4, rfl, -, -, -⟩ := L4.len
  obtain ⟨a5, q5, rfl, -, -, -⟩ := L5.len
  obtain ⟨a6, q6, rfl, -, -, -⟩ := L6.len
  have HX6 := Lib.hid (X0.trans (x2.trans y6))
  obtain ⟨c0, c1, c2, c3⟩ := CB.out _ (x2.trans y6)
  clear D1 D2 D3 D4 y3 y4 y4' y5 y5' y6 y6' x1 x1' x2 y1 y2 Z2
  by_cases hde : de = 0
  case neg =>
    obtain rfl : ge = de := by
      rcases HF2.out with h9 | h9
      · exact h9.2
      · exact absurd h9.1 hde
    have t1 : (ge != 0) = true := by rw [bne_iff_ne]; exact hde
    have t2 : (ge == ge) = true := beq_self_eq_true _
    clear hde
    go_wp2
    go_ret
    exact ⟨by first | rfl | simp, HX6.out⟩
  subst hde
  obtain ⟨rfl, rfl, rfl, hv1, hv2, hv8, hd200, hmem, hle, hbd, hsum⟩ : ge = 0 ∧ oe = 0 ∧ pe = 0 ∧ _ := by
    rcases HF2.out with h9 | h9
    · exact absurd rfl h9.1
    · exact h9.2
  have hst := sum_take hbd
  have HME := Lib.hid hmem; have HLE := Lib.hid hle; have HBD := Lib.hid hbd; have HSU := Lib.hid hsum; have HST := Lib.hid hst; have HV1 := Lib.hid hv1; have HV2 := Lib.hid hv2
  have t1 : ((ol.length : Int) != s.voices) = false := by rw [bne_eq_false_iff_eq]; exact hv1
  have t2 : ((pl.length : Int) != s.voices) = false := by rw [bne_eq_false_iff_eq]; exact hv2
  have hol : ol.length ≤ 8 := by omega
  clear hmem hle hbd hsum hst hv1 hv2 hv8 HF2
  go_wp2
  clear t1 t2 c0 c1 c2 c3
  go_loopw [20] (fun i wr => ∃ k : Nat, k ≤ dl.length ∧ i = .int .i64 k ∧ Ext w6 wr) (fun i _ => dl.length - (intOf i).toNat)
  case atStart => exact ⟨0, by omega, by first | rfl | trivial, Ext.refl _⟩
  case round =>
    obtain ⟨k, hk, rfl, X⟩ := hrel
    by_cases hlt : k < dl.length
    case pos =>
      obtain ⟨b, o', rfl, n0⟩ := Sl.num (L3.ext X) k hlt
      have hm := HME.out k hlt
      obtain ⟨x, hx⟩ : ∃ x, dl[k] = x := ⟨_, rfl⟩
      rw [hx] at n0 hm
      have i1 : (0 : Int) ≤ (k : Int) := by omega
      have i2 : (k : Int) < (dl.length : Int) := by omega
      have hm4 := bhas_walk (.slice a4 gl.length q4) gl x wr (L4.ext X)
      rw [decide_eq_true hm] at hm4
      clear hx hm
      go_wp2_with fail
      refine hm4.mono ?_
      clear hm4
      rintro e w7 ⟨rfl, x7⟩
      have HX := Lib.hid (X.trans x7)
      go_wp2
      go_roundw
      case rel => exact ⟨k + 1, by omega, by go_num, HX.out⟩
      case measure => simp [intOf] <;> omega
    case neg =>
    obtain rfl : k = dl.length := by omega
    obtain ⟨W9, rfl⟩ : ∃ z : World, z = wr := ⟨_, rfl⟩
    have HX9 := Lib.hid X
    clear X
    go_wp2
    go_loopw [21, 22] (fun v i wr => ∃ k : Nat, k ≤ ol.length ∧ v = .int .i64 (ol.take k).sum ∧ i = .int .i64 k ∧ Ext W9 wr) (fun _ i _ => ol.length - (intOf i).toNat)
    case atStart => exact ⟨0, by omega, by first | rfl | simp, by first | rfl | trivial, Ext.refl _⟩
    case round =>
      obtain ⟨k, hk, rfl, rfl, Y⟩ := hrel
      by_cases hlt : k < ol.length
      case pos =>
        have hlt2 : k < pl.length := by have := HV1.out; have := HV2.out; omega
        obtain ⟨b, o', rfl, n0⟩ := Sl.num (L5.ext (HX9.out.trans Y)) k hlt
        obtain ⟨b', o'', rfl, m0⟩ := Sl.num (L6.ext (HX9.out.trans Y)) k hlt2
        have hl := HLE.out k hlt hlt2
        have hb := HBD.out k hlt
        have hs := HST.out k (by omega)
        have hss : (ol.take (k + 1)).sum = (ol.take k).sum + ol[k] := by rw [List.take_succ_eq_append_getElem hlt, List.sum_append, List.sum_singleton]
        obtain ⟨x, hx⟩ : ∃ x, ol[k] = x := ⟨_, rfl⟩
        obtain ⟨y, hy⟩ : ∃ y, pl[k] = y := ⟨_, rfl⟩
        obtain ⟨u, hu⟩ : ∃ u, (ol.take k).sum = u := ⟨_, rfl⟩
        rw [hx] at n0 hl hb hss
        rw [hy] at m0 hl
        rw [hu] at hs hss ⊢
        have i1 : (0 : Int) ≤ (k : Int) := by omega
        have i2 : (k : Int) < (ol.length : Int) := by omega
        have i3 : (k : Int) < (pl.length : Int) := by omega
        have t1 : decide (y < x) = false := decide_eq_false (by omega)
        have HSS := Lib.hid hss
        have E1 : IntKind.i64.wrap (u + x) = u + x := IntWalk.i64_in _ (by omega)
        have HXY := Lib.hid Y
        clear hx hy hu hss hl Y
        go_wp2
        go_quiet (fail)
        go_wp2
        go_roundw
        case rel => exact ⟨k + 1, by omega, by rw [HSS.out] <;> first | rfl | go_num, by go_num, HXY.out.trans (Ext.drawn _ _)⟩
        case measure => simp [intOf] <;> omega
      case neg =>
      obtain rfl : k = ol.length := by omega
      rw [List.take_length, HSU.out]
      have HX := Lib.hid (HX6.out.trans (HX9.out.trans Y))
      go_wp2
      go_ret
      exact ⟨by first | rfl | simp, HX.out⟩

theorem blameNarrowed_args (H : Type) (enc : TypeId × Value → H) (W : World) (base : Nat) (vs : List Value) (ds : List (DataW H)) (_ : ∀ k, (OpenSpec.ofChange Rows.blameNarrowedSpec).cond = some k → k H ds = true) (hL : laidMetH Tryd.prog Rows.blameNarrowedRow.laid W) (hA : Args enc Tryd.prog W base Tryd.f9.params.toList vs ds) :
    Calls Tryd.prog 9 vs.toArray W fun e W' => e = .returned (.bool true) ∧ Ext W W' := by
  rw [Tryd.params9] at hA
  obtain ⟨v0, _, d0, _, rfl, rfl, h0, hA⟩ := hA.cons
  obtain ⟨v1, _, d1, _, rfl, rfl, h1, hA⟩ := hA.cons
  obtain ⟨v2, _, d2, _, rfl, rfl, h2, hA⟩ := hA.cons
  obtain ⟨v3, _, d3, _, rfl, rfl, h3, hA⟩ := hA.cons
  obtain ⟨rfl, rfl⟩ := hA.nil
  obtain ⟨s0, vn0, vp0, vc0, rfl, S0⟩ := arg_score h0
  obtain ⟨l1, S1, n1⟩ := arg_vecs h1
  obtain ⟨l2, S2, n2⟩ := arg_sizes h2
  obtain ⟨l3, S3, n3⟩ := arg_sizes h3
  exact bnrw_law _ _ _ _ _ s0 l1 l2 _ l3 (by omega) W (gv_of hL) S0 S1 S2 S3

theorem blameNarrowed_met (os : Os) : laidMet Tryd.prog Rows.blameNarrowedRow.laid ((laidWorld os).forCall (fun _ _ => 0) ⟨#[], #[.agg #[.int .i64 0, .slice none 0 0, .slice none 0 0, .slice none 0 0], .slice none 0 0, .slice none 0 0, .slice none 0 0], []⟩).memory := laidMet_of_run' 8 (by kernel_rfl) (by kernel_rfl)
theorem blameNarrowed_reads (os : Os) {H : Type} (enc : TypeId × Value → H) : ∃ places, DataW.whole enc Tryd.prog ((laidWorld os).forCall (fun _ _ => 0) ⟨#[], #[.agg #[.int .i64 0, .slice none 0 0, .slice none 0 0, .slice none 0 0], .slice none 0 0, .slice none 0 0, .slice none 0 0], []⟩).memory Tryd.f9.params.toList Rows.blameNarrowedSpec.vars false #[.agg #[.int .i64 0, .slice none 0 0, .slice none 0 0, .slice none 0 0], .slice none 0 0, .slice none 0 0, .slice none 0 0].toList 8 = some ([.agg [.lit (.int .i64 0), .nil, .nil, .nil], .nil, .nil, .nil], [], places) := ⟨[], by kernel_rfl⟩
set_option maxRecDepth 100000 in
theorem blameNarrowed_lifted (os : Os) (started : os.Started) (H : Type) (enc : TypeId × Value → H) (F : Stop.Interp) :
    ReturnsInHanded {} Tryd.checked os 9 .any ((OpenSpec.ofChange Rows.blameNarrowedSpec).preRow enc Tryd.prog Tryd.f9 Rows.blameNarrowedRow.domain false Rows.blameNarrowedRow.laid) (((OpenSpec.ofChange Rows.blameNarrowedSpec).at F).post enc Tryd.prog Tryd.f9 false true false false) := by
  obtain ⟨places, hx⟩ := blameNarrowed_reads os enc
  exact law_row (C := Tryd.checked) (s := (OpenSpec.ofChange Rows.blameNarrowedSpec)) (by kernel_rfl) started (by kernel_rfl) Tryd.func9
    (witness_row_at (enc := enc) (C := Tryd.checked) false (laidWorld os) #[.agg #[.int .i64 0, .slice none 0 0, .slice none 0 0, .slice none 0 0], .slice none 0 0, .slice none 0 0, .slice none 0 0] rfl (by kernel_rfl) (by kernel_rfl) (by kernel_rfl) (OpenSpec.preRow_of_cond 8 hx (by kernel_rfl) (fun k hk => by cases hk) (by kernel_rfl) (blameNarrowed_met os)))
    (by kernel_rfl) (by kernel_rfl) (by kernel_rfl) rfl (fun ds h => by match ds, h with | [_, _, _, _], _ => rfl) (blameNarrowed_args H enc)
theorem blameNarrowed_said : Rows.BlameNarrowedSaid :=
  OpenClaim.holds_of_cond 9 Tryd.f9 rfl rfl rfl rfl rfl rfl rfl ⟨rfl, rfl, rfl, rfl, rfl⟩ rfl rfl rfl rfl rfl (by kernel_rfl) Tryd.func9 (by kernel_rfl)
    (of_decide_eq_true (by kernel_rfl)) (by unfold Func.isWrapper; first | (rw [if_pos (by decide +kernel)]; kernel_rfl) | (rw [if_neg (by decide +kernel)]; exact ⟨rfl, rfl⟩))
    (fun os started H enc _ F => by rw [OpenClaim.pre_eq_preRow]; exact blameNarrowed_lifted os started H enc F)
theorem blameNarrowed_plain (f : FuncId) (fn : Func) (hf : Tryd.pinned.checked.prog.funcNamed "schisma/schismalaw40.BlameNarrowed" = some f) (hfn : Tryd.pinned.checked.prog.funcs[f]? = some fn) :
    false = Tryd.pinned.checked.prog.looks [] ∧ ∀ (j : Nat) t, fn.params[j]? = some t → Tryd.pinned.checked.prog.wantsStandIn t = false := by
  obtain rfl : f = 9 := Option.some.inj ((show Tryd.prog.funcNamed "schisma/schismalaw40.BlameNarrowed" = some 9 by kernel_rfl).symm.trans hf) |>.symm
  obtain rfl : fn = Tryd.f9 := (Option.some.inj (Tryd.func9.symm.trans hfn)).symm
  refine ⟨by kernel_rfl, fun j t ht => ?_⟩
  have hall : Tryd.f9.params.all (fun t => !Tryd.prog.wantsStandIn t) = true := by kernel_rfl
  have := (Array.all_eq_true'.1 hall) t (Array.mem_of_getElem? ht)
  have e : Tryd.prog.wantsStandIn t = false := by simpa using this
  exact e
/-- The card. -/
theorem blameNarrowed_holds : Rows.BlameNarrowedCardSaid :=
  Claim7.holds_tied_plain_at .later [] _ _ _ _ blameNarrowed_said (fun _ h => by cases h) (by kernel_rfl) (fun _ h => by cases h) blameNarrowed_row_tie rfl ⟨rfl, rfl⟩ (by kernel_rfl) rfl blameNarrowed_plain (by kernel_rfl)
end Go.Proofs.YtbemjekkojgbpaaDoor
