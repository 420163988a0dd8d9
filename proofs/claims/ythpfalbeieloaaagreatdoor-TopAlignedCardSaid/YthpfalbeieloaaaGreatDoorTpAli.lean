/-
  Libraries of these proofs, laid as one text: TpC, TpAli.
-/
import Derived.Test.YthpfalbeieloaaaGreatDoorTpB
import Derived.Test.YthpfalbeieloaaaGreatDoorAlQ
import Derived.Test.YthpfalbeieloaaaGreatDoorR23A
/-
  Plain: the dues and the heard tones of a score whose rows are true (TopAligned); a price as an argument.
-/
set_option maxRecDepth 100000
set_option linter.unusedVariables false
namespace Go.Proofs.YthpfalbeieloaaaGreatDoor
open Go.RowKit Go.Sx Go.Sx.Sz Go.Sx.Sc Go.Sx.Au Go.Sx.Po Go.Sx.Bl Go.Sx.Al Go.Sx.Tp Go.ChangeShapes Go.WideShapes Go.ChangeAt

def dueL (s : Sc) (xs : List V6) (k : Nat) : List Due := (List.range k).map fun i => ⟨(s.N i).f, xs.getD i V6.zero⟩
def hrdL (s : Sc) (ts : List S2) (late : Int) (k : Nat) : List Hrd := (List.range k).map fun i => ⟨(s.N i).f + late, ts.getD i default⟩
theorem dueL_len (s : Sc) (xs : List V6) (k : Nat) : (dueL s xs k).length = k := by simp [dueL]
theorem hrdL_len (s : Sc) (ts : List S2) (late : Int) (k : Nat) : (hrdL s ts late k).length = k := by simp [hrdL]
theorem dueL_step {s : Sc} {xs : List V6} {k : Nat} (hn : k < s.notes.length) (hk : k < xs.length) : dueL s xs (k + 1) = dueL s xs k ++ [⟨s.notes[k].f, xs[k]⟩] := by
  unfold dueL Sc.N
  rw [List.range_succ, List.map_append, List.map_cons, List.map_nil, List.getD_eq_getElem?_getD (i := k) (l := xs), List.getElem?_eq_getElem hk, List.getD_eq_getElem?_getD (i := k) (l := s.notes), List.getElem?_eq_getElem hn]; rfl
theorem hrdL_step {s : Sc} {ts : List S2} {late : Int} {k : Nat} (hn : k < s.notes.length) (hk : k < ts.length) : hrdL s ts late (k + 1) = hrdL s ts late k ++ [⟨s.notes[k].f + late, ts[k]⟩] := by
  unfold hrdL Sc.N
  rw [List.range_succ, List.map_append, List.map_cons, List.map_nil, List.getD_eq_getElem?_getD (i := k) (l := ts), List.getElem?_eq_getElem hk, List.getD_eq_getElem?_getD (i := k) (l := s.notes), List.getElem?_eq_getElem hn]; rfl
theorem ali_mc {p : Prc} {late f : Int} {l : List Row} {x : V6} (hl : 0 ≤ late) (h : trueB l x = true) : mc p ⟨f, x⟩ ⟨f + late, (toneR l).1⟩ = late := by
  obtain ⟨-, h2, h3, h4⟩ := tone_true h
  have h7 := (trueB_iff.1 h).2.1
  have e : dsz ⟨f, x⟩ = wantS x := by
    unfold dsz
    rw [ofR_ok h7]
    simp only
    rw [sizeR_ok (want_ok h7).1]; rfl
  unfold mc
  rw [e, if_pos (cmp_has h7 h2 h3 h4)]
  simp only [absd]
  split <;> omega
/-- What Align answers on the dues and the heard tones. -/
theorem ali_facts {s : Sc} {xs : List V6} {ls : List (List Row)} {late : Int} {p : Prc} {n : Nat} (hl : 0 ≤ late) (hx : xs.length = n) (hls : ls.length = n) (ht : ∀ k (h1 : k < ls.length) (h2 : k < xs.length), trueB ls[k] xs[k] = true)
    (hok : alOk (dueL s xs n) (hrdL s (ls.map fun l => (toneR l).1) late n) p = true) :
    ∃ (l : List Mt) (t : List (List Int)) (c : Int), alLr (dueL s xs n) (hrdL s (ls.map fun l => (toneR l).1) late n) p = l ∧ alTr (dueL s xs n) (hrdL s (ls.map fun l => (toneR l).1) late n) p = t ∧ alCr (dueL s xs n) (hrdL s (ls.map fun l => (toneR l).1) late n) p = c ∧ alEr (dueL s xs n) (hrdL s (ls.map fun l => (toneR l).1) late n) p = 0 ∧
      checkR (dueL s xs n) (hrdL s (ls.map fun l => (toneR l).1) late n) p l t = (true, 0) ∧ 0 ≤ c ∧ c ≤ late * (n : Int) ∧ (late = 0 → l.length = n ∧ ∀ k (h : k < l.length), l[k] = ⟨(k : Nat), (k : Nat)⟩) := by
  have hv := alOk_iff.1 hok
  have hd := dueL_len s xs n
  have hh := hrdL_len s (ls.map fun l => (toneR l).1) late n
  have hm : ∀ i (h1 : i < (dueL s xs n).length) (h2 : i < (hrdL s (ls.map fun l => (toneR l).1) late n).length), mc p (dueL s xs n)[i] (hrdL s (ls.map fun l => (toneR l).1) late n)[i] = late := fun i h1 h2 => by
    have h3 : i < ls.length := by omega
    have h4 : i < xs.length := by omega
    have h5 := @ali_mc p late (s.N i).f _ _ hl (ht i h3 h4)
    simp only [dueL, hrdL, List.getElem_map, List.getElem_range]
    rw [List.getD_eq_getElem?_getD, List.getElem?_eq_getElem h4, List.getD_eq_getElem?_getD, List.getElem?_map, List.getElem?_eq_getElem h3]
    exact h5
  have hb := best_late (p := p) (late := late) (dueL s xs n) (hrdL s (ls.map fun l => (toneR l).1) late n) (by omega) fun i h1 h2 => by rw [hm i h1 h2]; omega
  have ht0 := (tab_small hv (Nat.zero_le _) (Nat.zero_le _)).1
  refine ⟨_, _, _, by rw [alLr, if_pos hok], by rw [alTr, if_pos hok], by rw [alCr, if_pos hok], by rw [alEr, if_pos hok], by rw [checkR, if_pos hok, check_align hok], ht0, ?_, fun h0 => ?_⟩
  · rw [hd] at hb
    unfold tab
    exact hb
  · subst h0
    have hp := path_own hv (by omega) hm ((dueL s xs n).length + (hrdL s (ls.map fun l => (toneR l).1) 0 n).length) 0 (Nat.zero_le _) (by omega)
    have hpl : pathL (dueL s xs n) (hrdL s (ls.map fun l => (toneR l).1) 0 n) p = (List.range n).map fun k : Nat => (⟨(0 + k : Nat), (0 + k : Nat)⟩ : Mt) := by
      unfold pathL
      rw [hp, hd, Nat.sub_zero]
    rw [hpl]
    refine ⟨by simp, fun k h => ?_⟩
    rw [List.getElem_map, List.getElem_range, Nat.zero_add]
theorem tonR_is {ls : List (List Row)} (h : (tonR ls).2 = true) : (tonR ls).1 = ls.map fun l => (toneR l).1 := by
  unfold tonR at h ⊢
  split at h
  · next e => rw [if_pos e]
  · cases h
theorem tonR_len {ls : List (List Row)} (h : (tonR ls).2 = true) : (tonR ls).1.length = ls.length := by rw [tonR_is h, List.length_map]
theorem late_mul {late : Int} {n : Nat} (h0 : 0 ≤ late) (h1 : late ≤ 100000) (hn : n ≤ 40) : 0 ≤ late * (n : Int) ∧ late * (n : Int) ≤ 4000000 := by
  refine ⟨Int.mul_nonneg h0 (by omega), ?_⟩
  have := Int.mul_le_mul h1 (show (n : Int) ≤ 40 by omega) (by omega) (by omega)
  omega
theorem et_due : ET Tryz.prog 39 48 7 56 := .mk' (z := .agg #[.int .i64 0, .int .i64 0, .int .i64 0, .int .i64 0, .int .i64 0, .int .i64 0, .int .i64 0]) Tryz.underlying39 (by kernel_rfl) rfl (by decide) (by decide)
theorem et_hrd : ET Tryz.prog 40 52 3 24 := .mk' (z := .agg #[.int .i64 0, .int .i64 0, .int .i64 0]) Tryz.underlying40 (by kernel_rfl) rfl (by decide) (by decide)
theorem el_price {H : Type} {enc : TypeId × Value → H} {W : World} : El enc Tryz.prog W 30 2 (fun p : Prc => [.int .i64 p.skip, .int .i64 p.off]) (fun p => Fits .i64 p.skip ∧ Fits .i64 p.off) :=
  (El.struct Tryz.underlying30 (by kernel_rfl) (Fs.cons (El.int Tryz.underlying3) (by kernel_rfl) rfl (Fs.cons (El.int Tryz.underlying3) (by kernel_rfl) rfl (Fs.nil _)))).map
    (fun a => (⟨a.1, a.2.1⟩ : Prc)) (fun _ => rfl) (fun _ h => ⟨h.1, h.2.1⟩)
theorem arg_price {H : Type} {enc : TypeId × Value → H} {W : World} {base : Nat} {v : Value} {d : DataW H} (h : Arg enc Tryz.prog W base 30 v d) : ∃ p : Prc, v = .agg #[.int .i64 p.skip, .int .i64 p.off] ∧ Fits .i64 p.skip ∧ Fits .i64 p.off :=
  Arg.struct Tryz.underlying30 el_price h
end Go.Proofs.YthpfalbeieloaaaGreatDoor

/-
  Proved: 'TopAligned' returns true for every input and leaves its arguments as they were. No condition.
-/
set_option linter.unusedVariables false
namespace Go.Proofs.YthpfalbeieloaaaGreatDoor
open Go.RowKit Go.Sx Go.Sx.Sz Go.Sx.Sc Go.Sx.Au Go.Sx.Po Go.Sx.Bl Go.Sx.Al Go.Sx.Tp Go.ChangeShapes Go.WideShapes Go.ChangeAt

set_option maxRecDepth 100000 in
set_option maxHeartbeats 16000000 in
theorem topali_law (vn vp vc vh vr : Value) (s : Sc) (h : List V6) (ls : List (List Row)) (late : Int) (p : Prc) (w : World) (GL : Gv 0 1 w) (S : ScR w vn vp vc s) (V : Sl w 6 V6.list vh h) (R : RowsR w vr ls) :
    Calls Tryz.prog 3 #[.agg #[.int .i64 s.voices, vn, vp, vc], vh, vr, .int .i64 late, .agg #[.int .i64 p.skip, .int .i64 p.off]] w fun e w' => e = .returned (.bool true) ∧ Ext w w' := by
  obtain ⟨an, cn, rfl, -, -, hln⟩ := S.nt.len
  obtain ⟨ap, cp, rfl, -, -, hlp⟩ := S.pr.len
  obtain ⟨ac, cc, rfl, -, -, hlc⟩ := S.cd.len
  obtain ⟨ah, ch, rfl, -, -, -⟩ := V.len
  obtain ⟨ar, cr, rfl, hlr⟩ := R.len
  have TW := @tune_walk (.slice an s.notes.length cn) (.slice ap s.pairs.length cp) (.slice ac s.cads.length cc) (.slice ah h.length ch) s h
  have hto := fun e => (@tune_ok s h e)
  obtain ⟨⟨xs, te⟩, hte⟩ : ∃ z, tuneR s h = z := ⟨_, rfl⟩
  rw [hte] at TW hto
  simp only at TW hto
  have TNW := fun (hn : ls.length ≤ 1000) => tones41_walk (.slice ar ls.length cr) ls hn
  have htl := @tonR_is ls
  obtain ⟨⟨ts, tb⟩, htb⟩ : ∃ z, tonR ls = z := ⟨_, rfl⟩
  rw [htb] at TNW htl
  simp only at TNW htl
  have HTW := Lib.hid TW; have HTO := Lib.hid hto; have HTNW := Lib.hid TNW; have HTL := Lib.hid htl
  clear TW hto hte TNW htl htb
  have X0 : Ext w ((w.alloc (.cells #[.int .i64 s.voices, .slice an s.notes.length cn, .slice ap s.pairs.length cp, .slice ac s.cads.length cc] 26)).alloc (.cells #[.int .i64 p.skip, .int .i64 p.off] 30)) := (by repeat (first | with_reducible exact Ext.refl _ | with_reducible assumption | with_reducible apply Ext.alloc | with_reducible apply Ext.drew | (with_reducible refine Ext.setCell ?_ (by (try simp) <;> omega) _)))
  have b0_0 := block_alloc (block_new w (.cells #[.int .i64 s.voices, .slice an s.notes.length cn, .slice ap s.pairs.length cp, .slice ac s.cads.length cc] 26)) (.cells #[.int .i64 p.skip, .int .i64 p.off] 30)
  have b0_1 := block_at (w := (w.alloc (.cells #[.int .i64 s.voices, .slice an s.notes.length cn, .slice ap s.pairs.length cp, .slice ac s.cads.length cc] 26))) (n := w.heap.size + 1) (by simp) (.cells #[.int .i64 p.skip, .int .i64 p.off] 30)
  obtain ⟨W0, hW0⟩ : ∃ W, ((w.alloc (.cells #[.int .i64 s.voices, .slice an s.notes.length cn, .slice ap s.pairs.length cp, .slice ac s.cads.length cc] 26)).alloc (.cells #[.int .i64 p.skip, .int .i64 p.off] 30)) = W := ⟨_, rfl⟩
  obtain ⟨B0, hB0⟩ : ∃ B, w.heap.size = B := ⟨_, rfl⟩
  rw [hW0] at X0 b0_0 b0_1
  rw [hB0] at b0_0 b0_1
  have HZ0 : Hid (w.heap.size ≤ B0) := Lib.hid (by omega)
  have HW0 := Lib.hid hW0; have HB0 := Lib.hid hB0
  clear hW0 hB0
  have CB := Lib.hid (boxS b0_0)
  have HB1 := Lib.hid b0_1
  have S1 := S.ext X0; have V1 := V.ext X0; have G1 := GL.ext X0; have R1 := R.ext X0
  clear S V GL R b0_0 b0_1
  go_enter Tryz.func3, Tryz.ntmps3
  go_wp2_with fail
  rw [HW0.out, HB0.out]
  clear HW0 HB0
  refine (head41_walk _ G1).mono ?_
  rintro e w1 ⟨rfl, x1⟩
  obtain ⟨c0, c1, c2, c3⟩ := CB.out _ x1
  go_wp2_with fail
  refine (rfew_walk _ _ _ s _ (S1.ext x1)).mono ?_
  obtain ⟨fw, hfw⟩ : ∃ z, (decide (s.notes.length ≤ 40) && decide (s.pairs.length ≤ 60)) = z := ⟨_, rfl⟩
  rw [hfw]
  have HFW := Lib.hid hfw
  clear hfw
  rintro e w2 ⟨rfl, y2⟩
  have x2 := x1.trans y2
  clear c0 c1 c2 c3
  obtain ⟨d0, d1, d2, d3⟩ := CB.out _ x2
  cases fw with
  | false =>
    have HX := Lib.hid (X0.trans x2)
    clear d0 d1 d2 d3
    go_wp2
    go_ret
    exact ⟨by first | rfl | simp, HX.out⟩
  | true =>
  by_cases hrn : ls.length = s.notes.length
  case neg =>
    have t1 : ((ls.length : Int) != (s.notes.length : Int)) = true := by rw [bne_iff_ne]; omega
    have HX := Lib.hid (X0.trans x2)
    clear hrn
    go_wp2
    go_ret
    exact ⟨by first | rfl | simp, HX.out⟩
  have t1 : ((ls.length : Int) != (s.notes.length : Int)) = false := by rw [bne_eq_false_iff_eq]; omega
  have HRN := Lib.hid hrn
  clear hrn
  by_cases hl0 : late < 0
  case pos =>
    have t2 : decide (late < 0) = true := decide_eq_true hl0
    have HX := Lib.hid (X0.trans x2)
    clear hl0
    go_wp2
    go_ret
    exact ⟨by first | rfl | simp, HX.out⟩
  have t2 : decide (late < 0) = false := decide_eq_false hl0
  have HL0 := Lib.hid (show 0 ≤ late by omega)
  clear hl0
  by_cases hl1 : 100000 < late
  case pos =>
    have t3 : decide (100000 < late) = true := decide_eq_true hl1
    have HX := Lib.hid (X0.trans x2)
    clear hl1
    go_wp2
    go_ret
    exact ⟨by first | rfl | simp, HX.out⟩
  have t3 : decide (100000 < late) = false := decide_eq_false hl1
  have HL1 := Lib.hid (show late ≤ 100000 by omega)
  have HN40 : Hid (s.notes.length ≤ 40) := Lib.hid (by have := HFW.out; simp only [Bool.and_eq_true, decide_eq_true_eq] at this; exact this.1)
  clear hl1
  go_wp2_with fail
  refine (HTW.out _ (S1.ext x2) (V1.ext x2)).mono ?_
  rintro e w3 ⟨v3, rfl, T3, y3⟩
  have x3 := x2.trans y3
  clear d0 d1 d2 d3 t1 t2 t3
  obtain ⟨a3, q3, rfl, -, -, -⟩ := T3.len
  go_wp2_with fail
  refine (HTNW.out (by have := HRN.out; have := HN40.out; omega) _ (G1.ext x3) (R1.ext x3)).mono ?_
  rintro e w4 ⟨v4, rfl, N4, y4⟩
  obtain ⟨a4, q4, rfl, -, -, -⟩ := N4.len
  have HX4 := Lib.hid (X0.trans (x3.trans y4))
  have HY4 := Lib.hid (x3.trans y4)
  have HT4 := Lib.hid (T3.ext y4); have HN4 := Lib.hid N4
  clear T3 N4 x1 x2 x3 y2 y3 y4
  by_cases h0 : te = 0
  case neg =>
    have t1 : (te != 0) = true := by rw [bne_iff_ne]; exact h0
    clear h0
    go_wp2
    go_ret
    exact ⟨by first | rfl | simp, HX4.out⟩
  subst h0
  by_cases hxl : xs.length = ls.length
  case neg =>
    have t1 : ((xs.length : Int) != (ls.length : Int)) = true := by rw [bne_iff_ne]; omega
    clear hxl
    go_wp2
    go_ret
    exact ⟨by first | rfl | simp, HX4.out⟩
  have t1 : ((xs.length : Int) != (ls.length : Int)) = false := by rw [bne_eq_false_iff_eq]; omega
  have HXL := Lib.hid hxl
  clear hxl
  cases tb with
  | false =>
    go_wp2
    go_ret
    exact ⟨by first | rfl | simp, HX4.out⟩
  | true =>
  have HTS := Lib.hid (HTL.out rfl)
  have HTSL : Hid (ts.length = ls.length) := Lib.hid (by rw [HTS.out, List.length_map])
  have hok := (HTO.out (by first | rfl | trivial)).1
  have HNK : Hid (∀ i, i < s.notes.length → 0 ≤ (s.N i).f ∧ (s.N i).f ≤ 100000) := Lib.hid fun i hi => by have := hok.nt.1 i hi; unfold noteOk at this; omega
  have hx200 : xs.length ≤ 200 := by have := HXL.out; have := HRN.out; have := HN40.out; omega
  clear hok
  go_wp2
  clear t1
  go_loopw [16, 17, 18] (fun v u i wr => ∃ k : Nat, k ≤ xs.length ∧ i = .int .i64 k ∧ Hid (∀ j (h1 : j < ls.length) (h2 : j < xs.length), j < k → trueB ls[j] xs[j] = true) ∧ OwnR wr w4.heap.size 48 7 encD v (dueL s xs k) ∧ OwnR wr w4.heap.size 52 3 encH u (hrdL s ts late k) ∧ Ext w4 wr) (fun _ _ i _ => xs.length - (intOf i).toNat)
  case atStart => exact ⟨0, by omega, by first | rfl | trivial, Lib.hid (fun j _ _ h9 => absurd h9 (Nat.not_lt_zero _)), OwnR.nil, OwnR.nil, Ext.refl _⟩
  case round =>
    obtain ⟨k, hk, rfl, HT, od, oh, X⟩ := hrel
    obtain ⟨va, vm, vd, hvd⟩ := od.shape
    subst hvd
    obtain ⟨ua, um, ud, hud⟩ := oh.shape
    subst hud
    by_cases hlt : k < xs.length
    case pos =>
      have hl1 : k < ls.length := by have := HXL.out; omega
      have hl2 : k < ts.length := by have := HTSL.out; omega
      have hl3 : k < s.notes.length := by have := HRN.out; omega
      obtain ⟨bR, oR, aR, qR, rfl, q0, SR⟩ := (R1.ext HY4.out).at k hl1
      obtain ⟨bX, oX, rfl, p0, p1, p2, p3, p4, p5⟩ := Sl.vec HT4.out k hlt
      obtain ⟨bT, oT, rfl, z0, z1⟩ := Sl.sz HN4.out k hl2
      obtain ⟨bN, oN, rfl, nat⟩ := Sl.nt (S1.nt.ext HY4.out) k hl3
      have m1 := nat.c1
      have TRW := Lib.hid fun w' (y : Ext w4 w') => true41_walk (.slice aR ls[k].length qR) ls[k] xs[k] w' (G1.ext (HY4.out.trans y)) (SR.ext y)
      have hst : ∀ tb, trueB ls[k] xs[k] = tb → tb = true → ∀ j (h1 : j < ls.length) (h2 : j < xs.length), j < k + 1 → trueB ls[j] xs[j] = true := fun tb e1 e2 j h1 h2 h3 => by
        rcases Nat.lt_or_ge j k with h4 | h4
        · exact HT.out j h1 h2 h4
        · obtain rfl : j = k := by omega
          rw [e1, e2]
      obtain ⟨tb, htb⟩ : ∃ z, trueB ls[k] xs[k] = z := ⟨_, rfl⟩
      have hst := hst tb htb
      rw [htb] at TRW
      have HDS := Lib.hid (dueL_step hl3 hlt); have HHS := Lib.hid (@hrdL_step s ts late k hl3 hl2)
      have hnk := HNK.out k hl3
      have hNk : s.N k = s.notes[k] := by unfold Sc.N; rw [List.getD_eq_getElem?_getD, List.getElem?_eq_getElem hl3]; rfl
      rw [hNk] at hnk
      obtain ⟨nf, hnf⟩ : ∃ z, s.notes[k].f = z := ⟨_, rfl⟩
      obtain ⟨rl, hrl⟩ : ∃ z, ls[k].length = z := ⟨_, rfl⟩
      obtain ⟨x, hx⟩ : ∃ z, xs[k] = z := ⟨_, rfl⟩
      obtain ⟨z, hz⟩ : ∃ z, ts[k] = z := ⟨_, rfl⟩
      rw [hx] at p0 p1 p2 p3 p4 p5 TRW HDS
      rw [hz] at z0 z1 HHS
      rw [hnf] at m1 hnk HDS HHS
      simp only [hrl] at q0 TRW
      have HST := Lib.hid hst
      have OD := Lib.hid od; have OH := Lib.hid oh
      have HDL : Hid ((dueL s xs k).length = k) := Lib.hid (dueL_len _ _ _)
      have HHL : Hid ((hrdL s ts late k).length = k) := Lib.hid (hrdL_len _ _ _ _)
      have C1 := Lib.hid fun w' (y : Ext w4 w') => (CB.out w' (HY4.out.trans y)).2.1
      have Q0 := Lib.hid (ext_cells q0)
      have P0 := Lib.hid (ext_cells p0); have P1 := Lib.hid (ext_cells p1); have P2 := Lib.hid (ext_cells p2); have P3 := Lib.hid (ext_cells p3); have P4 := Lib.hid (ext_cells p4); have P5 := Lib.hid (ext_cells p5)
      have Z0 := Lib.hid (ext_cells z0); have Z1 := Lib.hid (ext_cells z1)
      have M1 := Lib.hid (ext_cells m1)
      have i1 : (0 : Int) ≤ (k : Int) := by omega
      have i2 : (k : Int) < (xs.length : Int) := by omega
      have i3 : (k : Int) < (ls.length : Int) := by omega
      have i4 : (k : Int) < (ts.length : Int) := by omega
      have i5 : (k : Int) < (s.notes.length : Int) := by omega
      have e1 : IntKind.i64.wrap (nf + late) = nf + late := IntWalk.i64_in _ (by have := HL0.out; have := HL1.out; omega)
      clear hst htb hrl hx hz hnf hnk hNk SR od oh q0 p0 p1 p2 p3 p4 p5 z0 z1 m1 nat
      have q0 := ext_cells (Q0.out _ X); have p0 := ext_cells (P0.out _ X); have p1 := ext_cells (P1.out _ X); have p2 := ext_cells (P2.out _ X); have p3 := ext_cells (P3.out _ X); have p4 := ext_cells (P4.out _ X); have p5 := ext_cells (P5.out _ X)
      go_wp2_with fail
      refine wp_region_ord [(0,true), (1,true), (2,true), (3,true), (4,true), (5,true), (6,true), (7,true), (8,true), (9,true)] 10 Ext (Ext wr) wide (by kernel_rfl) (stable_ext _) (Ext.drawn _ _) ?_
      iterate 8 (first | (apply wpOrd_no rfl; rfl; (simp only [List.getElem_toArray, List.getElem_cons_succ, List.getElem_cons_zero, Act.put, List.setIfInBounds_toArray, List.set_cons_succ, List.set_cons_zero]; rfl)) | (apply wpOrd_yes rfl; rfl; (intro w' hw'; unfold opR; go_simp; exact ⟨Ext.refl _, rfl⟩); (simp only [List.getElem_toArray, List.getElem_cons_succ, List.getElem_cons_zero, Act.put, List.setIfInBounds_toArray, List.set_cons_succ, List.set_cons_zero]; rfl)))
      (apply wpOrd_det rfl rfl; (intro w' hw'; refine opR_call rfl (Go.Proofs.enters_of Tryz.func8 (by kernel_rfl) rfl) (by simp only [List.map_toArray, List.map_cons, List.map_nil, Act.eval, Array.getD_eq_getD_getElem?, List.getElem?_toArray, List.getElem?_cons_succ, List.getElem?_cons_zero, Option.getD_some]; rfl) ?_; refine (TRW.out w' (X.trans hw')).mono ?_; rintro e w'' ⟨rfl, hx⟩; exact ⟨_, rfl, hx, rfl⟩); (simp only [List.getElem_toArray, List.getElem_cons_succ, List.getElem_cons_zero, Act.put, List.setIfInBounds_toArray, List.set_cons_succ, List.set_cons_zero]; rfl))
      iterate 1 (first | (apply wpOrd_no rfl; rfl; (simp only [List.getElem_toArray, List.getElem_cons_succ, List.getElem_cons_zero, Act.put, List.setIfInBounds_toArray, List.set_cons_succ, List.set_cons_zero]; rfl)) | (apply wpOrd_yes rfl; rfl; (intro w' hw'; unfold opR; go_simp; exact ⟨Ext.refl _, rfl⟩); (simp only [List.getElem_toArray, List.getElem_cons_succ, List.getElem_cons_zero, Act.put, List.setIfInBounds_toArray, List.set_cons_succ, List.set_cons_zero]; rfl)))
      refine wpOrd_nil (l := []) rfl ?_
      intro w5 x5
      have X5 := X.trans x5
      clear q0 p0 p1 p2 p3 p4 p5
      cases tb with
      | false =>
        have HX := Lib.hid (X0.trans (HY4.out.trans X5))
        go_wp2
        go_ret
        exact ⟨by first | rfl | simp, HX.out⟩
      | true =>
      have HT2 := Lib.hid (HST.out rfl)
      have OD5 := Lib.hid (OD.out.ext x5); have OH5 := Lib.hid (OH.out.ext x5); have HX5 := Lib.hid X5
      have c1 := ext_cells (C1.out _ X5); have m1 := ext_cells (M1.out _ X5); have p0 := ext_cells (P0.out _ X5); have p1 := ext_cells (P1.out _ X5); have p2 := ext_cells (P2.out _ X5); have p3 := ext_cells (P3.out _ X5); have p4 := ext_cells (P4.out _ X5); have p5 := ext_cells (P5.out _ X5)
      clear OD OH HST HT X x5 X5
      go_upto_region 15 with fail
      apply wp_region_ordX [(0, .det _), (1, .det _), (2, .det _), (3, .det _), (4, .det _), (5, .det _), (6, .det _), (7, .det _), (8, .det _), (9, .det _), (10, .det _), (11, .det _), (12, .new (fun _ => True) (Sl1 w5.heap.size 48 #[.int .i64 nf, .int .i64 x.a, .int .i64 x.b, .int .i64 x.c, .int .i64 x.d, .int .i64 x.e, .int .i64 x.f]) undef trivial)] 13 Ext Ext (Ext w5) (fun _ => True) wide
        [(0,true), (1,true), (2,true), (3,true), (4,true), (5,true), (6,true), (7,true), (8,true), (9,true), (10,true), (11,true), (12,true)] (by kernel_rfl) rfl (by decide) (fun _ _ h => h) (stable_ext _) stable_true (Ext.drawn _ _) trivial ?mainD
      case mainD =>
        iterate 12 (apply ordX_det rfl rfl; (intro w' hw'; unfold opR; go_simp; exact ⟨Ext.refl _, rfl⟩); (simp only [List.getElem_toArray, List.getElem_cons_succ, List.getElem_cons_zero, Act.put, List.setIfInBounds_toArray, List.set_cons_succ, List.set_cons_zero]; rfl))
        apply ordX_new (Sl1.stable _ _ _) rfl rfl
        · intro w' hw'
          unfold opR
          go_simp
          exact ⟨Ext.alloc' _ _, Sl1.new w' _ _ hw'.size⟩
        · intro v; (simp only [List.getElem_toArray, List.getElem_cons_succ, List.getElem_cons_zero, Act.put, List.setIfInBounds_toArray, List.set_cons_succ, List.set_cons_zero]; rfl)
        intro v8 _
        refine ordX_nil rfl ?_
        rintro w6 hw6 - ⟨-, g8, rfl, hg8, hrow⟩
        have X6 := HX5.out.trans hw6
        refine wpList_own_app et_due rfl (.tmp 89) (.tmp 101) rfl (OD5.out.ext hw6) rfl [⟨nf, x⟩] ⟨g8, 0, none⟩ 1 rfl (fun _ _ => rfl) (fun j u hu => row_news hrow j u hu) (by simp [encD, Value.oneCell']) (by rw [HDL.out]; simp; omega) X6.size ?_
        intro v7 w7 o7 b7 a7 _
        have X7 : Ext w4 w7 := Below.trans X6 b7
        have h7 := (OH5.out.ext hw6).appd a7 (fun g h1 h2 => by
          obtain ⟨cs, hcs⟩ := (OH5.out.ext hw6).kind h1
          obtain ⟨cs2, hcs2⟩ := (OD5.out.ext hw6).kind h2
          rw [hcs] at hcs2; cases hcs2)
        have OD7 := Lib.hid o7; have OH7 := Lib.hid h7; have HX7 := Lib.hid X7
        obtain ⟨wa, wm, wd, hv7⟩ := o7.shape
        subst hv7
        clear c1 m1 p0 p1 p2 p3 p4 p5
        have c1 := ext_cells (C1.out _ X7); have m1 := ext_cells (M1.out _ X7); have z0 := ext_cells (Z0.out _ X7); have z1 := ext_cells (Z1.out _ X7)
        clear o7 b7 a7 h7 X7 X6 hw6 hrow hg8 OD5 OH5 HX5
        go_upto_region 16 with fail
        apply wp_region_ordX [(0, .det _), (1, .det _), (2, .det _), (3, .det _), (4, .det _), (5, .det _), (6, .det _), (7, .det _), (8, .det _), (9, .det _), (10, .det _), (11, .det _), (12, .det _), (13, .det _), (14, .new (fun _ => True) (Sl1 w7.heap.size 52 #[.int .i64 (nf + late), .int .i64 z.lo, .int .i64 z.hi]) undef trivial)] 15 Ext Ext (Ext w7) (fun _ => True) wide
          [(0,true), (1,true), (2,true), (3,true), (4,true), (5,true), (6,true), (7,true), (8,true), (9,true), (10,true), (11,true), (12,true), (13,true), (14,true)] (by kernel_rfl) rfl (by decide) (fun _ _ h => h) (stable_ext _) stable_true (Ext.drawn _ _) trivial ?mainH
        case mainH =>
          iterate 14 (apply ordX_det rfl rfl; (intro w' hw'; unfold opR; go_simp; exact ⟨Ext.refl _, rfl⟩); (simp only [List.getElem_toArray, List.getElem_cons_succ, List.getElem_cons_zero, Act.put, List.setIfInBounds_toArray, List.set_cons_succ, List.set_cons_zero]; rfl))
          apply ordX_new (Sl1.stable _ _ _) rfl rfl
          · intro w' hw'
            unfold opR
            go_simp
            exact ⟨Ext.alloc' _ _, Sl1.new w' _ _ hw'.size⟩
          · intro v; (simp only [List.getElem_toArray, List.getElem_cons_succ, List.getElem_cons_zero, Act.put, List.setIfInBounds_toArray, List.set_cons_succ, List.set_cons_zero]; rfl)
          intro v8 _
          refine ordX_nil rfl ?_
          rintro w8 hw8 - ⟨-, g9, rfl, hg9, hrow⟩
          have X8 := HX7.out.trans hw8
          refine wpList_own_app et_hrd rfl (.tmp 103) (.tmp 117) rfl (OH7.out.ext hw8) rfl [⟨nf + late, z⟩] ⟨g9, 0, none⟩ 1 rfl (fun _ _ => rfl) (fun j u hu => row_news hrow j u hu) (by simp [encH, Value.oneCell']) (by rw [HHL.out]; simp; omega) X8.size ?_
          intro v9 w9 o9 b9 a9 _
          have X9 : Ext w4 w9 := Below.trans X8 b9
          have d9 := (OD7.out.ext hw8).appd a9 (fun g h1 h2 => by
            obtain ⟨cs, hcs⟩ := (OD7.out.ext hw8).kind h1
            obtain ⟨cs2, hcs2⟩ := (OH7.out.ext hw8).kind h2
            rw [hcs] at hcs2; cases hcs2)
          have OD9 := Lib.hid d9; have OH9 := Lib.hid o9; have HX9 := Lib.hid X9
          clear c1 m1 z0 z1 o9 b9 a9 d9 X9 X8 hw8 hrow hg9 OD7 OH7 HX7
          go_wp2
          go_roundw
          case rel => exact ⟨k + 1, by omega, by go_num, HT2, by rw [HDS.out]; exact OD9.out, by rw [HHS.out]; exact OH9.out, HX9.out⟩
          case measure => simp [intOf] <;> omega
    case neg =>
    obtain rfl : k = xs.length := by omega
    have hf := @ali_facts s xs ls late p xs.length HL0.out rfl HXL.out.symm (fun j h1 h2 => HT.out j h1 h2 h2)
    rw [← HTS.out] at hf
    have SD := od.sl (fun _ _ => rfl) (by rw [dueL_len]; omega)
    have SH := oh.sl (fun _ _ => rfl) (by rw [hrdL_len]; omega)
    have hdl := dueL_len s xs xs.length
    have hhl := hrdL_len s ts late xs.length
    obtain ⟨ds, hds⟩ : ∃ z, dueL s xs xs.length = z := ⟨_, rfl⟩
    obtain ⟨hs, hhs⟩ : ∃ z, hrdL s ts late xs.length = z := ⟨_, rfl⟩
    rw [hds] at SD hf hdl; rw [hhs] at SH hf hhl
    have e9 := SD.len
    rw [hdl] at e9
    obtain ⟨a9, c9, e9, -, -, -⟩ := e9
    obtain ⟨rfl, rfl, rfl⟩ := Value.slice.inj e9
    have e8 := SH.len
    rw [hhl] at e8
    obtain ⟨a8, c8, e8, -, -, -⟩ := e8
    obtain ⟨rfl, rfl, rfl⟩ := Value.slice.inj e8
    obtain ⟨ok, hok⟩ : ∃ z, alOk ds hs p = z := ⟨_, rfl⟩
    rw [hok] at hf
    have D1 : Hid (ds.length * 56 ≤ 140737488351232) := Lib.hid (by omega)
    have D2 : Hid (hs.length * 24 ≤ 140737488351232) := Lib.hid (by omega)
    have AV := Lib.hid fun w' => alvalid_walk (.slice va xs.length vd) (.slice ua xs.length ud) ds hs p D1.out D2.out w'
    have AW := Lib.hid fun w' => align_walk (.slice va xs.length vd) (.slice ua xs.length ud) ds hs p D1.out D2.out w'
    have CW := Lib.hid fun vl vt l t w' => check_walk (.slice va xs.length vd) (.slice ua xs.length ud) vl vt ds hs p l t D1.out D2.out w'
    rw [hok] at AV
    have HF := Lib.hid hf; have HSD := Lib.hid SD; have HSH := Lib.hid SH; have HXW := Lib.hid (HY4.out.trans X)
    have PB := Lib.hid fun w' (y : Ext wr w') => block_ext (HXW.out.trans y) HB1.out
    clear hf SD SH hds hhs e9 e8 hok od oh HT X hdl hhl
    have b1 := PB.out _ (Ext.refl _)
    have s0 := block_cell b1 0 (.int .i64 p.skip) rfl; have s1 := block_cell b1 1 (.int .i64 p.off) rfl
    clear b1
    go_wp2_with fail
    refine (AV.out _ HSD.out HSH.out).mono ?_
    rintro e w5 ⟨rfl, x5⟩
    clear s0 s1
    cases ok with
    | false =>
      have HX := Lib.hid (X0.trans (HXW.out.trans x5))
      go_wp2
      go_ret
      exact ⟨by first | rfl | simp, HX.out⟩
    | true =>
    obtain ⟨l, t, c, f1, f2, f3, f4, f5, f6, f7, f8⟩ := HF.out rfl
    have AW := AW.out; have CW := CW.out
    rw [f1, f2, f3, f4] at AW
    have CW := fun vl vt => CW vl vt l t
    rw [f5] at CW
    have HAW := Lib.hid AW; have HCW := Lib.hid CW; have HF8 := Lib.hid f8
    clear AW CW f1 f2 f3 f4 f5 f8
    have b1 := PB.out _ x5
    have s0 := block_cell b1 0 (.int .i64 p.skip) rfl; have s1 := block_cell b1 1 (.int .i64 p.off) rfl
    clear b1
    go_wp2_with fail
    refine (HAW.out _ (G1.gl.ext (HXW.out.trans x5)) (HSD.out.ext x5) (HSH.out.ext x5)).mono ?_
    rintro e w6 ⟨vl, vt, rfl, SL, TT, x6⟩
    obtain ⟨al, ql, rfl, -, -, hll⟩ := SL.len
    have y6 := x5.trans x6
    clear s0 s1
    have b1 := PB.out _ y6
    have s0 := block_cell b1 0 (.int .i64 p.skip) rfl; have s1 := block_cell b1 1 (.int .i64 p.off) rfl
    clear b1
    go_wp2_with fail
    refine (HCW.out _ _ _ (G1.gl.ext (HXW.out.trans y6)) (HSD.out.ext y6) (HSH.out.ext y6) SL TT).mono ?_
    rintro e w7 ⟨rfl, x7⟩
    have HSL := Lib.hid (SL.ext x7); have HX7 := Lib.hid (X0.trans (HXW.out.trans (y6.trans x7)))
    clear s0 s1 SL TT x5 x6 x7 y6
    have hmul := @late_mul late xs.length HL0.out HL1.out (by have := HXL.out; have := HRN.out; have := HN40.out; omega)
    obtain ⟨m, hm⟩ : ∃ m, late * (xs.length : Int) = m := ⟨_, rfl⟩
    rw [hm] at hmul f7
    have e1 : IntKind.i64.wrap m = m := IntWalk.i64_in _ (by omega)
    have t1 : decide (c < 0) = false := decide_eq_false (by omega)
    have t2 : decide (m < c) = false := decide_eq_false (by omega)
    clear f6 f7 hmul
    by_cases hl0 : 0 < late
    case pos =>
      have t3 : decide (0 < late) = true := decide_eq_true hl0
      clear hl0
      go_wp2
      go_ret
      exact ⟨by first | rfl | simp, HX7.out⟩
    have t3 : decide (0 < late) = false := decide_eq_false hl0
    obtain ⟨hln, hlk⟩ := HF8.out (by have := HL0.out; omega)
    have HLN := Lib.hid hln; have HLK := Lib.hid hlk
    clear hl0 hln hlk
    go_wp2
    clear t1 t2 t3 e1 hm
    go_loopw [25] (fun i wr => ∃ k : Nat, k ≤ l.length ∧ i = .int .i64 k ∧ Ext w7 wr) (fun i _ => l.length - (intOf i).toNat)
    case atStart => exact ⟨0, by omega, by first | rfl | trivial, Ext.refl _⟩
    case round =>
      obtain ⟨k, hk, rfl, X⟩ := hrel
      by_cases hlt : k < l.length
      case pos =>
        obtain ⟨bM, oM, rfl, m0, m1⟩ := Sl.mt (HSL.out.ext X) k hlt
        rw [HLK.out k hlt] at m0 m1
        simp only at m0 m1
        have i1 : (0 : Int) ≤ (k : Int) := by omega
        have i2 : (k : Int) < (l.length : Int) := by omega
        go_wp2
        go_roundw
        case rel => exact ⟨k + 1, by omega, by go_num, X⟩
        case measure => simp [intOf] <;> omega
      case neg =>
      obtain rfl : k = l.length := by omega
      have HX := Lib.hid (HX7.out.trans X)
      have t1 : ((l.length : Int) == (xs.length : Int)) = true := by rw [beq_iff_eq, HLN.out]
      go_wp2
      go_ret
      exact ⟨by first | rfl | simp, HX.out⟩

theorem topAligned_args (H : Type) (enc : TypeId × Value → H) (W : World) (base : Nat) (vs : List Value) (ds : List (DataW H)) (_ : ∀ k, (OpenSpec.ofChange Rows.topAlignedSpec).cond = some k → k H ds = true) (hL : laidMetH Tryz.prog Rows.topAlignedRow.laid W) (hA : Args enc Tryz.prog W base Tryz.f3.params.toList vs ds) :
    Calls Tryz.prog 3 vs.toArray W fun e W' => e = .returned (.bool true) ∧ Ext W W' := by
  rw [Tryz.params3] at hA
  obtain ⟨v0, _, d0, _, rfl, rfl, h0, hA⟩ := hA.cons
  obtain ⟨v1, _, d1, _, rfl, rfl, h1, hA⟩ := hA.cons
  obtain ⟨v2, _, d2, _, rfl, rfl, h2, hA⟩ := hA.cons
  obtain ⟨v3, _, d3, _, rfl, rfl, h3, hA⟩ := hA.cons
  obtain ⟨v4, _, d4, _, rfl, rfl, h4, hA⟩ := hA.cons
  obtain ⟨rfl, rfl⟩ := hA.nil
  obtain ⟨s0, vn0, vp0, vc0, rfl, S0⟩ := arg_score h0
  obtain ⟨l1, S1, n1⟩ := arg_vecs h1
  obtain ⟨l2, S2, n2⟩ := arg_rows2 h2
  obtain ⟨k3, rfl, b3⟩ := h3.int Tryz.underlying3
  obtain ⟨p4, rfl, b4⟩ := arg_price h4
  exact topali_law _ _ _ _ _ s0 l1 l2 k3 p4 W (gv_of hL) S0 S1 S2

theorem topAligned_met (os : Os) : laidMet Tryz.prog Rows.topAlignedRow.laid ((laidWorld os).forCall (fun _ _ => 0) ⟨#[], #[.agg #[.int .i64 0, .slice none 0 0, .slice none 0 0, .slice none 0 0], .slice none 0 0, .slice none 0 0, .int .i64 0, .agg #[.int .i64 0, .int .i64 0]], []⟩).memory := laidMet_of_run' 8 (by kernel_rfl) (by kernel_rfl)
theorem topAligned_reads (os : Os) {H : Type} (enc : TypeId × Value → H) : ∃ places, DataW.whole enc Tryz.prog ((laidWorld os).forCall (fun _ _ => 0) ⟨#[], #[.agg #[.int .i64 0, .slice none 0 0, .slice none 0 0, .slice none 0 0], .slice none 0 0, .slice none 0 0, .int .i64 0, .agg #[.int .i64 0, .int .i64 0]], []⟩).memory Tryz.f3.params.toList Rows.topAlignedSpec.vars false #[.agg #[.int .i64 0, .slice none 0 0, .slice none 0 0, .slice none 0 0], .slice none 0 0, .slice none 0 0, .int .i64 0, .agg #[.int .i64 0, .int .i64 0]].toList 8 = some ([.agg [.lit (.int .i64 0), .nil, .nil, .nil], .nil, .nil, .lit (.int .i64 0), .agg [.lit (.int .i64 0), .lit (.int .i64 0)]], [], places) := ⟨[], by kernel_rfl⟩
set_option maxRecDepth 100000 in
theorem topAligned_lifted (os : Os) (started : os.Started) (H : Type) (enc : TypeId × Value → H) (F : Stop.Interp) :
    ReturnsInHanded {} Tryz.checked os 3 .any ((OpenSpec.ofChange Rows.topAlignedSpec).preRow enc Tryz.prog Tryz.f3 Rows.topAlignedRow.domain false Rows.topAlignedRow.laid) (((OpenSpec.ofChange Rows.topAlignedSpec).at F).post enc Tryz.prog Tryz.f3 false true false false) := by
  obtain ⟨places, hx⟩ := topAligned_reads os enc
  exact law_row (C := Tryz.checked) (s := (OpenSpec.ofChange Rows.topAlignedSpec)) (by kernel_rfl) started (by kernel_rfl) Tryz.func3
    (witness_row_at (enc := enc) (C := Tryz.checked) false (laidWorld os) #[.agg #[.int .i64 0, .slice none 0 0, .slice none 0 0, .slice none 0 0], .slice none 0 0, .slice none 0 0, .int .i64 0, .agg #[.int .i64 0, .int .i64 0]] rfl (by kernel_rfl) (by kernel_rfl) (by kernel_rfl) (OpenSpec.preRow_of_cond 8 hx (by kernel_rfl) (fun k hk => by cases hk) (by kernel_rfl) (topAligned_met os)))
    (by kernel_rfl) (by kernel_rfl) (by kernel_rfl) rfl (fun ds h => by match ds, h with | [_, _, _, _, _], _ => rfl) (topAligned_args H enc)
theorem topAligned_said : Rows.TopAlignedSaid :=
  OpenClaim.holds_of_cond 3 Tryz.f3 rfl rfl rfl rfl rfl rfl rfl ⟨rfl, rfl, rfl, rfl, rfl⟩ rfl rfl rfl rfl rfl (by kernel_rfl) Tryz.func3 (by kernel_rfl)
    (of_decide_eq_true (by kernel_rfl)) (by unfold Func.isWrapper; first | (rw [if_pos (by decide +kernel)]; kernel_rfl) | (rw [if_neg (by decide +kernel)]; exact ⟨rfl, rfl⟩))
    (fun os started H enc _ F => by rw [OpenClaim.pre_eq_preRow]; exact topAligned_lifted os started H enc F)
theorem topAligned_plain (f : FuncId) (fn : Func) (hf : Tryz.pinned.checked.prog.funcNamed "schisma/schismatop.TopAligned" = some f) (hfn : Tryz.pinned.checked.prog.funcs[f]? = some fn) :
    false = Tryz.pinned.checked.prog.looks [] ∧ ∀ (j : Nat) t, fn.params[j]? = some t → Tryz.pinned.checked.prog.wantsStandIn t = false := by
  obtain rfl : f = 3 := Option.some.inj ((show Tryz.prog.funcNamed "schisma/schismatop.TopAligned" = some 3 by kernel_rfl).symm.trans hf) |>.symm
  obtain rfl : fn = Tryz.f3 := (Option.some.inj (Tryz.func3.symm.trans hfn)).symm
  refine ⟨by kernel_rfl, fun j t ht => ?_⟩
  have hall : Tryz.f3.params.all (fun t => !Tryz.prog.wantsStandIn t) = true := by kernel_rfl
  have := (Array.all_eq_true'.1 hall) t (Array.mem_of_getElem? ht)
  have e : Tryz.prog.wantsStandIn t = false := by simpa using this
  exact e
/-- The card. -/
theorem topAligned_holds : Rows.TopAlignedCardSaid :=
  Claim7.holds_tied_plain_at .later [] _ _ _ _ topAligned_said (fun _ h => by cases h) (by kernel_rfl) (fun _ h => by cases h) topAligned_row_tie rfl ⟨rfl, rfl⟩ (by kernel_rfl) rfl topAligned_plain (by kernel_rfl)
end Go.Proofs.YthpfalbeieloaaaGreatDoor
