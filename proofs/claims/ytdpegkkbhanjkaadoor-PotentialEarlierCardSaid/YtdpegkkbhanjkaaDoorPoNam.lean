/-
  Proved: 'PotentialNamed' returns true for every input and leaves its arguments as they were. No condition.
-/
import Derived.Test.YtdpegkkbhanjkaaDoorPoH
import Derived.Test.YtdpegkkbhanjkaaDoorR23C
import Derived.Test.YtdpegkkbhanjkaaDoorArgL
import Derived.Test.YtdpegkkbhanjkaaDoorLdB
set_option linter.unusedVariables false
namespace Go.Proofs.YtdpegkkbhanjkaaDoor
open Go.RowKit Go.Sx Go.Sx.Sz Go.Sx.Sc Go.Sx.Po Go.ChangeShapes Go.WideShapes Go.ChangeAt

theorem named_facts {s : Sc} {h : List V6} (ht : (tuneR s h).2 = 0) {i : Nat} (hi : i < s.pairs.length) :
    (brkT s (tuneR s h).1 i = true ∧ ∃ k : Nat, ∃ hk : k < (brkR s h).1.length, fndC (brkR s h).1 i = k ∧ (brkR s h).1[k] = cnF s (tuneR s h).1 i ∧ chkR s h (cnF s (tuneR s h).1 i) = (true, 0)) ∨ (brkT s (tuneR s h).1 i = false ∧ fndC (brkR s h).1 i = -1) := by
  have hbr : brkR s h = (brkL s (tuneR s h).1, 0) := by unfold brkR; rw [if_pos ht]
  rw [hbr]
  rcases find_cn (s := s) (xs := (tuneR s h).1) hi with ⟨k, hk, f1, f2, f3⟩ | ⟨f1, f2⟩
  · left
    refine ⟨f3, k, hk, ?_, f2, ?_⟩
    · unfold fndC; simp only; rw [f1]
    · unfold chkR; rw [if_pos ht, brk_chk ht hi f3]
  · right
    refine ⟨f2, ?_⟩
    unfold fndC; simp only; rw [f1]
theorem dec_lt {b n : Nat} : decide ((b : Int) < (n : Int)) = decide (b < n) := by
  by_cases h : b < n
  · rw [decide_eq_true h, decide_eq_true (show (b : Int) < (n : Int) by omega)]
  · rw [decide_eq_false h, decide_eq_false (show ¬ (b : Int) < (n : Int) by omega)]
theorem dec_le {b n : Nat} : decide ((n : Int) ≤ (b : Int)) = !decide (b < n) := by
  by_cases h : b < n
  · rw [decide_eq_true h, decide_eq_false (show ¬ (n : Int) ≤ (b : Int) by omega)]; rfl
  · rw [decide_eq_false h, decide_eq_true (show (n : Int) ≤ (b : Int) by omega)]; rfl
theorem brkR_err {s : Sc} {h : List V6} (ht : (tuneR s h).2 ≠ 0) : brkR s h = ([], (tuneR s h).2) := by unfold brkR; rw [if_neg ht]
theorem brkR_ok {s : Sc} {h : List V6} (ht : (tuneR s h).2 = 0) : brkR s h = (brkL s (tuneR s h).1, 0) := by unfold brkR; rw [if_pos ht]
theorem brkL_len (s : Sc) (xs : List V6) : (brkL s xs).length ≤ s.pairs.length := brkK_len s xs _

set_option maxRecDepth 100000 in
set_option maxHeartbeats 16000000 in
theorem potnam_law (vn vp vc vh : Value) (s : Sc) (h : List V6) (w : World) (GL : Gl 0 w) (S : ScR w vn vp vc s) (V : Sl w 6 V6.list vh h) :
    Calls Tryd.prog 5 #[.agg #[.int .i64 s.voices, vn, vp, vc], vh] w fun e w' => e = .returned (.bool true) ∧ Ext w w' := by
  obtain ⟨an, cn, rfl, -, -, hln⟩ := S.nt.len
  obtain ⟨ap, cp, rfl, -, -, hlp⟩ := S.pr.len
  obtain ⟨ac, cc, rfl, -, -, hlc⟩ := S.cd.len
  obtain ⟨ah, ch, rfl, -, -, hlh⟩ := V.len
  have TW := @tune_walk (.slice an s.notes.length cn) (.slice ap s.pairs.length cp) (.slice ac s.cads.length cc) (.slice ah h.length ch) s h
  have BW := @broken0_walk (.slice an s.notes.length cn) (.slice ap s.pairs.length cp) (.slice ac s.cads.length cc) (.slice ah h.length ch) s h
  have CW := fun (c : Cn) (sv : Value) => @check_walk (.slice an s.notes.length cn) (.slice ap s.pairs.length cp) (.slice ac s.cads.length cc) (.slice ah h.length ch) sv s h c
  have htc := tune_cases s h
  have hto := @tune_ok s h
  have hnf := @named_facts s h
  have hbe := @brkR_err s h
  have hbo := @brkR_ok s h
  obtain ⟨⟨tl, te⟩, ht⟩ : ∃ z, tuneR s h = z := ⟨_, rfl⟩
  obtain ⟨⟨bl, be⟩, hb⟩ : ∃ z, brkR s h = z := ⟨_, rfl⟩
  rw [ht] at TW htc hto hnf hbe hbo
  rw [hb] at BW hnf hbe hbo
  simp only at TW BW htc hto hnf hbe hbo
  have HTW := Lib.hid TW; have HBW := Lib.hid BW; have HCW := Lib.hid CW; have HTC := Lib.hid htc; have HTO := Lib.hid hto; have HNF := Lib.hid hnf; have HBE := Lib.hid hbe; have HBO := Lib.hid hbo
  clear ht hb TW BW CW htc hto hnf hbe hbo
  have X0 : Ext w (w.alloc (.cells #[.int .i64 s.voices, .slice an s.notes.length cn, .slice ap s.pairs.length cp, .slice ac s.cads.length cc] 26)) := (by repeat (first | with_reducible exact Ext.refl _ | with_reducible assumption | with_reducible apply Ext.alloc | with_reducible apply Ext.drew | (with_reducible refine Ext.setCell ?_ (by (try simp) <;> omega) _)))
  have b0_0 := block_new w (.cells #[.int .i64 s.voices, .slice an s.notes.length cn, .slice ap s.pairs.length cp, .slice ac s.cads.length cc] 26)
  obtain ⟨W0, hW0⟩ : ∃ W, (w.alloc (.cells #[.int .i64 s.voices, .slice an s.notes.length cn, .slice ap s.pairs.length cp, .slice ac s.cads.length cc] 26)) = W := ⟨_, rfl⟩
  obtain ⟨B0, hB0⟩ : ∃ B, w.heap.size = B := ⟨_, rfl⟩
  rw [hW0] at X0 b0_0
  rw [hB0] at b0_0
  have HZ0 : Hid (w.heap.size ≤ B0) := Lib.hid (by omega)
  have HW0 := Lib.hid hW0; have HB0 := Lib.hid hB0
  clear hW0 hB0
  have CB := Lib.hid (boxS b0_0)
  have S1 := S.ext X0; have V1 := V.ext X0; have G1 := GL.ext X0
  clear S V GL b0_0
  go_enter Tryd.func5, Tryd.ntmps5
  go_wp2_with fail
  rw [HW0.out, HB0.out]
  clear HW0 HB0
  refine (head_walk _ G1).mono ?_
  rintro e w1 ⟨rfl, x1⟩
  obtain ⟨c0, c1, c2, c3⟩ := CB.out _ x1
  go_wp2_with fail
  refine (rfew_walk _ _ _ s _ (S1.ext x1)).mono ?_
  obtain ⟨fw, hfw⟩ : ∃ z, (decide (s.notes.length ≤ 40) && decide (s.pairs.length ≤ 60)) = z := ⟨_, rfl⟩
  rw [hfw]
  clear hfw
  rintro e w2 ⟨rfl, y2⟩
  have x2 := x1.trans y2
  clear c0 c1 c2 c3
  cases fw with
  | false =>
    have HX := Lib.hid (X0.trans x2)
    go_wp2
    go_ret
    exact ⟨by first | rfl | simp, HX.out⟩
  | true =>
  obtain ⟨c0, c1, c2, c3⟩ := CB.out _ x2
  go_wp2_with fail
  refine (HTW.out _ (S1.ext x2) (V1.ext x2)).mono ?_
  rintro e w3 ⟨v3, rfl, T3, y3⟩
  have x3 := x2.trans y3
  clear c0 c1 c2 c3
  obtain ⟨c0, c1, c2, c3⟩ := CB.out _ x3
  go_wp2_with fail
  refine (HBW.out _ (G1.ext x3) (S1.ext x3) (V1.ext x3)).mono ?_
  rintro e w4 ⟨v4, rfl, C4, y4⟩
  have x4 := x3.trans y4
  obtain ⟨a4, q4, rfl, h4, AT4⟩ := C4.at
  have T4 := T3.ext y4
  obtain ⟨a3, q3, rfl, -, -, -⟩ := T4.len
  clear c0 c1 c2 c3 T3
  by_cases hte : te = 0
  case neg =>
    obtain ⟨rfl, rfl⟩ : bl = [] ∧ be = te := by simpa using HBE.out hte
    have t1 : (be != 0) = true := by rw [bne_iff_ne]; exact hte
    have t2 : (be == be) = true := beq_self_eq_true _
    have HX := Lib.hid (X0.trans x4)
    clear hte T4 AT4 C4
    go_wp2
    go_ret
    exact ⟨by first | rfl | simp, HX.out⟩
  case pos =>
  subst hte
  obtain ⟨rfl, rfl⟩ : bl = brkL s tl ∧ be = 0 := by simpa using HBO.out rfl
  obtain ⟨hok, hxs, hall⟩ := HTO.out rfl
  have hbl := brkL_len s tl
  have htl : tl.length ≤ s.notes.length := by rw [hxs, xsL_len]; exact tun_le _ _
  obtain ⟨bl, hbb⟩ : ∃ z, brkL s tl = z := ⟨_, rfl⟩
  rw [← hxs] at hall
  rw [hbb] at hbl C4 AT4 HNF ⊢
  have HAL := Lib.hid hall; have HC4 := Lib.hid C4; have HT4 := Lib.hid T4; have HAT := Lib.hid AT4
  have t1 : decide (s.pairs.length < bl.length) = false := decide_eq_false (by omega)
  have HOK := Lib.hid hok
  have HX4 := Lib.hid x4
  have hpn := hok.sz.2.2.1
  obtain ⟨c0, c1, c2, c3⟩ := CB.out _ x4
  clear hxs hall hbb C4 T4 AT4 y4 y3 x3
  go_wp2
  clear c0 c1 c2 c3 t1 x4
  go_loopw [5, 10] (fun up i wr => ∃ k : Nat, k ≤ s.pairs.length ∧ up = .bool true ∧ i = .int .i64 k ∧ Ext w4 wr) (fun _ i _ => s.pairs.length - (intOf i).toNat)
  case atStart => exact ⟨0, by omega, rfl, by first | rfl | trivial, Ext.refl _⟩
  case round =>
    obtain ⟨k, hk, rfl, rfl, X⟩ := hrel
    have X4 := HX4.out.trans X
    obtain ⟨c0, c1, c2, c3⟩ := CB.out _ X4
    by_cases hlt : k < s.pairs.length
    case neg =>
      obtain rfl : k = s.pairs.length := by omega
      have HX := Lib.hid (X0.trans X4)
      go_wp2
      go_ret
      exact ⟨by first | rfl | simp, HX.out⟩
    case pos =>
    have hpo := HOK.out.pr.1 k hlt
    obtain ⟨bp, op, rfl, A⟩ := Sl.pr (S1.pr.ext X4) k hlt
    rw [← Sc.P_eq hlt] at A
    have hnf := HNF.out (by first | rfl | trivial) hlt
    have hbt : brkT s tl k = (decide ((s.P k).b < tl.length) && brkB tl (s.P k)) := rfl
    obtain ⟨p, hp⟩ : ∃ p, s.P k = p := ⟨_, rfl⟩
    rw [hp] at A hpo hbt
    unfold pairOk at hpo
    obtain ⟨⟨ha0, hab⟩, hbn, hpw, ⟨hb0, hb1⟩, -⟩ := hpo
    obtain ⟨a, hpa⟩ : ∃ a : Nat, p.a = a := ⟨p.a.toNat, by omega⟩
    obtain ⟨b, hpb⟩ : ∃ b : Nat, p.b = b := ⟨p.b.toNat, by omega⟩
    obtain ⟨q0, q1, q2, q3, q4, q5, q6, q7, q8⟩ := A
    have X5 : Ext wr (wr.alloc (.cells #[.int .i64 p.a, .int .i64 p.b, .int .i64 p.want.a, .int .i64 p.want.b, .int .i64 p.want.c, .int .i64 p.want.d, .int .i64 p.want.e, .int .i64 p.want.f, .int .i64 p.bound] 53)) := (by repeat (first | with_reducible exact Ext.refl _ | with_reducible assumption | with_reducible apply Ext.alloc | with_reducible apply Ext.drew | (with_reducible refine Ext.setCell ?_ (by (try simp) <;> omega) _)))
    have b5_0 := block_new wr (.cells #[.int .i64 p.a, .int .i64 p.b, .int .i64 p.want.a, .int .i64 p.want.b, .int .i64 p.want.c, .int .i64 p.want.d, .int .i64 p.want.e, .int .i64 p.want.f, .int .i64 p.bound] 53)
    obtain ⟨W5, hW5⟩ : ∃ W, (wr.alloc (.cells #[.int .i64 p.a, .int .i64 p.b, .int .i64 p.want.a, .int .i64 p.want.b, .int .i64 p.want.c, .int .i64 p.want.d, .int .i64 p.want.e, .int .i64 p.want.f, .int .i64 p.bound] 53)) = W := ⟨_, rfl⟩
    obtain ⟨B5, hB5⟩ : ∃ B, wr.heap.size = B := ⟨_, rfl⟩
    rw [hW5] at X5 b5_0
    rw [hB5] at b5_0
    have HZ5 : Hid (wr.heap.size ≤ B5) := Lib.hid (by omega)
    have HW5 := Lib.hid hW5; have HB5 := Lib.hid hB5
    clear hW5 hB5
    have X5 := X.trans X5
    have HB5C := Lib.hid b5_0
    have HPA := Lib.hid hpa; have HPB := Lib.hid hpb
    have j1 : (0 : Int) ≤ (k : Int) := by omega
    have j2 : (k : Int) < (s.pairs.length : Int) := by omega
    have u2 : decide (p.a < 0) = false := decide_eq_false (by omega)
    have u3 : decide (p.b ≤ p.a) = false := decide_eq_false (by omega)
    have hbt' : brkT s tl k = (decide (b < tl.length) && brkB tl p) := by rw [hbt, hpb, dec_lt]
    have hlb : (decide ((tl.length : Int) ≤ p.b)) = !(decide (b < tl.length)) := by rw [hpb, dec_le]
    have hlab : a < b := by omega
    clear hbt hp b5_0 hpa hpb ha0 hab hbn
    go_upto_region 14 with fail
    rw [HW5.out, HB5.out]
    clear q0 q1 q2 q3 q4 q5 q6 q7 q8 HW5 HB5 c0 c1 c2 c3
    go_wp2_with fail
    refine (find_walk _ _ _ _ (HC4.out.ext X5)).mono ?_
    rcases hnf with ⟨hb, j, hj, hf, hbj, hck⟩ | ⟨hb, hf⟩
    · rw [hf]
      rw [hbt'] at hb
      rw [Bool.and_eq_true, decide_eq_true_eq] at hb
      obtain ⟨hbx, hbk⟩ := hb
      rw [decide_eq_true hbx] at hlb
      have u1 : decide ((tl.length : Int) ≤ p.b) = false := hlb
      rintro e w6 ⟨rfl, x6⟩
      have X6 := X5.trans x6
      have bb := block_ext x6 HB5C.out
      have p0 := block_cell bb 0 _ rfl; have p1 := block_cell bb 1 _ rfl; have p2 := block_cell bb 2 _ rfl; have p3 := block_cell bb 3 _ rfl; have p4 := block_cell bb 4 _ rfl; have p5 := block_cell bb 5 _ rfl; have p6 := block_cell bb 6 _ rfl; have p7 := block_cell bb 7 _ rfl; have p8 := block_cell bb 8 _ rfl
      have v1 : decide ((j : Int) < 0) = false := decide_eq_false (by omega)
      have v2 : decide ((0 : Int) ≤ (j : Int)) = true := decide_eq_true (by omega)
      obtain ⟨bl', ol', sv, rfl, r0, rs, r2, r3, r4, r5, r6, r7, RS⟩ := HAT.out w6 X6 j hj
      obtain ⟨cn', hcn⟩ : ∃ z, cnF s tl k = z := ⟨_, rfl⟩
      rw [hbj, hcn] at r0 r2 r3 r4 r5 r6 r7 RS
      rw [hcn] at hck
      obtain ⟨sa, sc, rfl, -, -, -⟩ := RS.len
      have KW := Lib.hid fun w' (y : Ext w6 w') => HCW.out cn' _ w' (G1.ext (HX4.out.trans (X6.trans y))) (S1.ext (HX4.out.trans (X6.trans y))) (V1.ext (HX4.out.trans (X6.trans y))) (RS.ext y)
      rw [hck] at KW
      have r0 := ext_cells r0; have rs := ext_cells rs; have r2 := ext_cells r2; have r3 := ext_cells r3; have r4 := ext_cells r4; have r5 := ext_cells r5; have r6 := ext_cells r6; have r7 := ext_cells r7
      have jj1 : (0 : Int) ≤ (j : Int) := by omega
      have jj2 : (j : Int) < (bl.length : Int) := by omega
      obtain ⟨c0, c1, c2, c3⟩ := CB.out _ (HX4.out.trans X6)
      have z0 := ext_cells c0; have z1 := ext_cells c1; have z2 := ext_cells c2; have z3 := ext_cells c3
      have HBK := Lib.hid hbk; have HBX := Lib.hid hbx; have HLAB := Lib.hid hlab
      clear hf hbj hcn hck RS hbt' hlb hj hbx hbk hlab c0 c1 c2 c3
      go_upto_region 20 with fail
      clear u1 u2 u3 v1 v2 p0 p1 p2 p3 p4 p5 p6 p7 p8
      refine wp_region_ord [(0,true), (1,true), (2,true), (3,true), (4,true), (5,true), (6,true), (7,true), (8,true), (9,true), (10,true), (11,true)] 12 Ext (Ext w6) wide (by kernel_rfl) (stable_ext _) (Ext.drawn _ _) ?_
      iterate 6 (first | (apply wpOrd_no rfl; rfl; (simp only [List.getElem_toArray, List.getElem_cons_succ, List.getElem_cons_zero, Act.put, List.setIfInBounds_toArray, List.set_cons_succ, List.set_cons_zero]; rfl)) | (apply wpOrd_yes rfl; rfl; (intro w' hw'; unfold opR; go_simp; exact ⟨Ext.refl _, rfl⟩); (simp only [List.getElem_toArray, List.getElem_cons_succ, List.getElem_cons_zero, Act.put, List.setIfInBounds_toArray, List.set_cons_succ, List.set_cons_zero]; rfl)))
      (apply wpOrd_det rfl rfl; (intro w' hw'; refine opR_call rfl (Go.Proofs.enters_of Tryd.func22 (by kernel_rfl) rfl) (by simp only [List.map_toArray, List.map_cons, List.map_nil, Act.eval, Array.getD_eq_getD_getElem?, List.getElem?_toArray, List.getElem?_cons_succ, List.getElem?_cons_zero, Option.getD_some]; rfl) ?_; refine (KW.out _ hw').mono ?_; rintro e w'' ⟨rfl, hx⟩; exact ⟨_, rfl, hx, rfl⟩); (simp only [List.getElem_toArray, List.getElem_cons_succ, List.getElem_cons_zero, Act.put, List.setIfInBounds_toArray, List.set_cons_succ, List.set_cons_zero]; rfl))
      iterate 5 (first | (apply wpOrd_no rfl; rfl; (simp only [List.getElem_toArray, List.getElem_cons_succ, List.getElem_cons_zero, Act.put, List.setIfInBounds_toArray, List.set_cons_succ, List.set_cons_zero]; rfl)) | (apply wpOrd_yes rfl; rfl; (intro w' hw'; unfold opR; go_simp; exact ⟨Ext.refl _, rfl⟩); (simp only [List.getElem_toArray, List.getElem_cons_succ, List.getElem_cons_zero, Act.put, List.setIfInBounds_toArray, List.set_cons_succ, List.set_cons_zero]; rfl)))
      refine wpOrd_nil (l := []) rfl ?_
      intro w7 x7
      have X7 := X6.trans x7
      have bb := block_ext (x6.trans x7) HB5C.out
      have p0 := block_cell bb 0 _ rfl; have p1 := block_cell bb 1 _ rfl; have p2 := block_cell bb 2 _ rfl; have p3 := block_cell bb 3 _ rfl; have p4 := block_cell bb 4 _ rfl; have p5 := block_cell bb 5 _ rfl; have p6 := block_cell bb 6 _ rfl; have p7 := block_cell bb 7 _ rfl; have p8 := block_cell bb 8 _ rfl
      clear r0 rs r2 r3 r4 r5 r6 r7 z0 z1 z2 z3 bb
      go_wp2_with fail
      refine (rbreaks_walk _ tl HAL.out p a b HPA.out HPB.out (by have := HBX.out; have := HLAB.out; omega) HBX.out hpw hb0 hb1 _ (HT4.out.ext X7)).mono ?_
      rw [HBK.out]
      rintro e w8 ⟨rfl, x8⟩
      have HX := Lib.hid (X7.trans x8)
      clear p0 p1 p2 p3 p4 p5 p6 p7 p8
      go_wp2
      go_roundw
      case rel => exact ⟨k + 1, by omega, by first | rfl | simp, by go_num, HX.out⟩
      case measure => simp [intOf] <;> omega
    · rw [hf]
      rintro e w6 ⟨rfl, x6⟩
      have X6 := X5.trans x6
      have bb := block_ext x6 HB5C.out
      have p0 := block_cell bb 0 _ rfl; have p1 := block_cell bb 1 _ rfl; have p2 := block_cell bb 2 _ rfl; have p3 := block_cell bb 3 _ rfl; have p4 := block_cell bb 4 _ rfl; have p5 := block_cell bb 5 _ rfl; have p6 := block_cell bb 6 _ rfl; have p7 := block_cell bb 7 _ rfl; have p8 := block_cell bb 8 _ rfl
      have HX6 := Lib.hid X6
      rw [hb] at hbt'
      by_cases hbx : b < tl.length
      · rw [decide_eq_true hbx] at hbt' hlb
        have u1 : decide ((tl.length : Int) ≤ p.b) = false := hlb
        have HBK : Hid (brkB tl p = false) := Lib.hid (by simpa using hbt'.symm)
        have HBX := Lib.hid hbx; have HLAB := Lib.hid hlab
        clear hf hb hbt' hlb hbx hlab bb
        go_wp2_with fail
        refine (rbreaks_walk _ tl HAL.out p a b HPA.out HPB.out (by have := HBX.out; have := HLAB.out; omega) HBX.out hpw hb0 hb1 _ (HT4.out.ext X6)).mono ?_
        rw [HBK.out]
        rintro e w8 ⟨rfl, x8⟩
        have HX := Lib.hid (X6.trans x8)
        clear p0 p1 p2 p3 p4 p5 p6 p7 p8
        go_wp2
        go_roundw
        case rel => exact ⟨k + 1, by omega, by first | rfl | simp, by go_num, HX.out⟩
        case measure => simp [intOf] <;> omega
      · rw [decide_eq_false hbx] at hbt' hlb
        have u1 : decide ((tl.length : Int) ≤ p.b) = true := hlb
        clear hf hb hbt' hlb hbx hlab bb
        go_wp2
        go_roundw
        case rel => exact ⟨k + 1, by omega, by first | rfl | simp, by go_num, HX6.out⟩
        case measure => simp [intOf] <;> omega

theorem potentialNamed_args (H : Type) (enc : TypeId × Value → H) (W : World) (base : Nat) (vs : List Value) (ds : List (DataW H)) (_ : ∀ k, (OpenSpec.ofChange Rows.potentialNamedSpec).cond = some k → k H ds = true) (hL : laidMetH Tryd.prog Rows.potentialNamedRow.laid W) (hA : Args enc Tryd.prog W base Tryd.f5.params.toList vs ds) :
    Calls Tryd.prog 5 vs.toArray W fun e W' => e = .returned (.bool true) ∧ Ext W W' := by
  rw [Tryd.params5] at hA
  obtain ⟨v0, _, d0, _, rfl, rfl, h0, hA⟩ := hA.cons
  obtain ⟨v1, _, d1, _, rfl, rfl, h1, hA⟩ := hA.cons
  obtain ⟨rfl, rfl⟩ := hA.nil
  obtain ⟨s0, vn0, vp0, vc0, rfl, S0⟩ := arg_score h0
  obtain ⟨l1, S1, n1⟩ := arg_vecs h1
  exact potnam_law _ _ _ _ s0 l1 W (gv_of hL) S0 S1

theorem potentialNamed_met (os : Os) : laidMet Tryd.prog Rows.potentialNamedRow.laid ((laidWorld os).forCall (fun _ _ => 0) ⟨#[], #[.agg #[.int .i64 0, .slice none 0 0, .slice none 0 0, .slice none 0 0], .slice none 0 0], []⟩).memory := laidMet_of_run' 8 (by kernel_rfl) (by kernel_rfl)
theorem potentialNamed_reads (os : Os) {H : Type} (enc : TypeId × Value → H) : ∃ places, DataW.whole enc Tryd.prog ((laidWorld os).forCall (fun _ _ => 0) ⟨#[], #[.agg #[.int .i64 0, .slice none 0 0, .slice none 0 0, .slice none 0 0], .slice none 0 0], []⟩).memory Tryd.f5.params.toList Rows.potentialNamedSpec.vars false #[.agg #[.int .i64 0, .slice none 0 0, .slice none 0 0, .slice none 0 0], .slice none 0 0].toList 8 = some ([.agg [.lit (.int .i64 0), .nil, .nil, .nil], .nil], [], places) := ⟨[], by kernel_rfl⟩
set_option maxRecDepth 100000 in
theorem potentialNamed_lifted (os : Os) (started : os.Started) (H : Type) (enc : TypeId × Value → H) (F : Stop.Interp) :
    ReturnsInHanded {} Tryd.checked os 5 .any ((OpenSpec.ofChange Rows.potentialNamedSpec).preRow enc Tryd.prog Tryd.f5 Rows.potentialNamedRow.domain false Rows.potentialNamedRow.laid) (((OpenSpec.ofChange Rows.potentialNamedSpec).at F).post enc Tryd.prog Tryd.f5 false true false false) := by
  obtain ⟨places, hx⟩ := potentialNamed_reads os enc
  exact law_row (C := Tryd.checked) (s := (OpenSpec.ofChange Rows.potentialNamedSpec)) (by kernel_rfl) started (by kernel_rfl) Tryd.func5
    (witness_row_at (enc := enc) (C := Tryd.checked) false (laidWorld os) #[.agg #[.int .i64 0, .slice none 0 0, .slice none 0 0, .slice none 0 0], .slice none 0 0] rfl (by kernel_rfl) (by kernel_rfl) (by kernel_rfl) (OpenSpec.preRow_of_cond 8 hx (by kernel_rfl) (fun k hk => by cases hk) (by kernel_rfl) (potentialNamed_met os)))
    (by kernel_rfl) (by kernel_rfl) (by kernel_rfl) rfl (fun ds h => by match ds, h with | [_, _], _ => rfl) (potentialNamed_args H enc)
theorem potentialNamed_said : Rows.PotentialNamedSaid :=
  OpenClaim.holds_of_cond 5 Tryd.f5 rfl rfl rfl rfl rfl rfl rfl ⟨rfl, rfl, rfl, rfl, rfl⟩ rfl rfl rfl rfl rfl (by kernel_rfl) Tryd.func5 (by kernel_rfl)
    (of_decide_eq_true (by kernel_rfl)) (by unfold Func.isWrapper; first | (rw [if_pos (by decide +kernel)]; kernel_rfl) | (rw [if_neg (by decide +kernel)]; exact ⟨rfl, rfl⟩))
    (fun os started H enc _ F => by rw [OpenClaim.pre_eq_preRow]; exact potentialNamed_lifted os started H enc F)
theorem potentialNamed_plain (f : FuncId) (fn : Func) (hf : Tryd.pinned.checked.prog.funcNamed "schisma/schismalaw23.PotentialNamed" = some f) (hfn : Tryd.pinned.checked.prog.funcs[f]? = some fn) :
    false = Tryd.pinned.checked.prog.looks [] ∧ ∀ (j : Nat) t, fn.params[j]? = some t → Tryd.pinned.checked.prog.wantsStandIn t = false := by
  obtain rfl : f = 5 := Option.some.inj ((show Tryd.prog.funcNamed "schisma/schismalaw23.PotentialNamed" = some 5 by kernel_rfl).symm.trans hf) |>.symm
  obtain rfl : fn = Tryd.f5 := (Option.some.inj (Tryd.func5.symm.trans hfn)).symm
  refine ⟨by kernel_rfl, fun j t ht => ?_⟩
  have hall : Tryd.f5.params.all (fun t => !Tryd.prog.wantsStandIn t) = true := by kernel_rfl
  have := (Array.all_eq_true'.1 hall) t (Array.mem_of_getElem? ht)
  have e : Tryd.prog.wantsStandIn t = false := by simpa using this
  exact e
/-- The card. -/
theorem potentialNamed_holds : Rows.PotentialNamedCardSaid :=
  Claim7.holds_tied_plain_at .later [] _ _ _ _ potentialNamed_said (fun _ h => by cases h) (by kernel_rfl) (fun _ h => by cases h) potentialNamed_row_tie rfl ⟨rfl, rfl⟩ (by kernel_rfl) rfl potentialNamed_plain (by kernel_rfl)
end Go.Proofs.YtdpegkkbhanjkaaDoor
