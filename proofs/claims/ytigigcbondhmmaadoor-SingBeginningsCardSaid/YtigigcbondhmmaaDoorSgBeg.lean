/-
  Proved: 'SingBeginnings' returns true for every input and leaves its arguments as they were. No condition.
-/
import Derived.Test.YtigigcbondhmmaaDoorSgStp0
import Derived.Test.YtigigcbondhmmaaDoorLibB
set_option linter.unusedVariables false
namespace Go.Proofs.YtigigcbondhmmaaDoor
open Go.RowKit Go.Sx Go.Sx.Sz Go.Sx.Sc Go.Sx.Sg Go.ChangeShapes Go.WideShapes Go.ChangeAt

theorem et_bv : ET Tryd.prog 27 41 6 48 := .mk' (z := .agg #[.int .i64 0, .int .i64 0, .int .i64 0, .int .i64 0, .int .i64 0, .int .i64 0]) Tryd.underlying27 (by kernel_rfl) rfl (by decide) (by decide)
theorem et_bn : ET Tryd.prog 22 43 10 80 := .mk' (z := .agg #[.int .i64 0, .int .i64 0, .int .i64 0, .int .i64 0, .int .i64 0, .int .i64 0, .int .i64 0, .int .i64 0, .int .i64 0, .bool false]) Tryd.underlying22 (by kernel_rfl) rfl (by decide) (by decide)
theorem et_bp : ET Tryd.prog 23 52 9 72 := .mk' (z := .agg #[.int .i64 0, .int .i64 0, .int .i64 0, .int .i64 0, .int .i64 0, .int .i64 0, .int .i64 0, .int .i64 0, .int .i64 0]) Tryd.underlying23 (by kernel_rfl) rfl (by decide) (by decide)
/-- What From and Least say of a score that ends with an entry. -/
theorem upto_from {s : Sc} {xs : List V6} {n : Nat} {st : Int} (hh : hallB s xs = true) (hn : n < s.notes.length) (he : entryB s n = true) (hst : 0 ≤ st ∧ st ≤ 2400000) :
    fromR (upto s n) (xs.take (n + 1)) n st = fromR s xs n st ∧ leastR (upto s n) (xs.take (n + 1)) n = leastR s xs n := by
  have hH := hall_upto hn hh
  have hE := entryB_upto hn he
  have hnd : ∀ i ∈ heardL s n, needF (xs.take (n + 1)) n i = needF xs n i := fun i hi => take_need hi
  constructor
  · rw [from_eq hH hE hst, from_eq hh he hst, Int.toNat_natCast]
    exact find_congr (upto_heard hn) hnd st
  · unfold leastR
    rw [if_pos ⟨hH, hE⟩, if_pos ⟨hh, he⟩, Int.toNat_natCast]
    exact least_congr (upto_heard hn) hnd

set_option maxRecDepth 100000 in
set_option maxHeartbeats 16000000 in
theorem sgbeg_law (vn vp vc vx : Value) (s : Sc) (xs : List V6) (n st : Int) (w : World) (G0 : Gl 0 w) (S : ScR w vn vp vc s) (V : Sl w 6 V6.list vx xs) :
    Calls Tryd.prog 9 #[.agg #[.int .i64 s.voices, vn, vp, vc], vx, .int .i64 n, .int .i64 st] w fun e w' => e = .returned (.bool true) ∧ Ext w w' := by
  obtain ⟨an, cn, rfl, hcn, hmn, hln⟩ := S.nt.len
  obtain ⟨ap, cp, rfl, hcp, hmp, hlp⟩ := S.pr.len
  obtain ⟨ac, cc, rfl, hcc, hmc, hlc⟩ := S.cd.len
  obtain ⟨ax, cx, rfl, hcx, hmx, hlx⟩ := V.len
  have X0 : Ext w (w.alloc (.cells #[.int .i64 s.voices, .slice an s.notes.length cn, .slice ap s.pairs.length cp, .slice ac s.cads.length cc] 26)) := (by repeat (first | with_reducible exact Ext.refl _ | with_reducible assumption | with_reducible apply Ext.alloc | with_reducible apply Ext.drew | (with_reducible refine Ext.setCell ?_ (by (try simp) <;> omega) _)))
  have b0_0 := block_new w (.cells #[.int .i64 s.voices, .slice an s.notes.length cn, .slice ap s.pairs.length cp, .slice ac s.cads.length cc] 26)
  obtain ⟨W0, hW0⟩ : ∃ W, (w.alloc (.cells #[.int .i64 s.voices, .slice an s.notes.length cn, .slice ap s.pairs.length cp, .slice ac s.cads.length cc] 26)) = W := ⟨_, rfl⟩
  obtain ⟨B0, hB0⟩ : ∃ B, w.heap.size = B := ⟨_, rfl⟩
  rw [hW0] at X0 b0_0
  rw [hB0] at b0_0
  have HZ0 : Hid (w.heap.size ≤ B0) := Lib.hid (by omega)
  have HW0 := Lib.hid hW0; have HB0 := Lib.hid hB0
  clear hW0 hB0
  have CB := Lib.hid (boxS b0_0)
  have S1 := S.ext X0; have V1 := V.ext X0; have G1 := G0.ext X0
  clear S V G0 b0_0
  go_enter Tryd.func9, Tryd.ntmps9
  go_wp2_with fail
  rw [HW0.out, HB0.out]
  clear HW0 HB0
  refine (head_walk _ G1).mono ?_
  rintro e w1 ⟨rfl, x1⟩
  obtain ⟨c0, c1, c2, c3⟩ := CB.out _ x1
  go_wp2_with fail
  refine (from_walk _ _ _ _ s xs n st _ (G1.ext x1) (S1.ext x1) (V1.ext x1)).mono ?_
  by_cases hb : hallB s xs = true ∧ entryB s n = true ∧ 0 ≤ st ∧ st ≤ 2400000
  case neg =>
    have HF : Hid (fromR s xs n st = (0, 1)) := Lib.hid (from_bad hb)
    rw [HF.out]
    clear hb
    rintro e w2 ⟨rfl, y2⟩
    clear c0 c1 c2 c3
    go_wp2
    go_ret
    exact ⟨by first | rfl | simp, X0.trans (x1.trans y2)⟩
  have hff := from_eq hb.1 hb.2.1 hb.2.2
  obtain ⟨k, rfl, hk, hek⟩ := entry_in hb.2.1
  have HALL := Lib.hid (hallB_iff.1 hb.1)
  have hnn := HALL.out.1.sz.2.1
  have hpn := HALL.out.1.sz.2.2.1
  have UF := Lib.hid (upto_from hb.1 hk hb.2.1 hb.2.2)
  rw [Int.toNat_natCast] at hff
  have h4 := find_cases s xs k st
  rw [← hff] at h4
  obtain ⟨⟨fa, fe⟩, hf⟩ : ∃ r, fromR s xs k st = r := ⟨_, rfl⟩
  rw [hf] at h4 UF ⊢
  have h5 : fe = 0 ∨ fe = 4 := by
    rcases h4 with ⟨i, h⟩ | h
    · simp at h; exact .inl h.2
    · simp at h; exact .inr h.2
  have HFE := Lib.hid h5
  obtain ⟨⟨la, lb, le⟩, hl⟩ : ∃ r, leastR s xs k = r := ⟨_, rfl⟩
  rw [hl] at UF
  have HL := Lib.hid hl
  have HKN := Lib.hid (And.intro hk HALL.out.2.1)
  clear hb hff hek hf h4 h5 hl
  rintro e w2 ⟨rfl, y2⟩
  have x2 := x1.trans y2
  clear c0 c1 c2 c3
  obtain ⟨c0, c1, c2, c3⟩ := CB.out _ x2
  have e1 : ((xs.length : Int) != (s.notes.length : Int)) = false := by rw [bne_eq_false_iff_eq]; have := HALL.out.2.1; omega
  have f1 : decide ((k : Int) < 0) = false := decide_eq_false (by omega)
  have f2 : decide (s.notes.length ≤ k) = false := decide_eq_false (by omega)
  go_upto_region 3 with fail
  go_cut [37] (fun s37 wx => s37 = .bool false ∧ w2 = wx)
  case first =>
    rcases HFE.out with h | h
    all_goals
      subst h
      clear c0 c1 c2 c3 e1 f1 f2
      go_wp2_with fail
      go_meet
      exact ⟨by first | rfl | simp, rfl⟩
  obtain ⟨rfl, hww⟩ := hcut
  subst hww
  obtain ⟨W3, rfl⟩ : ∃ z : World, z = w2 := ⟨_, rfl⟩
  go_upto_region 7 with fail
  have S3 := S1.ext x2
  have h0 := ext_cells c0; have h1 := ext_cells c1; have h3 := ext_cells c3
  have SL := S3.nt.cut (by omega) 0 (k + 1) (Nat.zero_le _) (by have := HKN.out; omega)
  rw [List.drop_zero] at SL
  have i1 : (0 : Int) ≤ (k : Int) + 1 := by omega
  have i2 : (k : Int) + 1 ≤ (s.notes.length : Int) := by have := HKN.out; omega
  have i3 : (k : Int) + 1 ≤ (cn : Int) := by have := HKN.out; omega
  have e2 : IntKind.i64.wrap ((k : Int) + 1) = (k : Int) + 1 := IntWalk.i64_in _ (by have := HKN.out; omega)
  clear e1 f1 f2
  apply Y.wp_region_ordY [(0, .det _), (1, .det _), (2, .new Zero (fun v w' => OwnR w' W3.heap.size 43 10 encN v []) _ zero0), (3, .det _), (4, .det _), (5, .det _), (6, .det _), (7, .det (sliced an 0 (k + 1) cn 10)), (8, .new (fun v => ∃ a n c, v = .slice a n c) (fun v w' => OwnR w' W3.heap.size 43 10 encN v (s.notes.take (k + 1))) (.slice none 0 0) ⟨none, 0, 0, rfl⟩ [2]), (9, .det _), (10, .det _),
    (11, .new (fun v => ∃ a n c, v = .agg #[.int .i64 s.voices, .slice a n c, .slice none 0 0, .slice ac s.cads.length cc]) (fun v w' => ∃ a n c, v = .agg #[.int .i64 s.voices, .slice a n c, .slice none 0 0, .slice ac s.cads.length cc] ∧ OwnR w' W3.heap.size 43 10 encN (.slice a n c) (s.notes.take (k + 1))) (.agg #[.int .i64 s.voices, .slice none 0 0, .slice none 0 0, .slice ac s.cads.length cc]) ⟨none, 0, 0, rfl⟩ [8]), (12, .new (fun v => ∃ g, v = .pointer (some ⟨g, 0, none⟩)) (fun v w' => ∃ g, v = .pointer (some ⟨g, 0, none⟩) ∧ W3.heap.size ≤ g ∧ w'.heap[g]? = some (.cells #[.int .i64 0, .slice none 0 0, .slice none 0 0, .slice none 0 0] 26 (0, 0))) (.pointer (some ⟨0, 0, none⟩)) ⟨0, rfl⟩)]
    13 Ext Ext (Ext W3) (fun _ => True) wide
    [(0,true), (1,true), (2,true), (3,true), (4,true), (5,true), (6,true), (7,true), (8,true), (9,true), (10,true), (11,true), (12,true)] [(0,[]),(1,[]),(2,[]),(3,[]),(4,[]),(5,[]),(6,[]),(7,[]),(8,[2]),(9,[]),(10,[]),(11,[8]),(12,[])] (by kernel_rfl) (by kernel_rfl) rfl rfl (by simp [Y.Kd.new, Y.Kd.det, Y.Kd.one, Y.kdOf]) (by decide) (fun _ _ h => h) (stable_ext _) stable_true (Ext.drawn _ _) trivial ?main
  case main =>
    iterate 2 (apply Y.ordX_det rfl rfl; (intro w' hw'; unfold opR; go_simp; exact ⟨Ext.refl _, rfl⟩); (simp only [List.getElem_toArray, List.getElem_cons_succ, List.getElem_cons_zero, Act.put, List.setIfInBounds_toArray, List.set_cons_succ, List.set_cons_zero]; rfl))
    apply Y.ordX_new (fun v => stable_own' _ _ _ _ _ _) rfl rfl
    · intro w' hw' _
      unfold opR
      go_simp
      exact ⟨Ext.alloc' _ _, ⟨_, rfl⟩, OwnR.lit w' #[] [] 0 rfl hw'.size rfl rfl (by simp [maxLen])⟩
    · intro v; (simp only [List.getElem_toArray, List.getElem_cons_succ, List.getElem_cons_zero, Act.put, List.setIfInBounds_toArray, List.set_cons_succ, List.set_cons_zero]; rfl)
    rintro v0 ⟨g0, rfl⟩
    iterate 4 (apply Y.ordX_det rfl rfl; (intro w' hw'; unfold opR; go_simp; exact ⟨Ext.refl _, rfl⟩); (simp only [List.getElem_toArray, List.getElem_cons_succ, List.getElem_cons_zero, Act.put, List.setIfInBounds_toArray, List.set_cons_succ, List.set_cons_zero]; rfl))
    apply Y.ordX_det rfl rfl
    · intro w' hw'
      unfold opR
      go_simp
      exact ⟨Ext.refl _, rfl⟩
    · (simp only [List.getElem_toArray, List.getElem_cons_succ, List.getElem_cons_zero, Act.put, List.setIfInBounds_toArray, List.set_cons_succ, List.set_cons_zero]; rfl)
    apply Y.ordX_new (fun v => stable_own' _ _ _ _ _ _) rfl rfl
    · intro w' hw' hN
      refine opR_app0 et_bn (.tmp 58) (.tmp 63) rfl (hN 2 (by simp)) rfl (s.notes.take (k + 1)) _ (SL.ext hw') rfl (fun _ _ => rfl) (by simp; omega) hw'.size ?_
      intro v' w4 h1 h2 _
      exact ⟨h2, h1.shape, h1⟩
    · intro v; (simp only [List.getElem_toArray, List.getElem_cons_succ, List.getElem_cons_zero, Act.put, List.setIfInBounds_toArray, List.set_cons_succ, List.set_cons_zero]; rfl)
    rintro v7 ⟨a8, n8, q8, rfl⟩
    iterate 2 (apply Y.ordX_det rfl rfl; (intro w' hw'; unfold opR; go_simp; exact ⟨Ext.refl _, rfl⟩); (simp only [List.getElem_toArray, List.getElem_cons_succ, List.getElem_cons_zero, Act.put, List.setIfInBounds_toArray, List.set_cons_succ, List.set_cons_zero]; rfl))
    apply Y.ordX_new (fun v w1 w2 h k => by obtain ⟨a, n, c, h1, h2⟩ := h; exact ⟨a, n, c, h1, h2.ext k⟩) rfl rfl
    · intro w' hw' hN
      have hO := hN 8 (by simp)
      unfold opR
      go_simp
      exact ⟨Ext.refl _, ⟨_, _, _, rfl⟩, _, _, _, rfl, hO⟩
    · intro v; (simp only [List.getElem_toArray, List.getElem_cons_succ, List.getElem_cons_zero, Act.put, List.setIfInBounds_toArray, List.set_cons_succ, List.set_cons_zero]; rfl)
    rintro v10 -
    apply Y.ordX_new (fun v w1 w2 h k => by obtain ⟨g, a, b, c⟩ := h; exact ⟨g, a, b, block_ext k c⟩) rfl rfl
    · intro w' hw' _
      unfold opR
      go_simp
      exact ⟨Ext.alloc' _ _, ⟨_, rfl⟩, _, rfl, hw'.size, block_new _ _⟩
    · intro v; (simp only [List.getElem_toArray, List.getElem_cons_succ, List.getElem_cons_zero, Act.put, List.setIfInBounds_toArray, List.set_cons_succ, List.set_cons_zero]; rfl)
    rintro v11 -
    refine Y.ordX_nil rfl ?_
    rintro w9 hw9 - ⟨⟨⟨⟨-, -⟩, -⟩, a7, n7, q7, rfl, o7⟩, D, rfl, hDW, bD⟩
    have X9 := hw9
    have hne : (Value.slice a7 n7 q7).ownBlock ≠ some D := fun e => by
      obtain ⟨cs, hcs⟩ := o7.kind e
      rw [hcs] at bD; cases bD
    have n9 := o7.setRow hne #[.int .i64 s.voices, .slice a7 n7 q7, .slice none 0 0, .slice ac s.cads.length cc]
    have d9 := setRow_at bD #[.int .i64 s.voices, .slice a7 n7 q7, .slice none 0 0, .slice ac s.cads.length cc]
    have x9 := X9.setRow hDW #[.int .i64 s.voices, .slice a7 n7 q7, .slice none 0 0, .slice ac s.cads.length cc]
    have HN9 := Lib.hid n9; have HD9 := Lib.hid d9; have HX9 := Lib.hid x9; have HDW := Lib.hid hDW
    clear hne n9 d9 x9 X9 o7 hw9 h0 h1 h3 c0 c1 c2 c3 i2 i3 S3 hDW SL e2
    generalize sliced an 0 (k + 1) cn 10 = z64
    refine wpList_store_row rfl _ _ _ rfl D _ rfl rfl _ _ bD (by kernel_rfl) rfl (by simp [Value.oneCell']) ?_
    go_wp2
    clear hnn
    go_loopw [13] (fun i wr => ∃ (j : Nat) (vq : Value), j ≤ s.pairs.length ∧ i = .int .i64 j ∧ OwnR wr W3.heap.size 52 9 encP vq ((s.pairs.take j).filter (fun p => decide (p.b ≤ (k : Int)))) ∧ wr.heap[D]? = some (.cells #[.int .i64 s.voices, .slice a7 n7 q7, vq, .slice ac s.cads.length cc] 26 (0, 0)) ∧ OwnR wr W3.heap.size 43 10 encN (.slice a7 n7 q7) (s.notes.take (k + 1)) ∧ Ext W3 wr) (fun i _ => s.pairs.length - (intOf i).toNat)
    case atStart => exact ⟨0, .slice none 0 0, by omega, by first | rfl | trivial, OwnR.nil, HD9.out, HN9.out, HX9.out⟩
    case round =>
      obtain ⟨j, vq, hj, rfl, oq, hbd, hno, X⟩ := hrel
      have xx := x2.trans X
      obtain ⟨c0, c1, c2, c3⟩ := CB.out wr xx
      by_cases hlt : j < s.pairs.length
      · obtain ⟨bp, op, rfl, q⟩ := Sl.pr (S1.pr.ext xx) j hlt
        obtain ⟨pr, hpr⟩ : ∃ p, s.pairs[j] = p := ⟨_, rfl⟩
        rw [hpr] at q
        obtain ⟨q0, q1, q2, q3, q4, q5, q6, q7', q8⟩ := q
        have HT : Hid ((s.pairs.take (j + 1)).filter (fun p => decide (p.b ≤ (k : Int))) = (s.pairs.take j).filter (fun p => decide (p.b ≤ (k : Int))) ++ if (decide (pr.b ≤ (k : Int))) = true then [pr] else []) := Lib.hid (by
          rw [List.take_succ_eq_append_getElem hlt, List.filter_append, hpr]
          by_cases e : (decide (pr.b ≤ (k : Int))) = true <;> simp only [List.filter_cons, List.filter_nil, e] <;> rfl)
        have hfl : ((s.pairs.take j).filter (fun p => decide (p.b ≤ (k : Int)))).length ≤ j := Nat.le_trans (List.length_filter_le _ _) (by rw [List.length_take]; omega)
        have HFL := Lib.hid hfl
        have j1 : (0 : Int) ≤ (j : Int) := by omega
        have j2 : (j : Int) < (s.pairs.length : Int) := by omega
        clear hpr hfl c0 c1 c3
        by_cases hb : pr.b ≤ (k : Int)
        case neg =>
          have hb' : decide (pr.b ≤ (k : Int)) = false := decide_eq_false hb
          have HS : Hid ((s.pairs.take (j + 1)).filter (fun p => decide (p.b ≤ (k : Int))) = (s.pairs.take j).filter (fun p => decide (p.b ≤ (k : Int)))) := Lib.hid (by rw [HT.out, hb']; simp)
          have HO2 := Lib.hid oq; have HB2 := Lib.hid hbd; have HN2 := Lib.hid hno
          clear hb oq hbd hno
          go_wp2
          go_roundw
          case rel => exact ⟨j + 1, vq, by omega, by go_num, by rw [HS.out]; exact HO2.out, HB2.out, HN2.out, X⟩
          case measure => simp [intOf] <;> omega
        case pos =>
          have hb' : decide (pr.b ≤ (k : Int)) = true := decide_eq_true hb
          have HS : Hid ((s.pairs.take (j + 1)).filter (fun p => decide (p.b ≤ (k : Int))) = (s.pairs.take j).filter (fun p => decide (p.b ≤ (k : Int))) ++ [pr]) := Lib.hid (by rw [HT.out, if_pos hb'])
          obtain ⟨va, vn, vc, hvq⟩ := oq.shape
          subst hvq
          have hc2 := block_cell hbd 2 _ rfl
          have g1 := ext_cells c2; have g2 := ext_cells hc2
          have f0 := ext_cells q0; have f1 := ext_cells q1; have f2 := ext_cells q2; have f3 := ext_cells q3; have f4 := ext_cells q4; have f5 := ext_cells q5; have f6 := ext_cells q6; have f7 := ext_cells q7'; have f8 := ext_cells q8
          have HO2 := Lib.hid oq; have HB2 := Lib.hid hbd; have HN2 := Lib.hid hno
          have HXr := Lib.hid X
          clear hb oq hbd hno
          obtain ⟨wo, rfl⟩ : ∃ wo : World, wo = wr := ⟨_, rfl⟩
          go_wp2
          apply Y.wp_region_ordY [(0, .det _), (1, .det _), (2, .det _), (3, .det _), (4, .det _), (5, .det _), (6, .det _), (7, .new (fun _ => True) (Sl1 W3.heap.size 52 #[.int .i64 pr.a, .int .i64 pr.b, .int .i64 pr.want.a, .int .i64 pr.want.b, .int .i64 pr.want.c, .int .i64 pr.want.d, .int .i64 pr.want.e, .int .i64 pr.want.f, .int .i64 pr.bound]) undef trivial)]
            8 Ext Ext (Ext wo) (fun _ => True) wide
            [(0,true), (1,true), (2,true), (3,true), (4,true), (5,true), (6,true), (7,true)] [(0,[]),(1,[]),(2,[]),(3,[]),(4,[]),(5,[]),(6,[]),(7,[])] (by kernel_rfl) (by kernel_rfl) rfl rfl (by simp [Y.Kd.new, Y.Kd.det, Y.Kd.one, Y.kdOf]) (by decide) (fun _ _ h => h) (stable_ext _) stable_true (Ext.drawn _ _) trivial ?main3
          case main3 =>
            iterate 7 (apply Y.ordX_det rfl rfl; (intro w' hw'; unfold opR; go_simp; exact ⟨Ext.refl _, rfl⟩); (simp only [List.getElem_toArray, List.getElem_cons_succ, List.getElem_cons_zero, Act.put, List.setIfInBounds_toArray, List.set_cons_succ, List.set_cons_zero]; rfl))
            apply Y.ordX_new (Sl1.stable _ _ _) rfl rfl
            · intro w' hw' _
              unfold opR
              go_simp
              exact ⟨Ext.alloc' _ _, Sl1.new w' _ _ (HXr.out.trans hw').size⟩
            · intro v; (simp only [List.getElem_toArray, List.getElem_cons_succ, List.getElem_cons_zero, Act.put, List.setIfInBounds_toArray, List.set_cons_succ, List.set_cons_zero]; rfl)
            intro v7 _
            refine Y.ordX_nil rfl ?_
            rintro w9 hw9 - ⟨-, g7, rfl, hg7, hrow⟩
            have X9 := HXr.out.trans hw9
            refine wpList_own_app et_bp rfl (.tmp 84) (.tmp 90) rfl (HO2.out.ext hw9) rfl [pr] ⟨g7, 0, none⟩ 1 rfl (fun _ _ => rfl) (fun j u hu => row_news hrow j u hu) (by simp [encP, Value.oneCell']) (by have := HFL.out; simp; omega) X9.size ?_
            intro v5 w5 o5 b5 a5 _
            have d9 := block_ext hw9 HB2.out
            have hne : (Value.slice va vn vc).ownBlock ≠ some D := fun e => by
              obtain ⟨cs, hcs⟩ := (HO2.out.ext hw9).kind e
              rw [hcs] at d9; cases d9
            have d5 := a5.block d9 hne
            have n5 := (HN2.out.ext hw9).appd a5 (fun g h1 h2 => by
              obtain ⟨cs, hcs⟩ := (HN2.out.ext hw9).kind h1
              obtain ⟨cs2, hcs2⟩ := (HO2.out.ext hw9).kind h2
              rw [hcs] at hcs2; cases hcs2)
            have hne5 : v5.ownBlock ≠ some D := fun e => by
              obtain ⟨cs, hcs⟩ := o5.kind e
              rw [hcs] at d5; cases d5
            have hne6 : (Value.slice a7 n7 q7).ownBlock ≠ some D := fun e => by
              obtain ⟨cs, hcs⟩ := n5.kind e
              rw [hcs] at d5; cases d5
            have X5 : Ext W3 w5 := Below.trans X9 b5
            have z1 := block_cell d5 2 _ rfl
            have z2 := block_free d5 2
            have HB6 := Lib.hid (block_set d5 2 v5)
            have HO6 := Lib.hid (o5.stay (j := 2) hne5 v5)
            have HN6 := Lib.hid (n5.stay (j := 2) hne6 v5)
            have HX6 := Lib.hid (X5.setCell (p := ⟨D, 2, none⟩) HDW.out v5)
            obtain ⟨vb, vm, vd, hv5⟩ := o5.shape
            subst hv5
            clear d9 hne d5 n5 hne5 hne6 X5 o5 b5 a5 X9 hw9 hrow hg7 g1 g2 f0 f1 f2 f3 f4 f5 f6 f7 f8 c2 hc2 q0 q1 q2 q3 q4 q5 q6 q7' q8
            go_wp2
            go_roundw
            case rel => exact ⟨j + 1, _, by omega, by go_num, by rw [HS.out]; exact HO6.out, HB6.out, HN6.out, HX6.out⟩
            case measure => simp [intOf] <;> omega
      · obtain rfl : j = s.pairs.length := by omega
        rw [List.take_length] at oq
        have HSR : Hid (ScR wr (.slice a7 n7 q7) vq (.slice ac s.cads.length cc) (upto s k)) := Lib.hid ⟨hno.sl (fun _ _ => rfl) (by simp; have := HALL.out.1.sz.2.1; omega), oq.sl (fun _ _ => rfl) (Nat.le_trans (List.length_filter_le _ _) (by omega)), S1.cd.ext xx⟩
        obtain ⟨W5, rfl⟩ : ∃ z : World, z = wr := ⟨_, rfl⟩
        have hv0 : (upto s k).voices = s.voices := rfl
        have UG := Lib.hid UF.out
        obtain ⟨t, ht⟩ : ∃ t, upto s k = t := ⟨_, rfl⟩
        rw [ht] at HSR UG hv0
        have HV0 := Lib.hid hv0
        clear ht hv0 UF
        have HBD := Lib.hid hbd
        have e4 := Ext.alloc' W5 (.cells #[] 41)
        have o0 : OwnR (W5.alloc (.cells #[] 41)) W5.heap.size 41 6 V6.list (.slice (some ⟨W5.heap.size, 0, none⟩) 0 0) [] := OwnR.lit W5 #[] [] 0 rfl (Nat.le_refl _) rfl rfl (by simp [maxLen])
        have S4 := ((V1.ext xx).ext e4).front (k + 1) (by have := HKN.out; omega)
        have hz4 := e4.size
        have i2 : (k : Int) + 1 ≤ (xs.length : Int) := by have := HKN.out; omega
        have i3 : (k : Int) + 1 ≤ (cx : Int) := by have := HKN.out; omega
        have i4 : k + 1 ≤ cx := by have := HKN.out; omega
        have e2 : IntKind.i64.wrap ((k : Int) + 1) = (k : Int) + 1 := IntWalk.i64_in _ (by have := HKN.out; omega)
        clear c0 c1 c3 oq hbd hno
        have hxl : (xs.take (k + 1)).length = k + 1 := by rw [List.length_take]; have := HKN.out; omega
        obtain ⟨ys, hys⟩ : ∃ ys, xs.take (k + 1) = ys := ⟨_, rfl⟩
        rw [hys] at hxl UG S4
        have HXL := Lib.hid hxl
        clear hxl hys
        go_wp2_with (first | (at_builtin; go_must (refine wpList_app0 et_bv rfl (.tmp 93) (.tmp 97) rfl o0 rfl ys _ S4 rfl (fun _ _ => rfl) (by have := HXL.out; have := HKN.out; have := HALL.out.1.sz.2.1; omega) hz4 ?_; intro v14 w5 hown5 x5' _; (obtain ⟨a5, q5, rfl⟩ := hown5.len); rw [HXL.out] at hown5 ⊢; have X45 := e4.trans x5'; have hbd5 := block_ext X45 HBD.out; have d0 := block_cell hbd5 0 _ rfl; have d1 := block_cell hbd5 1 _ rfl; have d2 := block_cell hbd5 2 _ rfl; have d3 := block_cell hbd5 3 _ rfl)) | fail)
        have xx5 := xx.trans X45
        have HY := Lib.hid (hown5.sl (fun _ _ => rfl) (by have := HXL.out; have := HKN.out; have := HALL.out.1.sz.2.1; omega))
        clear c2 o0 S4 e4 x5' hown5 hz4 i2 i3 i4 e2
        have NF := from_walk (.slice a7 n7 q7) vq (.slice ac s.cads.length cc) (.slice a5 (k + 1) q5) t ys k st w5 (G1.ext xx5) (HSR.out.ext X45) HY.out
        rw [HV0.out, UG.out.1] at NF
        refine NF.mono ?_
        clear NF
        rintro e w10 ⟨rfl, y10⟩
        have xa := xx5.trans y10
        clear d0 d1 d2 d3
        obtain ⟨c0, c1, c2, c3⟩ := CB.out _ xa
        go_wp2_with fail
        refine (least_walk _ _ _ _ s xs k _ (G1.ext xa) (S1.ext xa) (V1.ext xa)).mono ?_
        rw [HL.out]
        rintro e w11 ⟨rfl, y11⟩
        have xb := xa.trans y11
        have XB := X45.trans (y10.trans y11)
        have hbd6 := block_ext XB HBD.out
        have d0 := block_cell hbd6 0 _ rfl; have d1 := block_cell hbd6 1 _ rfl; have d2 := block_cell hbd6 2 _ rfl; have d3 := block_cell hbd6 3 _ rfl
        clear c0 c1 c2 c3
        go_wp2_with fail
        have NL := least_walk (.slice a7 n7 q7) vq (.slice ac s.cads.length cc) (.slice a5 (k + 1) q5) t ys k w11 (G1.ext xb) (HSR.out.ext XB) (HY.out.ext (y10.trans y11))
        rw [HV0.out, UG.out.2] at NL
        refine NL.mono ?_
        clear NL
        rintro e w12 ⟨rfl, y12⟩
        have HX := Lib.hid (X0.trans (xb.trans y12))
        have t1 : (fa == fa) = true := beq_self_eq_true _
        have t2 : (fe == fe) = true := beq_self_eq_true _
        have t3 : (la == la) = true := beq_self_eq_true _
        have t4 : (lb == lb) = true := beq_self_eq_true _
        have t5 : (le == le) = true := beq_self_eq_true _
        clear d0 d1 d2 d3 hbd5 hbd6
        go_wp2
        go_ret
        exact ⟨by first | rfl | simp, HX.out⟩

theorem singBeginnings_args (H : Type) (enc : TypeId × Value → H) (W : World) (base : Nat) (vs : List Value) (ds : List (DataW H)) (_ : ∀ k, (OpenSpec.ofChange Rows.singBeginningsSpec).cond = some k → k H ds = true) (hL : laidMetH Tryd.prog Rows.singBeginningsRow.laid W) (hA : Args enc Tryd.prog W base Tryd.f9.params.toList vs ds) :
    Calls Tryd.prog 9 vs.toArray W fun e W' => e = .returned (.bool true) ∧ Ext W W' := by
  rw [Tryd.params9] at hA
  obtain ⟨v0, _, d0, _, rfl, rfl, h0, hA⟩ := hA.cons
  obtain ⟨v1, _, d1, _, rfl, rfl, h1, hA⟩ := hA.cons
  obtain ⟨v2, _, d2, _, rfl, rfl, h2, hA⟩ := hA.cons
  obtain ⟨v3, _, d3, _, rfl, rfl, h3, hA⟩ := hA.cons
  obtain ⟨rfl, rfl⟩ := hA.nil
  obtain ⟨s0, vn0, vp0, vc0, rfl, S0⟩ := arg_score h0
  obtain ⟨l1, S1, n1⟩ := arg_vecs h1
  obtain ⟨k2, rfl, b2⟩ := h2.int Tryd.underlying3
  obtain ⟨k3, rfl, b3⟩ := h3.int Tryd.underlying3
  exact sgbeg_law _ _ _ _ s0 l1 k2 k3 W (gv_of hL) S0 S1

theorem singBeginnings_met (os : Os) : laidMet Tryd.prog Rows.singBeginningsRow.laid ((laidWorld os).forCall (fun _ _ => 0) ⟨#[], #[.agg #[.int .i64 0, .slice none 0 0, .slice none 0 0, .slice none 0 0], .slice none 0 0, .int .i64 0, .int .i64 0], []⟩).memory := laidMet_of_run' 8 (by kernel_rfl) (by kernel_rfl)
theorem singBeginnings_reads (os : Os) {H : Type} (enc : TypeId × Value → H) : ∃ places, DataW.whole enc Tryd.prog ((laidWorld os).forCall (fun _ _ => 0) ⟨#[], #[.agg #[.int .i64 0, .slice none 0 0, .slice none 0 0, .slice none 0 0], .slice none 0 0, .int .i64 0, .int .i64 0], []⟩).memory Tryd.f9.params.toList Rows.singBeginningsSpec.vars false #[.agg #[.int .i64 0, .slice none 0 0, .slice none 0 0, .slice none 0 0], .slice none 0 0, .int .i64 0, .int .i64 0].toList 8 = some ([.agg [.lit (.int .i64 0), .nil, .nil, .nil], .nil, .lit (.int .i64 0), .lit (.int .i64 0)], [], places) := ⟨[], by kernel_rfl⟩
set_option maxRecDepth 100000 in
theorem singBeginnings_lifted (os : Os) (started : os.Started) (H : Type) (enc : TypeId × Value → H) (F : Stop.Interp) :
    ReturnsInHanded {} Tryd.checked os 9 .any ((OpenSpec.ofChange Rows.singBeginningsSpec).preRow enc Tryd.prog Tryd.f9 Rows.singBeginningsRow.domain false Rows.singBeginningsRow.laid) (((OpenSpec.ofChange Rows.singBeginningsSpec).at F).post enc Tryd.prog Tryd.f9 false true false false) := by
  obtain ⟨places, hx⟩ := singBeginnings_reads os enc
  exact law_row (C := Tryd.checked) (s := (OpenSpec.ofChange Rows.singBeginningsSpec)) (by kernel_rfl) started (by kernel_rfl) Tryd.func9
    (witness_row_at (enc := enc) (C := Tryd.checked) false (laidWorld os) #[.agg #[.int .i64 0, .slice none 0 0, .slice none 0 0, .slice none 0 0], .slice none 0 0, .int .i64 0, .int .i64 0] rfl (by kernel_rfl) (by kernel_rfl) (by kernel_rfl) (OpenSpec.preRow_of_cond 8 hx (by kernel_rfl) (fun k hk => by cases hk) (by kernel_rfl) (singBeginnings_met os)))
    (by kernel_rfl) (by kernel_rfl) (by kernel_rfl) rfl (fun ds h => by match ds, h with | [_, _, _, _], _ => rfl) (singBeginnings_args H enc)
theorem singBeginnings_said : Rows.SingBeginningsSaid :=
  OpenClaim.holds_of_cond 9 Tryd.f9 rfl rfl rfl rfl rfl rfl rfl ⟨rfl, rfl, rfl, rfl, rfl⟩ rfl rfl rfl rfl rfl (by kernel_rfl) Tryd.func9 (by kernel_rfl)
    (of_decide_eq_true (by kernel_rfl)) (by unfold Func.isWrapper; first | (rw [if_pos (by decide +kernel)]; kernel_rfl) | (rw [if_neg (by decide +kernel)]; exact ⟨rfl, rfl⟩))
    (fun os started H enc _ F => by rw [OpenClaim.pre_eq_preRow]; exact singBeginnings_lifted os started H enc F)
theorem singBeginnings_plain (f : FuncId) (fn : Func) (hf : Tryd.pinned.checked.prog.funcNamed "schisma/schismalaw22.SingBeginnings" = some f) (hfn : Tryd.pinned.checked.prog.funcs[f]? = some fn) :
    false = Tryd.pinned.checked.prog.looks [] ∧ ∀ (j : Nat) t, fn.params[j]? = some t → Tryd.pinned.checked.prog.wantsStandIn t = false := by
  obtain rfl : f = 9 := Option.some.inj ((show Tryd.prog.funcNamed "schisma/schismalaw22.SingBeginnings" = some 9 by kernel_rfl).symm.trans hf) |>.symm
  obtain rfl : fn = Tryd.f9 := (Option.some.inj (Tryd.func9.symm.trans hfn)).symm
  refine ⟨by kernel_rfl, fun j t ht => ?_⟩
  have hall : Tryd.f9.params.all (fun t => !Tryd.prog.wantsStandIn t) = true := by kernel_rfl
  have := (Array.all_eq_true'.1 hall) t (Array.mem_of_getElem? ht)
  have e : Tryd.prog.wantsStandIn t = false := by simpa using this
  exact e
/-- The card. -/
theorem singBeginnings_holds : Rows.SingBeginningsCardSaid :=
  Claim7.holds_tied_plain_at .later [] _ _ _ _ singBeginnings_said (fun _ h => by cases h) (by kernel_rfl) (fun _ h => by cases h) singBeginnings_row_tie rfl ⟨rfl, rfl⟩ (by kernel_rfl) rfl singBeginnings_plain (by kernel_rfl)
end Go.Proofs.YtigigcbondhmmaaDoor
