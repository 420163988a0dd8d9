/-
  Walks: schismaref22.Least, Missing.
-/
import Derived.Test.YtigigcbondhmmaaDoorR22C
import Derived.Test.YtigigcbondhmmaaDoorSgI
set_option linter.unusedVariables false
namespace Go.Proofs.YtigigcbondhmmaaDoor
open Go.RowKit Go.Sx Go.Sx.Sz Go.Sx.Sc Go.Sx.Sg Go.Sx.Au

theorem best_in {xs : List V6} {n : Nat} {l : List Int} (hl : 0 < l.length) {k : Nat} (hk : k ≤ l.length) : bestF xs n l k < l.length := by
  rcases best_lt (xs := xs) (n := n) (l := l) (k := k) with h | h <;> omega
theorem getD_eq {l : List Int} {k : Nat} (h : k < l.length) : l.getD k 0 = l[k] := by
  rw [List.getD_eq_getElem?_getD, List.getElem?_eq_getElem h]; rfl

set_option maxRecDepth 100000 in
set_option maxHeartbeats 4000000 in
theorem rleast_walk (vn vp vc vx : Value) (s : Sc) (xs : List V6) (n : Int) (w : World) (S : ScR w vn vp vc s) (R : Sl w 6 V6.list vx xs) : Calls Tryd.prog 18 #[.agg #[.int .i64 s.voices, vn, vp, vc], vx, .int .i64 n] w fun e w' => e = .returned (.tuple #[.int .i64 (leastR s xs n).1, .int .i64 (leastR s xs n).2.1, .int .i64 (leastR s xs n).2.2]) ∧ Ext w w' := by
  have VW := Lib.hid fun w' (y : Ext w w') => rpitches_walk vn vp vc vx s xs w' (S.ext y) (R.ext y)
  have EN := Lib.hid fun (hok : ScOk s) k w' (y : Ext w w') => rentry_walk vn vp vc s hok k w' (S.ext y)
  have HE' := Lib.hid fun (hok : ScOk s) k hk w' (y : Ext w w') => rheard_walk vn vp vc s hok k hk w' (S.ext y)
  obtain ⟨an, cn, rfl, -, -, hln⟩ := S.nt.len
  obtain ⟨ap, cp, rfl, -, -, hlp⟩ := S.pr.len
  obtain ⟨ac, cc, rfl, -, -, hlc⟩ := S.cd.len
  obtain ⟨ax, cx, rfl, -, -, hlx⟩ := R.len
  have X0 : Ext w (w.alloc (.cells #[.int .i64 s.voices, .slice an s.notes.length cn, .slice ap s.pairs.length cp, .slice ac s.cads.length cc] 26)) := (by repeat (first | with_reducible exact Ext.refl _ | with_reducible assumption | with_reducible apply Ext.alloc | with_reducible apply Ext.drew | (with_reducible refine Ext.setCell ?_ (by (try simp) <;> omega) _)))
  have b0_0 := block_new w (.cells #[.int .i64 s.voices, .slice an s.notes.length cn, .slice ap s.pairs.length cp, .slice ac s.cads.length cc] 26)
  obtain ⟨W0, hW0⟩ : ∃ W, (w.alloc (.cells #[.int .i64 s.voices, .slice an s.notes.length cn, .slice ap s.pairs.length cp, .slice ac s.cads.length cc] 26)) = W := ⟨_, rfl⟩
  obtain ⟨B0, hB0⟩ : ∃ B, w.heap.size = B := ⟨_, rfl⟩
  rw [hW0] at X0 b0_0
  rw [hB0] at b0_0
  have HZ0 : Hid (w.heap.size ≤ B0) := Lib.hid (by omega)
  have HW0 := Lib.hid hW0; have HB0 := Lib.hid hB0
  clear hW0 hB0
  have HB := Lib.hid fun w' (y : Ext W0 w') => block_ext y b0_0
  have c0 := block_cell b0_0 0 _ rfl; have c1 := block_cell b0_0 1 _ rfl; have c2 := block_cell b0_0 2 _ rfl; have c3 := block_cell b0_0 3 _ rfl
  clear b0_0
  go_enter Tryd.func18, Tryd.ntmps18
  go_wp2_with fail
  rw [HW0.out, HB0.out]
  clear HW0 HB0
  refine (VW.out _ X0).mono ?_
  cases hv : hallB s xs with
  | false =>
    have HR : Hid (leastR s xs n = (0, 0, 1)) := Lib.hid (by unfold leastR; rw [hv]; rfl)
    clear hv
    rintro e w1 ⟨rfl, x1⟩
    have X1 := X0.trans x1
    clear c0 c1 c2 c3
    go_wp2
    exact bodyPost_ret (v := .tuple #[.int .i64 0, .int .i64 0, .int .i64 1]) (by simp [results, Tryd.results18, go_sem]) rfl ⟨by rw [HR.out] <;> rfl, X1⟩
  | true =>
  have HV := Lib.hid (hallB_iff.1 hv)
  have HV1 := Lib.hid hv
  clear hv
  rintro e w1 ⟨rfl, x1⟩
  have X1 := X0.trans x1
  clear c0 c1 c2 c3
  have b1 := HB.out _ x1
  have c0 := block_cell b1 0 _ rfl; have c1 := block_cell b1 1 _ rfl; have c2 := block_cell b1 2 _ rfl; have c3 := block_cell b1 3 _ rfl
  clear b1
  go_wp2_with fail
  refine (EN.out HV.out.1 n _ X1).mono ?_
  cases he : entryB s n with
  | false =>
    have HR : Hid (leastR s xs n = (0, 0, 1)) := Lib.hid (by unfold leastR; rw [if_neg (fun h => by rw [he] at h; cases h.2)])
    clear he
    rintro e w2 ⟨rfl, x2⟩
    have X2 := X1.trans x2
    clear c0 c1 c2 c3
    go_wp2
    exact bodyPost_ret (v := .tuple #[.int .i64 0, .int .i64 0, .int .i64 1]) (by simp [results, Tryd.results18, go_sem]) rfl ⟨by rw [HR.out] <;> rfl, X2⟩
  | true =>
  have HR : Hid (leastR s xs n = leastN s xs n.toNat) := Lib.hid (by unfold leastR; rw [if_pos ⟨HV1.out, he⟩])
  obtain ⟨k, rfl, hk, hek⟩ := entry_in he
  rw [Int.toNat_natCast] at HR
  clear he hek
  rintro e w2 ⟨rfl, x2⟩
  have X2 := X1.trans x2
  clear c0 c1 c2 c3
  have b2 := HB.out _ (x1.trans x2)
  have c0 := block_cell b2 0 _ rfl; have c1 := block_cell b2 1 _ rfl; have c2 := block_cell b2 2 _ rfl; have c3 := block_cell b2 3 _ rfl
  clear b2
  go_wp2_with fail
  refine (HE'.out HV.out.1 k hk _ X2).mono ?_
  rintro e W3 ⟨v, rfl, L3, x3⟩
  have X3 := X2.trans x3
  have hpos : 0 < (heardL s k).length := List.length_pos_iff.2 heard_ne
  have NW := Lib.hid fun (j : Nat) (hj : j < (heardL s k).length) w' (y : Ext w w') => rneed_walk (.slice ax xs.length cx) xs HV.out.2.2 k (by rw [HV.out.2.1]; exact hk) (heardL s k)[j] (by rcases heard_range hk hj with h | h; exact .inl h; exact .inr (by have := HV.out.2.1; omega)) w' (R.ext y)
  have LB := Lib.hid (least_best (s := s) (xs := xs) (n := k))
  have HR0 := Lib.hid fun j (hj : j < (heardL s k).length) => heard_range hk hj
  obtain ⟨l, hl⟩ : ∃ l, heardL s k = l := ⟨_, rfl⟩
  rw [hl] at L3 hpos NW LB HR0
  clear hl HE' EN VW
  obtain ⟨al, cl, rfl, -, -, hl2⟩ := L3.len
  clear c0 c1 c2 c3
  go_wp2
  go_loopw [10, 11] (fun b i wr => ∃ j : Nat, j ≤ l.length ∧ i = .int .i64 j ∧ b = .int .i64 (bestF xs k l j) ∧ Ext W3 wr) (fun _ i _ => l.length - (intOf i).toNat)
  case atStart => exact ⟨0, by omega, rfl, rfl, Ext.refl _⟩
  case round =>
    obtain ⟨j, hj, rfl, rfl, X⟩ := hrel
    by_cases hlt : j < l.length
    · have hbl := best_in (xs := xs) (n := k) hpos hj
      have hbs : bestF xs k l (j + 1) = if needF xs k (l.getD j 0) < needF xs k (l.getD (bestF xs k l j) 0) then j else bestF xs k l j := by rw [bestF]
      obtain ⟨m, hm⟩ : ∃ m, bestF xs k l j = m := ⟨_, rfl⟩
      rw [hm] at hbs hbl ⊢
      rw [getD_eq hlt, getD_eq hbl] at hbs
      have HBS := Lib.hid hbs
      clear hm hbs
      obtain ⟨bb, oo, rfl, a0⟩ := Sl.num (L3.ext X) j hlt
      obtain ⟨bb', oo', e', a1⟩ := Sl.num (L3.ext X) m hbl
      obtain ⟨rfl, rfl⟩ : bb = bb' ∧ oo = oo' := by simpa using e'
      obtain ⟨wo, rfl⟩ : ∃ wo : World, wo = wr := ⟨_, rfl⟩
      have N1 := Lib.hid fun w' (y : Ext wo w') => NW.out j hlt w' (X3.trans (X.trans y))
      have N2 := Lib.hid fun w' (y : Ext wo w') => NW.out m hbl w' (X3.trans (X.trans y))
      obtain ⟨xj, hxj⟩ : ∃ z, l[j] = z := ⟨_, rfl⟩
      obtain ⟨xm, hxm⟩ : ∃ z, l[m] = z := ⟨_, rfl⟩
      rw [hxj] at a0 N1 HBS
      rw [hxm] at a1 N2 HBS
      obtain ⟨rj, hrj⟩ : ∃ z, needF xs k xj = z := ⟨_, rfl⟩
      obtain ⟨rm, hrm⟩ : ∃ z, needF xs k xm = z := ⟨_, rfl⟩
      rw [hrj] at N1 HBS
      rw [hrm] at N2 HBS
      have a0 := ext_cells a0; have a1 := ext_cells a1
      have i1 : (0 : Int) ≤ (j : Int) := by omega
      have i2 : (j : Int) < (l.length : Int) := by omega
      have i3 : (0 : Int) ≤ (m : Int) := by omega
      have i4 : (m : Int) < (l.length : Int) := by omega
      clear hxj hxm hrj hrm e'
      go_upto_region 8 with fail
      refine wp_region_ord [(0,true), (1,true), (2,true), (3,true), (4,true), (5,true), (6,true), (7,true), (8,true), (9,true), (10,true), (11,true), (12,true), (13,true), (14,true)] 15 Ext (Ext wo) wide (by kernel_rfl) (stable_ext _) (Ext.drawn _ _) ?_
      iterate 6 (first | (apply wpOrd_no rfl; rfl; (simp only [List.getElem_toArray, List.getElem_cons_succ, List.getElem_cons_zero, Act.put, List.setIfInBounds_toArray, List.set_cons_succ, List.set_cons_zero]; rfl)) | (apply wpOrd_yes rfl; rfl; (intro w' hw'; unfold opR; go_simp; exact ⟨Ext.refl _, rfl⟩); (simp only [List.getElem_toArray, List.getElem_cons_succ, List.getElem_cons_zero, Act.put, List.setIfInBounds_toArray, List.set_cons_succ, List.set_cons_zero]; rfl)))
      (apply wpOrd_det rfl rfl; (intro w' hw'; refine opR_call rfl (Go.Proofs.enters_of Tryd.func33 (by kernel_rfl) rfl) (by simp only [List.map_toArray, List.map_cons, List.map_nil, Act.eval, Array.getD_eq_getD_getElem?, List.getElem?_toArray, List.getElem?_cons_succ, List.getElem?_cons_zero, Option.getD_some]; rfl) ?_; refine (N1.out _ hw').mono ?_; rintro e w'' ⟨rfl, hx⟩; exact ⟨_, rfl, hx, rfl⟩); (simp only [List.getElem_toArray, List.getElem_cons_succ, List.getElem_cons_zero, Act.put, List.setIfInBounds_toArray, List.set_cons_succ, List.set_cons_zero]; rfl))
      iterate 6 (first | (apply wpOrd_no rfl; rfl; (simp only [List.getElem_toArray, List.getElem_cons_succ, List.getElem_cons_zero, Act.put, List.setIfInBounds_toArray, List.set_cons_succ, List.set_cons_zero]; rfl)) | (apply wpOrd_yes rfl; rfl; (intro w' hw'; unfold opR; go_simp; exact ⟨Ext.refl _, rfl⟩); (simp only [List.getElem_toArray, List.getElem_cons_succ, List.getElem_cons_zero, Act.put, List.setIfInBounds_toArray, List.set_cons_succ, List.set_cons_zero]; rfl)))
      (apply wpOrd_det rfl rfl; (intro w' hw'; refine opR_call rfl (Go.Proofs.enters_of Tryd.func33 (by kernel_rfl) rfl) (by simp only [List.map_toArray, List.map_cons, List.map_nil, Act.eval, Array.getD_eq_getD_getElem?, List.getElem?_toArray, List.getElem?_cons_succ, List.getElem?_cons_zero, Option.getD_some]; rfl) ?_; refine (N2.out _ hw').mono ?_; rintro e w'' ⟨rfl, hx⟩; exact ⟨_, rfl, hx, rfl⟩); (simp only [List.getElem_toArray, List.getElem_cons_succ, List.getElem_cons_zero, Act.put, List.setIfInBounds_toArray, List.set_cons_succ, List.set_cons_zero]; rfl))
      iterate 1 (first | (apply wpOrd_no rfl; rfl; (simp only [List.getElem_toArray, List.getElem_cons_succ, List.getElem_cons_zero, Act.put, List.setIfInBounds_toArray, List.set_cons_succ, List.set_cons_zero]; rfl)) | (apply wpOrd_yes rfl; rfl; (intro w' hw'; unfold opR; go_simp; exact ⟨Ext.refl _, rfl⟩); (simp only [List.getElem_toArray, List.getElem_cons_succ, List.getElem_cons_zero, Act.put, List.setIfInBounds_toArray, List.set_cons_succ, List.set_cons_zero]; rfl)))
      refine wpOrd_nil rfl ?_
      intro w9 x9
      have X9 := X.trans x9
      clear a0 a1
      by_cases hc : rj < rm
      · have HT := Lib.hid (HBS.out.trans (if_pos hc))
        go_wp2
        go_roundw
        case rel => exact ⟨j + 1, by omega, by go_num, by rw [HT.out], X9⟩
        case measure => simp [intOf]; omega
      · have HT := Lib.hid (HBS.out.trans (if_neg hc))
        go_wp2
        go_roundw
        case rel => exact ⟨j + 1, by omega, by go_num, by rw [HT.out], X9⟩
        case measure => simp [intOf]; omega
    · obtain rfl : j = l.length := by omega
      have hbl := best_in (xs := xs) (n := k) hpos (Nat.le_refl l.length)
      have lb2 := LB.out
      obtain ⟨m, hm⟩ : ∃ m, bestF xs k l l.length = m := ⟨_, rfl⟩
      rw [hm] at lb2 hbl ⊢
      rw [getD_eq hbl] at lb2
      have LB2 := Lib.hid lb2
      clear hm LB lb2
      obtain ⟨wo, rfl⟩ : ∃ wo : World, wo = wr := ⟨_, rfl⟩
      obtain ⟨bb, oo, rfl, a0⟩ := Sl.num (L3.ext X) m hbl
      have N1 := Lib.hid fun w' (y : Ext wo w') => NW.out m hbl w' (X3.trans (X.trans y))
      obtain ⟨xm, hxm⟩ : ∃ z, l[m] = z := ⟨_, rfl⟩
      rw [hxm] at a0 N1 LB2
      obtain ⟨rm, hrm⟩ : ∃ z, needF xs k xm = z := ⟨_, rfl⟩
      rw [hrm] at N1 LB2
      have i3 : (0 : Int) ≤ (m : Int) := by omega
      have i4 : (m : Int) < (l.length : Int) := by omega
      clear hxm hrm
      go_upto_region 10 with fail
      go_wp2_with fail
      refine (N1.out _ (Ext.refl _)).mono ?_
      rintro e w5 ⟨rfl, x5⟩
      have A5 := ext_cells (x5.cell a0)
      have X5 := X3.trans (X.trans x5)
      have N2 := Lib.hid fun w' (y : Ext w5 w') => N1.out w' (x5.trans y)
      clear a0 N1
      by_cases hg : 2400000 < rm
      · have HE := Lib.hid (LB2.out.trans (if_pos hg))
        go_wp2
        exact bodyPost_ret (v := .tuple #[.int .i64 0, .int .i64 0, .int .i64 3]) (by simp [results, Tryd.results18, go_sem]) rfl ⟨by rw [HR.out, HE.out] <;> rfl, X5⟩
      · have HE := Lib.hid (LB2.out.trans (if_neg hg))
        go_upto_region 12 with fail
        refine wp_region_ord [(0,true), (1,true), (2,true), (3,true), (4,true), (5,true), (6,true), (7,true), (8,true), (9,true), (10,true), (11,true), (12,true), (13,true)] 14 Ext (Ext w5) wide (by kernel_rfl) (stable_ext _) (Ext.drawn _ _) ?_
        iterate 6 (first | (apply wpOrd_no rfl; rfl; (simp only [List.getElem_toArray, List.getElem_cons_succ, List.getElem_cons_zero, Act.put, List.setIfInBounds_toArray, List.set_cons_succ, List.set_cons_zero]; rfl)) | (apply wpOrd_yes rfl; rfl; (intro w' hw'; unfold opR; go_simp; exact ⟨Ext.refl _, rfl⟩); (simp only [List.getElem_toArray, List.getElem_cons_succ, List.getElem_cons_zero, Act.put, List.setIfInBounds_toArray, List.set_cons_succ, List.set_cons_zero]; rfl)))
        (apply wpOrd_det rfl rfl; (intro w' hw'; refine opR_call rfl (Go.Proofs.enters_of Tryd.func33 (by kernel_rfl) rfl) (by simp only [List.map_toArray, List.map_cons, List.map_nil, Act.eval, Array.getD_eq_getD_getElem?, List.getElem?_toArray, List.getElem?_cons_succ, List.getElem?_cons_zero, Option.getD_some]; rfl) ?_; refine (N2.out _ hw').mono ?_; rintro e w'' ⟨rfl, hx⟩; exact ⟨_, rfl, hx, rfl⟩); (simp only [List.getElem_toArray, List.getElem_cons_succ, List.getElem_cons_zero, Act.put, List.setIfInBounds_toArray, List.set_cons_succ, List.set_cons_zero]; rfl))
        iterate 7 (first | (apply wpOrd_no rfl; rfl; (simp only [List.getElem_toArray, List.getElem_cons_succ, List.getElem_cons_zero, Act.put, List.setIfInBounds_toArray, List.set_cons_succ, List.set_cons_zero]; rfl)) | (apply wpOrd_yes rfl; rfl; (intro w' hw'; unfold opR; go_simp; exact ⟨Ext.refl _, rfl⟩); (simp only [List.getElem_toArray, List.getElem_cons_succ, List.getElem_cons_zero, Act.put, List.setIfInBounds_toArray, List.set_cons_succ, List.set_cons_zero]; rfl)))
        refine wpOrd_nil rfl ?_
        intro w9 x9
        have X9 := X5.trans x9
        clear A5
        go_wp2
        exact bodyPost_ret (v := .tuple #[.int .i64 rm, .int .i64 xm, .int .i64 0]) (by simp [results, Tryd.results18, go_sem]) rfl ⟨by rw [HR.out, HE.out] <;> rfl, X9⟩

set_option maxRecDepth 100000 in
set_option maxHeartbeats 4000000 in
theorem rmissing_walk (vn vp vc vx vt : Value) (s : Sc) (xs : List V6) (st : List Int) (w : World) (S : ScR w vn vp vc s) (R : Sl w 6 V6.list vx xs) (T : Sl w 1 encZ vt st) : Calls Tryd.prog 20 #[.agg #[.int .i64 s.voices, vn, vp, vc], vx, vt] w fun e w' => ∃ v, e = .returned (.tuple #[v, .int .i64 (missingR s xs st).2]) ∧ Sl w' 1 encZ v (missingR s xs st).1 ∧ Ext w w' := by
  have VW := Lib.hid fun w' (y : Ext w w') => rpitches_walk vn vp vc vx s xs w' (S.ext y) (R.ext y)
  have EN := Lib.hid fun (hok : ScOk s) k w' (y : Ext w w') => rentry_walk vn vp vc s hok k w' (S.ext y)
  have FR := Lib.hid fun k z w' (y : Ext w w') => rfrom_walk vn vp vc vx s xs k z w' (S.ext y) (R.ext y)
  have SL := S.nt
  obtain ⟨an, cn, rfl, -, -, hln⟩ := S.nt.len
  obtain ⟨ap, cp, rfl, -, -, hlp⟩ := S.pr.len
  obtain ⟨ac, cc, rfl, -, -, hlc⟩ := S.cd.len
  obtain ⟨ax, cx, rfl, -, -, hlx⟩ := R.len
  obtain ⟨at', ct, rfl, -, -, hlt0⟩ := T.len
  have X0 : Ext w (w.alloc (.cells #[.int .i64 s.voices, .slice an s.notes.length cn, .slice ap s.pairs.length cp, .slice ac s.cads.length cc] 26)) := (by repeat (first | with_reducible exact Ext.refl _ | with_reducible assumption | with_reducible apply Ext.alloc | with_reducible apply Ext.drew | (with_reducible refine Ext.setCell ?_ (by (try simp) <;> omega) _)))
  have b0_0 := block_new w (.cells #[.int .i64 s.voices, .slice an s.notes.length cn, .slice ap s.pairs.length cp, .slice ac s.cads.length cc] 26)
  obtain ⟨W0, hW0⟩ : ∃ W, (w.alloc (.cells #[.int .i64 s.voices, .slice an s.notes.length cn, .slice ap s.pairs.length cp, .slice ac s.cads.length cc] 26)) = W := ⟨_, rfl⟩
  obtain ⟨B0, hB0⟩ : ∃ B, w.heap.size = B := ⟨_, rfl⟩
  rw [hW0] at X0 b0_0
  rw [hB0] at b0_0
  have HZ0 : Hid (w.heap.size ≤ B0) := Lib.hid (by omega)
  have HW0 := Lib.hid hW0; have HB0 := Lib.hid hB0
  clear hW0 hB0
  have HS := Lib.hid fun w' (y : Ext W0 w') => block_ext y b0_0
  have c0 := block_cell b0_0 0 _ rfl; have c1 := block_cell b0_0 1 _ rfl; have c2 := block_cell b0_0 2 _ rfl; have c3 := block_cell b0_0 3 _ rfl
  clear b0_0
  go_enter Tryd.func20, Tryd.ntmps20
  go_wp2_with fail
  rw [HW0.out, HB0.out]
  clear HW0 HB0
  refine (VW.out _ X0).mono ?_
  cases hv : hallB s xs with
  | false =>
    have HR : Hid (missingR s xs st = ([], 1)) := Lib.hid (missing_bad fun h => by rw [hv] at h; cases h.1)
    clear hv
    rintro e w1 ⟨rfl, x1⟩
    have X1 := X0.trans x1
    clear c0 c1 c2 c3
    go_wp2
    exact bodyPost_ret (v := .tuple #[.slice none 0 0, .int .i64 1]) (by simp [results, Tryd.results20, go_sem]) rfl ⟨.slice none 0 0, by rw [HR.out] <;> rfl, by rw [HR.out]; exact Sl.nil _ _ _, X1⟩
  | true =>
  have HV := Lib.hid (hallB_iff.1 hv)
  have HV1 := Lib.hid hv
  have hnn := (hallB_iff.1 hv).1.sz.2.1
  clear hv
  rintro e w1 ⟨rfl, x1⟩
  have X1 := X0.trans x1
  clear c0 c1 c2 c3
  have c0 := block_cell (HS.out _ x1) 0 _ rfl
  by_cases hl : (st.length : Int) = s.voices
  case neg =>
    have HR : Hid (missingR s xs st = ([], 1)) := Lib.hid (missing_bad fun h => hl h.2.1)
    have e1 : ((st.length : Int) != s.voices) = true := by rw [bne_iff_ne]; exact hl
    clear hl
    go_wp2
    exact bodyPost_ret (v := .tuple #[.slice none 0 0, .int .i64 1]) (by simp [results, Tryd.results20, go_sem]) rfl ⟨.slice none 0 0, by rw [HR.out] <;> rfl, by rw [HR.out]; exact Sl.nil _ _ _, X1⟩
  have e1 : ((st.length : Int) != s.voices) = false := by rw [bne_eq_false_iff_eq]; exact hl
  have HL := Lib.hid hl
  have h8 : st.length ≤ 8 := by have := HV.out.1.sz.1; omega
  clear hl
  go_wp2
  clear c0 e1
  have T1 := T.ext X1
  go_loopw [8] (fun i wr => ∃ k : Nat, k ≤ st.length ∧ i = .int .i64 k ∧ (∀ j (h : j < st.length), j < k → 0 ≤ st[j] ∧ st[j] ≤ 2400000) ∧ wr = w1) (fun i _ => st.length - (intOf i).toNat)
  case atStart => exact ⟨0, by omega, rfl, fun j h1 h2 => absurd h2 (Nat.not_lt_zero _), rfl⟩
  case round =>
    obtain ⟨k, hk, rfl, hall, hwr⟩ := hrel
    subst hwr
    have HA := Lib.hid hall
    clear hall
    by_cases hlt' : k < st.length
    · obtain ⟨bb, oo, rfl, a0⟩ := Sl.num T1 k hlt'
      obtain ⟨z, hz⟩ : ∃ z, st[k] = z := ⟨_, rfl⟩
      rw [hz] at a0
      have HZ := Lib.hid hz
      have i1 : (0 : Int) ≤ (k : Int) := by omega
      have i2 : (k : Int) < (st.length : Int) := by omega
      clear hz
      by_cases hs : 0 ≤ z ∧ z ≤ 2400000
      · have HS' := Lib.hid hs
        have f1 : decide (z < 0) = false := decide_eq_false (by omega)
        have f2 : decide (2400000 < z) = false := decide_eq_false (by omega)
        clear hs
        go_wp2
        go_roundw
        case rel => exact ⟨k + 1, by omega, by go_num, fun j h1 h2 => by
          by_cases e : j = k
          · subst e; rw [HZ.out]; exact HS'.out
          · exact HA.out j h1 (by omega), by first | rfl | trivial⟩
        case measure => simp [intOf] <;> omega
      · have HR : Hid (missingR s xs st = ([], 1)) := Lib.hid (missing_bad fun h => by
          have := List.all_eq_true.1 h.2.2 _ (List.getElem_mem hlt')
          rw [decide_eq_true_eq, HZ.out] at this
          exact hs this)
        by_cases h0 : z < 0
        all_goals
          (try (have h1 : 2400000 < z := by omega))
          clear hs
          go_wp2
          exact bodyPost_ret (v := .tuple #[.slice none 0 0, .int .i64 1]) (by simp [results, Tryd.results20, go_sem]) rfl ⟨.slice none 0 0, by rw [HR.out] <;> rfl, by rw [HR.out]; exact Sl.nil _ _ _, X1⟩
    · obtain rfl : k = st.length := by omega
      have HR : Hid (missingR s xs st = (pickL (missN s xs st) s.notes.length, 0)) := Lib.hid (if_pos ⟨HV1.out, HL.out, List.all_eq_true.2 fun z hz => by
        obtain ⟨j, hj, rfl⟩ := List.getElem_of_mem hz
        exact decide_eq_true (HA.out j hj hj)⟩)
      have HA2 := Lib.hid fun j (h : j < st.length) => HA.out j h h
      obtain ⟨W1, rfl⟩ : ∃ z : World, z = wr := ⟨_, rfl⟩
      clear HA
      go_wp2
      go_loopw [9, 10] (fun v i wr => ∃ k : Nat, k ≤ s.notes.length ∧ i = .int .i64 k ∧ OwnR wr W1.heap.size 3 1 encZ v (pickL (missN s xs st) k) ∧ Ext W1 wr) (fun _ i _ => s.notes.length - (intOf i).toNat)
      case atStart => exact ⟨0, by omega, rfl, OwnR.nil, Ext.refl _⟩
      case round =>
        obtain ⟨k, hk, rfl, own, X⟩ := hrel
        have hb := HS.out _ (x1.trans X)
        by_cases hlt : k < s.notes.length
        · have HT := Lib.hid (pickL_succ (missN s xs st) k)
          have hlen := pickL_len (missN s xs st) k
          have XX := X1.trans X
          have hvr := (HV.out.1.nt.note hlt).1
          obtain ⟨x, hx⟩ : ∃ x, s.N k = x := ⟨_, rfl⟩
          have hmis : missN s xs st k = (entryN s k && decide ((findR s xs k (st.getD x.v.toNat 0)).2 ≠ 0)) := by unfold missN; rw [hx]
          have HX := Lib.hid hx
          rw [hx] at hvr
          obtain ⟨vi, hvi⟩ : ∃ vi : Nat, x.v = (vi : Int) := ⟨x.v.toNat, by omega⟩
          have hvl : vi < st.length := by have := HL.out; omega
          rw [hvi, Int.toNat_natCast] at hmis
          have hgd : st.getD vi 0 = st[vi] := getD_eq hvl
          have HVI := Lib.hid hvi
          have HMIS := Lib.hid hmis; have HGD := Lib.hid hgd
          have c0 := block_cell hb 0 _ rfl; have c1 := block_cell hb 1 _ rfl; have c2 := block_cell hb 2 _ rfl; have c3 := block_cell hb 3 _ rfl
          have EW := Lib.hid (EN.out HV.out.1 k wr XX)
          have HEN := Lib.hid (entry_nat hlt)
          have i1 : (0 : Int) ≤ (k : Int) := by omega
          have i2 : (k : Int) < (s.notes.length : Int) := by omega
          clear hmis hgd hx hvi hvr hb
          go_upto_region 12 with fail
          go_wp2_with fail
          refine EW.out.mono ?_
          rw [HEN.out]
          cases hc : entryN s k with
          | false =>
            have HM : Hid (missN s xs st k = false) := Lib.hid (by rw [HMIS.out, hc]; rfl)
            clear hc
            rintro e w5 ⟨rfl, x5⟩
            have X5 := X.trans x5
            have own5 := own.ext x5
            clear c0 c1 c2 c3 own
            go_wp2
            go_roundw
            case rel => exact ⟨k + 1, by omega, by go_num, by rw [HT.out, HM.out]; simpa using own5, X5⟩
            case measure => simp [intOf]; omega
          | true =>
            have HM : Hid (missN s xs st k = decide ((findR s xs k (st.getD vi 0)).2 ≠ 0)) := Lib.hid (by rw [HMIS.out, hc]; rfl)
            have hFF : fromR s xs k st[vi] = findR s xs k st[vi] := by
              unfold fromR
              rw [if_pos ⟨HV1.out, by rw [HEN.out]; exact hc, HA2.out vi hvl⟩, Int.toNat_natCast]
            rw [HGD.out] at HM
            clear hc
            rintro e w5 ⟨rfl, x5⟩
            have X5 := X.trans x5
            have own5 := own.ext x5
            clear c0 c1 c2 c3 own
            have hb := HS.out _ (x1.trans X5)
            have c0 := ext_cells (block_cell hb 0 _ rfl); have c1 := ext_cells (block_cell hb 1 _ rfl); have c2 := ext_cells (block_cell hb 2 _ rfl); have c3 := ext_cells (block_cell hb 3 _ rfl)
            obtain ⟨b, o, e', A⟩ := Sl.nt (SL.ext (X1.trans X5)) k hlt
            subst e'
            rw [← Sc.N_eq hlt, HX.out] at A
            have d0 := A.c0
            rw [HVI.out] at d0
            have d0 := ext_cells d0
            obtain ⟨tb, tq, e'', t0⟩ := Sl.num (T.ext (X1.trans X5)) vi hvl
            subst e''
            obtain ⟨z, hz⟩ : ∃ z, st[vi] = z := ⟨_, rfl⟩
            rw [hz] at t0 HM hFF
            have t0 := ext_cells t0
            have FW := Lib.hid fun w' (y : Ext w5 w') => FR.out k z w' ((X1.trans X5).trans y)
            rw [hFF] at FW
            obtain ⟨⟨ra, rb⟩, hr⟩ : ∃ r, findR s xs k z = r := ⟨_, rfl⟩
            have hr4 : rb = 0 ∨ rb = 4 := by
              rcases find_cases s xs k z with ⟨i, h⟩ | h
              · rw [hr] at h; simp at h; exact .inl h.2
              · rw [hr] at h; simp at h; exact .inr h.2
            rw [hr] at HM FW
            simp only at HM FW
            have HR4 := Lib.hid hr4
            have i3 : (0 : Int) ≤ (vi : Int) := by omega
            have i4 : (vi : Int) < (st.length : Int) := by omega
            clear hb hz hr hFF hr4 A
            go_wp2_with fail
            refine wp_region_ord [(0,true), (1,true), (2,true), (3,true), (4,true), (5,true), (6,true), (7,true), (8,true), (9,true), (10,true), (11,true), (12,true), (13,true), (14,true), (15,true), (16,true), (17,true)] 18 Ext (Ext w5) wide (by kernel_rfl) (stable_ext _) (Ext.drawn _ _) ?_
            iterate 12 (first | (apply wpOrd_no rfl; rfl; (simp only [List.getElem_toArray, List.getElem_cons_succ, List.getElem_cons_zero, Act.put, List.setIfInBounds_toArray, List.set_cons_succ, List.set_cons_zero]; rfl)) | (apply wpOrd_yes rfl; rfl; (intro w' hw'; unfold opR; go_simp; exact ⟨Ext.refl _, rfl⟩); (simp only [List.getElem_toArray, List.getElem_cons_succ, List.getElem_cons_zero, Act.put, List.setIfInBounds_toArray, List.set_cons_succ, List.set_cons_zero]; rfl)))
            (apply wpOrd_det rfl rfl; (intro w' hw'; refine opR_call rfl (Go.Proofs.enters_of Tryd.func16 (by kernel_rfl) rfl) (by simp only [List.map_toArray, List.map_cons, List.map_nil, Act.eval, Array.getD_eq_getD_getElem?, List.getElem?_toArray, List.getElem?_cons_succ, List.getElem?_cons_zero, Option.getD_some]; rfl) ?_; refine (FW.out _ hw').mono ?_; rintro e w'' ⟨rfl, hx⟩; exact ⟨_, rfl, hx, rfl⟩); (simp only [List.getElem_toArray, List.getElem_cons_succ, List.getElem_cons_zero, Act.put, List.setIfInBounds_toArray, List.set_cons_succ, List.set_cons_zero]; rfl))
            iterate 5 (first | (apply wpOrd_no rfl; rfl; (simp only [List.getElem_toArray, List.getElem_cons_succ, List.getElem_cons_zero, Act.put, List.setIfInBounds_toArray, List.set_cons_succ, List.set_cons_zero]; rfl)) | (apply wpOrd_yes rfl; rfl; (intro w' hw'; unfold opR; go_simp; exact ⟨Ext.refl _, rfl⟩); (simp only [List.getElem_toArray, List.getElem_cons_succ, List.getElem_cons_zero, Act.put, List.setIfInBounds_toArray, List.set_cons_succ, List.set_cons_zero]; rfl)))
            refine wpOrd_nil rfl ?_
            intro w9 x9
            have own9 := own5.ext x9
            have X9 := X5.trans x9
            have hsz := X9.size
            clear c0 c1 c2 c3 d0 t0 own5
            by_cases hrb : rb = 4
            · have e1 : (rb == 4) = true := by rw [beq_iff_eq]; exact hrb
              have HM2 : Hid (missN s xs st k = true) := Lib.hid (by rw [HM.out]; exact decide_eq_true (by omega))
              clear hrb
              go_wp2_with (at_builtin; go_must (refine wpList_own1 etz_sg rfl _ _ rfl own9 rfl (k : Int) rfl rfl rfl (by simp [encZ, Value.oneCell']) (by omega) hsz ?_; intro v' w4 hown' hb' happ _))
              go_roundw
              case rel => exact ⟨k + 1, by omega, by go_num, by rw [HT.out, HM2.out]; exact hown', Below.trans X9 hb'⟩
              case measure => simp [intOf]; omega
            · have e1 : (rb == 4) = false := by rw [beq_eq_false_iff_ne]; exact hrb
              have HM2 : Hid (missN s xs st k = false) := Lib.hid (by rw [HM.out]; exact decide_eq_false (by rcases HR4.out with h | h; rw [h]; simp; exact absurd h hrb))
              clear hrb
              go_wp2
              go_roundw
              case rel => exact ⟨k + 1, by omega, by go_num, by rw [HT.out, HM2.out]; simpa using own9, X9⟩
              case measure => simp [intOf]; omega
        · obtain rfl : k = s.notes.length := by omega
          have hlen := pickL_len (missN s xs st) s.notes.length
          have S7 := own.sl (fun _ _ => rfl) (by omega)
          have XX := X1.trans X
          have c1 := block_cell hb 1 _ rfl
          clear own hb
          go_wp2
          exact bodyPost_ret (v := .tuple #[u9, .int .i64 0]) (by simp [results, Tryd.results20, go_sem]) rfl ⟨u9, by rw [HR.out] <;> rfl, by rw [HR.out]; exact S7, XX⟩
end Go.Proofs.YtigigcbondhmmaaDoor
