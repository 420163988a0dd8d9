/-
  Walks of sing: Least (a range over what is heard).
-/
import Derived.Test.YtigigcbondhmmaaDoorSgG
set_option linter.unusedVariables false
namespace Go.Proofs.YtigigcbondhmmaaDoor
open Go.RowKit Go.Sx Go.Sx.Sz Go.Sx.Sc Go.Sx.Sg
attribute [local go_sem] Oper.semAt_some wide_fn wide_depth

theorem lst_app (xs : List V6) (n : Nat) : ∀ (l m : List Int) (p : Int × Int), lstF xs n (l ++ m) p = lstF xs n m (lstF xs n l p)
  | [], _, _ => rfl
  | i :: l, m, p => by rw [List.cons_append, lstF, lstF, lst_app xs n l m]
theorem lst_take (xs : List V6) (n : Nat) (l : List Int) (j : Nat) (hj : j < l.length) : lstF xs n (l.take (j + 1)) (2400001, 0) = if needF xs n l[j] < (lstF xs n (l.take j) (2400001, 0)).1 then (needF xs n l[j], l[j]) else lstF xs n (l.take j) (2400001, 0) := by
  rw [List.take_succ_eq_append_getElem hj, lst_app, lstF, lstF]

set_option maxRecDepth 100000 in
set_option maxHeartbeats 4000000 in
theorem least_walk (vn vp vc vx : Value) (s : Sc) (xs : List V6) (n : Int) (w : World) (G : Gl 0 w) (S : ScR w vn vp vc s) (R : Sl w 6 V6.list vx xs) : Calls Tryd.prog 17 #[.agg #[.int .i64 s.voices, vn, vp, vc], vx, .int .i64 n] w fun e w' => e = .returned (.tuple #[.int .i64 (leastR s xs n).1, .int .i64 (leastR s xs n).2.1, .int .i64 (leastR s xs n).2.2]) ∧ Ext w w' := by
  have VW := Lib.hid fun w' (y : Ext w w') => hvalid_walk vn vp vc vx s xs w' (S.ext y) (R.ext y)
  have SL := S.nt
  obtain ⟨an, cn, rfl, -, -, hln⟩ := S.nt.len
  obtain ⟨ap, cp, rfl, -, -, hlp⟩ := S.pr.len
  obtain ⟨ac, cc, rfl, -, -, hlc⟩ := S.cd.len
  obtain ⟨ax, cx, rfl, -, -, hlx⟩ := R.len
  have X0 : Ext w (((w.alloc (.cells #[.int .i64 s.voices, .slice an s.notes.length cn, .slice ap s.pairs.length cp, .slice ac s.cads.length cc] 26)).alloc (.cells #[.int .i64 n] 3)).alloc (.cells #[.int .i64 s.voices, .slice an s.notes.length cn, .slice ap s.pairs.length cp, .slice ac s.cads.length cc, .slice ax xs.length cx] 58)) := (by repeat (first | with_reducible exact Ext.refl _ | with_reducible assumption | with_reducible apply Ext.alloc | with_reducible apply Ext.drew | (with_reducible refine Ext.setCell ?_ (by (try simp) <;> omega) _)))
  have b0_0 := block_alloc (block_alloc (block_new w (.cells #[.int .i64 s.voices, .slice an s.notes.length cn, .slice ap s.pairs.length cp, .slice ac s.cads.length cc] 26)) (.cells #[.int .i64 n] 3)) (.cells #[.int .i64 s.voices, .slice an s.notes.length cn, .slice ap s.pairs.length cp, .slice ac s.cads.length cc, .slice ax xs.length cx] 58)
  have b0_1 := block_alloc (block_at (w := (w.alloc (.cells #[.int .i64 s.voices, .slice an s.notes.length cn, .slice ap s.pairs.length cp, .slice ac s.cads.length cc] 26))) (n := w.heap.size + 1) (by simp) (.cells #[.int .i64 n] 3)) (.cells #[.int .i64 s.voices, .slice an s.notes.length cn, .slice ap s.pairs.length cp, .slice ac s.cads.length cc, .slice ax xs.length cx] 58)
  have b0_2 := block_at (w := ((w.alloc (.cells #[.int .i64 s.voices, .slice an s.notes.length cn, .slice ap s.pairs.length cp, .slice ac s.cads.length cc] 26)).alloc (.cells #[.int .i64 n] 3))) (n := w.heap.size + 1 + 1) (by simp) (.cells #[.int .i64 s.voices, .slice an s.notes.length cn, .slice ap s.pairs.length cp, .slice ac s.cads.length cc, .slice ax xs.length cx] 58)
  obtain ⟨W0, hW0⟩ : ∃ W, (((w.alloc (.cells #[.int .i64 s.voices, .slice an s.notes.length cn, .slice ap s.pairs.length cp, .slice ac s.cads.length cc] 26)).alloc (.cells #[.int .i64 n] 3)).alloc (.cells #[.int .i64 s.voices, .slice an s.notes.length cn, .slice ap s.pairs.length cp, .slice ac s.cads.length cc, .slice ax xs.length cx] 58)) = W := ⟨_, rfl⟩
  obtain ⟨B0, hB0⟩ : ∃ B, w.heap.size = B := ⟨_, rfl⟩
  rw [hW0] at X0 b0_0 b0_1 b0_2
  rw [hB0] at b0_0 b0_1 b0_2
  have HZ0 : Hid (w.heap.size ≤ B0) := Lib.hid (by omega)
  have HW0 := Lib.hid hW0; have HB0 := Lib.hid hB0
  clear hW0 hB0
  have HB := Lib.hid fun w' (y : Ext W0 w') => block_ext y b0_2
  have HS := Lib.hid fun w' (y : Ext W0 w') => block_ext y b0_1
  have c0 := block_cell b0_2 0 _ rfl; have c1 := block_cell b0_2 1 _ rfl; have c2 := block_cell b0_2 2 _ rfl; have c3 := block_cell b0_2 3 _ rfl; have c4 := block_cell b0_2 4 _ rfl
  clear b0_0 b0_1 b0_2
  refine (callsIn_wide (n := 0)).1 ?_
  refine callsIn_of_wp_marks Tryd.func17 rfl trivial ?_ rfl
  simp only [Tryd.ntmps17, List.size_toArray, List.length_cons, List.length_nil, Nat.reduceAdd, Nat.reduceSub, Array.replicate_succ, Array.replicate_zero, List.push_toArray, List.append_toArray, List.nil_append, List.cons_append]
  refine wpIn_wide.2 ?_
  go_upto_region 2 with fail
  rw [HW0.out, HB0.out]
  go_wp2_with fail
  refine (VW.out _ X0).mono ?_
  cases hv : hallB s xs with
  | false =>
    have HR : Hid (leastR s xs n = (0, 0, 1)) := Lib.hid (by unfold leastR; rw [hv]; rfl)
    clear hv
    rintro e w1 ⟨rfl, x1⟩
    have X1 := X0.trans x1
    clear c0 c1 c2 c3 c4
    go_wp2
    exact bodyPostM_ret0 (v := .tuple #[.int .i64 0, .int .i64 0, .int .i64 1]) rfl (by simp [results, Tryd.results17, go_sem]) ⟨by rw [HR.out] <;> rfl, X1⟩
  | true =>
  have HV := Lib.hid (hallB_iff.1 hv)
  have HV1 := Lib.hid hv
  clear hv
  rintro e w1 ⟨rfl, x1⟩
  have X1 := X0.trans x1
  clear c0 c1 c2 c3 c4
  have b1 := HB.out _ x1
  have c0 := block_cell b1 0 _ rfl; have c1 := block_cell b1 1 _ rfl; have c2 := block_cell b1 2 _ rfl; have c3 := block_cell b1 3 _ rfl; have c4 := block_cell b1 4 _ rfl
  have c5 := block_cell (HS.out _ x1) 0 _ rfl
  clear b1
  go_wp2_with fail
  refine (entry_walk _ _ _ _ _ ⟨_, _, _, rfl⟩ s HV.out.1 n _ (SL.ext X1)).mono ?_
  cases he : entryB s n with
  | false =>
    have HR : Hid (leastR s xs n = (0, 0, 1)) := Lib.hid (by unfold leastR; rw [if_neg (fun h => by rw [he] at h; cases h.2)])
    clear he
    rintro e w2 ⟨rfl, x2⟩
    have X2 := X1.trans x2
    clear c0 c1 c2 c3 c4 c5
    go_wp2
    exact bodyPostM_ret0 (v := .tuple #[.int .i64 0, .int .i64 0, .int .i64 1]) rfl (by simp [results, Tryd.results17, go_sem]) ⟨by rw [HR.out] <;> rfl, X2⟩
  | true =>
  have HR : Hid (leastR s xs n = leastN s xs n.toNat) := Lib.hid (by unfold leastR; rw [if_pos ⟨HV1.out, he⟩])
  obtain ⟨k, rfl, hk, hek⟩ := entry_in he
  rw [Int.toNat_natCast] at HR
  have HL := Lib.hid HV.out.2.1
  clear he hek
  rintro e w2 ⟨rfl, x2⟩
  have X2 := X1.trans x2
  clear c0 c1 c2 c3 c4 c5
  have X4 : Ext w2 ((w2.alloc (.cells #[.int .i64 2400001] 3)).alloc (.cells #[.int .i64 0] 3)) := (by repeat (first | with_reducible exact Ext.refl _ | with_reducible assumption | with_reducible apply Ext.alloc | with_reducible apply Ext.drew | (with_reducible refine Ext.setCell ?_ (by (try simp) <;> omega) _)))
  have b4_0 := block_alloc (block_new w2 (.cells #[.int .i64 2400001] 3)) (.cells #[.int .i64 0] 3)
  have b4_1 := block_at (w := (w2.alloc (.cells #[.int .i64 2400001] 3))) (n := w2.heap.size + 1) (by simp) (.cells #[.int .i64 0] 3)
  obtain ⟨W4, hW4⟩ : ∃ W, ((w2.alloc (.cells #[.int .i64 2400001] 3)).alloc (.cells #[.int .i64 0] 3)) = W := ⟨_, rfl⟩
  obtain ⟨B4, hB4⟩ : ∃ B, w2.heap.size = B := ⟨_, rfl⟩
  rw [hW4] at X4 b4_0 b4_1
  rw [hB4] at b4_0 b4_1
  have HZ4 : Hid (w2.heap.size ≤ B4) := Lib.hid (by omega)
  have HW4 := Lib.hid hW4; have HB4 := Lib.hid hB4
  clear hW4 hB4
  have X4' := (x1.trans x2).trans X4
  have b2 := HB.out _ X4'
  have c0 := block_cell b2 0 _ rfl; have c1 := block_cell b2 1 _ rfl; have c2 := block_cell b2 2 _ rfl; have c3 := block_cell b2 3 _ rfl; have c4 := block_cell b2 4 _ rfl
  have b3 := HS.out _ X4'
  have c5 := block_cell b3 0 _ rfl
  have NW := Lib.hid fun w' (e : Ext w w') (i : Int) hi => needed_walk (.int .i64 s.voices) (.slice an s.notes.length cn) (.slice ap s.pairs.length cp) (.slice ac s.cads.length cc) (.slice ax xs.length cx) ⟨_, _, _, rfl⟩ xs HV.out.2.2 k (by rw [HL.out]; exact hk) i hi w' (G.ext e) (R.ext e)
  have XW4 := X2.trans X4
  clear HW0 HB0
  go_upto_region 5 with fail
  rw [HW4.out, HB4.out]
  go_wp2_with fail
  refine (heard_walk _ _ _ _ _ ⟨_, _, _, rfl⟩ ⟨_, _, _, rfl⟩ _ _).mono ?_
  rintro e w5 ⟨rfl, rfl⟩
  clear c0 c1 c2 c3 c4 c5
  have Q := Lib.hid (And.intro b3 (And.intro b2 (And.intro b4_0 b4_1)))
  clear b2 b3 b4_0 b4_1
  have X5 : Ext W4 ((W4.alloc (.cells #[.int .i64 s.voices, .slice an s.notes.length cn, .slice ap s.pairs.length cp, .slice ac s.cads.length cc, .slice ax xs.length cx] 58)).alloc (.cells #[.int .i64 k] 3)) := (by repeat (first | with_reducible exact Ext.refl _ | with_reducible assumption | with_reducible apply Ext.alloc | with_reducible apply Ext.drew | (with_reducible refine Ext.setCell ?_ (by (try simp) <;> omega) _)))
  have b5_0 := block_alloc (block_new W4 (.cells #[.int .i64 s.voices, .slice an s.notes.length cn, .slice ap s.pairs.length cp, .slice ac s.cads.length cc, .slice ax xs.length cx] 58)) (.cells #[.int .i64 k] 3)
  have b5_1 := block_at (w := (W4.alloc (.cells #[.int .i64 s.voices, .slice an s.notes.length cn, .slice ap s.pairs.length cp, .slice ac s.cads.length cc, .slice ax xs.length cx] 58))) (n := W4.heap.size + 1) (by simp) (.cells #[.int .i64 k] 3)
  obtain ⟨W5, hW5⟩ : ∃ W, ((W4.alloc (.cells #[.int .i64 s.voices, .slice an s.notes.length cn, .slice ap s.pairs.length cp, .slice ac s.cads.length cc, .slice ax xs.length cx] 58)).alloc (.cells #[.int .i64 k] 3)) = W := ⟨_, rfl⟩
  obtain ⟨B5, hB5⟩ : ∃ B, W4.heap.size = B := ⟨_, rfl⟩
  rw [hW5] at X5 b5_0 b5_1
  rw [hB5] at b5_0 b5_1
  have HZ5 : Hid (W4.heap.size ≤ B5) := Lib.hid (by omega)
  have HW5 := Lib.hid hW5; have HB5 := Lib.hid hB5
  clear hW5 hB5
  have hz4 : W4.heap.size = B5 := HB5.out
  have hz5 : W5.heap.size = B5 + 2 := by rw [← HW5.out]; simp [hz4]
  have hz2 : w2.heap.size = B4 := HB4.out
  have hb4 : B4 + 2 = B5 := by rw [← hz4, ← HW4.out]; simp [hz2]
  have hb2 : B0 + 1 + 1 < B4 := by
    have h1 := (Array.getElem?_eq_some_iff.1 (HB.out _ (x1.trans x2))).1
    omega
  have p0 := block_ext X5 Q.out.1; have p1 := block_ext X5 Q.out.2.1; have p2 := block_ext X5 Q.out.2.2.1; have p3 := block_ext X5 Q.out.2.2.2
  have XW := XW4.trans X5
  have hbz := HZ0.out
  have hwz := X2.size
  rw [HW5.out, HB5.out]
  clear HW4 HB4 HW5 HB5 X4 X5 X4' Q x1 x2
  go_wp2_with fail
  refine (wpIn_wide (n := 0)).1 ?_
  refine wpIn_rangeN (gf := 51) (lb := #[.pointer (some ⟨B5, 0, none⟩), .pointer (some ⟨B5 + 1, 0, none⟩)]) rfl (enters_of Tryd.func51 (by kernel_rfl) rfl)
    (hrd_iter B5 (B5 + 1) (.int .i64 s.voices) (.slice an s.notes.length cn) (.slice ap s.pairs.length cp) (.slice ac s.cads.length cc) (.slice ax xs.length cx) ⟨_, _, _, rfl⟩ s HV.out.1 k hk (fun W => W.heap[B5]? = some (.cells #[.int .i64 s.voices, .slice an s.notes.length cn, .slice ap s.pairs.length cp, .slice ac s.cads.length cc, .slice ax xs.length cx] 58 (0, 0)) ∧ W.heap[B5 + 1]? = some (.cells #[.int .i64 k] 3 (0, 0)) ∧ Sl W 10 encN (.slice an s.notes.length cn) s.notes) (fun W h => h)) (fun _ => rfl)
    (fun j W => Ext w W ∧ (W.heap[B0 + 1]? = some (.cells #[.int .i64 k] 3 (0, 0)) ∧ W.heap[B0 + 1 + 1]? = some (.cells #[.int .i64 s.voices, .slice an s.notes.length cn, .slice ap s.pairs.length cp, .slice ac s.cads.length cc, .slice ax xs.length cx] 58 (0, 0)) ∧ W.heap[B4]? = some (.cells #[.int .i64 (lstF xs k ((heardL s k).take j) (2400001, 0)).1] 3 (0, 0)) ∧ W.heap[B4 + 1]? = some (.cells #[.int .i64 (lstF xs k ((heardL s k).take j) (2400001, 0)).2] 3 (0, 0)) ∧ W.heap[B5]? = some (.cells #[.int .i64 s.voices, .slice an s.notes.length cn, .slice ap s.pairs.length cp, .slice ac s.cads.length cc, .slice ax xs.length cx] 58 (0, 0)) ∧ W.heap[B5 + 1]? = some (.cells #[.int .i64 k] 3 (0, 0))))
    (fun c W => False)
    (fun j => (Low.ext (by omega)).and ((Low.block (by omega)).and ((Low.block (by omega)).and ((Low.block (by omega)).and ((Low.block (by omega)).and ((Low.block (by omega)).and (Low.block (by omega))))))))
    (fun c => Low.pure _)
    (fun j W ⟨h1, _, _, _, _, h4, h5⟩ => ⟨h4, h5, SL.ext h1⟩)
    ⟨XW, p0, p1, p2, p3, b5_0, b5_1⟩ ?round ?done ?stop
  case stop => intro D c W _ h; exact h.elim
  case done =>
    rintro D W hD ⟨hx, e0, e1, e2, e3, e4, e5⟩ hdef
    rw [List.take_length] at e2 e3
    have hls : leastN s xs k = if 2400000 < (lstF xs k (heardL s k) (2400001, 0)).1 then (0, 0, 3) else ((lstF xs k (heardL s k) (2400001, 0)).1, (lstF xs k (heardL s k) (2400001, 0)).2, 0) := rfl
    obtain ⟨⟨a, b⟩, hab⟩ : ∃ r, lstF xs k (heardL s k) (2400001, 0) = r := ⟨_, rfl⟩
    rw [hab] at hls e2 e3
    simp only at hls e2 e3
    have hc2 := block_cell e2 0 _ rfl
    have hc3 := block_cell e3 0 _ rfl
    have HD := Lib.hid hdef
    have HX := Lib.hid hx
    clear e0 e1 e2 e3 e4 e5 hab hdef hx
    by_cases hg : 2400000 < a
    · have HE : Hid (leastN s xs k = (0, 0, 3)) := Lib.hid (by rw [hls, if_pos hg])
      clear hls
      go_wp2
      exact bodyPostM_ret (v := .tuple #[.int .i64 0, .int .i64 0, .int .i64 3]) rfl HD.out (fun W' hs => by simp [results, Tryd.results17, go_sem]) (fun W' hs => ⟨by rw [HR.out, HE.out] <;> rfl, Below.trans HX.out (hs.below (by omega))⟩)
    · have HE : Hid (leastN s xs k = (a, b, 0)) := Lib.hid (by rw [hls, if_neg hg])
      have hc2 := ext_cells hc2
      have hc3 := ext_cells hc3
      clear hls
      go_wp2_with fail
      refine wp_region_ord [(0,true), (1,true), (2,true), (3,true), (4,true)] 5 Ext (Ext W) wide (by kernel_rfl) (stable_ext _) (Ext.drawn _ _) ?_
      iterate 5 (first | (apply wpOrd_no rfl; rfl; (simp only [List.getElem_toArray, List.getElem_cons_succ, List.getElem_cons_zero, Act.put, List.setIfInBounds_toArray, List.set_cons_succ, List.set_cons_zero]; rfl)) | (apply wpOrd_yes rfl; rfl; (intro w' hw'; unfold opR; go_simp; exact ⟨Ext.refl _, rfl⟩); (simp only [List.getElem_toArray, List.getElem_cons_succ, List.getElem_cons_zero, Act.put, List.setIfInBounds_toArray, List.set_cons_succ, List.set_cons_zero]; rfl)))
      refine wpOrd_nil rfl ?_
      intro w9 x9
      have HD9 := Lib.hid ((x9.block _ (Array.getElem?_eq_some_iff.1 HD.out).1).trans HD.out)
      have HX9 := Lib.hid (HX.out.trans x9)
      have hz9 := x9.size
      clear hc2 hc3
      go_wp2
      exact bodyPostM_ret (v := .tuple #[.int .i64 a, .int .i64 b, .int .i64 0]) rfl HD9.out (fun W' hs => by simp [results, Tryd.results17, go_sem]) (fun W' hs => ⟨by rw [HR.out, HE.out] <;> rfl, Below.trans HX9.out (hs.below (by omega))⟩)
  case round =>
    rintro lr j W hj ⟨hx, e0, e1, e2, e3, e4, e5⟩ hle hlt'
    have hir := heard_range hk hj
    have hlt := lst_take xs k (heardL s k) j hj
    obtain ⟨i, hi⟩ : ∃ i, (heardL s k)[j] = i := ⟨_, rfl⟩
    rw [hi] at hir hlt ⊢
    simp only [encZI]
    obtain ⟨r, hr⟩ : ∃ r, needF xs k i = r := ⟨_, rfl⟩
    have NI := Lib.hid fun w' (y : Ext w w') => NW.out w' y i (by rcases hir with h | h; exact .inl h; exact .inr (by have := HL.out; omega))
    obtain ⟨⟨a, b⟩, hab⟩ : ∃ q, lstF xs k ((heardL s k).take j) (2400001, 0) = q := ⟨_, rfl⟩
    rw [hr] at NI hlt
    rw [hab] at hlt e2 e3
    simp only at hlt e2 e3
    clear hir hi hr hab
    gi_wp2
    refine ⟨KeepsUp.refl _ _, fun W2 hs2 => ?_⟩
    have f0 := hs2.cells e0; have f1 := hs2.cells e1; have f2 := hs2.cells e2; have f3 := hs2.cells e3; have f4 := hs2.cells e4; have f5 := hs2.cells e5
    have hx2 : Ext w W2 := Below.trans hx (hs2.below (by omega))
    have hzz2 := hs2.size
    have k0 := block_cell f1 0 _ rfl; have k1 := block_cell f1 1 _ rfl; have k2 := block_cell f1 2 _ rfl; have k3 := block_cell f1 3 _ rfl; have k4 := block_cell f1 4 _ rfl
    have k5 := block_cell f0 0 _ rfl
    have FF := Lib.hid (And.intro f0 (And.intro f1 (And.intro f2 (And.intro f3 (And.intro f4 f5)))))
    have NJ := Lib.hid (NI.out _ hx2)
    have HX2 := Lib.hid hx2
    have HLT := Lib.hid hlt
    clear f0 f1 f2 f3 f4 f5 hx hx2 e0 e1 e2 e3 e4 e5 NI NW hlt
    by_cases hv : r < a
    · have HT := Lib.hid (HLT.out.trans (if_pos hv))
      gi_wp2_with (gi_at_call 35; go_must (refine ((free_round _ _).calls NJ.out).mono ?_; rintro e w9 ⟨rfl, x9⟩; have g2 := block_ext x9 FF.out.2.2.1; have g3 := block_ext x9 FF.out.2.2.2.1; have hc2 := block_cell g2 0 (.int .i64 a) rfl; have hf2 := block_free g2 0; have q3 := block_ne g3 (g := B4) 0 (.int .i64 r) (by omega); have hf3 := block_free q3 0; have hc3 := block_cell q3 0 (.int .i64 b) rfl; clear g2 g3 q3))
      have hb0 := HZ0.out
      have g2 := block_ext x9 FF.out.2.2.1; have g3 := block_ext x9 FF.out.2.2.2.1
      have q2 := block_ne (block_set g2 0 (.int .i64 r)) (g := B4 + 1) 0 (.int .i64 i) (by omega)
      have q3 := block_set (block_ne g3 (g := B4) 0 (.int .i64 r) (by omega)) 0 (.int .i64 i)
      have q0 := block_ne (block_ne (block_ext x9 FF.out.1) (g := B4) 0 (.int .i64 r) (by omega)) (g := B4 + 1) 0 (.int .i64 i) (by omega)
      have q1 := block_ne (block_ne (block_ext x9 FF.out.2.1) (g := B4) 0 (.int .i64 r) (by omega)) (g := B4 + 1) 0 (.int .i64 i) (by omega)
      have q4 := block_ne (block_ne (block_ext x9 FF.out.2.2.2.2.1) (g := B4) 0 (.int .i64 r) (by omega)) (g := B4 + 1) 0 (.int .i64 i) (by omega)
      have q5 := block_ne (block_ne (block_ext x9 FF.out.2.2.2.2.2) (g := B4) 0 (.int .i64 r) (by omega)) (g := B4 + 1) 0 (.int .i64 i) (by omega)
      have hz9 := x9.size
      rw [hz5]
      refine ⟨(KeepsUp.ext x9 (B := B5 + 2)).trans ((KeepsUp.setCell w9 (p := ⟨B4, 0, none⟩) (by show B4 < B5 + 2; omega) (.int .i64 r)).trans (KeepsUp.setCell _ (p := ⟨B4 + 1, 0, none⟩) (by show B4 + 1 < B5 + 2; omega) (.int .i64 i))),
        ((HX2.out.trans x9).setCell (p := ⟨B4, 0, none⟩) (by show w.heap.size ≤ B4; omega) (.int .i64 r)).setCell (p := ⟨B4 + 1, 0, none⟩) (by show w.heap.size ≤ B4 + 1; omega) (.int .i64 i), q0, q1, ?_, ?_, q4, q5⟩
      · rw [HT.out]; exact q2
      · rw [HT.out]; exact q3
    · have HT := Lib.hid (HLT.out.trans (if_neg hv))
      gi_wp2_with (gi_at_call 35; go_must (refine ((free_round _ _).calls NJ.out).mono ?_; rintro e w9 ⟨rfl, x9⟩; have hc2 := block_cell (block_ext x9 FF.out.2.2.1) 0 (.int .i64 a) rfl))
      have hz9 := x9.size
      refine ⟨KeepsUp.ext x9, HX2.out.trans x9, block_ext x9 FF.out.1, block_ext x9 FF.out.2.1, ?_, ?_, block_ext x9 FF.out.2.2.2.2.1, block_ext x9 FF.out.2.2.2.2.2⟩
      · rw [HT.out]; exact block_ext x9 FF.out.2.2.1
      · rw [HT.out]; exact block_ext x9 FF.out.2.2.2.1
end Go.Proofs.YtigigcbondhmmaaDoor
