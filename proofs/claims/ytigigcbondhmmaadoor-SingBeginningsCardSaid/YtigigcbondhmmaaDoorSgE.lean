/-
  Walks of sing: entry (a range over a function that may leave with a result).
-/
import Derived.Test.YtigigcbondhmmaaDoorSgC
import Derived.Deep.DeepCutAuto
set_option linter.unusedVariables false
namespace Go.Proofs.YtigigcbondhmmaaDoor
open Go.RowKit Go.Sx Go.Sx.Sz Go.Sx.Sc Go.Sx.Sg
attribute [local go_sem] Oper.semAt_some wide_fn wide_depth

theorem entry_all {s : Sc} {n : Nat} (ht : (s.N n).tied = false) (h : ∀ j, (hj : j < (sndL s n).length) → (s.N (sndL s n)[j]).v ≠ (s.N n).v) : entryN s n = true := by
  unfold entryN
  rw [ht, Bool.not_false, Bool.true_and, List.all_eq_true]
  intro i hi
  obtain ⟨j, hj, rfl⟩ := List.getElem_of_mem hi
  exact decide_eq_true (h j hj)
theorem entry_not {s : Sc} {n j : Nat} (hj : j < (sndL s n).length) (h : (s.N (sndL s n)[j]).v = (s.N n).v) : entryN s n = false := by
  unfold entryN
  rw [Bool.and_eq_false_iff]
  right
  rw [List.all_eq_false]
  exact ⟨_, List.getElem_mem hj, by rw [h]; simp⟩

set_option maxRecDepth 100000 in
set_option maxHeartbeats 4000000 in
theorem entry_walk (v0 vn vp vc vx : Value) (hx : ∃ a n c, vx = .slice a n c) (s : Sc) (hok : ScOk s) (n : Int) (w : World) (S : Sl w 10 encN vn s.notes) :
    Calls Tryd.prog 26 #[.agg #[v0, vn, vp, vc, vx], .int .i64 n] w fun e w' => e = .returned (.bool (entryB s n)) ∧ Ext w w' := by
  obtain ⟨an, cn, rfl, hl1, hl2, hln⟩ := S.len
  obtain ⟨xa, xn, xc, rfl⟩ := hx
  have X0 : Ext w (((w.alloc (.cells #[v0, .slice an s.notes.length cn, vp, vc, .slice xa xn xc] 58)).alloc (.cells #[.int .i64 n] 3)).alloc (.cells #[.bool false] 4)) := (by repeat (first | with_reducible exact Ext.refl _ | with_reducible assumption | with_reducible apply Ext.alloc | with_reducible apply Ext.drew | (with_reducible refine Ext.setCell ?_ (by (try simp) <;> omega) _)))
  have b0_0 := block_alloc (block_alloc (block_new w (.cells #[v0, .slice an s.notes.length cn, vp, vc, .slice xa xn xc] 58)) (.cells #[.int .i64 n] 3)) (.cells #[.bool false] 4)
  have b0_1 := block_alloc (block_at (w := (w.alloc (.cells #[v0, .slice an s.notes.length cn, vp, vc, .slice xa xn xc] 58))) (n := w.heap.size + 1) (by simp) (.cells #[.int .i64 n] 3)) (.cells #[.bool false] 4)
  have b0_2 := block_at (w := ((w.alloc (.cells #[v0, .slice an s.notes.length cn, vp, vc, .slice xa xn xc] 58)).alloc (.cells #[.int .i64 n] 3))) (n := w.heap.size + 1 + 1) (by simp) (.cells #[.bool false] 4)
  obtain ⟨W0, hW0⟩ : ∃ W, (((w.alloc (.cells #[v0, .slice an s.notes.length cn, vp, vc, .slice xa xn xc] 58)).alloc (.cells #[.int .i64 n] 3)).alloc (.cells #[.bool false] 4)) = W := ⟨_, rfl⟩
  obtain ⟨B0, hB0⟩ : ∃ B, w.heap.size = B := ⟨_, rfl⟩
  rw [hW0] at X0 b0_0 b0_1 b0_2
  rw [hB0] at b0_0 b0_1 b0_2
  have HZ0 : Hid (w.heap.size ≤ B0) := Lib.hid (by omega)
  have HW0 := Lib.hid hW0; have HB0 := Lib.hid hB0
  clear hW0 hB0
  have S0 := S.ext X0
  refine (callsIn_wide (n := 0)).1 ?_
  refine callsIn_of_wp_marks Tryd.func26 rfl trivial ?_ rfl
  simp only [Tryd.ntmps26, List.size_toArray, List.length_cons, List.length_nil, Nat.reduceAdd, Nat.reduceSub, Array.replicate_succ, Array.replicate_zero, List.push_toArray, List.append_toArray, List.nil_append, List.cons_append]
  refine wpIn_wide.2 ?_
  have c0 := block_cell b0_0 1 _ rfl; have c1 := block_cell b0_1 0 _ rfl; have c2 := block_cell b0_2 0 _ rfl; have c3 := block_free b0_2 0
  by_cases hr : 0 ≤ n ∧ n < s.notes.length
  case neg =>
    have HE : Hid (entryB s n = false) := Lib.hid (by unfold entryB; rw [decide_eq_false hr]; rfl)
    have XF := Lib.hid (X0.setCell (p := ⟨B0 + 1 + 1, 0, none⟩) (by have := HZ0.out; show w.heap.size ≤ B0 + 1 + 1; omega) (.bool false))
    have HB2 := Lib.hid (block_cell (block_set b0_2 0 (.bool false)) 0 _ rfl)
    rw [HE.out]
    by_cases h0 : n < 0
    all_goals
      (try (have h1 : (s.notes.length : Int) ≤ n := by omega))
      clear hr b0_0 b0_1 b0_2
      go_upto_region 1 with fail
      rw [HW0.out, HB0.out]
      go_wp2
      exact bodyPostM_ret0 (v := .bool false) rfl (by simp [results, Tryd.results26, go_sem, HB2.out]) ⟨rfl, XF.out⟩
  obtain ⟨k, rfl⟩ : ∃ k : Nat, n = (k : Int) := ⟨n.toNat, by omega⟩
  have hk : k < s.notes.length := by omega
  have HEN : Hid (entryB s k = entryN s k) := Lib.hid (by unfold entryB; rw [decide_eq_true hr, Bool.true_and, Int.toNat_natCast])
  rw [HEN.out]
  obtain ⟨b, o, e', A⟩ := Sl.nt S0 k hk
  subst e'
  rw [← Sc.N_eq hk] at A
  have q9 := A.c9
  have i1 : (0 : Int) ≤ (k : Int) := by omega
  have i2 : (k : Int) < (s.notes.length : Int) := by omega
  clear A hr
  cases htd : (s.N k).tied with
  | true =>
    have HE : Hid (entryN s k = false) := Lib.hid (by unfold entryN; rw [htd]; rfl)
    have XF := Lib.hid (X0.setCell (p := ⟨B0 + 1 + 1, 0, none⟩) (by have := HZ0.out; show w.heap.size ≤ B0 + 1 + 1; omega) (.bool false))
    have HB2 := Lib.hid (block_cell (block_set b0_2 0 (.bool false)) 0 _ rfl)
    rw [HE.out]
    rw [htd] at q9
    clear htd b0_0 b0_1 b0_2
    go_upto_region 1 with fail
    rw [HW0.out, HB0.out]
    go_wp2
    exact bodyPostM_ret0 (v := .bool false) rfl (by simp [results, Tryd.results26, go_sem, HB2.out]) ⟨rfl, XF.out⟩
  | false =>
    have HT := Lib.hid htd
    rw [htd] at q9
    clear htd
    go_upto_region 1 with fail
    rw [HW0.out, HB0.out]
    have d0 := block_cell b0_0 0 _ rfl; have d2 := block_cell b0_0 2 _ rfl; have d3 := block_cell b0_0 3 _ rfl; have d4 := block_cell b0_0 4 _ rfl
    have f1 : decide ((k : Int) < 0) = false := decide_eq_false (by omega)
    have f2 : decide (s.notes.length ≤ k) = false := decide_eq_false (by omega)
    go_wp2_with fail
    refine (sounding_walk _ _ _ _ _ ⟨_, _, _, rfl⟩ ⟨_, _, _, rfl⟩ _ _).mono ?_
    rintro e w3 ⟨rfl, rfl⟩
    clear c0 c1 c2 c3 d0 d2 d3 d4 q9 i1 i2
    have Q := Lib.hid (And.intro b0_0 (And.intro b0_1 b0_2))
    clear b0_0 b0_1 b0_2
    have X3 : Ext W0 ((W0.alloc (.cells #[v0, .slice (some ⟨b, o, none⟩) s.notes.length cn, vp, vc, .slice xa xn xc] 58)).alloc (.cells #[.int .i64 k] 3)) := (by repeat (first | with_reducible exact Ext.refl _ | with_reducible assumption | with_reducible apply Ext.alloc | with_reducible apply Ext.drew | (with_reducible refine Ext.setCell ?_ (by (try simp) <;> omega) _)))
    have b3_0 := block_alloc (block_new W0 (.cells #[v0, .slice (some ⟨b, o, none⟩) s.notes.length cn, vp, vc, .slice xa xn xc] 58)) (.cells #[.int .i64 k] 3)
    have b3_1 := block_at (w := (W0.alloc (.cells #[v0, .slice (some ⟨b, o, none⟩) s.notes.length cn, vp, vc, .slice xa xn xc] 58))) (n := W0.heap.size + 1) (by simp) (.cells #[.int .i64 k] 3)
    obtain ⟨W3, hW3⟩ : ∃ W, ((W0.alloc (.cells #[v0, .slice (some ⟨b, o, none⟩) s.notes.length cn, vp, vc, .slice xa xn xc] 58)).alloc (.cells #[.int .i64 k] 3)) = W := ⟨_, rfl⟩
    obtain ⟨B3, hB3⟩ : ∃ B, W0.heap.size = B := ⟨_, rfl⟩
    rw [hW3] at X3 b3_0 b3_1
    rw [hB3] at b3_0 b3_1
    have HZ3 : Hid (W0.heap.size ≤ B3) := Lib.hid (by omega)
    have HW3 := Lib.hid hW3; have HB3 := Lib.hid hB3
    clear hW3 hB3
    have hz0 : W0.heap.size = B3 := HB3.out
    have hz3 : W3.heap.size = B3 + 2 := by rw [← HW3.out]; simp [hz0]
    have hwz := X0.size
    have hb0 : B0 + 3 = B3 := by rw [← hz0, ← HW0.out]; simp [← HB0.out]
    have p0 := block_ext X3 Q.out.1; have p1 := block_ext X3 Q.out.2.1; have p2 := block_ext X3 Q.out.2.2
    have XW := X0.trans X3
    rw [HW3.out, HB3.out]
    clear HW0 HB0 HW3 HB3 X0 X3 Q
    go_wp2_with fail
    refine (wpIn_wide (n := 0)).1 ?_
    refine wpIn_rangeN (gf := 62) (lb := #[.pointer (some ⟨B3, 0, none⟩), .pointer (some ⟨B3 + 1, 0, none⟩)]) rfl (enters_of Tryd.func62 (by kernel_rfl) rfl)
      (snd_iter B3 (B3 + 1) (.slice (some ⟨b, o, none⟩) s.notes.length cn) s hok k hk (fun W => W.heap[B3]? = some (.cells #[v0, .slice (some ⟨b, o, none⟩) s.notes.length cn, vp, vc, .slice xa xn xc] 58 (0, 0)) ∧ W.heap[B3 + 1]? = some (.cells #[.int .i64 k] 3 (0, 0)) ∧ Sl W 10 encN (.slice (some ⟨b, o, none⟩) s.notes.length cn) s.notes) (fun W ⟨h1, h2, h3⟩ => ⟨block_cell h1 1 _ rfl, block_cell h2 0 _ rfl, h3⟩)).n (fun _ => rfl)
      (fun j W => Ext w W ∧ W.heap[B0]? = some (.cells #[v0, .slice (some ⟨b, o, none⟩) s.notes.length cn, vp, vc, .slice xa xn xc] 58 (0, 0)) ∧ W.heap[B0 + 1]? = some (.cells #[.int .i64 k] 3 (0, 0)) ∧ W.heap[B0 + 1 + 1]? = some (.cells #[.bool false] 4 (0, 0)) ∧ W.heap[B3]? = some (.cells #[v0, .slice (some ⟨b, o, none⟩) s.notes.length cn, vp, vc, .slice xa xn xc] 58 (0, 0)) ∧ W.heap[B3 + 1]? = some (.cells #[.int .i64 k] 3 (0, 0)) ∧ ∀ m, (hm : m < (sndL s k).length) → m < j → (s.N (sndL s k)[m]).v ≠ (s.N k).v)
      (fun c W => c = .ret ∧ Ext w W ∧ W.heap[B0 + 1 + 1]? = some (.cells #[.bool false] 4 (0, 0)) ∧ entryN s k = false)
      (fun j => (Low.ext (by omega)).and ((Low.block (by omega)).and ((Low.block (by omega)).and ((Low.block (by omega)).and ((Low.block (by omega)).and ((Low.block (by omega)).and (Low.pure _)))))))
      (fun c => (Low.pure _).and ((Low.ext (by omega)).and ((Low.block (by omega)).and (Low.pure _))))
      (fun j W ⟨h1, _, _, _, h4, h5, _⟩ => ⟨h4, h5, S.ext h1⟩)
      ⟨XW, p0, p1, p2, b3_0, b3_1, fun m _ hm => absurd hm (Nat.not_lt_zero _)⟩ ?round ?done ?stop
    case stop =>
      rintro D c W hD ⟨rfl, hx, hb, hn⟩ hdef
      have hc := block_cell hb 0 _ rfl
      gi_wp2
      exact bodyPostM_ret (v := .bool false) rfl hdef (fun W' hs => by simp [results, Tryd.results26, go_sem, block_cell (hs.cells hb) 0 _ rfl]) (fun W' hs => ⟨by rw [hn], Below.trans hx (hs.below (by omega))⟩)
    case done =>
      rintro D W hD ⟨hx, e0, e1, e2, e3, e4, hall⟩ hdef
      have HE := Lib.hid (entry_all HT.out fun j hj => hall j hj hj)
      have hc := block_cell e2 0 _ rfl
      have hf := block_free e2 0
      have e5 := block_set e2 0 (.bool true)
      have hx5 := Lib.hid (hx.setCell (p := ⟨B0 + 1 + 1, 0, none⟩) (by have := HZ0.out; show w.heap.size ≤ B0 + 1 + 1; omega) (.bool true))
      have hdef5 := Lib.hid ((KeepsUp.setCell W (p := ⟨B0 + 1 + 1, 0, none⟩) (show B0 + 1 + 1 < B3 by omega) (.bool true)).at (by omega) hdef)
      have H5 := Lib.hid e5
      clear e0 e1 e3 e4 hall e5
      go_wp2
      exact bodyPostM_ret (v := .bool true) rfl hdef5.out (fun W' hs => by simp [results, Tryd.results26, go_sem, block_cell (hs.cells H5.out) 0 _ rfl]) (fun W' hs => ⟨by rw [HE.out], Below.trans hx5.out (hs.below (by omega))⟩)
    case round =>
      rintro lr j W hj ⟨hx, e0, e1, e2, e3, e4, hall⟩ hle hlt'
      obtain ⟨i, hi⟩ : ∃ i, (sndL s k)[j] = i := ⟨_, rfl⟩
      have hnot := fun h => entry_not hj h
      rw [hi] at hnot ⊢
      have HI := Lib.hid hi
      obtain ⟨x, hx'⟩ : ∃ x, s.N i = x := ⟨_, rfl⟩
      have HX := Lib.hid hx'
      simp only [encIN]
      rw [hx'] at hnot ⊢
      simp only [ntC]
      have HNOT := Lib.hid hnot
      have HALL := Lib.hid hall
      clear hnot hall hi hx'
      gi_wp2
      refine ⟨KeepsUp.ext (Ext.alloc' _ _), fun W2 hs2 => ?_⟩
      have ea := Ext.alloc' W (.cells (ntC x) 43)
      unfold ntC at ea
      have f0 := hs2.cells (block_ext ea e0); have f1 := hs2.cells (block_ext ea e1); have f2 := hs2.cells (block_ext ea e2); have f3 := hs2.cells (block_ext ea e3); have f4 := hs2.cells (block_ext ea e4)
      have fx := hs2.cells (block_new W (.cells (ntC x) 43))
      have hx2 : Ext w W2 := Below.trans hx ((ea.below (B := w.heap.size) (by omega)).trans (hs2.below (by omega)))
      have hz2 : W.heap.size < W2.heap.size := by have := hs2.size; simp at this; omega
      have S2 := S.ext hx2
      obtain ⟨b', o', e', A⟩ := Sl.nt S2 k hk
      obtain ⟨rfl, rfl⟩ : b = b' ∧ o = o' := by simpa using e'
      rw [← Sc.N_eq hk] at A
      have j1 : (0 : Int) ≤ (k : Int) := by omega
      have j2 : (k : Int) < (s.notes.length : Int) := by omega
      have k0 := ext_cells (block_cell fx 0 (.int .i64 x.v) rfl)
      have k1 := ext_cells (block_cell f0 1 _ rfl)
      have k2 := ext_cells (block_cell f1 0 _ rfl)
      have k3 := ext_cells A.c0
      have FF := Lib.hid (And.intro f0 (And.intro f1 (And.intro f2 (And.intro f3 f4))))
      have HX2 := Lib.hid hx2
      obtain ⟨vv, hvv⟩ : ∃ v, (s.N k).v = v := ⟨_, rfl⟩
      rw [hvv] at k3
      have HVV := Lib.hid hvv
      clear f0 f1 f2 f3 f4 fx S2 A ea hx hx2 e0 e1 e2 e3 e4 hvv e'
      gi_wp2_with fail
      refine wpIn_region_ordT (free_round _ _) [(0,true), (1,true), (2,true), (3,true), (4,true), (5,true), (6,true), (7,true), (8,true), (9,true)] 10 Ext (Ext W2) wide (by kernel_rfl) (stable_ext _) (Ext.drawn _ _) ?_
      iterate 10 (first | (apply ordT_no rfl; rfl; (simp only [List.getElem_toArray, List.getElem_cons_succ, List.getElem_cons_zero, Act.put, List.setIfInBounds_toArray, List.set_cons_succ, List.set_cons_zero]; rfl)) | (apply ordT_yes rfl; rfl; (intro w' hw'; unfold opR; go_simp; exact ⟨Ext.refl _, rfl⟩); (simp only [List.getElem_toArray, List.getElem_cons_succ, List.getElem_cons_zero, Act.put, List.setIfInBounds_toArray, List.set_cons_succ, List.set_cons_zero]; rfl)))
      refine ordT_nil rfl ?_
      intro w9 x9
      clear k0 k1 k2 k3
      have g0 := block_ext x9 FF.out.1; have g1 := block_ext x9 FF.out.2.1; have g2 := block_ext x9 FF.out.2.2.1; have g3 := block_ext x9 FF.out.2.2.2.1; have g4 := block_ext x9 FF.out.2.2.2.2
      have hz9 := x9.size
      have hX9 := HX2.out.trans x9
      by_cases hv : x.v = vv
      · have HE := Lib.hid (HNOT.out (by rw [hv, HVV.out]))
        have hc := block_cell g2 0 _ rfl
        have hf := block_free g2 0
        have G5 := Lib.hid (block_set g2 0 (.bool false))
        have XX := Lib.hid (hX9.setCell (p := ⟨B0 + 1 + 1, 0, none⟩) (by have := HZ0.out; show w.heap.size ≤ B0 + 1 + 1; omega) (.bool false))
        have KK := Lib.hid ((KeepsUp.ext x9 (B := W3.heap.size)).trans (KeepsUp.setCell w9 (p := ⟨B0 + 1 + 1, 0, none⟩) (by show B0 + 1 + 1 < W3.heap.size; omega) (.bool false)))
        clear g0 g1 g2 g3 g4
        gi_wp2
        exact ⟨KK.out, rfl, XX.out, G5.out, HE.out⟩
      · clear HNOT
        gi_wp2
        refine ⟨KeepsUp.ext x9, hX9, g0, g1, g2, g3, g4, fun m hm hmj => ?_⟩
        by_cases hmj' : m = j
        · subst hmj'
          rw [HI.out, HX.out, HVV.out]; exact hv
        · exact HALL.out m hm (by omega)
end Go.Proofs.YtigigcbondhmmaaDoor
