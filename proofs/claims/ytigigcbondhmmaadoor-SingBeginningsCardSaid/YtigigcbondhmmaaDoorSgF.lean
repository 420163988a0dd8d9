/-
  Walks of sing: find (a range over what is heard).
-/
import Derived.Test.YtigigcbondhmmaaDoorSgD
import Derived.Test.YtigigcbondhmmaaDoorSgE
set_option linter.unusedVariables false
namespace Go.Proofs.YtigigcbondhmmaaDoor
open Go.RowKit Go.Sx Go.Sx.Sz Go.Sx.Sc Go.Sx.Sg
attribute [local go_sem] Oper.semAt_some wide_fn wide_depth

theorem heard_range {s : Sc} {n j : Nat} (hn : n < s.notes.length) (hj : j < (heardL s n).length) : (heardL s n)[j] = -1 ∨ (0 ≤ (heardL s n)[j] ∧ (heardL s n)[j] < (s.notes.length : Int)) := by
  rcases heard_mem (List.getElem_mem hj) with ⟨h, -⟩ | ⟨k, hk, hm⟩
  · exact .inl h
  · right
    rw [hk]
    have := (mem_sndL.1 (mem_othL.1 hm).1).1
    omega
theorem find_at {s : Sc} {xs : List V6} {n j : Nat} {step : Int} (hj : j < (heardL s n).length) (h : needF xs n (heardL s n)[j] ≤ step) (hall : ∀ m, (hm : m < (heardL s n).length) → m < j → ¬ needF xs n (heardL s n)[m] ≤ step) : findR s xs n step = ((heardL s n)[j], 0) := by
  refine find_iff (List.getElem_mem hj) h fun i hi hlt => ?_
  obtain ⟨m, hm, rfl⟩ := List.getElem_of_mem hi
  refine hall m hm ?_
  rcases Nat.lt_trichotomy m j with h1 | h1 | h1
  · exact h1
  · subst h1; omega
  · have := List.pairwise_iff_getElem.1 (heard_sorted s n) j m hj hm h1
    omega
theorem find_no {s : Sc} {xs : List V6} {n : Nat} {step : Int} (hall : ∀ m, (hm : m < (heardL s n).length) → ¬ needF xs n (heardL s n)[m] ≤ step) : findR s xs n step = (0, 4) := by
  rcases find_cases s xs n step with ⟨i, h⟩ | h
  · obtain ⟨a, b, -⟩ := find_some h
    obtain ⟨m, hm, rfl⟩ := List.getElem_of_mem a
    exact absurd b (hall m hm)
  · exact h

set_option maxRecDepth 100000 in
set_option maxHeartbeats 4000000 in
theorem find_walk (v0 vn vp vc vx : Value) (s : Sc) (hok : ScOk s) (xs : List V6) (hl : xs.length = s.notes.length) (hw : ∀ x ∈ xs, within x 48 = true) (k : Nat) (hk : k < s.notes.length) (st : Int) (w : World) (G : Gl 0 w) (S : Sl w 10 encN vn s.notes) (R : Sl w 6 V6.list vx xs) :
    Calls Tryd.prog 30 #[.agg #[v0, vn, vp, vc, vx], .int .i64 k, .int .i64 st] w fun e w' => e = .returned (.tuple #[.int .i64 (findR s xs k st).1, .int .i64 (findR s xs k st).2]) ∧ Ext w w' := by
  obtain ⟨an, cn, rfl, hl1, hl2, hln⟩ := S.len
  obtain ⟨ax, cx, rfl, -, -, hlx⟩ := R.len
  have X0 : Ext w (((((w.alloc (.cells #[v0, .slice an s.notes.length cn, vp, vc, .slice ax xs.length cx] 58)).alloc (.cells #[.int .i64 k] 3)).alloc (.cells #[.int .i64 st] 3)).alloc (.cells #[.int .i64 0] 3)).alloc (.cells #[.int .i64 0] 29)) := (by repeat (first | with_reducible exact Ext.refl _ | with_reducible assumption | with_reducible apply Ext.alloc | with_reducible apply Ext.drew | (with_reducible refine Ext.setCell ?_ (by (try simp) <;> omega) _)))
  have b0_0 := block_alloc (block_alloc (block_alloc (block_alloc (block_new w (.cells #[v0, .slice an s.notes.length cn, vp, vc, .slice ax xs.length cx] 58)) (.cells #[.int .i64 k] 3)) (.cells #[.int .i64 st] 3)) (.cells #[.int .i64 0] 3)) (.cells #[.int .i64 0] 29)
  have b0_1 := block_alloc (block_alloc (block_alloc (block_at (w := (w.alloc (.cells #[v0, .slice an s.notes.length cn, vp, vc, .slice ax xs.length cx] 58))) (n := w.heap.size + 1) (by simp) (.cells #[.int .i64 k] 3)) (.cells #[.int .i64 st] 3)) (.cells #[.int .i64 0] 3)) (.cells #[.int .i64 0] 29)
  have b0_2 := block_alloc (block_alloc (block_at (w := ((w.alloc (.cells #[v0, .slice an s.notes.length cn, vp, vc, .slice ax xs.length cx] 58)).alloc (.cells #[.int .i64 k] 3))) (n := w.heap.size + 1 + 1) (by simp) (.cells #[.int .i64 st] 3)) (.cells #[.int .i64 0] 3)) (.cells #[.int .i64 0] 29)
  have b0_3 := block_alloc (block_at (w := (((w.alloc (.cells #[v0, .slice an s.notes.length cn, vp, vc, .slice ax xs.length cx] 58)).alloc (.cells #[.int .i64 k] 3)).alloc (.cells #[.int .i64 st] 3))) (n := w.heap.size + 1 + 1 + 1) (by simp) (.cells #[.int .i64 0] 3)) (.cells #[.int .i64 0] 29)
  have b0_4 := block_at (w := ((((w.alloc (.cells #[v0, .slice an s.notes.length cn, vp, vc, .slice ax xs.length cx] 58)).alloc (.cells #[.int .i64 k] 3)).alloc (.cells #[.int .i64 st] 3)).alloc (.cells #[.int .i64 0] 3))) (n := w.heap.size + 1 + 1 + 1 + 1) (by simp) (.cells #[.int .i64 0] 29)
  obtain ⟨W0, hW0⟩ : ∃ W, (((((w.alloc (.cells #[v0, .slice an s.notes.length cn, vp, vc, .slice ax xs.length cx] 58)).alloc (.cells #[.int .i64 k] 3)).alloc (.cells #[.int .i64 st] 3)).alloc (.cells #[.int .i64 0] 3)).alloc (.cells #[.int .i64 0] 29)) = W := ⟨_, rfl⟩
  obtain ⟨B0, hB0⟩ : ∃ B, w.heap.size = B := ⟨_, rfl⟩
  rw [hW0] at X0 b0_0 b0_1 b0_2 b0_3 b0_4
  rw [hB0] at b0_0 b0_1 b0_2 b0_3 b0_4
  have HZ0 : Hid (w.heap.size ≤ B0) := Lib.hid (by omega)
  have HW0 := Lib.hid hW0; have HB0 := Lib.hid hB0
  clear hW0 hB0
  refine (callsIn_wide (n := 0)).1 ?_
  refine callsIn_of_wp_marks Tryd.func30 rfl trivial ?_ rfl
  simp only [Tryd.ntmps30, List.size_toArray, List.length_cons, List.length_nil, Nat.reduceAdd, Nat.reduceSub, Array.replicate_succ, Array.replicate_zero, List.push_toArray, List.append_toArray, List.nil_append, List.cons_append]
  refine wpIn_wide.2 ?_
  have c0 := block_cell b0_0 0 _ rfl; have c1 := block_cell b0_0 1 _ rfl; have c2 := block_cell b0_0 2 _ rfl; have c3 := block_cell b0_0 3 _ rfl; have c4 := block_cell b0_0 4 _ rfl; have c5 := block_cell b0_1 0 _ rfl
  have NW := Lib.hid fun w' (e : Ext w w') (i : Int) hi => needed_walk v0 (.slice an s.notes.length cn) vp vc (.slice ax xs.length cx) ⟨_, _, _, rfl⟩ xs hw k (by omega) i hi w' (G.ext e) (R.ext e)
  have HL := Lib.hid hl
  clear G hw hl
  go_upto_region 1 with fail
  rw [HW0.out, HB0.out]
  go_wp2_with fail
  refine (heard_walk _ _ _ _ _ ⟨_, _, _, rfl⟩ ⟨_, _, _, rfl⟩ _ _).mono ?_
  rintro e w3 ⟨rfl, rfl⟩
  clear c0 c1 c2 c3 c4 c5
  have Q := Lib.hid (And.intro b0_0 (And.intro b0_1 (And.intro b0_2 (And.intro b0_3 b0_4))))
  clear b0_0 b0_1 b0_2 b0_3 b0_4
  have X3 : Ext W0 ((W0.alloc (.cells #[v0, .slice an s.notes.length cn, vp, vc, .slice ax xs.length cx] 58)).alloc (.cells #[.int .i64 k] 3)) := (by repeat (first | with_reducible exact Ext.refl _ | with_reducible assumption | with_reducible apply Ext.alloc | with_reducible apply Ext.drew | (with_reducible refine Ext.setCell ?_ (by (try simp) <;> omega) _)))
  have b3_0 := block_alloc (block_new W0 (.cells #[v0, .slice an s.notes.length cn, vp, vc, .slice ax xs.length cx] 58)) (.cells #[.int .i64 k] 3)
  have b3_1 := block_at (w := (W0.alloc (.cells #[v0, .slice an s.notes.length cn, vp, vc, .slice ax xs.length cx] 58))) (n := W0.heap.size + 1) (by simp) (.cells #[.int .i64 k] 3)
  obtain ⟨W3, hW3⟩ : ∃ W, ((W0.alloc (.cells #[v0, .slice an s.notes.length cn, vp, vc, .slice ax xs.length cx] 58)).alloc (.cells #[.int .i64 k] 3)) = W := ⟨_, rfl⟩
  obtain ⟨B3, hB3⟩ : ∃ B, W0.heap.size = B := ⟨_, rfl⟩
  rw [hW3] at X3 b3_0 b3_1
  rw [hB3] at b3_0 b3_1
  have HZ3 : Hid (W0.heap.size ≤ B3) := Lib.hid (by omega)
  have HW3 := Lib.hid hW3; have HB3 := Lib.hid hB3
  clear hW3 hB3
  have hz0 : W0.heap.size = B3 := HB3.out
  have hz3 : W3.heap.size = B3 + 2 := by rw [← HW3.out]; simp [hz0]
  have hb0 : B0 + 5 = B3 := by rw [← hz0, ← HW0.out]; simp [← HB0.out]
  have p0 := block_ext X3 Q.out.1; have p1 := block_ext X3 Q.out.2.1; have p2 := block_ext X3 Q.out.2.2.1; have p3 := block_ext X3 Q.out.2.2.2.1; have p4 := block_ext X3 Q.out.2.2.2.2
  have XW := X0.trans X3
  have hbz := HZ0.out
  rw [HW3.out, HB3.out]
  clear HW0 HB0 HW3 HB3 X0 X3 Q
  go_wp2_with fail
  refine (wpIn_wide (n := 0)).1 ?_
  refine wpIn_rangeN (gf := 51) (lb := #[.pointer (some ⟨B3, 0, none⟩), .pointer (some ⟨B3 + 1, 0, none⟩)]) rfl (enters_of Tryd.func51 (by kernel_rfl) rfl)
    (hrd_iter B3 (B3 + 1) v0 (.slice an s.notes.length cn) vp vc (.slice ax xs.length cx) ⟨_, _, _, rfl⟩ s hok k hk (fun W => W.heap[B3]? = some (.cells #[v0, .slice an s.notes.length cn, vp, vc, .slice ax xs.length cx] 58 (0, 0)) ∧ W.heap[B3 + 1]? = some (.cells #[.int .i64 k] 3 (0, 0)) ∧ Sl W 10 encN (.slice an s.notes.length cn) s.notes) (fun W h => h)) (fun _ => rfl)
    (fun j W => Ext w W ∧ (W.heap[B0]? = some (.cells #[v0, .slice an s.notes.length cn, vp, vc, .slice ax xs.length cx] 58 (0, 0)) ∧ W.heap[B0 + 1]? = some (.cells #[.int .i64 k] 3 (0, 0)) ∧ W.heap[B0 + 1 + 1]? = some (.cells #[.int .i64 st] 3 (0, 0)) ∧ W.heap[B0 + 1 + 1 + 1]? = some (.cells #[.int .i64 0] 3 (0, 0)) ∧ W.heap[B0 + 1 + 1 + 1 + 1]? = some (.cells #[.int .i64 0] 29 (0, 0)) ∧ W.heap[B3]? = some (.cells #[v0, .slice an s.notes.length cn, vp, vc, .slice ax xs.length cx] 58 (0, 0)) ∧ W.heap[B3 + 1]? = some (.cells #[.int .i64 k] 3 (0, 0))) ∧ ∀ m, (hm : m < (heardL s k).length) → m < j → ¬ needF xs k (heardL s k)[m] ≤ st)
    (fun c W => c = .ret ∧ Ext w W ∧ ∃ i : Int, W.heap[B0 + 1 + 1 + 1]? = some (.cells #[.int .i64 i] 3 (0, 0)) ∧ W.heap[B0 + 1 + 1 + 1 + 1]? = some (.cells #[.int .i64 0] 29 (0, 0)) ∧ findR s xs k st = (i, 0))
    (fun j => (Low.ext (by omega)).and (((Low.block (by omega)).and ((Low.block (by omega)).and ((Low.block (by omega)).and ((Low.block (by omega)).and ((Low.block (by omega)).and ((Low.block (by omega)).and (Low.block (by omega)))))))).and (Low.pure _)))
    (fun c => (Low.pure _).and ((Low.ext (by omega)).and (Low.exi fun i => (Low.block (by omega)).and ((Low.block (by omega)).and (Low.pure _)))))
    (fun j W ⟨h1, ⟨_, _, _, _, _, h4, h5⟩, _⟩ => ⟨h4, h5, S.ext h1⟩)
    ⟨XW, ⟨p0, p1, p2, p3, p4, b3_0, b3_1⟩, fun m _ hm => absurd hm (Nat.not_lt_zero _)⟩ ?round ?done ?stop
  case stop =>
    rintro D c W hD ⟨rfl, hx, i, h3, h4, hn⟩ hdef
    gi_wp2
    exact bodyPostM_ret (v := .tuple #[.int .i64 i, .int .i64 0]) rfl hdef (fun W' hs => by simp [results, Tryd.results30, go_sem, block_cell (hs.cells h3) 0 _ rfl, block_cell (hs.cells h4) 0 _ rfl]) (fun W' hs => ⟨by rw [hn], Below.trans hx (hs.below (by omega))⟩)
  case done =>
    rintro D W hD ⟨hx, ⟨e0, e1, e2, e3, e4, e5, e6⟩, hall⟩ hdef
    have HE := Lib.hid (find_no fun j hj => hall j hj hj)
    have hc3 := block_cell e3 0 _ rfl
    have hf3 := block_free e3 0
    have hf4 := block_free e4 0
    have g3 := block_set e3 0 (.int .i64 0)
    have g4 := block_ne e4 (g := B0 + 1 + 1 + 1) 0 (.int .i64 0) (by omega)
    have hc4 := block_cell g4 0 _ rfl
    have hf4' := block_free g4 0
    have g3' := block_ne g3 (g := B0 + 1 + 1 + 1 + 1) 0 (.int .i64 4) (by omega)
    have g4' := block_set g4 0 (.int .i64 4)
    have hb := HZ0.out
    have hx5 := Lib.hid ((hx.setCell (p := ⟨B0 + 1 + 1 + 1, 0, none⟩) (by show w.heap.size ≤ B0 + 1 + 1 + 1; omega) (.int .i64 0)).setCell (p := ⟨B0 + 1 + 1 + 1 + 1, 0, none⟩) (by show w.heap.size ≤ B0 + 1 + 1 + 1 + 1; omega) (.int .i64 4))
    have hdef5 := Lib.hid (((KeepsUp.setCell W (p := ⟨B0 + 1 + 1 + 1, 0, none⟩) (show B0 + 1 + 1 + 1 < B3 by omega) (.int .i64 0)).trans (KeepsUp.setCell _ (p := ⟨B0 + 1 + 1 + 1 + 1, 0, none⟩) (show B0 + 1 + 1 + 1 + 1 < B3 by omega) (.int .i64 4))).at (by omega) hdef)
    have H5 := Lib.hid (And.intro g3' g4')
    clear e0 e1 e2 e5 e6 hall e3 e4 g3 g4 g3' g4'
    go_wp2
    exact bodyPostM_ret (v := .tuple #[.int .i64 0, .int .i64 4]) rfl hdef5.out (fun W' hs => by simp [results, Tryd.results30, go_sem, block_cell (hs.cells H5.out.1) 0 _ rfl, block_cell (hs.cells H5.out.2) 0 _ rfl]) (fun W' hs => ⟨by rw [HE.out], Below.trans hx5.out (hs.below (by omega))⟩)
  case round =>
    rintro lr j W hj ⟨hx, ⟨e0, e1, e2, e3, e4, e5, e6⟩, hall⟩ hle hlt'
    have hir := heard_range hk hj
    have hat := fun h => find_at hj h hall
    obtain ⟨i, hi⟩ : ∃ i, (heardL s k)[j] = i := ⟨_, rfl⟩
    rw [hi] at hir hat ⊢
    simp only [encZI]
    obtain ⟨r, hr⟩ : ∃ r, needF xs k i = r := ⟨_, rfl⟩
    have NI := Lib.hid fun w' (y : Ext w w') => NW.out w' y i (by rcases hir with h | h; exact .inl h; exact .inr (by have := HL.out; omega))
    rw [hr] at NI hat
    have HI := Lib.hid hi; have HR := Lib.hid hr
    have HAT := Lib.hid hat
    have HALL := Lib.hid hall
    clear hat hall hi hir hr
    gi_wp2
    refine ⟨KeepsUp.refl _ _, fun W2 hs2 => ?_⟩
    have f0 := hs2.cells e0; have f1 := hs2.cells e1; have f2 := hs2.cells e2; have f3 := hs2.cells e3; have f4 := hs2.cells e4; have f5 := hs2.cells e5; have f6 := hs2.cells e6
    have hx2 : Ext w W2 := Below.trans hx (hs2.below (by omega))
    have hz2 := hs2.size
    have k0 := ext_cells (block_cell f0 0 _ rfl); have k1 := ext_cells (block_cell f0 1 _ rfl); have k2 := ext_cells (block_cell f0 2 _ rfl); have k3 := ext_cells (block_cell f0 3 _ rfl); have k4 := ext_cells (block_cell f0 4 _ rfl)
    have k5 := ext_cells (block_cell f1 0 _ rfl); have k6 := ext_cells (block_cell f2 0 _ rfl)
    have FF := Lib.hid (And.intro f0 (And.intro f1 (And.intro f2 (And.intro f3 (And.intro f4 (And.intro f5 f6))))))
    have NJ := Lib.hid fun w' (y : Ext W2 w') => NI.out w' (hx2.trans y)
    have HX2 := Lib.hid hx2
    clear f0 f1 f2 f3 f4 f5 f6 hx hx2 e0 e1 e2 e3 e4 e5 e6 NI NW
    gi_wp2_with fail
    refine wpIn_region_ordT (free_round _ _) [(0,true), (1,true), (2,true), (3,true), (4,true), (5,true)] 6 Ext (Ext W2) wide (by kernel_rfl) (stable_ext _) (Ext.drawn _ _) ?_
    iterate 3 (first | (apply ordT_no rfl; rfl; (simp only [List.getElem_toArray, List.getElem_cons_succ, List.getElem_cons_zero, Act.put, List.setIfInBounds_toArray, List.set_cons_succ, List.set_cons_zero]; rfl)) | (apply ordT_yes rfl; rfl; (intro w' hw'; unfold opR; go_simp; exact ⟨Ext.refl _, rfl⟩); (simp only [List.getElem_toArray, List.getElem_cons_succ, List.getElem_cons_zero, Act.put, List.setIfInBounds_toArray, List.set_cons_succ, List.set_cons_zero]; rfl)))
    (apply ordT_det rfl rfl; (intro w' hw'; refine opR_call rfl (Go.Proofs.enters_of Tryd.func35 (by kernel_rfl) rfl) (by simp only [List.map_toArray, List.map_cons, List.map_nil, Act.eval, Array.getD_eq_getD_getElem?, List.getElem?_toArray, List.getElem?_cons_succ, List.getElem?_cons_zero, Option.getD_some]; rfl) ?_; refine (NJ.out _ hw').mono ?_; rintro e w'' ⟨rfl, hx⟩; exact ⟨_, rfl, hx, rfl⟩); (simp only [List.getElem_toArray, List.getElem_cons_succ, List.getElem_cons_zero, Act.put, List.setIfInBounds_toArray, List.set_cons_succ, List.set_cons_zero]; rfl))
    iterate 2 (first | (apply ordT_no rfl; rfl; (simp only [List.getElem_toArray, List.getElem_cons_succ, List.getElem_cons_zero, Act.put, List.setIfInBounds_toArray, List.set_cons_succ, List.set_cons_zero]; rfl)) | (apply ordT_yes rfl; rfl; (intro w' hw'; unfold opR; go_simp; exact ⟨Ext.refl _, rfl⟩); (simp only [List.getElem_toArray, List.getElem_cons_succ, List.getElem_cons_zero, Act.put, List.setIfInBounds_toArray, List.set_cons_succ, List.set_cons_zero]; rfl)))
    refine ordT_nil rfl ?_
    intro w9 x9
    clear k0 k1 k2 k3 k4 k5 k6
    obtain ⟨g0, g1, g2, g3, g4, g5, g6⟩ : _ ∧ _ ∧ _ ∧ _ ∧ _ ∧ _ ∧ _ := ⟨block_ext x9 FF.out.1, block_ext x9 FF.out.2.1, block_ext x9 FF.out.2.2.1, block_ext x9 FF.out.2.2.2.1, block_ext x9 FF.out.2.2.2.2.1, block_ext x9 FF.out.2.2.2.2.2.1, block_ext x9 FF.out.2.2.2.2.2.2⟩
    have hz9 := x9.size
    have hX9 := HX2.out.trans x9
    by_cases hv : r ≤ st
    · have HE := Lib.hid (HAT.out hv)
      have hb := HZ0.out
      have hc3 := block_cell g3 0 _ rfl
      have hf3 := block_free g3 0
      have q3 := block_set g3 0 (.int .i64 i)
      have q4 := block_ne g4 (g := B0 + 1 + 1 + 1) 0 (.int .i64 i) (by omega)
      have hc4 := block_cell q4 0 _ rfl
      have hf4 := block_free q4 0
      have q3' := Lib.hid (block_ne q3 (g := B0 + 1 + 1 + 1 + 1) 0 (.int .i64 0) (by omega))
      have q4' := Lib.hid (block_set q4 0 (.int .i64 0))
      have XX := Lib.hid ((hX9.setCell (p := ⟨B0 + 1 + 1 + 1, 0, none⟩) (by show w.heap.size ≤ B0 + 1 + 1 + 1; omega) (.int .i64 i)).setCell (p := ⟨B0 + 1 + 1 + 1 + 1, 0, none⟩) (by show w.heap.size ≤ B0 + 1 + 1 + 1 + 1; omega) (.int .i64 0))
      have KK := Lib.hid ((KeepsUp.ext x9 (B := W3.heap.size)).trans ((KeepsUp.setCell w9 (p := ⟨B0 + 1 + 1 + 1, 0, none⟩) (by show B0 + 1 + 1 + 1 < W3.heap.size; omega) (.int .i64 i)).trans (KeepsUp.setCell _ (p := ⟨B0 + 1 + 1 + 1 + 1, 0, none⟩) (by show B0 + 1 + 1 + 1 + 1 < W3.heap.size; omega) (.int .i64 0))))
      clear g0 g1 g2 g3 g4 g5 g6 q3 q4
      gi_wp2
      exact ⟨by rw [← hz3]; exact KK.out, rfl, XX.out, i, q3'.out, q4'.out, HE.out⟩
    · clear HAT
      gi_wp2
      refine ⟨KeepsUp.ext x9, hX9, ⟨g0, g1, g2, g3, g4, g5, g6⟩, fun m hm hmj => ?_⟩
      by_cases hmj' : m = j
      · subst hmj'
        rw [HI.out, HR.out]; exact hv
      · exact HALL.out m hm (by omega)
end Go.Proofs.YtigigcbondhmmaaDoor
