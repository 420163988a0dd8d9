/-
  Libraries of these proofs, laid as one text: GpO, ChW.
-/
import Derived.Test.YtgfaiihekibcbaaGreatDoorLibT
import Derived.Test.YtgfaiihekibcbaaGreatDoorGpN
/-
  Walks of chain: result, Shortest.
-/
set_option maxRecDepth 100000
set_option linter.unusedVariables false
namespace Go.Proofs.YtgfaiihekibcbaaGreatDoor
open Go.RowKit Go.Sx Go.Sx.Sz Go.Sx.Sc Go.Sx.Po Go.Sx.Ch

/-- What 'result' returns. -/
def resR (rows : Nat → List Ed) (N : Nat) (steps : List St) : V6 × Int := if steps = [] then (V6.zero, 4) else (prodV (prodP rows N steps), prodC (prodP rows N steps))
set_option maxHeartbeats 2000000 in
theorem result_walk (vg vs : Value) (N : Nat) (rows : Nat → List Ed) (steps : List St) (hlen : steps.length ≤ 1000) (hS : ∀ n, ∀ e ∈ rows n, Sml 16 e.v) (w : World) (G : GrR w vg N rows) (S : Sl w 3 encSt vs steps) :
    Calls Tryz.prog 18 #[vg, vs] w fun e w' => ∃ v', e = .returned (.tuple #[v', .agg #[.int .i64 (resR rows N steps).1.a, .int .i64 (resR rows N steps).1.b, .int .i64 (resR rows N steps).1.c, .int .i64 (resR rows N steps).1.d, .int .i64 (resR rows N steps).1.e, .int .i64 (resR rows N steps).1.f], .int .i64 (resR rows N steps).2]) ∧ Sl w' 3 encSt v' steps ∧ Ext w w' := by
  obtain ⟨ag, cg, rfl, -⟩ := G.len
  obtain ⟨a1, c1, rfl, -, -, -⟩ := S.len
  have X0 : Ext w (w.alloc (.cells #[.int .i64 0, .int .i64 0, .int .i64 0, .int .i64 0, .int .i64 0, .int .i64 0] 32)) := (by repeat (first | with_reducible exact Ext.refl _ | with_reducible assumption | with_reducible apply Ext.alloc | with_reducible apply Ext.drew | (with_reducible refine Ext.setCell ?_ (by (try simp) <;> omega) _)))
  have b0_0 := block_new w (.cells #[.int .i64 0, .int .i64 0, .int .i64 0, .int .i64 0, .int .i64 0, .int .i64 0] 32)
  obtain ⟨W0, hW0⟩ : ∃ W, (w.alloc (.cells #[.int .i64 0, .int .i64 0, .int .i64 0, .int .i64 0, .int .i64 0, .int .i64 0] 32)) = W := ⟨_, rfl⟩
  obtain ⟨B0, hB0⟩ : ∃ B, w.heap.size = B := ⟨_, rfl⟩
  rw [hW0] at X0 b0_0
  rw [hB0] at b0_0
  have HZ0 : Hid (w.heap.size ≤ B0) := Lib.hid (by omega)
  have HW0 := Lib.hid hW0; have HB0 := Lib.hid hB0
  clear hW0 hB0
  have G0 := Lib.hid (G.ext X0); have S0 := Lib.hid (S.ext X0)
  have HQ := Lib.hid b0_0
  obtain ⟨r, hr⟩ : ∃ r, resR rows N steps = r := ⟨_, rfl⟩
  rw [hr]
  have HR := Lib.hid hr
  have HSW := Lib.hid S
  clear G S hr b0_0
  by_cases h0 : steps = []
  · subst h0
    have hr0 : r = (V6.zero, 4) := by rw [← HR.out]; rfl
    subst hr0
    have n2 := setRow_at HQ.out #[.int .i64 0, .int .i64 0, .int .i64 0, .int .i64 0, .int .i64 0, .int .i64 0]
    have XX := Lib.hid (X0.setRow (g := B0) HZ0.out #[.int .i64 0, .int .i64 0, .int .i64 0, .int .i64 0, .int .i64 0, .int .i64 0])
    have e0 := block_cell n2 0 _ rfl; have e1 := block_cell n2 1 _ rfl; have e2 := block_cell n2 2 _ rfl; have e3 := block_cell n2 3 _ rfl; have e4 := block_cell n2 4 _ rfl; have e5 := block_cell n2 5 _ rfl
    clear n2
    go_enter Tryz.func18, Tryz.ntmps18
    go_upto_region 1 with fail
    rw [HW0.out, HB0.out]
    clear HW0 HB0
    go_wp2_with (first | (refine wpList_store_row rfl _ _ _ rfl B0 _ rfl rfl _ _ HQ.out (by kernel_rfl) rfl (by simp [Value.oneCell']) ?_) | fail)
    refine bodyPost_ret (v := .tuple #[.slice none 0 0, .agg #[.int .i64 0, .int .i64 0, .int .i64 0, .int .i64 0, .int .i64 0, .int .i64 0], .int .i64 4]) (by simp [results, Tryz.results18, go_sem, e0, e1, e2, e3, e4, e5]) rfl ⟨_, rfl, Sl.nil _ _ _, XX.out⟩
  · have hpos : 0 < steps.length := by
      rcases Nat.eq_zero_or_pos steps.length with h | h
      · exact absurd (List.eq_nil_of_length_eq_zero h) h0
      · exact h
    obtain ⟨x, hx⟩ : ∃ x, prodV (prodP rows N steps) = x := ⟨_, rfl⟩
    obtain ⟨c, hc⟩ : ∃ c, prodC (prodP rows N steps) = c := ⟨_, rfl⟩
    have hr1 : r = (x, c) := by rw [← HR.out, resR, if_neg h0, hx, hc]
    subst hr1
    have PW := Lib.hid fun w' (y : Ext W0 w') => product_walk _ _ N rows steps hpos hlen hS w' (G0.out.ext y) (S0.out.ext y)
    rw [hx, hc] at PW
    obtain ⟨q, hq⟩ : ∃ q, steps.length = q := ⟨_, rfl⟩
    rw [hq] at PW ⊢
    have HS1 := Lib.hid S0.out
    have HQL := Lib.hid hq
    have t1 : decide (q = 0) = false := decide_eq_false (by omega)
    have t2 : ((q : Int) == 0) = false := by rw [beq_eq_false_iff_ne]; omega
    clear hx hc h0 hpos hS hlen hq
    go_enter Tryz.func18, Tryz.ntmps18
    go_upto_region 1 with fail
    rw [HW0.out, HB0.out]
    clear HW0 HB0
    go_wp2_with fail
    refine (PW.out _ (Ext.refl _)).mono ?_
    rintro e w5 ⟨rfl, x5⟩
    have X6 : Ext w5 (w5.alloc (.cells (#[.int .i64 x.a, .int .i64 x.b, .int .i64 x.c, .int .i64 x.d, .int .i64 x.e, .int .i64 x.f] : Array Value) 32)) := (by repeat (first | with_reducible exact Ext.refl _ | with_reducible assumption | with_reducible apply Ext.alloc | with_reducible apply Ext.drew | (with_reducible refine Ext.setCell ?_ (by (try simp) <;> omega) _)))
    have b6_0 := block_new w5 (.cells (#[.int .i64 x.a, .int .i64 x.b, .int .i64 x.c, .int .i64 x.d, .int .i64 x.e, .int .i64 x.f] : Array Value) 32)
    obtain ⟨W6, hW6⟩ : ∃ W, (w5.alloc (.cells (#[.int .i64 x.a, .int .i64 x.b, .int .i64 x.c, .int .i64 x.d, .int .i64 x.e, .int .i64 x.f] : Array Value) 32)) = W := ⟨_, rfl⟩
    obtain ⟨B6, hB6⟩ : ∃ B, w5.heap.size = B := ⟨_, rfl⟩
    rw [hW6] at X6 b6_0
    rw [hB6] at b6_0
    have HZ6 : Hid (w5.heap.size ≤ B6) := Lib.hid (by omega)
    have HW6 := Lib.hid hW6; have HB6 := Lib.hid hB6
    clear hW6 hB6
    have hq6 := block_ext (x5.trans X6) HQ.out
    have st0 := ks_cells (S := [B0]) (block_cell b6_0 0 _ rfl) (by have := x5.size; have := (Array.getElem?_eq_some_iff.1 HQ.out).1; have := HZ6.out; simp; omega)
    have st1 := ks_cells (S := [B0]) (block_cell b6_0 1 _ rfl) (by have := x5.size; have := (Array.getElem?_eq_some_iff.1 HQ.out).1; have := HZ6.out; simp; omega)
    have st2 := ks_cells (S := [B0]) (block_cell b6_0 2 _ rfl) (by have := x5.size; have := (Array.getElem?_eq_some_iff.1 HQ.out).1; have := HZ6.out; simp; omega)
    have st3 := ks_cells (S := [B0]) (block_cell b6_0 3 _ rfl) (by have := x5.size; have := (Array.getElem?_eq_some_iff.1 HQ.out).1; have := HZ6.out; simp; omega)
    have st4 := ks_cells (S := [B0]) (block_cell b6_0 4 _ rfl) (by have := x5.size; have := (Array.getElem?_eq_some_iff.1 HQ.out).1; have := HZ6.out; simp; omega)
    have st5 := ks_cells (S := [B0]) (block_cell b6_0 5 _ rfl) (by have := x5.size; have := (Array.getElem?_eq_some_iff.1 HQ.out).1; have := HZ6.out; simp; omega)
    have HQ6 := Lib.hid hq6
    have HX6 := Lib.hid (x5.trans X6)
    clear hq6 b6_0 x5 X6
    go_upto_region 4 with fail
    rw [HW6.out, HB6.out]
    clear HW6 HB6
    apply Y.wp_region_ordY [(0, .det _), (1, .det _), (2, .det _), (3, .det _), (4, .one (fun _ => True) (fun _ W => W.heap[B0]? = some (.cells (#[.int .i64 x.a, .int .i64 x.b, .int .i64 x.c, .int .i64 x.d, .int .i64 x.e, .int .i64 x.f] : Array Value) 32 (0, 0))) undef trivial)]
      5 Ext (Ks [B0]) (Ks [B0] W6) (fun W => W.heap[B0]? = some (.cells #[.int .i64 0, .int .i64 0, .int .i64 0, .int .i64 0, .int .i64 0, .int .i64 0] 32 (0, 0))) wide
      [(0,true),(1,true),(2,true),(3,true),(4,false)] [(0,[]),(1,[]),(2,[]),(3,[]),(4,[])] (by kernel_rfl) (by kernel_rfl) rfl rfl (by simp [Y.Kd.new, Y.Kd.det, Y.Kd.one, Y.kdOf]) (by decide) (sub_ks _) (stable_ks _ _) stable_blk (Ks.drawn _ _ _) (block_ext (Ext.drawn _ _) HQ6.out) ?mainR
    case mainR =>
    iterate 4 (apply Y.ordX_det rfl rfl; (intro w' hw'; unfold opR; go_simp; exact ⟨Ext.refl _, rfl⟩); (simp only [List.getElem_toArray, List.getElem_cons_succ, List.getElem_cons_zero, Act.put, List.setIfInBounds_toArray, List.set_cons_succ, List.set_cons_zero]; rfl))
    apply Y.ordX_one (fun _ => stable_blk) rfl rfl
    · intro w' hw' hC _
      refine opR_store_row _ _ _ rfl B0 #[.int .i64 x.a, .int .i64 x.b, .int .i64 x.c, .int .i64 x.d, .int .i64 x.e, .int .i64 x.f] rfl rfl _ _ hC (by kernel_rfl) rfl (by simp [Value.oneCell']) ?_
      exact ⟨(Ks.refl _ _).setRow (.inl (by simp)) _, trivial, setRow_at hC _⟩
    · intro z; (simp only [List.getElem_toArray, List.getElem_cons_succ, List.getElem_cons_zero, Act.put, List.setIfInBounds_toArray, List.set_cons_succ, List.set_cons_zero]; rfl)
    intro v4 _
    refine Y.ordX_nil rfl ?_
    rintro wz hwz hC -
    have e0 := block_cell hC 0 _ rfl; have e1 := block_cell hC 1 _ rfl; have e2 := block_cell hC 2 _ rfl; have e3 := block_cell hC 3 _ rfl; have e4 := block_cell hC 4 _ rfl; have e5 := block_cell hC 5 _ rfl
    have XZ := Lib.hid (show Ext w wz from Below.trans (X0.trans HX6.out) (hwz.below (X0.trans HX6.out).size (fun b hb => by simp at hb; have := HZ0.out; omega)))
    clear hC hwz st0 st1 st2 st3 st4 st5
    go_wp2
    refine bodyPost_ret (v := .tuple #[.slice a1 q c1, .agg #[.int .i64 x.a, .int .i64 x.b, .int .i64 x.c, .int .i64 x.d, .int .i64 x.e, .int .i64 x.f], .int .i64 c]) (by simp [results, Tryz.results18, go_sem, e0, e1, e2, e3, e4, e5]) rfl ⟨_, rfl, by rw [← HQL.out]; exact HSW.out.ext XZ.out, XZ.out⟩

theorem best_le {rows : Nat → List Ed} (hr : ∀ n, ∀ e ∈ rows n, e.f = n) (N : Nat) : ∀ (k : Nat), ((List.range k).foldl (bestS rows) ([], N)).2 ≤ N ∧ ((List.range k).foldl (bestS rows) ([], N)).1.length ≤ N
  | 0 => ⟨Nat.le_refl _, Nat.zero_le _⟩
  | k + 1 => by
    have ih := best_le hr N k
    rw [List.range_succ, List.foldl_append, List.foldl_cons, List.foldl_nil]
    generalize (List.range k).foldl (bestS rows) ([], N) = q at ih ⊢
    unfold bestS
    split
    · exact ih
    · have := (thr_walk hr (g := k) (most := q.2)).2.1
      exact ⟨by show (thrR rows k q.2).length - 1 ≤ N; omega, by show (thrR rows k q.2).length ≤ N; omega⟩
theorem best_succ (rows : Nat → List Ed) (N k : Nat) : (List.range (k + 1)).foldl (bestS rows) ([], N) = bestS rows ((List.range k).foldl (bestS rows) ([], N)) k := by
  rw [List.range_succ, List.foldl_append]; rfl
set_option maxHeartbeats 4000000 in
theorem shortest_walk (vn vp vc : Value) (s : Sc) (hb : scB s = true) (w : World) (S : ScR w vn vp vc s) :
    Calls Tryz.prog 7 #[.agg #[.int .i64 s.voices, vn, vp, vc]] w fun e w' => ∃ v rows, e = .returned (.tuple #[v, .agg #[.int .i64 (resR rows s.notes.length ((shortR rows s.notes.length).1.map Ed.st)).1.a, .int .i64 (resR rows s.notes.length ((shortR rows s.notes.length).1.map Ed.st)).1.b, .int .i64 (resR rows s.notes.length ((shortR rows s.notes.length).1.map Ed.st)).1.c, .int .i64 (resR rows s.notes.length ((shortR rows s.notes.length).1.map Ed.st)).1.d, .int .i64 (resR rows s.notes.length ((shortR rows s.notes.length).1.map Ed.st)).1.e, .int .i64 (resR rows s.notes.length ((shortR rows s.notes.length).1.map Ed.st)).1.f], .int .i64 (resR rows s.notes.length ((shortR rows s.notes.length).1.map Ed.st)).2]) ∧ RowsOf s rows ∧ (∀ n, (rows n).Pairwise fun a b => a.t ≤ b.t) ∧ Ext w w' := by
  have hs := scB_iff.1 hb
  obtain ⟨an, cn, rfl, -, -, hln⟩ := S.nt.len
  obtain ⟨ap, cp, rfl, -, -, hlp⟩ := S.pr.len
  obtain ⟨ac, cc, rfl, -, -, hlc⟩ := S.cd.len
  have hn2 : s.notes.length ≤ 200 := hs.sz.2.1
  have X0 : Ext w ((w.alloc (.cells #[.int .i64 s.voices, .slice an s.notes.length cn, .slice ap s.pairs.length cp, .slice ac s.cads.length cc] 26)).alloc (.cells #[.int .i64 0, .int .i64 0, .int .i64 0, .int .i64 0, .int .i64 0, .int .i64 0] 32)) := (by repeat (first | with_reducible exact Ext.refl _ | with_reducible assumption | with_reducible apply Ext.alloc | with_reducible apply Ext.drew | (with_reducible refine Ext.setCell ?_ (by (try simp) <;> omega) _)))
  have b0_0 := block_alloc (block_new w (.cells #[.int .i64 s.voices, .slice an s.notes.length cn, .slice ap s.pairs.length cp, .slice ac s.cads.length cc] 26)) (.cells #[.int .i64 0, .int .i64 0, .int .i64 0, .int .i64 0, .int .i64 0, .int .i64 0] 32)
  have b0_1 := block_at (w := (w.alloc (.cells #[.int .i64 s.voices, .slice an s.notes.length cn, .slice ap s.pairs.length cp, .slice ac s.cads.length cc] 26))) (n := w.heap.size + 1) (by simp) (.cells #[.int .i64 0, .int .i64 0, .int .i64 0, .int .i64 0, .int .i64 0, .int .i64 0] 32)
  obtain ⟨W0, hW0⟩ : ∃ W, ((w.alloc (.cells #[.int .i64 s.voices, .slice an s.notes.length cn, .slice ap s.pairs.length cp, .slice ac s.cads.length cc] 26)).alloc (.cells #[.int .i64 0, .int .i64 0, .int .i64 0, .int .i64 0, .int .i64 0, .int .i64 0] 32)) = W := ⟨_, rfl⟩
  obtain ⟨B0, hB0⟩ : ∃ B, w.heap.size = B := ⟨_, rfl⟩
  rw [hW0] at X0 b0_0 b0_1
  rw [hB0] at b0_0 b0_1
  have HZ0 : Hid (w.heap.size ≤ B0) := Lib.hid (by omega)
  have HW0 := Lib.hid hW0; have HB0 := Lib.hid hB0
  clear hW0 hB0
  have HS := Lib.hid S; have HSO := Lib.hid hs; have HSB := Lib.hid hb
  have HQ1 := Lib.hid b0_1
  have HQ0 := Lib.hid b0_0
  have VW := Lib.hid fun w' (y : Ext W0 w') => scvalid_walk _ _ _ s w' (S.ext (X0.trans y))
  have NW := Lib.hid fun w' (y : Ext W0 w') => newgraph_walk _ _ _ s hb w' (S.ext (X0.trans y))
  have c0 := block_cell b0_0 0 _ rfl; have c1 := block_cell b0_0 1 _ rfl; have c2 := block_cell b0_0 2 _ rfl; have c3 := block_cell b0_0 3 _ rfl
  rw [hb] at VW
  clear hs hb S b0_0 b0_1
  go_enter Tryz.func7, Tryz.ntmps7
  go_upto_region 1 with fail
  rw [HW0.out, HB0.out]
  clear HW0 HB0
  go_wp2_with fail
  refine (VW.out _ (Ext.refl _)).mono ?_
  rintro e w1 ⟨rfl, x1⟩
  have d0 := x1.cell c0; have d1 := x1.cell c1; have d2 := x1.cell c2; have d3 := x1.cell c3
  clear c0 c1 c2 c3
  go_wp2_with fail
  refine (NW.out _ x1).mono ?_
  rintro e w2 ⟨vg, rows, rfl, G, hR, hSo, x2⟩
  have X2 := x1.trans x2
  have hrf := rows_f hR
  have hrt := rows_t HSO.out hR
  have hrs := rows_sml HSO.out hR
  have HRO := Lib.hid hR; have HSR := Lib.hid hSo; have HRF := Lib.hid hrf
  have TW := Lib.hid fun (n most : Nat) (hn : n < s.notes.length) (hm : most ≤ 1000) w' (y : Ext w2 w') => through_walk vg s.notes.length rows n most (by omega) hn hm hrf hrt hrs w' (G.ext y)
  have RW := Lib.hid fun (steps : List St) (vs : Value) (hl : steps.length ≤ 1000) w' (y : Ext w2 w') (Sv : Sl w' 3 encSt vs steps) => result_walk vg vs s.notes.length rows steps hl hrs w' (G.ext y) Sv
  have BL := Lib.hid fun k => best_le hrf s.notes.length k
  have BS := Lib.hid fun k => best_succ rows s.notes.length k
  have HSH : Hid (shortR rows s.notes.length = (List.range s.notes.length).foldl (bestS rows) ([], s.notes.length)) := Lib.hid rfl
  obtain ⟨ag, cg, rfl, -⟩ := G.len
  have HX2 := Lib.hid X2
  obtain ⟨N, hN⟩ : ∃ N, s.notes.length = N := ⟨_, rfl⟩
  rw [hN] at TW RW BL BS HSH hn2 ⊢
  have HN := Lib.hid hN
  clear G hR hSo hrf hrt hrs d0 d1 d2 d3 x1 x2 X2 VW NW hN
  go_wp2
  go_loopw [6, 7, 20] (fun u6 u7 i wr => ∃ k : Nat, k ≤ N ∧ i = .int .i64 k ∧ Sl wr 3 encSt u6 (((List.range k).foldl (bestS rows) ([], N)).1.map Ed.st) ∧ u7 = .int .i64 ((List.range k).foldl (bestS rows) ([], N)).2 ∧ Ext w2 wr) (fun _ _ i _ => N - (intOf i).toNat)
  case atStart => exact ⟨0, Nat.zero_le _, rfl, Sl.nil _ _ _, rfl, Ext.refl _⟩
  case round =>
    obtain ⟨k, hk, rfl, hsl, rfl, X⟩ := hrel
    have hbl := BL.out k
    have hbs := BS.out k
    obtain ⟨q, hq⟩ : ∃ q, (List.range k).foldl (bestS rows) ([], N) = q := ⟨_, rfl⟩
    rw [hq] at hsl hbl hbs ⊢
    obtain ⟨qb, qm⟩ := q
    simp only at hsl hbl hbs ⊢
    have HQ := Lib.hid hq; have HBS := Lib.hid hbs; have HSL := Lib.hid hsl; have HX := Lib.hid X
    obtain ⟨a6, c6, e6, -, -, -⟩ := hsl.len
    obtain ⟨l6, hl6⟩ : ∃ l, (qb.map Ed.st).length = l := ⟨_, rfl⟩
    rw [hl6] at e6
    have hlb : l6 ≤ 200 := by rw [← hl6, List.length_map]; omega
    have HL6 := Lib.hid hl6
    subst e6
    clear hq hbs hsl hl6
    by_cases hlt : k < N
    · have TWk := Lib.hid (TW.out k qm hlt (by omega) wr X)
      have i1 : (0 : Int) ≤ (k : Int) := by omega
      clear X
      go_wp2_with fail
      refine TWk.out.mono ?_
      rintro e w5 ⟨v, rfl, S5, hv, x5⟩
      have X5 := Lib.hid (HX.out.trans x5)
      rcases hv with ⟨ht, rfl⟩ | ⟨a9, n9, c9, rfl, ht⟩
      · have hb9 : bestS rows (qb, qm) k = (qb, qm) := by unfold bestS; rw [if_pos ht]
        have HFI : Hid ((List.range (k + 1)).foldl (bestS rows) ([], N) = (qb, qm)) := Lib.hid (by rw [HBS.out, hb9])
        have HS5 := Lib.hid (HSL.out.ext x5)
        clear S5 ht hb9 x5
        go_wp2
        go_roundw
        case rel =>
          refine ⟨k + 1, by omega, by go_num, ?_, ?_, X5.out⟩
          · rw [HFI.out]; exact HS5.out
          · rw [HFI.out]
        case measure => simp [intOf]; omega
      · obtain ⟨t, ht2⟩ : ∃ t, thrR rows k qm = t := ⟨_, rfl⟩
        have hle := (thr_walk HRF.out (g := k) (most := qm)).2.1
        rw [ht2] at S5 ht hle
        have hn9 : n9 = t.length := by
          obtain ⟨_, _, e9, -⟩ := S5.len
          cases e9; rw [List.length_map]
        have hpos : 0 < t.length := by
          rcases Nat.eq_zero_or_pos t.length with h | h
          · exact absurd (List.eq_nil_of_length_eq_zero h) ht
          · exact h
        have HFI : Hid ((List.range (k + 1)).foldl (bestS rows) ([], N) = (t, n9 - 1)) := Lib.hid (by
          rw [HBS.out]
          unfold bestS
          simp only [ht2]
          rw [if_neg ht, hn9])
        have HS5 := Lib.hid S5
        obtain ⟨m9, rfl⟩ : ∃ m, n9 = m + 1 := ⟨n9 - 1, by omega⟩
        have hm9 : m9 ≤ 1000 := by omega
        clear S5 ht hle hn9 hpos ht2 x5
        go_wp2
        go_roundw
        case rel =>
          refine ⟨k + 1, by omega, by go_num, ?_, ?_, X5.out⟩
          · rw [HFI.out]; exact HS5.out
          · rw [HFI.out]
            first
              | (simp; done)
              | (refine congrArg (Value.int .i64) ?_; simp)
        case measure => simp [intOf]; omega
    · obtain rfl : k = N := by omega
      have RWk := Lib.hid (RW.out (qb.map Ed.st) (.slice a6 l6 c6) (by rw [List.length_map]; omega) wr X HSL.out)
      have hq1 : Hid ((shortR rows k).1 = qb) := Lib.hid (by rw [HSH.out, HQ.out])
      obtain ⟨r, hr⟩ : ∃ r, resR rows k (qb.map Ed.st) = r := ⟨_, rfl⟩
      rw [hr] at RWk
      have HRR := Lib.hid hr
      clear X hr
      go_wp2_with fail
      refine RWk.out.mono ?_
      rintro e w5 ⟨v5, rfl, S5, x5⟩
      have XX := (HX2.out.trans HX.out).trans x5
      have hq5 := block_ext XX HQ1.out
      have n2 := setRow_at hq5 (#[.int .i64 r.1.a, .int .i64 r.1.b, .int .i64 r.1.c, .int .i64 r.1.d, .int .i64 r.1.e, .int .i64 r.1.f] : Array Value)
      have HQ5 := Lib.hid hq5
      have XR := Lib.hid ((X0.trans XX).setRow (g := B0 + 1) (by have := HZ0.out; omega) (#[.int .i64 r.1.a, .int .i64 r.1.b, .int .i64 r.1.c, .int .i64 r.1.d, .int .i64 r.1.e, .int .i64 r.1.f] : Array Value))
      have e0 := block_cell n2 0 _ rfl; have e1 := block_cell n2 1 _ rfl; have e2 := block_cell n2 2 _ rfl; have e3 := block_cell n2 3 _ rfl; have e4 := block_cell n2 4 _ rfl; have e5 := block_cell n2 5 _ rfl
      obtain ⟨a5, c5, e9, -⟩ := S5.len
      rw [HL6.out] at e9
      subst e9
      clear S5 n2 hq5 XX x5
      go_wp2_with (first | (refine wpList_store_row rfl _ _ _ rfl (B0 + 1) _ rfl rfl _ _ HQ5.out (by kernel_rfl) rfl (by simp [Value.oneCell']) ?_) | fail)
      refine bodyPost_ret (v := .tuple #[.slice a5 l6 c5, .agg #[.int .i64 r.1.a, .int .i64 r.1.b, .int .i64 r.1.c, .int .i64 r.1.d, .int .i64 r.1.e, .int .i64 r.1.f], .int .i64 r.2]) (by simp [results, Tryz.results7, go_sem, e0, e1, e2, e3, e4, e5]) rfl ⟨.slice a5 l6 c5, rows, ?_, HRO.out, HSR.out, XR.out⟩
      rw [HN.out, hq1.out, HRR.out]
end Go.Proofs.YtgfaiihekibcbaaGreatDoor

/-
  Plain: the triads of the non-vacuity check (TopOneRoot).
-/
set_option maxRecDepth 100000
set_option linter.unusedVariables false
namespace Go.Proofs.YtgfaiihekibcbaaGreatDoor
open Go.RowKit Go.Sx Go.Sx.Sz Go.Sx.Sc Go.Sx.Po Go.Sx.Ch

def triS (w : V6) : Sc := ⟨3, [⟨0, 0, 10, V6.zero, false⟩, ⟨1, 0, 10, V6.zero, false⟩, ⟨2, 0, 10, V6.zero, false⟩], [⟨0, 1, ⟨-2, 0, 1, 0, 0, 0⟩, 0⟩, ⟨0, 2, w, 0⟩, ⟨1, 2, ⟨1, 1, -1, 0, 0, 0⟩, 0⟩], []⟩
def triU : V6 := ⟨3, -3, 1, 0, 0, 0⟩
def triV : V6 := ⟨-1, 1, 0, 0, 0, 0⟩
def triC : Cn := ⟨2, [⟨1, 0, 2⟩, ⟨0, 2, 2⟩], ⟨4, -4, 1, 0, 0, 0⟩⟩
theorem triU_ok : scB (triS triU) = true := by kernel_rfl
theorem triV_ok : scB (triS triV) = true := by kernel_rfl
theorem triU_brk : brkR (triS triU) [V6.zero] = ([triC], 0) := by kernel_rfl
theorem triV_brk : brkR (triS triV) [V6.zero] = ([], 0) := by kernel_rfl
theorem tri_rows {s : Sc} (hs : ScOk s) (h3 : s.notes.length = 3) (hst : ∀ n, n < 3 → (rowF (allE s) n).Pairwise fun a b => a.t < b.t) {rows : Nat → List Ed} (hr : RowsOf s rows) (hso : ∀ n, (rows n).Pairwise fun a b => a.t ≤ b.t) : rows = rowF (allE s) := by
  funext n
  by_cases hn : n < 3
  · exact row_one (hr n) (hso n) (hst n hn)
  · have h1 : rowF (allE s) n = [] := by
      unfold rowF
      rw [List.filter_eq_nil_iff]
      intro e he
      have := (allE_ok hs he).1
      rw [h3] at this
      simp; omega
    have := hr n
    rw [h1] at this
    rw [h1]; exact this.eq_nil
def srt3 (s : Sc) : Bool := (List.range 3).all fun n => decide ((rowF (allE s) n).Pairwise fun a b => a.t < b.t)
theorem srt3_ok {s : Sc} (h : srt3 s = true) : ∀ n, n < 3 → (rowF (allE s) n).Pairwise fun a b => a.t < b.t := fun n hn => by
  unfold srt3 at h
  rw [List.all_eq_true] at h
  exact of_decide_eq_true (h n (List.mem_range.2 hn))
theorem triU_srt : srt3 (triS triU) = true := by kernel_rfl
theorem triV_srt : srt3 (triS triV) = true := by kernel_rfl
theorem triU_res : resR (rowF (allE (triS triU))) 3 ((shortR (rowF (allE (triS triU))) 3).1.map Ed.st) = (⟨-4, 4, -1, 0, 0, 0⟩, 0) := by kernel_rfl
theorem triV_res : resR (rowF (allE (triS triV))) 3 ((shortR (rowF (allE (triS triV))) 3).1.map Ed.st) = (V6.zero, 4) := by kernel_rfl
end Go.Proofs.YtgfaiihekibcbaaGreatDoor
