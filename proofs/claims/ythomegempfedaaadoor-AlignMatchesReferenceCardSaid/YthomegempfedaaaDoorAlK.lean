/-
  Walks: align.Check as a whole; schismaref38.Matches, Tables.
-/
import Derived.Test.YthomegempfedaaaDoorAlJ
set_option linter.unusedVariables false
namespace Go.Proofs.YthomegempfedaaaDoor
open Go.RowKit Go.Sx Go.Sx.Sz Go.Sx.Al

set_option maxRecDepth 100000 in
set_option maxHeartbeats 1000000 in
theorem check_walk (vd vh vl vt : Value) (ds : List Due) (hs : List Hrd) (p : Prc) (l : List Mt) (t : List (List Int)) (hn1 : ds.length * 56 ≤ 140737488351232) (hn2 : hs.length * 24 ≤ 140737488351232) (w : World) (G : Gl 0 w)
    (Sd : Sl w 7 encD vd ds) (Sh : Sl w 3 encH vh hs) (Sm : Sl w 2 encM vl l) (T : Tab w vt t) :
    Calls Tryd.prog 20 #[vd, vh, .agg #[.int .i64 p.skip, .int .i64 p.off], vl, vt] w fun e w' => e = .returned (.tuple #[.bool (checkR ds hs p l t).1, .int .i64 (checkR ds hs p l t).2]) ∧ Ext w w' := by
  cases hok : alOk ds hs p with
  | true =>
    have h1 : checkR ds hs p l t = (checkB ds hs p l t, 0) := by rw [checkR, if_pos hok]
    rw [h1]
    exact check_yes vd vh vl vt ds hs p l t hn1 hn2 hok w G Sd Sh Sm T
  | false =>
    have h1 : checkR ds hs p l t = (false, 1) := by rw [checkR, hok]; rfl
    rw [h1]
    have HO := Lib.hid hok
    clear hok h1
    obtain ⟨ad, cd, rfl, -, -, -⟩ := Sd.len
    obtain ⟨ah, ch, rfl, -, -, -⟩ := Sh.len
    obtain ⟨aT, cT, rfl, -⟩ := T.len
    obtain ⟨am, cm, rfl, -, -, -⟩ := Sm.len
    go_enter Tryd.func20, Tryd.ntmps20
    go_wp2_with fail
    refine (alvalid_walk _ _ ds hs p hn1 hn2 _ (Sd.ext (by repeat (first | with_reducible exact Ext.refl _ | with_reducible assumption | with_reducible apply Ext.alloc | with_reducible apply Ext.drew | (with_reducible refine Ext.setCell ?_ (by (try simp) <;> omega) _)))) (Sh.ext (by repeat (first | with_reducible exact Ext.refl _ | with_reducible assumption | with_reducible apply Ext.alloc | with_reducible apply Ext.drew | (with_reducible refine Ext.setCell ?_ (by (try simp) <;> omega) _))))).mono ?_
    rw [HO.out]
    rintro e w1 ⟨rfl, x1⟩
    have b2 := ((Boxed.new ((w.alloc (.cells #[.int .i64 p.skip, .int .i64 p.off] 25)).alloc (.cells #[.slice aT t.length cT] 27)) 4 (.bool false)).alloc (.cells #[.int .i64 0] 30)).ext x1
    have b3 := (Boxed.new (((w.alloc (.cells #[.int .i64 p.skip, .int .i64 p.off] 25)).alloc (.cells #[.slice aT t.length cT] 27)).alloc (.cells #[.bool false] 4)) 30 (.int .i64 0)).ext x1
    simp only [World.size_alloc] at b2 b3
    have X1 : Ext w w1 := Ext.trans (by repeat (first | with_reducible exact Ext.refl _ | with_reducible assumption | with_reducible apply Ext.alloc | with_reducible apply Ext.drew | (with_reducible refine Ext.setCell ?_ (by (try simp) <;> omega) _))) x1
    have c2 := b2.cell; have c3 := b3.cell; have f2 := b2.frozen; have f3 := b3.frozen
    have l3 := b3.lt
    clear x1
    go_wp2
    refine bodyPost_ret (v := .tuple #[.bool false, .int .i64 1]) (by simp [results, Tryd.results20, go_sem, c2, c3]) rfl ⟨rfl, (X1.setCell (p := ⟨w.heap.size + 1 + 1, 0, none⟩) (by simp; omega) _).setCell (p := ⟨w.heap.size + 1 + 1 + 1, 0, none⟩) (by simp; omega) _⟩

set_option maxHeartbeats 1000000 in
theorem matches_walk (va vb : Value) (xs ys : List Mt) (w : World) (S : Sl w 2 encM va xs) (T : Sl w 2 encM vb ys) :
    Calls Tryd.prog 18 #[va, vb] w fun e w' => e = .returned (.bool (decide (xs = ys))) ∧ Ext w w' := by
  obtain ⟨a?, ca, rfl, -, -, h3⟩ := S.len
  obtain ⟨b?, cb, rfl, -, -, h4⟩ := T.len
  by_cases hl : xs.length = ys.length
  · have hl' : ((xs.length : Int) != ys.length) = false := by rw [bne_eq_false_iff_eq]; omega
    have HL := Lib.hid hl
    clear hl
    go_enter Tryd.func18, Tryd.ntmps18
    go_wp2
    go_loopw [5] (fun i wr => ∃ k : Nat, k ≤ xs.length ∧ i = .int .i64 k ∧ Hid (xs.take k = ys.take k) ∧ Ext w wr) (fun i _ => xs.length - (intOf i).toNat)
    case atStart => exact ⟨0, by omega, rfl, Lib.hid rfl, Ext.refl _⟩
    case round =>
      obtain ⟨k, hk, rfl, HT, hx⟩ := hrel
      clear hl'
      by_cases hlt : k < xs.length
      · have hlt2 : k < ys.length := by rw [← HL.out]; exact hlt
        obtain ⟨b0, o0, rfl, c0, c1⟩ := Sl.mt (S.ext hx) k hlt
        obtain ⟨b1, o1, rfl, d0, d1⟩ := Sl.mt (T.ext hx) k hlt2
        obtain ⟨x, hxx⟩ : ∃ x, xs[k] = x := ⟨_, rfl⟩
        obtain ⟨y, hyy⟩ : ∃ y, ys[k] = y := ⟨_, rfl⟩
        rw [hxx] at c0 c1; rw [hyy] at d0 d1
        have f0 := ext_cells c0; have f1 := ext_cells c1; have f2 := ext_cells d0; have f3 := ext_cells d1
        have t1 := Lib.hid (List.take_succ_eq_append_getElem hlt)
        have t2 := Lib.hid (List.take_succ_eq_append_getElem hlt2)
        have HX := Lib.hid hxx; have HY := Lib.hid hyy
        have i1 : (0 : Int) ≤ (k : Int) := by omega
        have i2 : (k : Int) < (xs.length : Int) := by omega
        have i3 : (k : Int) < (ys.length : Int) := by omega
        clear c0 c1 d0 d1 S T hxx hyy
        by_cases hxy : x = y
        · subst hxy
          go_wp2
          refine wp_region_ord [(0,true), (1,true), (2,true), (3,true), (4,true), (5,true), (6,true), (7,true), (8,true)] 9 Ext (Ext wr) wide (by kernel_rfl) (stable_ext _) (Ext.drawn _ _) ?_
          iterate 9 (apply wpOrd_det rfl rfl; (intro w' hw'; unfold opR; go_simp; exact ⟨Ext.refl _, rfl⟩); (simp only [List.getElem_toArray, List.getElem_cons_succ, List.getElem_cons_zero, Act.put, List.setIfInBounds_toArray, List.set_cons_succ, List.set_cons_zero]; rfl))
          refine wpOrd_nil (l := []) rfl ?_
          intro w4 hw4
          go_wp2
          go_roundw
          case rel => exact ⟨k + 1, by omega, by go_num, Lib.hid (by rw [t1.out, t2.out, HT.out, HX.out, HY.out]), hx.trans hw4⟩
          case measure => simp [intOf] <;> omega
        · have hne : ¬ (x.d = y.d ∧ x.h = y.h) := fun h => hxy (by cases x; cases y; simp only at h; rw [h.1, h.2])
          have HXY := Lib.hid hxy
          clear hxy
          have hdd : (x.d = y.d ∧ ¬ x.h = y.h) ∨ ¬ x.d = y.d := by
            by_cases h : x.d = y.d
            · exact .inl ⟨h, fun k => hne ⟨h, k⟩⟩
            · exact .inr h
          clear hne
          rcases hdd with ⟨hd1, hd2⟩ | hd1
          all_goals
            go_wp2
            refine wp_region_ord [(0,true), (1,true), (2,true), (3,true), (4,true), (5,true), (6,true), (7,true), (8,true)] 9 Ext (Ext wr) wide (by kernel_rfl) (stable_ext _) (Ext.drawn _ _) ?_
            iterate 9 (apply wpOrd_det rfl rfl; (intro w' hw'; unfold opR; go_simp; exact ⟨Ext.refl _, rfl⟩); (simp only [List.getElem_toArray, List.getElem_cons_succ, List.getElem_cons_zero, Act.put, List.setIfInBounds_toArray, List.set_cons_succ, List.set_cons_zero]; rfl))
            refine wpOrd_nil (l := []) rfl ?_
            intro w4 hw4
            go_wp2
            go_ret
            exact ⟨by rw [decide_eq_false (fun h => HXY.out (by rw [← HX.out, ← HY.out]; subst h; rfl))]; rfl, hx.trans hw4⟩
      · obtain rfl : k = xs.length := by omega
        clear S T
        go_wp2
        go_ret
        refine ⟨?_, hx⟩
        have h := HT.out
        rw [List.take_length, HL.out, List.take_length] at h
        rw [decide_eq_true h]; rfl
  · have hl' : ((xs.length : Int) != ys.length) = true := by rw [bne_iff_ne]; omega
    have HL := Lib.hid hl
    clear hl S T
    go_enter Tryd.func18, Tryd.ntmps18
    go_wp2
    go_ret
    exact ⟨by rw [decide_eq_false (fun h => HL.out (by rw [h]))]; rfl, Ext.refl _⟩

set_option maxHeartbeats 4000000 in
theorem tables_walk (va vb : Value) (xs ys : List (List Int)) (w : World) (S : Tab w va xs) (T : Tab w vb ys) :
    Calls Tryd.prog 19 #[va, vb] w fun e w' => e = .returned (.bool (decide (xs = ys))) ∧ Ext w w' := by
  obtain ⟨a?, ca, rfl, h3⟩ := S.len
  obtain ⟨b?, cb, rfl, h4⟩ := T.len
  by_cases hl : xs.length = ys.length
  · have hl' : ((xs.length : Int) != ys.length) = false := by rw [bne_eq_false_iff_eq]; omega
    have HL := Lib.hid hl
    clear hl
    go_enter Tryd.func19, Tryd.ntmps19
    go_wp2
    go_loopw [5] (fun i wr => ∃ k : Nat, k ≤ xs.length ∧ i = .int .i64 k ∧ Hid (xs.take k = ys.take k) ∧ Ext w wr) (fun i _ => xs.length - (intOf i).toNat)
    case atStart => exact ⟨0, by omega, rfl, Lib.hid rfl, Ext.refl _⟩
    case round =>
      obtain ⟨k, hk, rfl, HT, hx⟩ := hrel
      obtain ⟨wo, rfl⟩ : ∃ wo : World, wo = wr := ⟨_, rfl⟩
      clear hl'
      by_cases hlt : k < xs.length
      · have hlt2 : k < ys.length := by rw [← HL.out]; exact hlt
        obtain ⟨b0, o0, v0, rfl, c0, R0⟩ := Tab.at (S.ext hx) k hlt
        obtain ⟨b1, o1, v1, rfl, c1, R1⟩ := Tab.at (T.ext hx) k hlt2
        obtain ⟨x, hxx⟩ : ∃ x, xs[k] = x := ⟨_, rfl⟩
        obtain ⟨y, hyy⟩ : ∃ y, ys[k] = y := ⟨_, rfl⟩
        rw [hxx] at R0; rw [hyy] at R1
        obtain ⟨ra0, rc0, rfl, -, -, r3⟩ := R0.len
        obtain ⟨ra1, rc1, rfl, -, -, r4⟩ := R1.len
        have f0 := ext_cells c0; have f1 := ext_cells c1
        have t1 := Lib.hid (List.take_succ_eq_append_getElem hlt)
        have t2 := Lib.hid (List.take_succ_eq_append_getElem hlt2)
        have HX := Lib.hid hxx; have HY := Lib.hid hyy
        have i1 : (0 : Int) ≤ (k : Int) := by omega
        have i2 : (k : Int) < (xs.length : Int) := by omega
        have i3 : (k : Int) < (ys.length : Int) := by omega
        clear S T hxx hyy
        by_cases hxy : x.length = y.length
        · have hne : ((x.length : Int) != y.length) = false := by rw [bne_eq_false_iff_eq]; omega
          have HXY := Lib.hid hxy
          have C0 := Lib.hid c0; have C1 := Lib.hid c1
          clear hxy c0 c1
          go_wp2
          refine wp_region_ord [(0,true), (1,true), (2,true), (3,true), (4,true), (5,true), (6,true), (7,true), (8,true), (9,true), (10,true)] 11 Ext (Ext wo) wide (by kernel_rfl) (stable_ext _) (Ext.drawn _ _) ?_
          iterate 11 (apply wpOrd_det rfl rfl; (intro w' hw'; unfold opR; go_simp; exact ⟨Ext.refl _, rfl⟩); (simp only [List.getElem_toArray, List.getElem_cons_succ, List.getElem_cons_zero, Act.put, List.setIfInBounds_toArray, List.set_cons_succ, List.set_cons_zero]; rfl))
          refine wpOrd_nil (l := []) rfl ?_
          intro w4 hw4
          clear f0 f1
          go_wp2
          go_loopw [6] (fun i w5 => ∃ j : Nat, j ≤ x.length ∧ i = .int .i64 j ∧ Hid (x.take j = y.take j) ∧ Ext wo w5) (fun i _ => x.length - (intOf i).toNat)
          case atStart => exact ⟨0, by omega, rfl, Lib.hid rfl, hw4⟩
          case round =>
            obtain ⟨j, hj, rfl, HJ, hx5⟩ := hrel
            clear hne
            by_cases hlj : j < x.length
            · have hlj2 : j < y.length := by rw [← HXY.out]; exact hlj
              obtain ⟨b2, o2, rfl, d0⟩ := Sl.num (R0.ext hx5) j hlj
              obtain ⟨b3, o3, rfl, d1⟩ := Sl.num (R1.ext hx5) j hlj2
              obtain ⟨p, hp⟩ : ∃ p, x[j] = p := ⟨_, rfl⟩
              obtain ⟨q, hq⟩ : ∃ q, y[j] = q := ⟨_, rfl⟩
              rw [hp] at d0; rw [hq] at d1
              have e0 := hx5.cell C0.out
              have g0 := ext_cells e0; have g1 := ext_cells (hx5.cell C1.out); have g2 := ext_cells d0; have g3 := ext_cells d1
              have s1 := Lib.hid (List.take_succ_eq_append_getElem hlj)
              have s2 := Lib.hid (List.take_succ_eq_append_getElem hlj2)
              have HP := Lib.hid hp; have HQ := Lib.hid hq
              have j1 : (0 : Int) ≤ (j : Int) := by omega
              have j2 : (j : Int) < (x.length : Int) := by omega
              have j3 : (j : Int) < (y.length : Int) := by omega
              clear d0 d1 R0 R1 hp hq
              by_cases hpq : p = q
              · subst hpq
                have hpp : (p != p) = false := by simp
                go_wp2
                refine wp_region_ord [(0,true), (1,true), (2,true), (3,true), (4,true), (5,true), (6,true), (7,true), (8,true), (9,true), (10,true), (11,true), (12,true), (13,true), (14,true)] 15 Ext (Ext wr) wide (by kernel_rfl) (stable_ext _) (Ext.drawn _ _) ?_
                iterate 15 (apply wpOrd_det rfl rfl; (intro w' hw'; unfold opR; go_simp; exact ⟨Ext.refl _, rfl⟩); (simp only [List.getElem_toArray, List.getElem_cons_succ, List.getElem_cons_zero, Act.put, List.setIfInBounds_toArray, List.set_cons_succ, List.set_cons_zero]; rfl))
                refine wpOrd_nil (l := []) rfl ?_
                intro w6 hw6
                go_wp2
                go_roundw
                case rel => exact ⟨j + 1, by omega, by go_num, Lib.hid (by rw [s1.out, s2.out, HJ.out, HP.out, HQ.out]), hx5.trans hw6⟩
                case measure => simp [intOf] <;> omega
              · have hpp : (p != q) = true := by rw [bne_iff_ne]; exact hpq
                have HPQ := Lib.hid hpq
                clear hpq
                go_wp2
                refine wp_region_ord [(0,true), (1,true), (2,true), (3,true), (4,true), (5,true), (6,true), (7,true), (8,true), (9,true), (10,true), (11,true), (12,true), (13,true), (14,true)] 15 Ext (Ext wr) wide (by kernel_rfl) (stable_ext _) (Ext.drawn _ _) ?_
                iterate 15 (apply wpOrd_det rfl rfl; (intro w' hw'; unfold opR; go_simp; exact ⟨Ext.refl _, rfl⟩); (simp only [List.getElem_toArray, List.getElem_cons_succ, List.getElem_cons_zero, Act.put, List.setIfInBounds_toArray, List.set_cons_succ, List.set_cons_zero]; rfl))
                refine wpOrd_nil (l := []) rfl ?_
                intro w6 hw6
                go_wp2
                go_ret
                exact ⟨by rw [decide_eq_false (fun h => HPQ.out (by
                  rw [← HP.out, ← HQ.out]
                  have : x = y := by rw [← HX.out, ← HY.out]; subst h; rfl
                  subst this; rfl))]; rfl, hx.trans (hx5.trans hw6)⟩
            · obtain rfl : j = x.length := by omega
              have hrow : x = y := by
                have h := HJ.out
                rw [List.take_length, HXY.out, List.take_length] at h
                exact h
              have HROW := Lib.hid hrow
              have e0 := hx5.cell C0.out
              clear R0 R1 hrow
              go_wp2
              go_roundw
              case rel => exact ⟨k + 1, by omega, by go_num, Lib.hid (by rw [t1.out, t2.out, HT.out, HX.out, HY.out, HROW.out]), hx.trans hx5⟩
              case measure => simp [intOf] <;> omega
        · have hne : ((x.length : Int) != y.length) = true := by rw [bne_iff_ne]; omega
          have HXY := Lib.hid hxy
          clear hxy c0 c1
          go_wp2
          refine wp_region_ord [(0,true), (1,true), (2,true), (3,true), (4,true), (5,true), (6,true), (7,true), (8,true), (9,true), (10,true)] 11 Ext (Ext wo) wide (by kernel_rfl) (stable_ext _) (Ext.drawn _ _) ?_
          iterate 11 (apply wpOrd_det rfl rfl; (intro w' hw'; unfold opR; go_simp; exact ⟨Ext.refl _, rfl⟩); (simp only [List.getElem_toArray, List.getElem_cons_succ, List.getElem_cons_zero, Act.put, List.setIfInBounds_toArray, List.set_cons_succ, List.set_cons_zero]; rfl))
          refine wpOrd_nil (l := []) rfl ?_
          intro w4 hw4
          go_wp2
          go_ret
          exact ⟨by rw [decide_eq_false (fun h => HXY.out (by rw [← HX.out, ← HY.out]; subst h; rfl))]; rfl, hx.trans hw4⟩
      · obtain rfl : k = xs.length := by omega
        clear S T
        go_wp2
        go_ret
        refine ⟨?_, hx⟩
        have h := HT.out
        rw [List.take_length, HL.out, List.take_length] at h
        rw [decide_eq_true h]; rfl
  · have hl' : ((xs.length : Int) != ys.length) = true := by rw [bne_iff_ne]; omega
    have HL := Lib.hid hl
    clear hl S T
    go_enter Tryd.func19, Tryd.ntmps19
    go_wp2
    go_ret
    exact ⟨by rw [decide_eq_false (fun h => HL.out (by rw [h]))]; rfl, Ext.refl _⟩
end Go.Proofs.YthomegempfedaaaDoor
