/-
  Walk: align.Check.
-/
import Derived.Test.YthpfalbeieloaaaGreatDoorAlI
import Derived.Test.YthpfalbeieloaaaGreatDoorAlF
set_option maxRecDepth 100000
set_option linter.unusedVariables false
namespace Go.Proofs.YthpfalbeieloaaaGreatDoor
open Go.RowKit Go.Sx Go.Sx.Sz Go.Sx.Al
attribute [local go_sem] Oper.semAt_some wide_fn wide_depth

def tv (t : List (List Int)) (i j : Nat) : Int := (t.getD i []).getD j 0
/-- Whether the table bounds what the step k costs from the cell i, j. -/
def cellOk (ds : List Due) (hs : List Hrd) (p : Prc) (t : List (List Int)) (i j k : Nat) : Bool := !(decide (stOk ds hs i j k)) || decide (tv t i j ≤ stC ds hs p i j k + tv t (i + mD k) (j + mH k))
def cellsOk (ds : List Due) (hs : List Hrd) (p : Prc) (t : List (List Int)) (i j : Nat) : Nat → Bool
  | 0 => true
  | k + 1 => cellsOk ds hs p t i j k && cellOk ds hs p t i j k
def bndB (ds : List Due) (hs : List Hrd) (p : Prc) (t : List (List Int)) : Nat → Bool
  | 0 => true
  | K + 1 => bndB ds hs p t K && cellsOk ds hs p t (ds.length - K / (hs.length + 1)) (hs.length - K % (hs.length + 1)) 3
def headB (ds : List Due) (hs : List Hrd) (p : Prc) (l : List Mt) (t : List (List Int)) : Bool :=
  decide ((costR ds hs p l).2 = 0) && (shapeB t ds.length hs.length && (decide (tv t ds.length hs.length ≤ 0) && decide (tv t 0 0 = (costR ds hs p l).1)))
def checkB (ds : List Due) (hs : List Hrd) (p : Prc) (l : List Mt) (t : List (List Int)) : Bool := headB ds hs p l t && bndB ds hs p t ((ds.length + 1) * (hs.length + 1))
def checkR (ds : List Due) (hs : List Hrd) (p : Prc) (l : List Mt) (t : List (List Int)) : Bool × Int := if alOk ds hs p = true then (checkB ds hs p l t, 0) else (false, 1)
theorem bndB_le {ds : List Due} {hs : List Hrd} {p : Prc} {t : List (List Int)} {K : Nat} : ∀ {L : Nat}, K ≤ L → bndB ds hs p t L = true → bndB ds hs p t K = true
  | 0, h, _ => by obtain rfl : K = 0 := by omega
                  rfl
  | L + 1, h, hh => by
    by_cases e : K = L + 1
    · subst e; exact hh
    · rw [bndB, Bool.and_eq_true] at hh
      exact bndB_le (by omega) hh.1
theorem cellsOk_no {ds : List Due} {hs : List Hrd} {p : Prc} {t : List (List Int)} {i j k : Nat} (hk : k < 3) (h : cellOk ds hs p t i j k = false) : cellsOk ds hs p t i j 3 = false := by
  simp only [cellsOk]
  obtain rfl | rfl | rfl : k = 0 ∨ k = 1 ∨ k = 2 := by omega
  all_goals simp [h]
theorem shape_row {t : List (List Int)} {n m : Nat} (h : shapeB t n m = true) : t.length = n + 1 ∧ ∀ i, (hi : i < t.length) → t[i].length = m + 1 ∧ ∀ j, (hj : j < t[i].length) → -1000000000 ≤ t[i][j] ∧ t[i][j] ≤ 1000000000 := by
  unfold shapeB at h
  rw [Bool.and_eq_true, decide_eq_true_eq, List.all_eq_true] at h
  refine ⟨h.2, fun i hi => ?_⟩
  have h1 := h.1 _ (List.getElem_mem hi)
  unfold rowB at h1
  rw [Bool.and_eq_true, decide_eq_true_eq, Bool.not_eq_true', List.any_eq_false] at h1
  refine ⟨h1.1, fun j hj => ?_⟩
  have := h1.2 _ (List.getElem_mem hj)
  simp [inR] at this
  omega
theorem tv_at {t : List (List Int)} {n m : Nat} (h : shapeB t n m = true) {i j : Nat} (hi : i ≤ n) (hj : j ≤ m) : ∃ (h1 : i < t.length) (h2 : j < t[i].length), tv t i j = t[i][j] := by
  obtain ⟨a, b⟩ := shape_row h
  have h1 : i < t.length := by omega
  have h2 : j < t[i].length := by have := (b i h1).1; omega
  refine ⟨h1, h2, ?_⟩
  unfold tv
  rw [List.getD_eq_getElem?_getD, List.getD_eq_getElem?_getD, List.getElem?_eq_getElem h1]
  simp only [Option.getD_some]
  rw [List.getElem?_eq_getElem h2]; rfl
theorem tv_bd {t : List (List Int)} {n m : Nat} (h : shapeB t n m = true) {i j : Nat} (hi : i ≤ n) (hj : j ≤ m) : -1000000000 ≤ tv t i j ∧ tv t i j ≤ 1000000000 := by
  obtain ⟨h1, h2, e⟩ := tv_at h hi hj
  rw [e]
  exact ((shape_row h).2 i h1).2 j h2
theorem Tab.read {w : World} {a? : Option Addr} {N cap : Nat} {t : List (List Int)} {n m : Nat} (T : Tab w (.slice a? N cap) t) (h : shapeB t n m = true) {i j : Nat} (hi : i ≤ n) (hj : j ≤ m) :
    ∃ b o rb ro c, a? = some ⟨b, o, none⟩ ∧ w.cell? ⟨b, o + i, none⟩ = some (.slice (some ⟨rb, ro, none⟩) (m + 1) c) ∧ w.cell? ⟨rb, ro + j, none⟩ = some (.int .i64 (tv t i j)) := by
  obtain ⟨h1, h2, e⟩ := tv_at h hi hj
  obtain ⟨b, o, v, ha, hc, S⟩ := T.at i h1
  obtain ⟨ar, cr, rfl, -, -, -⟩ := S.len
  obtain ⟨rb, ro, hr, hx⟩ := Sl.num S j h2
  subst hr
  refine ⟨b, o, rb, ro, cr, ha, ?_, by rw [e]; exact hx⟩
  rw [hc, ((shape_row h).2 i h1).1]

theorem bodyPostM_ret0 {P : Program} {fn : Func} {R : Ending → World → Prop} {a : Act} {W : World} {v : Value} (hd : a.defers = []) (hr : (results fn a.tmps).run P W = .ok v W) (hR : R (.returned v) W) : bodyPostM Fence.wide 0 P fn R .ret a W := by
  show LeavesInM Fence.wide 0 P fn a.tmps R a.defers .returning W
  rw [hd]
  exact ⟨_, hr, hR⟩
theorem check_results {tmps : Array Value} {W : World} {A2 A3 : Nat} {r : Bool} (h2 : tmps.getD 10 undef = .pointer (some ⟨A2, 0, none⟩)) (h3 : tmps.getD 11 undef = .pointer (some ⟨A3, 0, none⟩)) (c2 : W.cell? ⟨A2, 0, none⟩ = some (.bool r)) (c3 : W.cell? ⟨A3, 0, none⟩ = some (.int .i64 0)) :
    (results Tryz.f11 tmps).run Tryz.prog W = .ok (.tuple #[.bool r, .int .i64 0]) W := by
  rw [Array.getD_eq_getD_getElem?] at h2 h3
  simp [results, Tryz.results11, go_sem, h2, h3, c2, c3]

set_option maxRecDepth 100000 in
set_option maxHeartbeats 10000000 in
theorem check_yes (vd vh vl vt : Value) (ds : List Due) (hs : List Hrd) (p : Prc) (l : List Mt) (t : List (List Int)) (hn1 : ds.length * 56 ≤ 140737488351232) (hn2 : hs.length * 24 ≤ 140737488351232) (hok : alOk ds hs p = true) (w : World) (G : Gl 1 w)
    (Sd : Sl w 7 encD vd ds) (Sh : Sl w 3 encH vh hs) (Sm : Sl w 2 encM vl l) (T : Tab w vt t) :
    Calls Tryz.prog 11 #[vd, vh, .agg #[.int .i64 p.skip, .int .i64 p.off], vl, vt] w fun e w' => e = .returned (.tuple #[.bool (checkB ds hs p l t), .int .i64 0]) ∧ Ext w w' := by
  obtain ⟨ad, cd, rfl, -, -, -⟩ := Sd.len
  obtain ⟨ah, ch, rfl, -, -, -⟩ := Sh.len
  obtain ⟨am, cm, rfl, -, -, -⟩ := Sm.len
  obtain ⟨aT, cT, rfl, -⟩ := T.len
  have HV := Lib.hid (alOk_iff.1 hok)
  obtain ⟨n, hn⟩ : ∃ n, ds.length = n := ⟨_, rfl⟩
  obtain ⟨m, hm⟩ : ∃ m, hs.length = m := ⟨_, rfl⟩
  have hn100 : n ≤ 100 := by rw [← hn]; exact HV.out.dn
  have hm100 : m ≤ 100 := by rw [← hm]; exact HV.out.hn
  have HVW := Lib.hid (fun w Sd Sh => alvalid_walk (.slice ad ds.length cd) (.slice ah hs.length ch) ds hs p hn1 hn2 w Sd Sh)
  have HMW := Lib.hid (fun w G Sd Sh => moves_walk (.slice ad ds.length cd) (.slice ah hs.length ch) ds hs p HV.out w G Sd Sh)
  have HCW := Lib.hid (fun w G Sd Sh Sm => cost_walk (.slice ad ds.length cd) (.slice ah hs.length ch) (.slice am l.length cm) ds hs p l hn1 hn2 w G Sd Sh Sm)
  rw [hok] at HVW
  simp only [hn, hm] at HVW HMW HCW Sd Sh ⊢
  have HN := Lib.hid hn; have HM := Lib.hid hm
  obtain ⟨cst, hcst⟩ : ∃ c, costR ds hs p l = c := ⟨_, rfl⟩
  rw [hcst] at HCW
  have HCST := Lib.hid hcst
  clear hok hn hm hn1 hn2 hcst
  refine (callsIn_wide (n := 0)).1 ?_
  refine callsIn_of_wp_marks Tryz.func11 rfl trivial ?_ rfl
  simp only [Tryz.ntmps11, List.size_toArray, List.length_cons, List.length_nil, Nat.reduceAdd, Nat.reduceSub, Array.replicate_succ, Array.replicate_zero, List.push_toArray, List.append_toArray, List.nil_append, List.cons_append]
  refine wpIn_wide.2 ?_
  go_wp2_with fail
  refine (HVW.out _ (Sd.ext (by repeat (first | with_reducible exact Ext.refl _ | with_reducible assumption | with_reducible apply Ext.alloc | with_reducible apply Ext.drew | (with_reducible refine Ext.setCell ?_ (by (try simp) <;> omega) _)))) (Sh.ext (by repeat (first | with_reducible exact Ext.refl _ | with_reducible assumption | with_reducible apply Ext.alloc | with_reducible apply Ext.drew | (with_reducible refine Ext.setCell ?_ (by (try simp) <;> omega) _))))).mono ?_
  rintro e w1 ⟨rfl, x1⟩
  have b0 := block_ext x1 (block_alloc (block_alloc (block_alloc (block_new w (.cells #[.int .i64 p.skip, .int .i64 p.off] 30)) (.cells #[.slice aT t.length cT] 55)) (.cells #[.bool false] 4)) (.cells #[.int .i64 0] 33))
  have b1 := ((((Boxed.new (w.alloc (.cells #[.int .i64 p.skip, .int .i64 p.off] 30)) 55 (.slice aT t.length cT)).alloc (.cells #[.bool false] 4)).alloc (.cells #[.int .i64 0] 33))).ext x1
  have b2 := ((Boxed.new ((w.alloc (.cells #[.int .i64 p.skip, .int .i64 p.off] 30)).alloc (.cells #[.slice aT t.length cT] 55)) 4 (.bool false)).alloc (.cells #[.int .i64 0] 33)).ext x1
  have b3 := (Boxed.new (((w.alloc (.cells #[.int .i64 p.skip, .int .i64 p.off] 30)).alloc (.cells #[.slice aT t.length cT] 55)).alloc (.cells #[.bool false] 4)) 33 (.int .i64 0)).ext x1
  simp only [World.size_alloc] at b1 b2 b3
  have X1 : Ext w w1 := Ext.trans (by repeat (first | with_reducible exact Ext.refl _ | with_reducible assumption | with_reducible apply Ext.alloc | with_reducible apply Ext.drew | (with_reducible refine Ext.setCell ?_ (by (try simp) <;> omega) _))) x1
  have c0 := block_cell b0 0 (.int .i64 p.skip) rfl
  have c1 := block_cell b0 1 (.int .i64 p.off) rfl
  have l3 := b3.lt
  have HB0 := Lib.hid b0; have HB1 := Lib.hid b1; have HB2 := Lib.hid b2; have HB3 := Lib.hid b3
  clear x1 b0 b1 b2 b3
  go_wp2_with fail
  refine (HMW.out _ ((G.ext X1).ext (by repeat (first | with_reducible exact Ext.refl _ | with_reducible assumption | with_reducible apply Ext.alloc | with_reducible apply Ext.drew | (with_reducible refine Ext.setCell ?_ (by (try simp) <;> omega) _)))) ((Sd.ext X1).ext (by repeat (first | with_reducible exact Ext.refl _ | with_reducible assumption | with_reducible apply Ext.alloc | with_reducible apply Ext.drew | (with_reducible refine Ext.setCell ?_ (by (try simp) <;> omega) _)))) ((Sh.ext X1).ext (by repeat (first | with_reducible exact Ext.refl _ | with_reducible assumption | with_reducible apply Ext.alloc | with_reducible apply Ext.drew | (with_reducible refine Ext.setCell ?_ (by (try simp) <;> omega) _))))).mono ?_
  rintro e w2 ⟨vs, pd, ph, ps, pq, pp, rfl, SM, PC, SK, x2⟩
  have x12 : Ext w1 w2 := Ext.trans (by repeat (first | with_reducible exact Ext.refl _ | with_reducible assumption | with_reducible apply Ext.alloc | with_reducible apply Ext.drew | (with_reducible refine Ext.setCell ?_ (by (try simp) <;> omega) _))) x2
  have X2 : Ext w w2 := X1.trans x12
  obtain ⟨aS, cS, e3, -, -, -⟩ := SM.len
  simp only [List.length_cons, List.length_nil, Nat.reduceAdd] at e3
  subst e3
  have SMr : Sl w2 3 encMv (.slice aS 3 cS) ((List.range 3).map (mv3 (prV pd ph ps pq) (skV pp))) := SM
  have d0 := block_ext x12 HB0.out
  have D1 := Lib.hid (HB1.out.ext x12); have D2 := Lib.hid (HB2.out.ext x12); have D3 := Lib.hid (HB3.out.ext x12)
  have c0 := block_cell d0 0 (.int .i64 p.skip) rfl
  have c1 := block_cell d0 1 (.int .i64 p.off) rfl
  have l3 := D3.out.lt
  have l0 : ¬ w.heap.size = w2.heap.size := by omega
  have l0a : ¬ w.heap.size = w2.heap.size + 1 := by omega
  have l0b : ¬ w.heap.size = w2.heap.size + 1 + 1 := by omega
  have l0c : w.heap.size < w2.heap.size := by omega
  have l0d : w.heap.size < w2.heap.size + 1 := by omega
  have l0e : w.heap.size < w2.heap.size + 1 + 1 := by omega
  clear x2 x12 X1 HVW HMW HB0 HB1 HB2 HB3 d0 SM
  go_wp2_with fail
  refine (HCW.out _ ((G.ext X2).ext (by repeat (first | with_reducible exact Ext.refl _ | with_reducible assumption | with_reducible apply Ext.alloc | with_reducible apply Ext.drew | (with_reducible refine Ext.setCell ?_ (by (try simp) <;> omega) _)))) ((Sd.ext X2).ext (by repeat (first | with_reducible exact Ext.refl _ | with_reducible assumption | with_reducible apply Ext.alloc | with_reducible apply Ext.drew | (with_reducible refine Ext.setCell ?_ (by (try simp) <;> omega) _)))) ((Sh.ext X2).ext (by repeat (first | with_reducible exact Ext.refl _ | with_reducible assumption | with_reducible apply Ext.alloc | with_reducible apply Ext.drew | (with_reducible refine Ext.setCell ?_ (by (try simp) <;> omega) _)))) ((Sm.ext X2).ext (by repeat (first | with_reducible exact Ext.refl _ | with_reducible assumption | with_reducible apply Ext.alloc | with_reducible apply Ext.drew | (with_reducible refine Ext.setCell ?_ (by (try simp) <;> omega) _))))).mono ?_
  rintro e w3 ⟨rfl, x3⟩
  have f0 := ((((Boxed.new w2 3 (.int .i64 n)).alloc (.cells #[.int .i64 m] 3)).alloc (.cells #[.slice aS 3 cS] 90))).ext x3
  have f1 := ((Boxed.new (w2.alloc (.cells #[.int .i64 n] 3)) 3 (.int .i64 m)).alloc (.cells #[.slice aS 3 cS] 90)).ext x3
  have f2 := (Boxed.new ((w2.alloc (.cells #[.int .i64 n] 3)).alloc (.cells #[.int .i64 m] 3)) 90 (.slice aS 3 cS)).ext x3
  simp only [World.size_alloc] at f1 f2
  have x23 : Ext w2 w3 := Ext.trans (by repeat (first | with_reducible exact Ext.refl _ | with_reducible assumption | with_reducible apply Ext.alloc | with_reducible apply Ext.drew | (with_reducible refine Ext.setCell ?_ (by (try simp) <;> omega) _))) x3
  have X3 : Ext w w3 := X2.trans x23
  obtain ⟨A, hA⟩ : ∃ A, w.heap.size = A := ⟨_, rfl⟩
  obtain ⟨A1, hA1⟩ : ∃ x, A + 1 = x := ⟨_, rfl⟩
  obtain ⟨A2, hA2⟩ : ∃ x, A1 + 1 = x := ⟨_, rfl⟩
  obtain ⟨A3, hA3⟩ : ∃ x, A2 + 1 = x := ⟨_, rfl⟩
  obtain ⟨H, hH⟩ : ∃ A, w2.heap.size = A := ⟨_, rfl⟩
  obtain ⟨H1, hH1⟩ : ∃ x, H + 1 = x := ⟨_, rfl⟩
  obtain ⟨H2, hH2⟩ : ∃ x, H1 + 1 = x := ⟨_, rfl⟩
  have g1 := D1.out.ext x23; have g2 := D2.out.ext x23; have g3 := D3.out.ext x23
  rw [hA, hA1] at g1
  rw [hA, hA1, hA2] at g2
  rw [hA, hA1, hA2, hA3] at g3
  rw [hH] at f0
  rw [hH, hH1] at f1
  rw [hH, hH1, hH2] at f2
  rw [hA, hA1, hA2, hA3, hH, hH1, hH2]
  have T3 := T.ext X3
  have HA := Lib.hid hA; have HA1 := Lib.hid hA1; have HA2 := Lib.hid hA2; have HA3 := Lib.hid hA3; have HH := Lib.hid hH; have HH1 := Lib.hid hH1; have HH2 := Lib.hid hH2
  clear D1 D2 D3 c0 c1 l0 l0a l0b l0c l0d l0e l3 x3 hA hA1 hA2 hA3 hH hH1 hH2 HCW
  go_wp2
  have S2 : Hid (∀ W, Ext w3 W → Boxed ((W.setCell ⟨A2, 0, none⟩ (.bool false)).setCell ⟨A3, 0, none⟩ (.int .i64 0)) A2 4 (.bool false) ∧ Boxed ((W.setCell ⟨A2, 0, none⟩ (.bool false)).setCell ⟨A3, 0, none⟩ (.int .i64 0)) A3 33 (.int .i64 0) ∧ Ext w ((W.setCell ⟨A2, 0, none⟩ (.bool false)).setCell ⟨A3, 0, none⟩ (.int .i64 0))) := Lib.hid fun W x => by
    have h1 := HA1.out; have h2 := HA2.out; have h3 := HA3.out; have h0 := HA.out
    exact ⟨((g2.ext x).set (.bool false)).set' (by simp; omega) _, ((g3.ext x).set' (p := ⟨A2, 0, none⟩) (by simp; omega) _).set (.int .i64 0), (((X3.trans x).setCell (p := ⟨A2, 0, none⟩) (by simp; omega) _).setCell (p := ⟨A3, 0, none⟩) (by simp; omega) _)⟩
  have F2 : ∀ W, Ext w3 W → W.cell? ⟨A2, 0, none⟩ = some (.bool false) ∧ W.frozen? ⟨A2, 0, none⟩ = false ∧ W.cell? ⟨A3, 0, none⟩ = some (.int .i64 0) ∧ W.frozen? ⟨A3, 0, none⟩ = false := fun W x => ⟨(g2.ext x).cell, (g2.ext x).frozen, (g3.ext x).cell, (g3.ext x).frozen⟩
  have HF2 := Lib.hid F2
  have HEQ : Hid (checkB ds hs p l t = (headB ds hs p l t && bndB ds hs p t ((n + 1) * (m + 1)))) := Lib.hid (by rw [checkB, HN.out, HM.out])
  have HHB : Hid (headB ds hs p l t = (decide (cst.2 = 0) && (shapeB t n m && (decide (tv t n m ≤ 0) && decide (tv t 0 0 = cst.1))))) := Lib.hid (by rw [headB, HCST.out, HN.out, HM.out])
  have n23 : ¬ A3 = A2 := by have := HA3.out; omega
  have n32 : ¬ A2 = A3 := by have := HA3.out; omega
  clear F2
  by_cases hce : cst.2 = 0
  · have hb : (cst.2 != 0) = false := by rw [bne_eq_false_iff_eq]; exact hce
    have HCE := Lib.hid hce
    clear hce
    have y1 := ext_cells g1.cell; have y2 := ext_cells f0.cell; have y3 := ext_cells f1.cell
    cases hsh : shapeB t n m with
    | false =>
      have HSH := Lib.hid hsh
      clear hsh
      refine wp_region_ord [(0,true), (1,true), (2,true), (3,true), (4,true), (5,true), (6,true), (7,true), (8,true), (9,true), (10,true), (11,true), (12,true), (13,true), (14,true), (15,true), (16,true), (17,true), (18,true), (19,true), (20,true), (21,true), (22,true), (23,true), (24,true), (25,true), (26,true), (27,true)] 28 Ext (Ext w3) wide (by kernel_rfl) (stable_ext _) (Ext.drawn _ _) ?_
      iterate 3 (apply wpOrd_det rfl rfl; (intro w' hw'; unfold opR; go_simp; exact ⟨Ext.refl _, rfl⟩); (simp only [List.getElem_toArray, List.getElem_cons_succ, List.getElem_cons_zero, Act.put, List.setIfInBounds_toArray, List.set_cons_succ, List.set_cons_zero]; rfl))
      iterate 3 (apply wpOrd_yes rfl (by rfl); (intro w' hw'; unfold opR; go_simp; exact ⟨Ext.refl _, rfl⟩); (simp only [List.getElem_toArray, List.getElem_cons_succ, List.getElem_cons_zero, Act.put, List.setIfInBounds_toArray, List.set_cons_succ, List.set_cons_zero]; rfl))
      (apply wpOrd_yes rfl (by rfl); (intro w' hw'; refine opR_call rfl (Go.Proofs.enters_of Tryz.func27 (by kernel_rfl) rfl) (by simp only [List.map_toArray, List.map_cons, List.map_nil, Act.eval, Array.getD_eq_getD_getElem?, List.getElem?_toArray, List.getElem?_cons_succ, List.getElem?_cons_zero, Option.getD_some]; rfl) ?_; refine (shaped_walk _ t n m hn100 hm100 w' (T3.ext hw')).mono ?_; rw [HSH.out]; rintro e w4 ⟨rfl, hx⟩; exact ⟨_, rfl, hx, rfl⟩); (simp only [List.getElem_toArray, List.getElem_cons_succ, List.getElem_cons_zero, Act.put, List.setIfInBounds_toArray, List.set_cons_succ, List.set_cons_zero]; rfl))
      (apply wpOrd_yes rfl (by rfl); (intro w' hw'; unfold opR; go_simp; exact ⟨Ext.refl _, rfl⟩); (simp only [List.getElem_toArray, List.getElem_cons_succ, List.getElem_cons_zero, Act.put, List.setIfInBounds_toArray, List.set_cons_succ, List.set_cons_zero]; rfl))
      iterate 2 (apply wpOrd_det rfl rfl; (intro w' hw'; unfold opR; go_simp; exact ⟨Ext.refl _, rfl⟩); (simp only [List.getElem_toArray, List.getElem_cons_succ, List.getElem_cons_zero, Act.put, List.setIfInBounds_toArray, List.set_cons_succ, List.set_cons_zero]; rfl))
      iterate 8 (apply wpOrd_no rfl (by rfl); (simp only [List.getElem_toArray, List.getElem_cons_succ, List.getElem_cons_zero, Act.put, List.setIfInBounds_toArray, List.set_cons_succ, List.set_cons_zero]; rfl))
      iterate 2 (apply wpOrd_det rfl rfl; (intro w' hw'; unfold opR; go_simp; exact ⟨Ext.refl _, rfl⟩); (simp only [List.getElem_toArray, List.getElem_cons_succ, List.getElem_cons_zero, Act.put, List.setIfInBounds_toArray, List.set_cons_succ, List.set_cons_zero]; rfl))
      iterate 7 (apply wpOrd_no rfl (by rfl); (simp only [List.getElem_toArray, List.getElem_cons_succ, List.getElem_cons_zero, Act.put, List.setIfInBounds_toArray, List.set_cons_succ, List.set_cons_zero]; rfl))
      (apply wpOrd_det rfl rfl; (intro w' hw'; unfold opR; go_simp; exact ⟨Ext.refl _, rfl⟩); (simp only [List.getElem_toArray, List.getElem_cons_succ, List.getElem_cons_zero, Act.put, List.setIfInBounds_toArray, List.set_cons_succ, List.set_cons_zero]; rfl))
      refine wpOrd_nil rfl ?_
      intro W9 hW9
      obtain ⟨q1, q2, q3, q4⟩ := HF2.out W9 hW9
      go_wp2
      obtain ⟨s1, s2, s3⟩ := S2.out W9 hW9
      refine bodyPostM_ret0 rfl (check_results rfl rfl s1.cell s2.cell) ⟨?_, s3⟩
      rw [HEQ.out, HHB.out, HSH.out] <;> first | rfl | simp
    | true =>
      have HSH := Lib.hid hsh
      obtain ⟨b, o, rb, ro, rc, rfl, r1, r2⟩ := Tab.read T3 hsh (Nat.le_refl n) (Nat.le_refl m)
      obtain ⟨b', o', rb', ro', rc', e', r3, r4⟩ := Tab.read T3 hsh (Nat.zero_le n) (Nat.zero_le m)
      obtain ⟨rfl, rfl⟩ : b = b' ∧ o = o' := by cases e'; exact ⟨rfl, rfl⟩
      have ht := (shape_row hsh).1
      obtain ⟨tl, htl⟩ : ∃ x, tv t n m = x := ⟨_, rfl⟩
      obtain ⟨t0, ht0⟩ : ∃ x, tv t 0 0 = x := ⟨_, rfl⟩
      rw [htl] at r2 HHB; rw [ht0] at r4 HHB
      have i1 : (0 : Int) ≤ (n : Int) := by omega
      have i2 : (n : Int) < (t.length : Int) := by omega
      have i3 : (0 : Int) ≤ (m : Int) := by omega
      have i4 : (m : Int) < (m : Int) + 1 := by omega
      have i5 : 0 < t.length := by omega
      have i6 : (0 : Int) < (m : Int) + 1 := by omega
      rw [Nat.add_zero] at r3 r4
      have z1 := ext_cells r1; have z2 := ext_cells r2; have z3 := ext_cells r3; have z4 := ext_cells r4
      have HT := Lib.hid ht
      clear hsh e' htl ht0 r1 r2 r3 r4 ht
      by_cases hl : 0 < tl
      · refine wp_region_ord [(0,true), (1,true), (2,true), (3,true), (4,true), (5,true), (6,true), (7,true), (8,true), (9,true), (10,true), (11,true), (12,true), (13,true), (14,true), (15,true), (16,true), (17,true), (18,true), (19,true), (20,true), (21,true), (22,true), (23,true), (24,true), (25,true), (26,true), (27,true)] 28 Ext (Ext w3) wide (by kernel_rfl) (stable_ext _) (Ext.drawn _ _) ?_
        iterate 3 (apply wpOrd_det rfl rfl; (intro w' hw'; unfold opR; go_simp; exact ⟨Ext.refl _, rfl⟩); (simp only [List.getElem_toArray, List.getElem_cons_succ, List.getElem_cons_zero, Act.put, List.setIfInBounds_toArray, List.set_cons_succ, List.set_cons_zero]; rfl))
        iterate 3 (apply wpOrd_yes rfl (by rfl); (intro w' hw'; unfold opR; go_simp; exact ⟨Ext.refl _, rfl⟩); (simp only [List.getElem_toArray, List.getElem_cons_succ, List.getElem_cons_zero, Act.put, List.setIfInBounds_toArray, List.set_cons_succ, List.set_cons_zero]; rfl))
        (apply wpOrd_yes rfl (by rfl); (intro w' hw'; refine opR_call rfl (Go.Proofs.enters_of Tryz.func27 (by kernel_rfl) rfl) (by simp only [List.map_toArray, List.map_cons, List.map_nil, Act.eval, Array.getD_eq_getD_getElem?, List.getElem?_toArray, List.getElem?_cons_succ, List.getElem?_cons_zero, Option.getD_some]; rfl) ?_; refine (shaped_walk _ t n m hn100 hm100 w' (T3.ext hw')).mono ?_; rw [HSH.out]; rintro e w4 ⟨rfl, hx⟩; exact ⟨_, rfl, hx, rfl⟩); (simp only [List.getElem_toArray, List.getElem_cons_succ, List.getElem_cons_zero, Act.put, List.setIfInBounds_toArray, List.set_cons_succ, List.set_cons_zero]; rfl))
        (apply wpOrd_yes rfl (by rfl); (intro w' hw'; unfold opR; go_simp; exact ⟨Ext.refl _, rfl⟩); (simp only [List.getElem_toArray, List.getElem_cons_succ, List.getElem_cons_zero, Act.put, List.setIfInBounds_toArray, List.set_cons_succ, List.set_cons_zero]; rfl))
        iterate 2 (apply wpOrd_det rfl rfl; (intro w' hw'; unfold opR; go_simp; exact ⟨Ext.refl _, rfl⟩); (simp only [List.getElem_toArray, List.getElem_cons_succ, List.getElem_cons_zero, Act.put, List.setIfInBounds_toArray, List.set_cons_succ, List.set_cons_zero]; rfl))
        iterate 8 (apply wpOrd_yes rfl (by rfl); (intro w' hw'; unfold opR; go_simp; exact ⟨Ext.refl _, rfl⟩); (simp only [List.getElem_toArray, List.getElem_cons_succ, List.getElem_cons_zero, Act.put, List.setIfInBounds_toArray, List.set_cons_succ, List.set_cons_zero]; rfl))
        iterate 2 (apply wpOrd_det rfl rfl; (intro w' hw'; unfold opR; go_simp; exact ⟨Ext.refl _, rfl⟩); (simp only [List.getElem_toArray, List.getElem_cons_succ, List.getElem_cons_zero, Act.put, List.setIfInBounds_toArray, List.set_cons_succ, List.set_cons_zero]; rfl))
        iterate 7 (apply wpOrd_no rfl (by rfl); (simp only [List.getElem_toArray, List.getElem_cons_succ, List.getElem_cons_zero, Act.put, List.setIfInBounds_toArray, List.set_cons_succ, List.set_cons_zero]; rfl))
        (apply wpOrd_det rfl rfl; (intro w' hw'; unfold opR; go_simp; exact ⟨Ext.refl _, rfl⟩); (simp only [List.getElem_toArray, List.getElem_cons_succ, List.getElem_cons_zero, Act.put, List.setIfInBounds_toArray, List.set_cons_succ, List.set_cons_zero]; rfl))
        refine wpOrd_nil rfl ?_
        intro W9 hW9
        obtain ⟨q1, q2, q3, q4⟩ := HF2.out W9 hW9
        go_wp2
        obtain ⟨s1, s2, s3⟩ := S2.out W9 hW9
        refine bodyPostM_ret0 rfl (check_results rfl rfl s1.cell s2.cell) ⟨?_, s3⟩
        rw [HEQ.out, HHB.out, decide_eq_false (by omega : ¬ tl ≤ 0), HSH.out] <;> first | rfl | simp
      · by_cases h0 : t0 = cst.1
        · have hb0 : (t0 != cst.1) = false := by rw [bne_eq_false_iff_eq]; exact h0
          have H0 := Lib.hid h0
          clear h0
          refine wp_region_ord [(0,true), (1,true), (2,true), (3,true), (4,true), (5,true), (6,true), (7,true), (8,true), (9,true), (10,true), (11,true), (12,true), (13,true), (14,true), (15,true), (16,true), (17,true), (18,true), (19,true), (20,true), (21,true), (22,true), (23,true), (24,true), (25,true), (26,true), (27,true)] 28 Ext (Ext w3) wide (by kernel_rfl) (stable_ext _) (Ext.drawn _ _) ?_
          iterate 3 (apply wpOrd_det rfl rfl; (intro w' hw'; unfold opR; go_simp; exact ⟨Ext.refl _, rfl⟩); (simp only [List.getElem_toArray, List.getElem_cons_succ, List.getElem_cons_zero, Act.put, List.setIfInBounds_toArray, List.set_cons_succ, List.set_cons_zero]; rfl))
          iterate 3 (apply wpOrd_yes rfl (by rfl); (intro w' hw'; unfold opR; go_simp; exact ⟨Ext.refl _, rfl⟩); (simp only [List.getElem_toArray, List.getElem_cons_succ, List.getElem_cons_zero, Act.put, List.setIfInBounds_toArray, List.set_cons_succ, List.set_cons_zero]; rfl))
          (apply wpOrd_yes rfl (by rfl); (intro w' hw'; refine opR_call rfl (Go.Proofs.enters_of Tryz.func27 (by kernel_rfl) rfl) (by simp only [List.map_toArray, List.map_cons, List.map_nil, Act.eval, Array.getD_eq_getD_getElem?, List.getElem?_toArray, List.getElem?_cons_succ, List.getElem?_cons_zero, Option.getD_some]; rfl) ?_; refine (shaped_walk _ t n m hn100 hm100 w' (T3.ext hw')).mono ?_; rw [HSH.out]; rintro e w4 ⟨rfl, hx⟩; exact ⟨_, rfl, hx, rfl⟩); (simp only [List.getElem_toArray, List.getElem_cons_succ, List.getElem_cons_zero, Act.put, List.setIfInBounds_toArray, List.set_cons_succ, List.set_cons_zero]; rfl))
          (apply wpOrd_yes rfl (by rfl); (intro w' hw'; unfold opR; go_simp; exact ⟨Ext.refl _, rfl⟩); (simp only [List.getElem_toArray, List.getElem_cons_succ, List.getElem_cons_zero, Act.put, List.setIfInBounds_toArray, List.set_cons_succ, List.set_cons_zero]; rfl))
          iterate 2 (apply wpOrd_det rfl rfl; (intro w' hw'; unfold opR; go_simp; exact ⟨Ext.refl _, rfl⟩); (simp only [List.getElem_toArray, List.getElem_cons_succ, List.getElem_cons_zero, Act.put, List.setIfInBounds_toArray, List.set_cons_succ, List.set_cons_zero]; rfl))
          iterate 8 (apply wpOrd_yes rfl (by rfl); (intro w' hw'; unfold opR; go_simp; exact ⟨Ext.refl _, rfl⟩); (simp only [List.getElem_toArray, List.getElem_cons_succ, List.getElem_cons_zero, Act.put, List.setIfInBounds_toArray, List.set_cons_succ, List.set_cons_zero]; rfl))
          iterate 2 (apply wpOrd_det rfl rfl; (intro w' hw'; unfold opR; go_simp; exact ⟨Ext.refl _, rfl⟩); (simp only [List.getElem_toArray, List.getElem_cons_succ, List.getElem_cons_zero, Act.put, List.setIfInBounds_toArray, List.set_cons_succ, List.set_cons_zero]; rfl))
          iterate 7 (apply wpOrd_yes rfl (by rfl); (intro w' hw'; unfold opR; go_simp; exact ⟨Ext.refl _, rfl⟩); (simp only [List.getElem_toArray, List.getElem_cons_succ, List.getElem_cons_zero, Act.put, List.setIfInBounds_toArray, List.set_cons_succ, List.set_cons_zero]; rfl))
          (apply wpOrd_det rfl rfl; (intro w' hw'; unfold opR; go_simp; exact ⟨Ext.refl _, rfl⟩); (simp only [List.getElem_toArray, List.getElem_cons_succ, List.getElem_cons_zero, Act.put, List.setIfInBounds_toArray, List.set_cons_succ, List.set_cons_zero]; rfl))
          refine wpOrd_nil rfl ?_
          intro W9 hW9
          have hhead : headB ds hs p l t = true := by rw [HHB.out, HCE.out, HSH.out, H0.out, decide_eq_true (by omega : tl ≤ 0)]; simp
          have HHEAD := Lib.hid hhead
          have X9 := X3.trans hW9
          have u0 := f0.ext hW9; have u1 := f1.ext hW9; have u2 := f2.ext hW9
          have k1 := g1.ext hW9; have k2 := g2.ext hW9; have k3 := g3.ext hW9
          have T9 := T3.ext hW9
          have PC9 := PC.ext (x23.trans hW9)
          have SK9 := (x23.trans hW9).cell SK
          have SM9 := SMr.ext (x23.trans hW9)
          have q0 := u0.cell; have q1 := u1.cell
          have z0 := u0.lt; have z1 := u1.lt
          have z3 := k3.lt
          have HU0 := Lib.hid u0; have HU1 := Lib.hid u1; have HU2 := Lib.hid u2; have HK1 := Lib.hid k1; have HK2 := Lib.hid k2; have HK3 := Lib.hid k3
          clear hhead y1 y2 y3 z1 z2 z4 u0 u1 u2 k1 k2 k3 f0 f1 f2 g1 g2 g3 T3 PC SK SMr x23 X3 hW9 S2 HF2 hb hb0
          go_wp2_with fail
          refine (cells_walk n m _).mono ?_
          rintro e w' ⟨rfl, rfl⟩
          go_wp2_with fail
          have y1 := Ext.alloc' W9 (.cells #[.int .i64 n] 3)
          have y2 := Ext.alloc' (W9.alloc (.cells #[.int .i64 n] 3)) (.cells #[.int .i64 m] 3)
          have v1 := (Boxed.new W9 3 (.int .i64 n)).ext y2
          have v2 := Boxed.new (W9.alloc (.cells #[.int .i64 n] 3)) 3 (.int .i64 m)
          simp only [World.size_alloc] at v2
          obtain ⟨b2, hb2⟩ : ∃ x, W9.heap.size = x := ⟨_, rfl⟩
          obtain ⟨b3, hb3⟩ : ∃ x, b2 + 1 = x := ⟨_, rfl⟩
          rw [hb2] at v1
          rw [hb2, hb3] at v2
          rw [hb2, hb3]
          obtain ⟨W7, hW7⟩ : ∃ W, (W9.alloc (.cells #[.int .i64 n] 3)).alloc (.cells #[.int .i64 m] 3) = W := ⟨_, rfl⟩
          have yA := y1.trans y2
          rw [hW7] at v1 v2 yA ⊢
          have U0 := HU0.out.ext yA; have U1 := HU1.out.ext yA; have U2 := HU2.out.ext yA; have K1 := HK1.out.ext yA; have K2 := HK2.out.ext yA; have K3 := HK3.out.ext yA
          have T7 := T9.ext yA; have PC7 := PC9.ext yA; have SK7 := yA.cell SK9; have SM7 := SM9.ext yA
          have X7 := X9.trans yA
          have V1 := Lib.hid v1; have V2 := Lib.hid v2
          clear y1 y2 hW7 yA hb2 hb3 HU0 HU1 HU2 HK1 HK2 HK3 T9 PC9 SK9 SM9 X9 q0 q1 z0 z3
          refine (wpIn_wide (n := 0)).1 ?_
          refine wpIn_range (gf := 50) (lb := #[.pointer (some ⟨b2, 0, none⟩), .pointer (some ⟨b3, 0, none⟩)]) rfl (enters_of Tryz.func50 (by kernel_rfl) rfl) (cells_iter b2 b3 n m hn100 hm100) (fun _ => rfl)
            (fun K W => Ext W7 W ∧ bndB ds hs p t K = true)
            (fun c W => c = .ret ∧ Boxed W A2 4 (.bool false) ∧ Boxed W A3 33 (.int .i64 0) ∧ Ext w W ∧ bndB ds hs p t ((n + 1) * (m + 1)) = false)
            (fun k => .and (.extw (Nat.le_refl _)) (.pure _)) (fun c => .and (.pure _) (.and .boxed (.and .boxed (.and (.extw X7.size) (.pure _)))))
            (fun k W h => ⟨h.1.cell V1.out.cell, h.1.cell V2.out.cell⟩) ⟨Ext.refl _, rfl⟩ ?round ?done ?stop
          case done =>
            rintro D W hD ⟨Y, hbn⟩ hdef
            rw [cellsL_len] at hbn
            have HBN := Lib.hid hbn
            have HDEF := Lib.hid hdef
            have k2 := K2.ext Y; have k3 := K3.ext Y
            have c2 := k2.cell; have c3 := k3.cell; have fr2 := k2.frozen; have fr3 := k3.frozen
            have l2 := k2.lt; have l3 := k3.lt
            have XF := X7.trans Y
            clear hbn hdef
            go_wp2
            have s2 := (k2.set (.bool true)).set' (p := ⟨A3, 0, none⟩) (fun e => n32 e) (.int .i64 0)
            have s3 := (k3.set' (p := ⟨A2, 0, none⟩) (fun e => n23 e) (.bool true)).set (.int .i64 0)
            have hD9 : ((W.setCell ⟨A2, 0, none⟩ (.bool true)).setCell ⟨A3, 0, none⟩ (.int .i64 0)).heap[D]? = some (.deferred (some [])) := by
              rw [Below.heap_setCell _ _ _ _ (by have := K3.lt; simp; omega), Below.heap_setCell _ _ _ _ (by have := K2.lt; simp; omega)]
              exact HDEF.out
            have XE : Ext w ((W.setCell ⟨A2, 0, none⟩ (.bool true)).setCell ⟨A3, 0, none⟩ (.int .i64 0)) := (XF.setCell (p := ⟨A2, 0, none⟩) (by have := HA.out; have := HA1.out; have := HA2.out; simp; omega) _).setCell (p := ⟨A3, 0, none⟩) (by have := HA.out; have := HA1.out; have := HA2.out; have := HA3.out; simp; omega) _
            refine bodyPostM_ret rfl hD9 (fun W' hs' => check_results rfl rfl (hs'.boxed s2).cell (hs'.boxed s3).cell) (fun W' hs' => ⟨?_, Below.trans XE (hs'.below (by have := X7.size; omega))⟩)
            rw [HEQ.out, HHEAD.out, HBN.out]; rfl
          case stop =>
            rintro D c W hD ⟨rfl, k2, k3, XF, hbn⟩ hdef
            have HBN := Lib.hid hbn
            have HDEF := Lib.hid hdef
            clear hbn hdef
            refine wpIn_wide.2 ?_
            go_wp2
            refine bodyPostM_ret rfl HDEF.out (fun W' hs' => check_results rfl rfl (hs'.boxed k2).cell (hs'.boxed k3).cell) (fun W' hs' => ⟨?_, Below.trans XF (hs'.below (by have := X7.size; omega))⟩)
            rw [HEQ.out, HBN.out, Bool.and_false]
          case round =>
            rintro lr K W hK ⟨Y, hbn⟩ hle hlt
            rw [cellsL_len] at hK
            rw [cellsL_get]
            have here := here_of hK
            have hlast : bndB ds hs p t (K + 1) = cellsOk ds hs p t (n - K / (m + 1)) (m - K % (m + 1)) 3 := by rw [bndB, hbn, HN.out, HM.out, Bool.true_and]
            have hfail : cellsOk ds hs p t (n - K / (m + 1)) (m - K % (m + 1)) 3 = false → bndB ds hs p t ((n + 1) * (m + 1)) = false := fun h => by
              cases hh : bndB ds hs p t ((n + 1) * (m + 1)) with
              | false => rfl
              | true =>
                have := bndB_le (K := K + 1) hK hh
                rw [hlast, h] at this; cases this
            obtain ⟨i0, hi0⟩ : ∃ i0, n - K / (m + 1) = i0 := ⟨_, rfl⟩
            obtain ⟨j0, hj0⟩ : ∃ j0, m - K % (m + 1) = j0 := ⟨_, rfl⟩
            rw [hi0, hj0] at here hlast hfail ⊢
            obtain ⟨li, lj⟩ := here.le
            have HLAST := Lib.hid hlast; have HFAIL := Lib.hid hfail
            clear hi0 hj0 here hK hlast hfail hbn
            simp only [encC]
            gi_wp2
            refine ⟨KeepsOthers.refl _, fun W2 hs2 => ?_⟩
            have Z : Ext W7 W2 := Below.trans Y (hs2.below hle)
            clear Y hs2
            have c2 := (U2.ext Z).cell
            gi_wp2
            clear c2
            gi_loopw [77] (fun c wr => ∃ k : Nat, k ≤ 3 ∧ c = .int .i64 k ∧ cellsOk ds hs p t i0 j0 k = true ∧ Ext W7 wr ∧ KeepsOthers W2 wr) (fun c _ => 3 - (intOf c).toNat)
            case atStart => exact ⟨0, by omega, rfl, rfl, Z, KeepsOthers.refl _⟩
            case round =>
              clear Z
              obtain ⟨k, hk, rfl, hck, Z, KF⟩ := hrel
              have HCK := Lib.hid hck
              clear hck
              by_cases hlt3 : k < 3
              · obtain ⟨bS, oS, rfl, q0, q1, q2⟩ := Sl.mv (SM7.ext Z) k (by simp; omega)
                simp only [List.getElem_map, List.getElem_range] at q0 q1 q2
                obtain ⟨fn, cap, hfn, hen, hcall⟩ := step_fn HV.out PC7 SK7 i0 j0 k
                rw [mv3_d] at q0; rw [mv3_h] at q1; rw [hfn] at q2
                have hdi := mD_le k; have hdj := mH_le k
                obtain ⟨di, hDI⟩ : ∃ d, mD k = d := ⟨_, rfl⟩
                obtain ⟨dj, hDJ⟩ : ∃ d, mH k = d := ⟨_, rfl⟩
                rw [hDI] at q0 hdi; rw [hDJ] at q1 hdj
                have HDI := Lib.hid hDI; have HDJ := Lib.hid hDJ; have HEN := Lib.hid hen; have HCALL := Lib.hid hcall
                clear hDI hDJ hen hcall hfn
                gi_wp2
                have yN := Ext.alloc' wr (.cells #[.int .i64 di, .int .i64 dj, .func (.func fn) #[] cap] 98)
                obtain ⟨N, hN⟩ : ∃ N, wr.heap.size = N := ⟨_, rfl⟩
                have bN := block_at hN (.cells #[.int .i64 di, .int .i64 dj, .func (.func fn) #[] cap] 98)
                obtain ⟨W3, hW3⟩ : ∃ W3, wr.alloc (.cells #[.int .i64 di, .int .i64 dj, .func (.func fn) #[] cap] 98) = W3 := ⟨_, rfl⟩
                rw [hW3] at bN yN ⊢
                rw [hN]
                have Z3 := Z.trans yN
                have s0 := ext_cells (block_cell bN 0 (.int .i64 di) rfl)
                have s1 := ext_cells (block_cell bN 1 (.int .i64 dj) rfl)
                have s2 := ext_cells (block_cell bN 2 (.func (.func fn) #[] cap) rfl)
                have m0 := ext_cells (U0.ext Z3).cell
                have m1 := ext_cells (U1.ext Z3).cell
                have w1 : IntKind.i64.wrap ((i0 : Int) + (di : Int)) = (i0 : Int) + (di : Int) := IntWalk.i64_in _ (by omega)
                clear hN hW3 q0 q1 q2 bN
                by_cases a1 : i0 + di ≤ n
                · have dd1 : decide ((i0 : Int) + (di : Int) ≤ (n : Int)) = true := decide_eq_true (by omega)
                  have w2' : IntKind.i64.wrap ((j0 : Int) + (dj : Int)) = (j0 : Int) + (dj : Int) := IntWalk.i64_in _ (by omega)
                  by_cases a2 : j0 + dj ≤ m
                  · have dd2 : decide ((j0 : Int) + (dj : Int) ≤ (m : Int)) = true := decide_eq_true (by omega)
                    have hok : stOk ds hs i0 j0 k := by
                      show i0 + mD k ≤ ds.length ∧ j0 + mH k ≤ hs.length
                      rw [HDI.out, HDJ.out, HN.out, HM.out]; omega
                    have hbd := stV_bd HV.out hok
                    have hcc := HCALL.out hok
                    have hco : cellOk ds hs p t i0 j0 k = decide (tv t i0 j0 ≤ stC ds hs p i0 j0 k + tv t (i0 + di) (j0 + dj)) := by
                      rw [cellOk, decide_eq_true hok, HDI.out, HDJ.out]; rfl
                    obtain ⟨sc, hsc⟩ : ∃ x, stC ds hs p i0 j0 k = x := ⟨_, rfl⟩
                    rw [hsc] at hbd hcc hco
                    have hb1 := hbd.1; have hb2 := hbd.2.1
                    have T3 := T7.ext Z3
                    obtain ⟨b', o', r1, ro1, rc1, e', t1, t2⟩ := Tab.read T3 HSH.out li lj
                    obtain ⟨rfl, rfl⟩ : b = b' ∧ o = o' := by cases e'; exact ⟨rfl, rfl⟩
                    obtain ⟨b', o', r2, ro2, rc2, e2, t3, t4⟩ := Tab.read T3 HSH.out a1 a2
                    obtain ⟨rfl, rfl⟩ : b = b' ∧ o = o' := by cases e2; exact ⟨rfl, rfl⟩
                    have tb1 := tv_bd HSH.out li lj
                    have tb2 := tv_bd HSH.out a1 a2
                    obtain ⟨x1, hx1⟩ : ∃ x, tv t i0 j0 = x := ⟨_, rfl⟩
                    obtain ⟨x2, hx2⟩ : ∃ x, tv t (i0 + di) (j0 + dj) = x := ⟨_, rfl⟩
                    rw [hx1] at t2 tb1 hco; rw [hx2] at t4 tb2 hco
                    obtain ⟨tb11, tb12⟩ := tb1; obtain ⟨tb21, tb22⟩ := tb2
                    have w3' : IntKind.i64.wrap (sc + x2) = sc + x2 := IntWalk.i64_in _ (by omega)
                    have p1 := ext_cells (K1.ext Z3).cell
                    have p2 := ext_cells t1; have p3 := ext_cells t2; have p4 := ext_cells t3; have p5 := ext_cells t4
                    have HTL := HT.out
                    have v1 : (0 : Int) ≤ (i0 : Int) := by omega
                    have v2 : (i0 : Int) < (t.length : Int) := by omega
                    have v3 : (0 : Int) ≤ (j0 : Int) := by omega
                    have v4 : (j0 : Int) < (m : Int) + 1 := by omega
                    have v5 : (0 : Int) ≤ (i0 : Int) + (di : Int) := by omega
                    have v6 : (i0 : Int) + (di : Int) < (t.length : Int) := by omega
                    have v7 : (0 : Int) ≤ (j0 : Int) + (dj : Int) := by omega
                    have v8 : (j0 : Int) + (dj : Int) < (m : Int) + 1 := by omega
                    have v9 : ((i0 : Int) + (di : Int)).toNat = i0 + di := by omega
                    have v10 : ((j0 : Int) + (dj : Int)).toNat = j0 + dj := by omega
                    have HCO := Lib.hid hco; have HCC := Lib.hid hcc
                    clear HTL hco hcc hsc hbd hok T3 e' e2 hx1 hx2 t1 t2 t3 t4 HCALL
                    refine wpIn_region_ord [(0,true), (1,true), (2,true), (3,true), (4,true), (5,true), (6,true), (7,true), (8,true), (9,true), (10,true), (11,true), (12,true), (13,true), (14,true), (15,true), (16,true), (17,true), (18,true), (19,true), (20,true), (21,true), (22,true), (23,true), (24,true), (25,true), (26,true), (27,true), (28,true), (29,true), (30,true), (31,true), (32,true), (33,true), (34,true), (35,true), (36,true), (37,true), (38,true), (39,true), (40,true), (41,true), (42,true)] 43 Ext (Ext W3) wide (by kernel_rfl) (by rintro ⟨_, _, h⟩; exact h) (stable_ext _) (Ext.drawn _ _) ?_
                    iterate 7 (apply wpOrd_det rfl rfl; (intro w' hw'; unfold opR; go_simp; exact ⟨Ext.refl _, rfl⟩); (simp only [List.getElem_toArray, List.getElem_cons_succ, List.getElem_cons_zero, Act.put, List.setIfInBounds_toArray, List.set_cons_succ, List.set_cons_zero]; rfl))
                    iterate 6 (apply wpOrd_yes rfl (by rfl); (intro w' hw'; unfold opR; go_simp; exact ⟨Ext.refl _, rfl⟩); (simp only [List.getElem_toArray, List.getElem_cons_succ, List.getElem_cons_zero, Act.put, List.setIfInBounds_toArray, List.set_cons_succ, List.set_cons_zero]; rfl))
                    iterate 2 (apply wpOrd_det rfl rfl; (intro w' hw'; unfold opR; go_simp; exact ⟨Ext.refl _, rfl⟩); (simp only [List.getElem_toArray, List.getElem_cons_succ, List.getElem_cons_zero, Act.put, List.setIfInBounds_toArray, List.set_cons_succ, List.set_cons_zero]; rfl))
                    iterate 11 (apply wpOrd_yes rfl (by rfl); (intro w' hw'; unfold opR; go_simp; exact ⟨Ext.refl _, rfl⟩); (simp only [List.getElem_toArray, List.getElem_cons_succ, List.getElem_cons_zero, Act.put, List.setIfInBounds_toArray, List.set_cons_succ, List.set_cons_zero]; rfl))
                    (apply wpOrd_yes rfl (by rfl); (intro w' hw'; refine opR_callv rfl (by rfl) HEN.out (by simp only [List.map_toArray, List.map_cons, List.map_nil, Act.eval, Array.getD_eq_getD_getElem?, List.getElem?_toArray, List.getElem?_cons_succ, List.getElem?_cons_zero, Option.getD_some]; rfl) ?_; refine (HCC.out w' (Z3.trans hw')).mono ?_; rintro e w4 ⟨rfl, hx⟩; exact ⟨_, rfl, hx, rfl⟩); (simp only [List.getElem_toArray, List.getElem_cons_succ, List.getElem_cons_zero, Act.put, List.setIfInBounds_toArray, List.set_cons_succ, List.set_cons_zero]; rfl))
                    iterate 15 (apply wpOrd_yes rfl (by rfl); (intro w' hw'; unfold opR; go_simp; exact ⟨Ext.refl _, rfl⟩); (simp only [List.getElem_toArray, List.getElem_cons_succ, List.getElem_cons_zero, Act.put, List.setIfInBounds_toArray, List.set_cons_succ, List.set_cons_zero]; rfl))
                    (apply wpOrd_det rfl rfl; (intro w' hw'; unfold opR; go_simp; exact ⟨Ext.refl _, rfl⟩); (simp only [List.getElem_toArray, List.getElem_cons_succ, List.getElem_cons_zero, Act.put, List.setIfInBounds_toArray, List.set_cons_succ, List.set_cons_zero]; rfl))
                    refine wpOrd_nil rfl ?_
                    intro W4 hW4
                    have ZF := Z3.trans hW4
                    have KF4 := KF.trans (KeepsOthers.ext (yN.trans hW4))
                    clear s0 s1 s2 m0 m1 w1 w2' w3' p1 p2 p3 p4 p5 v1 v2 v3 v4 v5 v6 v7 v8 v9 v10 dd1 dd2 hW4
                    by_cases hg : sc + x2 < x1
                    · have hfl : bndB ds hs p t ((n + 1) * (m + 1)) = false := HFAIL.out (cellsOk_no hlt3 (by rw [HCO.out, decide_eq_false (by omega)]))
                      have HFL := Lib.hid hfl
                      have k2 := K2.ext ZF; have k3 := K3.ext ZF
                      have c2 := k2.cell; have c3 := k3.cell; have fr2 := k2.frozen; have fr3 := k3.frozen
                      have l2 := k2.lt; have l3 := k3.lt
                      have s2 := Lib.hid ((k2.set (.bool false)).set' (p := ⟨A3, 0, none⟩) (fun e => n32 e) (.int .i64 0))
                      have s3 := Lib.hid ((k3.set' (p := ⟨A2, 0, none⟩) (fun e => n23 e) (.bool false)).set (.int .i64 0))
                      have XE := Lib.hid (((X7.trans ZF).setCell (p := ⟨A2, 0, none⟩) (by have := HA.out; have := HA1.out; have := HA2.out; simp; omega) (.bool false)).setCell (p := ⟨A3, 0, none⟩) (by have := HA.out; have := HA1.out; have := HA2.out; have := HA3.out; simp; omega) (.int .i64 0))
                      have KE := Lib.hid ((KF4.trans (KeepsOthers.setCell W4 ⟨A2, 0, none⟩ (.bool false))).trans (KeepsOthers.setCell (W4.setCell ⟨A2, 0, none⟩ (.bool false)) ⟨A3, 0, none⟩ (.int .i64 0)))
                      clear hfl k2 k3
                      go_wp2
                      gi_wp2
                      exact ⟨KE.out, rfl, s2.out, s3.out, XE.out, HFL.out⟩
                    · have hnx : cellsOk ds hs p t i0 j0 (k + 1) = true := by rw [cellsOk, HCK.out, HCO.out, decide_eq_true (by omega)]; rfl
                      have HNX := Lib.hid hnx
                      clear hnx
                      go_wp2
                      gi_wp2
                      go_roundw
                      case rel => exact ⟨k + 1, by omega, by go_num, HNX.out, ZF, KF4⟩
                      case measure => simp [intOf]; omega
                  · have dd2 : decide ((j0 : Int) + (dj : Int) ≤ (m : Int)) = false := decide_eq_false (by omega)
                    refine wpIn_region_ord [(0,true), (1,true), (2,true), (3,true), (4,true), (5,true), (6,true), (7,true), (8,true), (9,true), (10,true), (11,true), (12,true), (13,true), (14,true), (15,true), (16,true), (17,true), (18,true), (19,true), (20,true), (21,true), (22,true), (23,true), (24,true), (25,true), (26,true), (27,true), (28,true), (29,true), (30,true), (31,true), (32,true), (33,true), (34,true), (35,true), (36,true), (37,true), (38,true), (39,true), (40,true), (41,true), (42,true)] 43 Ext (Ext W3) wide (by kernel_rfl) (by rintro ⟨_, _, h⟩; exact h) (stable_ext _) (Ext.drawn _ _) ?_
                    iterate 7 (apply wpOrd_det rfl rfl; (intro w' hw'; unfold opR; go_simp; exact ⟨Ext.refl _, rfl⟩); (simp only [List.getElem_toArray, List.getElem_cons_succ, List.getElem_cons_zero, Act.put, List.setIfInBounds_toArray, List.set_cons_succ, List.set_cons_zero]; rfl))
                    iterate 6 (apply wpOrd_yes rfl (by rfl); (intro w' hw'; unfold opR; go_simp; exact ⟨Ext.refl _, rfl⟩); (simp only [List.getElem_toArray, List.getElem_cons_succ, List.getElem_cons_zero, Act.put, List.setIfInBounds_toArray, List.set_cons_succ, List.set_cons_zero]; rfl))
                    iterate 2 (apply wpOrd_det rfl rfl; (intro w' hw'; unfold opR; go_simp; exact ⟨Ext.refl _, rfl⟩); (simp only [List.getElem_toArray, List.getElem_cons_succ, List.getElem_cons_zero, Act.put, List.setIfInBounds_toArray, List.set_cons_succ, List.set_cons_zero]; rfl))
                    iterate 27 (apply wpOrd_no rfl (by rfl); (simp only [List.getElem_toArray, List.getElem_cons_succ, List.getElem_cons_zero, Act.put, List.setIfInBounds_toArray, List.set_cons_succ, List.set_cons_zero]; rfl))
                    (apply wpOrd_det rfl rfl; (intro w' hw'; unfold opR; go_simp; exact ⟨Ext.refl _, rfl⟩); (simp only [List.getElem_toArray, List.getElem_cons_succ, List.getElem_cons_zero, Act.put, List.setIfInBounds_toArray, List.set_cons_succ, List.set_cons_zero]; rfl))
                    clear dd2 w2'
                    refine wpOrd_nil rfl ?_
                    intro W4 hW4
                    have hnx : cellsOk ds hs p t i0 j0 (k + 1) = true := by
                      rw [cellsOk, HCK.out, cellOk, decide_eq_false (by rw [stOk, HDI.out, HDJ.out, HN.out, HM.out]; omega)]; rfl
                    have HNX := Lib.hid hnx
                    have ZF := Z3.trans hW4
                    have KF4 := KF.trans (KeepsOthers.ext (yN.trans hW4))
                    clear hnx dd1 m0 m1 s0 s1 w1 hW4
                    go_wp2
                    gi_wp2
                    go_roundw
                    case rel => exact ⟨k + 1, by omega, by go_num, HNX.out, ZF, KF4⟩
                    case measure => simp [intOf]; omega
                · have dd1 : decide ((i0 : Int) + (di : Int) ≤ (n : Int)) = false := decide_eq_false (by omega)
                  refine wpIn_region_ord [(0,true), (1,true), (2,true), (3,true), (4,true), (5,true), (6,true), (7,true), (8,true), (9,true), (10,true), (11,true), (12,true), (13,true), (14,true), (15,true), (16,true), (17,true), (18,true), (19,true), (20,true), (21,true), (22,true), (23,true), (24,true), (25,true), (26,true), (27,true), (28,true), (29,true), (30,true), (31,true), (32,true), (33,true), (34,true), (35,true), (36,true), (37,true), (38,true), (39,true), (40,true), (41,true), (42,true)] 43 Ext (Ext W3) wide (by kernel_rfl) (by rintro ⟨_, _, h⟩; exact h) (stable_ext _) (Ext.drawn _ _) ?_
                  iterate 7 (apply wpOrd_det rfl rfl; (intro w' hw'; unfold opR; go_simp; exact ⟨Ext.refl _, rfl⟩); (simp only [List.getElem_toArray, List.getElem_cons_succ, List.getElem_cons_zero, Act.put, List.setIfInBounds_toArray, List.set_cons_succ, List.set_cons_zero]; rfl))
                  iterate 6 (apply wpOrd_no rfl (by rfl); (simp only [List.getElem_toArray, List.getElem_cons_succ, List.getElem_cons_zero, Act.put, List.setIfInBounds_toArray, List.set_cons_succ, List.set_cons_zero]; rfl))
                  iterate 2 (apply wpOrd_det rfl rfl; (intro w' hw'; unfold opR; go_simp; exact ⟨Ext.refl _, rfl⟩); (simp only [List.getElem_toArray, List.getElem_cons_succ, List.getElem_cons_zero, Act.put, List.setIfInBounds_toArray, List.set_cons_succ, List.set_cons_zero]; rfl))
                  iterate 27 (apply wpOrd_no rfl (by rfl); (simp only [List.getElem_toArray, List.getElem_cons_succ, List.getElem_cons_zero, Act.put, List.setIfInBounds_toArray, List.set_cons_succ, List.set_cons_zero]; rfl))
                  (apply wpOrd_det rfl rfl; (intro w' hw'; unfold opR; go_simp; exact ⟨Ext.refl _, rfl⟩); (simp only [List.getElem_toArray, List.getElem_cons_succ, List.getElem_cons_zero, Act.put, List.setIfInBounds_toArray, List.set_cons_succ, List.set_cons_zero]; rfl))
                  refine wpOrd_nil rfl ?_
                  intro W4 hW4
                  have hnx : cellsOk ds hs p t i0 j0 (k + 1) = true := by
                    rw [cellsOk, HCK.out, cellOk, decide_eq_false (by rw [stOk, HDI.out, HDJ.out, HN.out, HM.out]; omega)]; rfl
                  have HNX := Lib.hid hnx
                  have ZF := Z3.trans hW4
                  have KF4 := KF.trans (KeepsOthers.ext (yN.trans hW4))
                  clear hnx dd1 m0 m1 s0 s1 w1 hW4
                  go_wp2
                  gi_wp2
                  go_roundw
                  case rel => exact ⟨k + 1, by omega, by go_num, HNX.out, ZF, KF4⟩
                  case measure => simp [intOf]; omega
              · obtain rfl : k = 3 := by omega
                gi_wp2
                exact ⟨KF, Z, by rw [HLAST.out, HCK.out]⟩
        · have hb0 : (t0 != cst.1) = true := by rw [bne_iff_ne]; exact h0
          have H0 := Lib.hid h0
          clear h0
          refine wp_region_ord [(0,true), (1,true), (2,true), (3,true), (4,true), (5,true), (6,true), (7,true), (8,true), (9,true), (10,true), (11,true), (12,true), (13,true), (14,true), (15,true), (16,true), (17,true), (18,true), (19,true), (20,true), (21,true), (22,true), (23,true), (24,true), (25,true), (26,true), (27,true)] 28 Ext (Ext w3) wide (by kernel_rfl) (stable_ext _) (Ext.drawn _ _) ?_
          iterate 3 (apply wpOrd_det rfl rfl; (intro w' hw'; unfold opR; go_simp; exact ⟨Ext.refl _, rfl⟩); (simp only [List.getElem_toArray, List.getElem_cons_succ, List.getElem_cons_zero, Act.put, List.setIfInBounds_toArray, List.set_cons_succ, List.set_cons_zero]; rfl))
          iterate 3 (apply wpOrd_yes rfl (by rfl); (intro w' hw'; unfold opR; go_simp; exact ⟨Ext.refl _, rfl⟩); (simp only [List.getElem_toArray, List.getElem_cons_succ, List.getElem_cons_zero, Act.put, List.setIfInBounds_toArray, List.set_cons_succ, List.set_cons_zero]; rfl))
          (apply wpOrd_yes rfl (by rfl); (intro w' hw'; refine opR_call rfl (Go.Proofs.enters_of Tryz.func27 (by kernel_rfl) rfl) (by simp only [List.map_toArray, List.map_cons, List.map_nil, Act.eval, Array.getD_eq_getD_getElem?, List.getElem?_toArray, List.getElem?_cons_succ, List.getElem?_cons_zero, Option.getD_some]; rfl) ?_; refine (shaped_walk _ t n m hn100 hm100 w' (T3.ext hw')).mono ?_; rw [HSH.out]; rintro e w4 ⟨rfl, hx⟩; exact ⟨_, rfl, hx, rfl⟩); (simp only [List.getElem_toArray, List.getElem_cons_succ, List.getElem_cons_zero, Act.put, List.setIfInBounds_toArray, List.set_cons_succ, List.set_cons_zero]; rfl))
          (apply wpOrd_yes rfl (by rfl); (intro w' hw'; unfold opR; go_simp; exact ⟨Ext.refl _, rfl⟩); (simp only [List.getElem_toArray, List.getElem_cons_succ, List.getElem_cons_zero, Act.put, List.setIfInBounds_toArray, List.set_cons_succ, List.set_cons_zero]; rfl))
          iterate 2 (apply wpOrd_det rfl rfl; (intro w' hw'; unfold opR; go_simp; exact ⟨Ext.refl _, rfl⟩); (simp only [List.getElem_toArray, List.getElem_cons_succ, List.getElem_cons_zero, Act.put, List.setIfInBounds_toArray, List.set_cons_succ, List.set_cons_zero]; rfl))
          iterate 8 (apply wpOrd_yes rfl (by rfl); (intro w' hw'; unfold opR; go_simp; exact ⟨Ext.refl _, rfl⟩); (simp only [List.getElem_toArray, List.getElem_cons_succ, List.getElem_cons_zero, Act.put, List.setIfInBounds_toArray, List.set_cons_succ, List.set_cons_zero]; rfl))
          iterate 2 (apply wpOrd_det rfl rfl; (intro w' hw'; unfold opR; go_simp; exact ⟨Ext.refl _, rfl⟩); (simp only [List.getElem_toArray, List.getElem_cons_succ, List.getElem_cons_zero, Act.put, List.setIfInBounds_toArray, List.set_cons_succ, List.set_cons_zero]; rfl))
          iterate 7 (apply wpOrd_yes rfl (by rfl); (intro w' hw'; unfold opR; go_simp; exact ⟨Ext.refl _, rfl⟩); (simp only [List.getElem_toArray, List.getElem_cons_succ, List.getElem_cons_zero, Act.put, List.setIfInBounds_toArray, List.set_cons_succ, List.set_cons_zero]; rfl))
          (apply wpOrd_det rfl rfl; (intro w' hw'; unfold opR; go_simp; exact ⟨Ext.refl _, rfl⟩); (simp only [List.getElem_toArray, List.getElem_cons_succ, List.getElem_cons_zero, Act.put, List.setIfInBounds_toArray, List.set_cons_succ, List.set_cons_zero]; rfl))
          refine wpOrd_nil rfl ?_
          intro W9 hW9
          obtain ⟨q1, q2, q3, q4⟩ := HF2.out W9 hW9
          go_wp2
          obtain ⟨s1, s2, s3⟩ := S2.out W9 hW9
          refine bodyPostM_ret0 rfl (check_results rfl rfl s1.cell s2.cell) ⟨?_, s3⟩
          rw [HEQ.out, HHB.out, decide_eq_false H0.out, HSH.out] <;> first | rfl | simp
  · have hb : (cst.2 != 0) = true := by rw [bne_iff_ne]; exact hce
    have HCE := Lib.hid hce
    clear hce
    refine wp_region_ord [(0,true), (1,true), (2,true), (3,true), (4,true), (5,true), (6,true), (7,true), (8,true), (9,true), (10,true), (11,true), (12,true), (13,true), (14,true), (15,true), (16,true), (17,true), (18,true), (19,true), (20,true), (21,true), (22,true), (23,true), (24,true), (25,true), (26,true), (27,true)] 28 Ext (Ext w3) wide (by kernel_rfl) (stable_ext _) (Ext.drawn _ _) ?_
    iterate 3 (apply wpOrd_det rfl rfl; (intro w' hw'; unfold opR; go_simp; exact ⟨Ext.refl _, rfl⟩); (simp only [List.getElem_toArray, List.getElem_cons_succ, List.getElem_cons_zero, Act.put, List.setIfInBounds_toArray, List.set_cons_succ, List.set_cons_zero]; rfl))
    iterate 5 (apply wpOrd_no rfl (by rfl); (simp only [List.getElem_toArray, List.getElem_cons_succ, List.getElem_cons_zero, Act.put, List.setIfInBounds_toArray, List.set_cons_succ, List.set_cons_zero]; rfl))
    iterate 2 (apply wpOrd_det rfl rfl; (intro w' hw'; unfold opR; go_simp; exact ⟨Ext.refl _, rfl⟩); (simp only [List.getElem_toArray, List.getElem_cons_succ, List.getElem_cons_zero, Act.put, List.setIfInBounds_toArray, List.set_cons_succ, List.set_cons_zero]; rfl))
    iterate 8 (apply wpOrd_no rfl (by rfl); (simp only [List.getElem_toArray, List.getElem_cons_succ, List.getElem_cons_zero, Act.put, List.setIfInBounds_toArray, List.set_cons_succ, List.set_cons_zero]; rfl))
    iterate 2 (apply wpOrd_det rfl rfl; (intro w' hw'; unfold opR; go_simp; exact ⟨Ext.refl _, rfl⟩); (simp only [List.getElem_toArray, List.getElem_cons_succ, List.getElem_cons_zero, Act.put, List.setIfInBounds_toArray, List.set_cons_succ, List.set_cons_zero]; rfl))
    iterate 7 (apply wpOrd_no rfl (by rfl); (simp only [List.getElem_toArray, List.getElem_cons_succ, List.getElem_cons_zero, Act.put, List.setIfInBounds_toArray, List.set_cons_succ, List.set_cons_zero]; rfl))
    (apply wpOrd_det rfl rfl; (intro w' hw'; unfold opR; go_simp; exact ⟨Ext.refl _, rfl⟩); (simp only [List.getElem_toArray, List.getElem_cons_succ, List.getElem_cons_zero, Act.put, List.setIfInBounds_toArray, List.set_cons_succ, List.set_cons_zero]; rfl))
    refine wpOrd_nil rfl ?_
    intro W9 hW9
    obtain ⟨q1, q2, q3, q4⟩ := HF2.out W9 hW9
    go_wp2
    obtain ⟨s1, s2, s3⟩ := S2.out W9 hW9
    refine bodyPostM_ret0 rfl (check_results rfl rfl s1.cell s2.cell) ⟨?_, s3⟩
    rw [HEQ.out, HHB.out, decide_eq_false HCE.out] <;> rfl
end Go.Proofs.YthpfalbeieloaaaGreatDoor
