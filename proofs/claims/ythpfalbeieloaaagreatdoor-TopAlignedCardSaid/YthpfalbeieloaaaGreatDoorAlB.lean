/-
  Walks: align.prices, its function, align.moves, its function.
-/
import Derived.Test.YthpfalbeieloaaaGreatDoorAlA
set_option maxRecDepth 100000
set_option linter.unusedVariables false
namespace Go.Proofs.YthpfalbeieloaaaGreatDoor
open Go.RowKit Go.Sx Go.Sx.Sz Go.Sx.Al

/-- What the price function reads: the boxes of its variables. -/
structure PrC (pd ph ps pp : Nat) (ds : List Due) (hs : List Hrd) (p : Prc) (w : World) : Prop where
  dues : ∃ v, w.cell? ⟨pd, 0, none⟩ = some v ∧ Sl w 7 encD v ds
  heard : ∃ v, w.cell? ⟨ph, 0, none⟩ = some v ∧ Sl w 3 encH v hs
  sizes : ∃ v, w.cell? ⟨ps, 0, none⟩ = some v ∧ Sl w 2 encS v (ds.map dsz)
  off : w.cell? ⟨pp, 1, none⟩ = some (.int .i64 p.off)
theorem PrC.ext {pd ph ps pp : Nat} {ds : List Due} {hs : List Hrd} {p : Prc} {w w' : World} (h : PrC pd ph ps pp ds hs p w) (x : Ext w w') : PrC pd ph ps pp ds hs p w' :=
  ⟨let ⟨v, a, b⟩ := h.dues; ⟨v, x.cell a, b.ext x⟩, let ⟨v, a, b⟩ := h.heard; ⟨v, x.cell a, b.ext x⟩, let ⟨v, a, b⟩ := h.sizes; ⟨v, x.cell a, b.ext x⟩, x.cell h.off⟩

set_option maxHeartbeats 2000000 in
theorem price_walk (pd ph ps pp : Nat) (ds : List Due) (hs : List Hrd) (p : Prc) (hv : AlOk ds hs p) (i j : Nat) (hi : i < ds.length) (hj : j < hs.length) (w : World) (C : PrC pd ph ps pp ds hs p w) :
    Calls Tryz.prog 71 #[.int .i64 i, .int .i64 j, .pointer (some ⟨pd, 0, none⟩), .pointer (some ⟨ph, 0, none⟩), .pointer (some ⟨ps, 0, none⟩), .pointer (some ⟨pp, 0, none⟩)] w fun e w' => e = .returned (.int .i64 (mc p ds[i] hs[j])) ∧ Ext w w' := by
  obtain ⟨_, c0, S0⟩ := C.dues
  obtain ⟨_, c1, S1⟩ := C.heard
  obtain ⟨_, c2, S2⟩ := C.sizes
  have c3 := C.off
  obtain ⟨a0, k0, rfl, -, -, -⟩ := S0.len
  obtain ⟨a1, k1, rfl, -, -, -⟩ := S1.len
  obtain ⟨a2, k2, rfl, -, -, -⟩ := S2.len
  obtain ⟨b0, o0, rfl, q0, -⟩ := Sl.due S0 i hi
  obtain ⟨b1, o1, rfl, q1, q2, q3⟩ := Sl.hrd S1 j hj
  obtain ⟨b2, o2, rfl, q4, q5⟩ := Sl.sz S2 i (by simpa using hi)
  have d1 := hv.dt _ (List.getElem_mem hi)
  have d2 := hv.ht _ (List.getElem_mem hj)
  have ho := hv.off
  rw [List.getElem_map] at q4 q5
  rw [List.length_map] at c2
  have hm : mc p ds[i] hs[j] = if (cmpR (dsz ds[i]) hs[j].s).1 = 0 then absd ds[i].t hs[j].t else absd ds[i].t hs[j].t + p.off := rfl
  obtain ⟨mm, hmm⟩ : ∃ m, mc p ds[i] hs[j] = m := ⟨_, rfl⟩
  rw [hmm] at hm ⊢
  obtain ⟨r, hr⟩ : ∃ r, cmpR (dsz ds[i]) hs[j].s = r := ⟨_, rfl⟩
  rw [hr] at hm
  obtain ⟨sd, hsd⟩ : ∃ s, dsz ds[i] = s := ⟨_, rfl⟩
  obtain ⟨sh, hsh⟩ : ∃ s, hs[j].s = s := ⟨_, rfl⟩
  obtain ⟨x, hx⟩ : ∃ x, ds[i].t = x := ⟨_, rfl⟩
  obtain ⟨y, hy⟩ : ∃ y, hs[j].t = y := ⟨_, rfl⟩
  rw [hsd] at hr q4 q5; rw [hsh] at hr q2 q3; rw [hx] at q0 d1 hm; rw [hy] at q1 d2 hm
  have HR := Lib.hid hr; have HM := Lib.hid hm
  have i0 : (0 : Int) ≤ (i : Int) := by omega
  have i1 : (i : Int) < (ds.length : Int) := by omega
  have i2 : (0 : Int) ≤ (j : Int) := by omega
  have i3 : (j : Int) < (hs.length : Int) := by omega
  have e1 : IntKind.i64.wrap (x - y) = x - y := IntWalk.i64_in _ (by omega)
  obtain ⟨d11, d12⟩ := d1; obtain ⟨d21, d22⟩ := d2
  obtain ⟨ho1, ho2⟩ := ho
  have g0 := ext_cells c0; have g1 := ext_cells c1; have g2 := ext_cells c2
  have f0 := ext_cells q0; have f1 := ext_cells q1; have f2 := ext_cells q2; have f3 := ext_cells q3; have f4 := ext_cells q4; have f5 := ext_cells q5
  have D1 := Lib.hid c3
  clear hr hm hmm hsd hsh hx hy C S0 S1 S2 c0 c1 c2 c3 q0 q1 q2 q3 q4 q5 hi hj
  go_enter Tryz.func71, Tryz.ntmps71
  go_wp2
  refine wp_region_ord [(0,true), (1,true), (2,true), (3,true), (4,true), (5,true), (6,true), (7,true), (8,true), (9,true), (10,true), (11,true)] 12 Ext (Ext w) wide (by kernel_rfl) (stable_ext _) (Ext.drawn _ _) ?_
  iterate 12 (apply wpOrd_det rfl rfl; (intro w' hw'; unfold opR; go_simp; exact ⟨Ext.refl _, rfl⟩); (simp only [List.getElem_toArray, List.getElem_cons_succ, List.getElem_cons_zero, Act.put, List.setIfInBounds_toArray, List.set_cons_succ, List.set_cons_zero]; rfl))
  refine wpOrd_nil rfl ?_
  intro W1 hW1
  by_cases hneg : x - y < 0
  all_goals
    clear e1
    go_wp2
    refine wp_region_ord [(0,true), (1,true), (2,true), (3,true), (4,true), (5,true), (6,true), (7,true), (8,true), (9,true), (10,true), (11,true), (12,true), (13,true), (14,true)] 15 Ext (Ext w) wide (by kernel_rfl) (stable_ext _) (hW1.trans (Ext.drawn _ _)) ?_
    iterate 9 (apply wpOrd_det rfl rfl; (intro w' hw'; unfold opR; go_simp; exact ⟨Ext.refl _, rfl⟩); (simp only [List.getElem_toArray, List.getElem_cons_succ, List.getElem_cons_zero, Act.put, List.setIfInBounds_toArray, List.set_cons_succ, List.set_cons_zero]; rfl))
    (apply wpOrd_det rfl rfl; (intro w' hw'; refine opR_call rfl (Go.Proofs.enters_of Tryz.func54 (by kernel_rfl) rfl) (by simp only [List.map_toArray, List.map_cons, List.map_nil, Act.eval, Array.getD_eq_getD_getElem?, List.getElem?_toArray, List.getElem?_cons_succ, List.getElem?_cons_zero, Option.getD_some]; rfl) ?_; refine (cmp_walk sd sh w').mono ?_; rw [HR.out]; rintro e w4 ⟨rfl, hx⟩; exact ⟨_, rfl, hx, rfl⟩); (simp only [List.getElem_toArray, List.getElem_cons_succ, List.getElem_cons_zero, Act.put, List.setIfInBounds_toArray, List.set_cons_succ, List.set_cons_zero]; rfl))
    iterate 5 (apply wpOrd_det rfl rfl; (intro w' hw'; unfold opR; go_simp; exact ⟨Ext.refl _, rfl⟩); (simp only [List.getElem_toArray, List.getElem_cons_succ, List.getElem_cons_zero, Act.put, List.setIfInBounds_toArray, List.set_cons_succ, List.set_cons_zero]; rfl))
    refine wpOrd_nil rfl ?_
    intro W2 hW2
    have c3 := hW2.cell D1.out
    clear f0 f1 f2 f3 f4 f5 g0 g1 g2
    by_cases hc : r.1 = 0
    · have hc' : (r.1 != 0) = false := by rw [hc]; rfl
      have HC := Lib.hid hc
      clear hc
      go_wp2
      go_ret
      exact ⟨ret_int (by rw [HM.out, if_pos HC.out]; unfold absd; split <;> omega), hW2⟩
    · have hc' : (r.1 != 0) = true := by rw [bne_iff_ne]; exact hc
      have HC := Lib.hid hc
      clear hc
      go_wp2
      go_ret
      exact ⟨ret_int (by rw [HM.out, if_neg HC.out]; unfold absd; split <;> omega), hW2⟩

/-- What the function of a step that leaves something out reads. -/
theorem skip_walk (pp : Nat) (p : Prc) (x y : Value) (w : World) (c : w.cell? ⟨pp, 0, none⟩ = some (.int .i64 p.skip)) :
    Calls Tryz.prog 48 #[x, y, .pointer (some ⟨pp, 0, none⟩)] w fun e w' => e = .returned (.int .i64 p.skip) ∧ Ext w w' := by
  go_enter Tryz.func48, Tryz.ntmps48
  go_wp2
  go_ret
  exact ⟨rfl, Ext.refl _⟩
end Go.Proofs.YthpfalbeieloaaaGreatDoor
