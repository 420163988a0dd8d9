/-
  Walk of the reference: schismaref38.Bounds.
-/
import Derived.Test.YthomegempfedaaaDoorRfF
set_option linter.unusedVariables false
namespace Go.Proofs.YthomegempfedaaaDoor
open Go.RowKit Go.Sx Go.Sx.Sz Go.Sx.Al

set_option maxRecDepth 100000 in
set_option maxHeartbeats 8000000 in
theorem rbounds_walk (vd vh vt : Value) (ds : List Due) (hs : List Hrd) (p : Prc) (t : List (List Int)) (hok : alOk ds hs p = true) (w : World) (Sd : Sl w 7 encD vd ds) (Sh : Sl w 3 encH vh hs) (T : Tab w vt t) :
    Calls Tryd.prog 36 #[vd, vh, .agg #[.int .i64 p.skip, .int .i64 p.off], vt] w fun e w' => e = .returned (.bool (bndsB ds hs p t)) ∧ Ext w w' := by
  obtain ⟨ad, cd, rfl, -, -, -⟩ := Sd.len
  obtain ⟨ah, ch, rfl, -, -, -⟩ := Sh.len
  obtain ⟨aT, cT, rfl, -⟩ := T.len
  have hv := alOk_iff.1 hok
  have HV := Lib.hid hv
  have hdn := hv.dn; have hhn := hv.hn
  obtain ⟨hs1, hs2⟩ := hv.skip
  clear hok hv
  cases hsh : shapeB t ds.length hs.length with
  | false =>
    have HS := Lib.hid hsh
    clear hsh
    go_enter Tryd.func36, Tryd.ntmps36
    go_wp2_with fail
    refine (rshape_walk ds.length hs.length hdn hhn _ t _ (T.ext (by repeat (first | with_reducible exact Ext.refl _ | with_reducible assumption | with_reducible apply Ext.alloc | with_reducible apply Ext.drew | (with_reducible refine Ext.setCell ?_ (by (try simp) <;> omega) _))))).mono ?_
    rw [HS.out]
    rintro e w1 ⟨rfl, x1⟩
    have X1 : Ext w w1 := Ext.trans (by repeat (first | with_reducible exact Ext.refl _ | with_reducible assumption | with_reducible apply Ext.alloc | with_reducible apply Ext.drew | (with_reducible refine Ext.setCell ?_ (by (try simp) <;> omega) _))) x1
    go_wp2
    go_ret
    exact ⟨by rw [bndsB, HS.out] <;> rfl, X1⟩
  | true =>
  obtain ⟨n, hn⟩ : ∃ n, ds.length = n := ⟨_, rfl⟩
  obtain ⟨m, hm⟩ : ∃ m, hs.length = m := ⟨_, rfl⟩
  have HN := Lib.hid hn; have HM := Lib.hid hm
  rw [hn] at hdn Sd hsh; rw [hm] at hhn Sh hsh
  have hlt : t.length = n + 1 := (shape_row hsh).1
  have htb : ∀ i j, i ≤ n → j ≤ m → -1000000000 ≤ tv t i j ∧ tv t i j ≤ 1000000000 := fun i j h1 h2 => tv_bd hsh h1 h2
  rw [hlt] at T
  rw [hn, hm, hlt]
  have HS := Lib.hid hsh; have HTB := Lib.hid htb; have HLT := Lib.hid hlt
  clear hn hm hsh htb hlt
  go_enter Tryd.func36, Tryd.ntmps36
  go_wp2_with fail
  refine (rshape_walk n m hdn hhn _ t _ (T.ext (by repeat (first | with_reducible exact Ext.refl _ | with_reducible assumption | with_reducible apply Ext.alloc | with_reducible apply Ext.drew | (with_reducible refine Ext.setCell ?_ (by (try simp) <;> omega) _))))).mono ?_
  rw [HS.out]
  rintro e w1 ⟨rfl, x1⟩
  have b1 := block_ext x1 (block_new w (.cells #[.int .i64 p.skip, .int .i64 p.off] 25))
  have X1 : Ext w w1 := Ext.trans (by repeat (first | with_reducible exact Ext.refl _ | with_reducible assumption | with_reducible apply Ext.alloc | with_reducible apply Ext.drew | (with_reducible refine Ext.setCell ?_ (by (try simp) <;> omega) _))) x1
  obtain ⟨b, o, rb, ro, cr, rfl, h0, r0⟩ := (T.ext X1).read HS.out (i := n) (j := m) (Nat.le_refl _) (Nat.le_refl _)
  have q0 : (0 : Int) ≤ (n : Int) := by omega
  have q1 : (n : Int) < (n : Int) + 1 := by omega
  have q2 : (0 : Int) ≤ (m : Int) := by omega
  have q3 : (m : Int) < (m : Int) + 1 := by omega
  clear x1
  by_cases hz : 0 < tv t n m
  · go_wp2
    go_ret
    exact ⟨by rw [bndsB, HN.out, HM.out, decide_eq_false (by omega)] <;> simp, X1⟩
  · have HZ := Lib.hid hz
    have TX := T.ext X1
    have SD := Sd.ext X1
    have SH := Sh.ext X1
    have HBAD : Hid (∀ i j, i ≤ n → j ≤ m → ¬ CellG ds hs p t i j → bndsB ds hs p t = false) := Lib.hid fun i j h1 h2 h => bnds_bad (by rw [HN.out]; exact h1) (by rw [HM.out]; exact h2) h
    clear T Sd Sh
    go_wp2
    obtain ⟨N, hNn⟩ : ∃ N, w.heap.size = N := ⟨_, rfl⟩
    rw [hNn] at b1 ⊢
    clear hNn h0 r0 hz q0 q1 q2 q3
    go_loopw [12] (fun a wr => ∃ i : Nat, i ≤ n + 1 ∧ a = .int .i64 i ∧ (∀ i' j', i' < i → j' ≤ m → CellG ds hs p t i' j') ∧ Ext w1 wr) (fun a _ => n + 1 - (intOf a).toNat)
    case atStart => exact ⟨0, by omega, rfl, fun i j h => by omega, Ext.refl _⟩
    case round =>
      obtain ⟨i, hi, rfl, hall, X⟩ := hrel
      have HA := Lib.hid hall
      clear hall
      by_cases hin : i < n + 1
      · have d36 : decide (i ≤ n) = true := decide_eq_true (by omega)
        go_wp2
        go_loopw [13] (fun a w5 => ∃ j : Nat, j ≤ m + 1 ∧ a = .int .i64 j ∧ (∀ j', j' < j → CellG ds hs p t i j') ∧ Ext w1 w5) (fun a _ => m + 1 - (intOf a).toNat)
        case atStart => exact ⟨0, by omega, rfl, fun j h => by omega, X⟩
        case round =>
          clear X
          obtain ⟨j, hj, rfl, hall, X⟩ := hrel
          have HJ := Lib.hid hall
          clear hall
          by_cases hjm : j < m + 1
          · have TR := TX.ext X
            obtain ⟨b', o', rb, ro, cr, e', h0, r0⟩ := TR.read HS.out (i := i) (j := j) (by omega) (by omega)
            cases e'
            have t0 := HTB.out i j (by omega) (by omega)
            have p0 := block_cell (block_ext X b1) 0 (.int .i64 p.skip) rfl
            have p1 := block_cell (block_ext X b1) 1 (.int .i64 p.off) rfl
            have i0 : (0 : Int) ≤ (i : Int) := by omega
            have j0 : (0 : Int) ≤ (j : Int) := by omega
            have i1 : (i : Int) < (n : Int) + 1 := by omega
            have j1 : (j : Int) < (m : Int) + 1 := by omega
            have i2 : (0 : Int) ≤ (i : Int) + 1 := by omega
            have j2 : (0 : Int) ≤ (j : Int) + 1 := by omega
            have ei : IntKind.i64.wrap ((i : Int) + 1) = (i : Int) + 1 := IntWalk.i64_in _ (by omega)
            have ej : IntKind.i64.wrap ((j : Int) + 1) = (j : Int) + 1 := IntWalk.i64_in _ (by omega)
            have HX := Lib.hid (X1.trans X)
            obtain ⟨wo, rfl⟩ : ∃ wo : World, wo = wr := ⟨_, rfl⟩
            have hnext : CellG ds hs p t i j → ∀ j', j' < j + 1 → CellG ds hs p t i j' := fun h j' hj' => by
              rcases Nat.lt_or_ge j' j with h1 | h1
              · exact HJ.out j' h1
              · obtain rfl : j' = j := by omega
                exact h
            have HNX := Lib.hid hnext
            clear hnext
            by_cases hil : i < n
            · have di : decide ((i : Int) < (n : Int)) = true := decide_eq_true (by omega)
              have kd : i < ds.length := by rw [HN.out]; exact hil
              have i3 : (i : Int) + 1 < (n : Int) + 1 := by omega
              obtain ⟨b', o', rb1, ro1, cr1, e', h1, r1⟩ := TR.read HS.out (i := i + 1) (j := j) (by omega) (by omega)
              cases e'
              have t1 := HTB.out (i + 1) j (by omega) (by omega)
              have es : IntKind.i64.wrap (p.skip + tv t (i + 1) j) = p.skip + tv t (i + 1) j := IntWalk.i64_in _ (by omega)
              by_cases g1 : p.skip + tv t (i + 1) j < tv t i j
              · have y1 : decide (p.skip + tv t (i + 1) j < tv t i j) = true := decide_eq_true g1
                have hbb := HBAD.out i j (by omega) (by omega) (fun h => by have := h.due kd; omega)
                have HBB := Lib.hid hbb
                clear hbb TR kd
                go_wp2
                go_quiet (fail)
                go_wp2
                go_ret
                exact ⟨by rw [HBB.out] <;> rfl, HX.out.drewN _⟩
              · have y1 : decide (p.skip + tv t (i + 1) j < tv t i j) = false := decide_eq_false g1
                by_cases hjl : j < m
                · have dj : decide ((j : Int) < (m : Int)) = true := decide_eq_true (by omega)
                  have kh : j < hs.length := by rw [HM.out]; exact hjl
                  have j3 : (j : Int) + 1 < (m : Int) + 1 := by omega
                  obtain ⟨b', o', rb2, ro2, cr2, e', h2, r2⟩ := TR.read HS.out (i := i) (j := j + 1) (by omega) (by omega)
                  cases e'
                  obtain ⟨rfl, rfl, rfl⟩ : rb2 = rb ∧ ro2 = ro ∧ cr2 = cr := by
                    rw [h0] at h2; cases h2; exact ⟨rfl, rfl, rfl⟩
                  have t2 := HTB.out i (j + 1) (by omega) (by omega)
                  have es2 : IntKind.i64.wrap (p.skip + tv t i (j + 1)) = p.skip + tv t i (j + 1) := IntWalk.i64_in _ (by omega)
                  by_cases g2 : p.skip + tv t i (j + 1) < tv t i j
                  · have y2 : decide (p.skip + tv t i (j + 1) < tv t i j) = true := decide_eq_true g2
                    have hbb := HBAD.out i j (by omega) (by omega) (fun h => by have := h.tone kh; omega)
                    have HBB := Lib.hid hbb
                    clear hbb TR kd kh h2
                    go_wp2
                    go_quiet (fail)
                    go_wp2
                    go_ret
                    exact ⟨by rw [HBB.out] <;> rfl, HX.out.drewN _⟩
                  · have y2 : decide (p.skip + tv t i (j + 1) < tv t i j) = false := decide_eq_false g2
                    obtain ⟨b', o', rb3, ro3, cr3, e', h3, r3⟩ := TR.read HS.out (i := i + 1) (j := j + 1) (by omega) (by omega)
                    cases e'
                    obtain ⟨rfl, rfl, rfl⟩ : rb3 = rb1 ∧ ro3 = ro1 ∧ cr3 = cr1 := by
                      rw [h1] at h3; cases h3; exact ⟨rfl, rfl, rfl⟩
                    have t3 := HTB.out (i + 1) (j + 1) (by omega) (by omega)
                    obtain ⟨bd, od, rfl, d0, d1, d2, d3, d4, d5, d6⟩ := Sl.due (SD.ext X) i kd
                    obtain ⟨bh, oh, rfl, v0, v1, v2⟩ := Sl.hrd (SH.ext X) j kh
                    have d1b := HV.out.dt _ (List.getElem_mem kd)
                    have h1b := HV.out.ht _ (List.getElem_mem kh)
                    have hob := HV.out.off
                    have hmb := mc_bd d1b h1b hob
                    have M := Lib.hid (fun w' => rmatch_walk ds[i] hs[j] p d1b h1b hob w')
                    have hcell : (tv t i j ≤ mc p ds[i] hs[j] + tv t (i + 1) (j + 1)) ↔ CellG ds hs p t i j := ⟨fun h => ⟨fun _ => by omega, fun _ => by omega, fun _ _ => h⟩, fun h => h.both kd kh⟩
                    have HCELL := Lib.hid hcell
                    obtain ⟨mx, hmx⟩ : ∃ x, mc p ds[i] hs[j] = x := ⟨_, rfl⟩
                    rw [hmx] at hmb
                    have hcell' : Hid ((tv t i j ≤ mx + tv t (i + 1) (j + 1)) ↔ CellG ds hs p t i j) := by rw [← hmx]; exact HCELL
                    obtain ⟨du, hdu⟩ : ∃ d, ds[i] = d := ⟨_, rfl⟩
                    obtain ⟨hu, hhu⟩ : ∃ d, hs[j] = d := ⟨_, rfl⟩
                    rw [hdu] at d0 d1 d2 d3 d4 d5 d6 hmx M
                    rw [hhu] at v0 v1 v2 hmx M
                    have es3 : IntKind.i64.wrap (mx + tv t (i + 1) (j + 1)) = mx + tv t (i + 1) (j + 1) := IntWalk.i64_in _ (by omega)
                    have HMX := Lib.hid hmx
                    have D0 := Lib.hid d0; have D1 := Lib.hid d1; have D2 := Lib.hid d2; have D3 := Lib.hid d3; have D4 := Lib.hid d4; have D5 := Lib.hid d5; have D6 := Lib.hid d6
                    have V0 := Lib.hid v0; have V1 := Lib.hid v1; have V2 := Lib.hid v2
                    have E0 := Lib.hid h0; have E1 := Lib.hid h1; have Q0 := Lib.hid r0; have Q3 := Lib.hid r3; have P0 := Lib.hid p0; have P1 := Lib.hid p1
                    clear TR kd kh h2 h3 hcell HCELL hmx hdu hhu d1b h1b hob d0 d1 d2 d3 d4 d5 d6 v0 v1 v2 r3
                    go_wp2
                    go_quiet (fail)
                    go_wp2
                    obtain ⟨W, hW⟩ : ∃ W, wo.drewN nq = W := ⟨_, rfl⟩
                    have xW : Ext wo W := by rw [← hW]; exact (Ext.refl _).drewN _
                    rw [hW]
                    have k0 := ext_cells (xW.cell D0.out); have k1 := ext_cells (xW.cell D1.out); have k2 := ext_cells (xW.cell D2.out); have k3 := ext_cells (xW.cell D3.out); have k4 := ext_cells (xW.cell D4.out); have k5 := ext_cells (xW.cell D5.out); have k6 := ext_cells (xW.cell D6.out)
                    have l0 := ext_cells (xW.cell V0.out); have l1 := ext_cells (xW.cell V1.out); have l2 := ext_cells (xW.cell V2.out)
                    have f0 := ext_cells (xW.cell E0.out); have f1 := ext_cells (xW.cell E1.out); have f2 := ext_cells (xW.cell Q0.out); have f3 := ext_cells (xW.cell Q3.out); have f4 := ext_cells (xW.cell P0.out); have f5 := ext_cells (xW.cell P1.out)
                    clear h0 h1 r0 r1 r2 p0 p1 hW
                    by_cases g3 : mx + tv t (i + 1) (j + 1) < tv t i j
                    · have y3 : decide (mx + tv t (i + 1) (j + 1) < tv t i j) = true := decide_eq_true g3
                      have hbb := HBAD.out i j (by omega) (by omega) (fun h => by have := hcell'.out.2 h; omega)
                      have HBB := Lib.hid hbb
                      clear hbb g3
                      refine wp_region_ord [(0,true), (1,true), (2,true), (3,true), (4,true), (5,true), (6,true), (7,true), (8,true), (9,true), (10,true), (11,true), (12,true), (13,true), (14,true), (15,true), (16,true), (17,true), (18,true), (19,true), (20,true), (21,true), (22,true), (23,true), (24,true), (25,true), (26,true), (27,true), (28,true), (29,true), (30,true), (31,true), (32,true), (33,true), (34,true), (35,true), (36,true), (37,true)] 38 Ext (Ext W) wide (by kernel_rfl) (stable_ext _) (Ext.drawn _ _) ?_
                      iterate 4 (apply wpOrd_det rfl rfl; (intro w' hw'; unfold opR; go_simp; exact ⟨Ext.refl _, rfl⟩); (simp only [List.getElem_toArray, List.getElem_cons_succ, List.getElem_cons_zero, Act.put, List.setIfInBounds_toArray, List.set_cons_succ, List.set_cons_zero]; rfl))
                      iterate 3 (apply wpOrd_yes rfl (by rfl); (intro w' hw'; unfold opR; go_simp; exact ⟨Ext.refl _, rfl⟩); (simp only [List.getElem_toArray, List.getElem_cons_succ, List.getElem_cons_zero, Act.put, List.setIfInBounds_toArray, List.set_cons_succ, List.set_cons_zero]; rfl))
                      iterate 2 (apply wpOrd_det rfl rfl; (intro w' hw'; unfold opR; go_simp; exact ⟨Ext.refl _, rfl⟩); (simp only [List.getElem_toArray, List.getElem_cons_succ, List.getElem_cons_zero, Act.put, List.setIfInBounds_toArray, List.set_cons_succ, List.set_cons_zero]; rfl))
                      iterate 16 (apply wpOrd_yes rfl (by rfl); (intro w' hw'; unfold opR; go_simp; exact ⟨Ext.refl _, rfl⟩); (simp only [List.getElem_toArray, List.getElem_cons_succ, List.getElem_cons_zero, Act.put, List.setIfInBounds_toArray, List.set_cons_succ, List.set_cons_zero]; rfl))
                      (apply wpOrd_yes rfl (by rfl); (intro w' hw'; refine opR_call rfl (Go.Proofs.enters_of Tryd.func31 (by kernel_rfl) rfl) (by simp only [List.map_toArray, List.map_cons, List.map_nil, Act.eval, Array.getD_eq_getD_getElem?, List.getElem?_toArray, List.getElem?_cons_succ, List.getElem?_cons_zero, Option.getD_some]; rfl) ?_; refine (M.out w').mono ?_; rw [HMX.out]; rintro e w4 ⟨rfl, hx⟩; exact ⟨_, rfl, hx, rfl⟩); (simp only [List.getElem_toArray, List.getElem_cons_succ, List.getElem_cons_zero, Act.put, List.setIfInBounds_toArray, List.set_cons_succ, List.set_cons_zero]; rfl))
                      iterate 11 (apply wpOrd_yes rfl (by rfl); (intro w' hw'; unfold opR; go_simp; exact ⟨Ext.refl _, rfl⟩); (simp only [List.getElem_toArray, List.getElem_cons_succ, List.getElem_cons_zero, Act.put, List.setIfInBounds_toArray, List.set_cons_succ, List.set_cons_zero]; rfl))
                      (apply wpOrd_det rfl rfl; (intro w' hw'; unfold opR; go_simp; exact ⟨Ext.refl _, rfl⟩); (simp only [List.getElem_toArray, List.getElem_cons_succ, List.getElem_cons_zero, Act.put, List.setIfInBounds_toArray, List.set_cons_succ, List.set_cons_zero]; rfl))
                      refine wpOrd_nil rfl ?_
                      intro W1 hW1
                      clear k0 k1 k2 k3 k4 k5 k6 l0 l1 l2 f0 f1 f2 f3 f4 f5
                      go_wp2
                      go_ret
                      exact ⟨by rw [HBB.out] <;> rfl, (HX.out.trans xW).trans hW1⟩
                    · have y3 : decide (mx + tv t (i + 1) (j + 1) < tv t i j) = false := decide_eq_false g3
                      have hg := hcell'.out.1 (by omega)
                      have HG := Lib.hid hg
                      clear hg g3
                      refine wp_region_ord [(0,true), (1,true), (2,true), (3,true), (4,true), (5,true), (6,true), (7,true), (8,true), (9,true), (10,true), (11,true), (12,true), (13,true), (14,true), (15,true), (16,true), (17,true), (18,true), (19,true), (20,true), (21,true), (22,true), (23,true), (24,true), (25,true), (26,true), (27,true), (28,true), (29,true), (30,true), (31,true), (32,true), (33,true), (34,true), (35,true), (36,true), (37,true)] 38 Ext (Ext W) wide (by kernel_rfl) (stable_ext _) (Ext.drawn _ _) ?_
                      iterate 4 (apply wpOrd_det rfl rfl; (intro w' hw'; unfold opR; go_simp; exact ⟨Ext.refl _, rfl⟩); (simp only [List.getElem_toArray, List.getElem_cons_succ, List.getElem_cons_zero, Act.put, List.setIfInBounds_toArray, List.set_cons_succ, List.set_cons_zero]; rfl))
                      iterate 3 (apply wpOrd_yes rfl (by rfl); (intro w' hw'; unfold opR; go_simp; exact ⟨Ext.refl _, rfl⟩); (simp only [List.getElem_toArray, List.getElem_cons_succ, List.getElem_cons_zero, Act.put, List.setIfInBounds_toArray, List.set_cons_succ, List.set_cons_zero]; rfl))
                      iterate 2 (apply wpOrd_det rfl rfl; (intro w' hw'; unfold opR; go_simp; exact ⟨Ext.refl _, rfl⟩); (simp only [List.getElem_toArray, List.getElem_cons_succ, List.getElem_cons_zero, Act.put, List.setIfInBounds_toArray, List.set_cons_succ, List.set_cons_zero]; rfl))
                      iterate 16 (apply wpOrd_yes rfl (by rfl); (intro w' hw'; unfold opR; go_simp; exact ⟨Ext.refl _, rfl⟩); (simp only [List.getElem_toArray, List.getElem_cons_succ, List.getElem_cons_zero, Act.put, List.setIfInBounds_toArray, List.set_cons_succ, List.set_cons_zero]; rfl))
                      (apply wpOrd_yes rfl (by rfl); (intro w' hw'; refine opR_call rfl (Go.Proofs.enters_of Tryd.func31 (by kernel_rfl) rfl) (by simp only [List.map_toArray, List.map_cons, List.map_nil, Act.eval, Array.getD_eq_getD_getElem?, List.getElem?_toArray, List.getElem?_cons_succ, List.getElem?_cons_zero, Option.getD_some]; rfl) ?_; refine (M.out w').mono ?_; rw [HMX.out]; rintro e w4 ⟨rfl, hx⟩; exact ⟨_, rfl, hx, rfl⟩); (simp only [List.getElem_toArray, List.getElem_cons_succ, List.getElem_cons_zero, Act.put, List.setIfInBounds_toArray, List.set_cons_succ, List.set_cons_zero]; rfl))
                      iterate 11 (apply wpOrd_yes rfl (by rfl); (intro w' hw'; unfold opR; go_simp; exact ⟨Ext.refl _, rfl⟩); (simp only [List.getElem_toArray, List.getElem_cons_succ, List.getElem_cons_zero, Act.put, List.setIfInBounds_toArray, List.set_cons_succ, List.set_cons_zero]; rfl))
                      (apply wpOrd_det rfl rfl; (intro w' hw'; unfold opR; go_simp; exact ⟨Ext.refl _, rfl⟩); (simp only [List.getElem_toArray, List.getElem_cons_succ, List.getElem_cons_zero, Act.put, List.setIfInBounds_toArray, List.set_cons_succ, List.set_cons_zero]; rfl))
                      refine wpOrd_nil rfl ?_
                      intro W1 hW1
                      clear k0 k1 k2 k3 k4 k5 k6 l0 l1 l2 f0 f1 f2 f3 f4 f5
                      go_wp2
                      go_roundw
                      case rel => exact ⟨j + 1, by omega, by go_num, HNX.out HG.out, (X.trans xW).trans hW1⟩
                      case measure => simp [intOf] <;> omega
                · have dj : decide ((j : Int) < (m : Int)) = false := decide_eq_false (by omega)
                  have hg : CellG ds hs p t i j := ⟨fun _ => by omega, fun h => by rw [HM.out] at h; omega, fun _ h => by rw [HM.out] at h; omega⟩
                  have HG := Lib.hid hg
                  clear hg TR kd
                  go_wp2
                  go_quiet (fail)
                  go_wp2
                  go_quiet (fail)
                  go_wp2
                  go_roundw
                  case rel => exact ⟨j + 1, by omega, by go_num, HNX.out HG.out, X.drewN _⟩
                  case measure => simp [intOf] <;> omega
            · have di : decide ((i : Int) < (n : Int)) = false := decide_eq_false (by omega)
              by_cases hjl : j < m
              · have dj : decide ((j : Int) < (m : Int)) = true := decide_eq_true (by omega)
                have kh : j < hs.length := by rw [HM.out]; exact hjl
                have j3 : (j : Int) + 1 < (m : Int) + 1 := by omega
                obtain ⟨b', o', rb2, ro2, cr2, e', h2, r2⟩ := TR.read HS.out (i := i) (j := j + 1) (by omega) (by omega)
                cases e'
                obtain ⟨rfl, rfl, rfl⟩ : rb2 = rb ∧ ro2 = ro ∧ cr2 = cr := by
                  rw [h0] at h2; cases h2; exact ⟨rfl, rfl, rfl⟩
                have t2 := HTB.out i (j + 1) (by omega) (by omega)
                have es2 : IntKind.i64.wrap (p.skip + tv t i (j + 1)) = p.skip + tv t i (j + 1) := IntWalk.i64_in _ (by omega)
                by_cases g2 : p.skip + tv t i (j + 1) < tv t i j
                · have y2 : decide (p.skip + tv t i (j + 1) < tv t i j) = true := decide_eq_true g2
                  have hbb := HBAD.out i j (by omega) (by omega) (fun h => by have := h.tone kh; omega)
                  have HBB := Lib.hid hbb
                  clear hbb TR kh h2
                  go_wp2
                  go_quiet (fail)
                  go_wp2
                  go_ret
                  exact ⟨by rw [HBB.out] <;> rfl, HX.out.drewN _⟩
                · have y2 : decide (p.skip + tv t i (j + 1) < tv t i j) = false := decide_eq_false g2
                  have hg : CellG ds hs p t i j := ⟨fun h => by rw [HN.out] at h; omega, fun _ => by omega, fun h _ => by rw [HN.out] at h; omega⟩
                  have HG := Lib.hid hg
                  clear hg TR kh h2
                  go_wp2
                  go_quiet (fail)
                  go_wp2
                  go_quiet (fail)
                  go_wp2
                  go_roundw
                  case rel => exact ⟨j + 1, by omega, by go_num, HNX.out HG.out, X.drewN _⟩
                  case measure => simp [intOf] <;> omega
              · have dj : decide ((j : Int) < (m : Int)) = false := decide_eq_false (by omega)
                have hg : CellG ds hs p t i j := ⟨fun h => by rw [HN.out] at h; omega, fun h => by rw [HM.out] at h; omega, fun h _ => by rw [HN.out] at h; omega⟩
                have HG := Lib.hid hg
                clear hg TR
                go_wp2
                go_quiet (fail)
                go_wp2
                go_quiet (fail)
                go_wp2
                go_roundw
                case rel => exact ⟨j + 1, by omega, by go_num, HNX.out HG.out, X.drewN _⟩
                case measure => simp [intOf] <;> omega
          · obtain rfl : j = m + 1 := by omega
            go_wp2
            go_roundw
            case rel => exact ⟨i + 1, by omega, by go_num, fun i' j' h1 h2 => by
              rcases Nat.lt_or_ge i' i with h3 | h3
              · exact HA.out i' j' h3 h2
              · obtain rfl : i' = i := by omega
                exact HJ.out j' (by omega), X⟩
            case measure => simp [intOf] <;> omega
      · obtain rfl : i = n + 1 := by omega
        have hg : bndsB ds hs p t = true := bnds_good (by rw [HN.out, HM.out]; exact HS.out) (by rw [HN.out, HM.out]; have := HZ.out; omega) (fun i j h1 h2 => HA.out i j (by rw [HN.out] at h1; omega) (by rw [HM.out] at h2; omega))
        have HG := Lib.hid hg
        clear hg
        go_wp2
        go_ret
        exact ⟨by rw [HG.out] <;> rfl, X1.trans X⟩
end Go.Proofs.YthomegempfedaaaDoor
