/-
  Walk of the reference: schismaref38.Align.
-/
import Derived.Test.YthomegempfedaaaDoorRfD
import Derived.Test.YthomegempfedaaaDoorAlPrf
set_option linter.unusedVariables false
namespace Go.Proofs.YthomegempfedaaaDoor
open Go.RowKit Go.Sx Go.Sx.Sz Go.Sx.Al

theorem path_step0 {ds : List Due} {hs : List Hrd} {p : Prc} {i j f : Nat} (h1 : i < ds.length) (h2 : j < hs.length) (h : tab ds hs p i j = mc p ds[i] hs[j] + tab ds hs p (i + 1) (j + 1)) : path ds hs p (f + 1) i j = ⟨i, j⟩ :: path ds hs p f (i + 1) (j + 1) := by
  rw [path, if_pos ⟨h1, h2, by
    rw [List.getD_eq_getElem?_getD, List.getD_eq_getElem?_getD, List.getElem?_eq_getElem h1, List.getElem?_eq_getElem h2]; exact h⟩]
theorem path_step1 {ds : List Due} {hs : List Hrd} {p : Prc} {i j f : Nat} (h0 : ∀ (h1 : i < ds.length) (h2 : j < hs.length), ¬ tab ds hs p i j = mc p ds[i] hs[j] + tab ds hs p (i + 1) (j + 1)) (h1 : i < ds.length) (h : tab ds hs p i j = p.skip + tab ds hs p (i + 1) j) : path ds hs p (f + 1) i j = path ds hs p f (i + 1) j := by
  rw [path, if_neg (fun ⟨a, b, c⟩ => h0 a b (by
    rw [List.getD_eq_getElem?_getD, List.getD_eq_getElem?_getD, List.getElem?_eq_getElem a, List.getElem?_eq_getElem b] at c; exact c)), if_pos ⟨h1, h⟩]
theorem path_step2 {ds : List Due} {hs : List Hrd} {p : Prc} {i j f : Nat} (h0 : ∀ (h1 : i < ds.length) (h2 : j < hs.length), ¬ tab ds hs p i j = mc p ds[i] hs[j] + tab ds hs p (i + 1) (j + 1)) (h1 : ¬ (i < ds.length ∧ tab ds hs p i j = p.skip + tab ds hs p (i + 1) j)) : path ds hs p (f + 1) i j = path ds hs p f i (j + 1) := by
  rw [path, if_neg (fun ⟨a, b, c⟩ => h0 a b (by
    rw [List.getD_eq_getElem?_getD, List.getD_eq_getElem?_getD, List.getElem?_eq_getElem a, List.getElem?_eq_getElem b] at c; exact c)), if_neg h1]

set_option maxRecDepth 100000 in
set_option maxHeartbeats 8000000 in
theorem raligny_walk (vd vh : Value) (ds : List Due) (hs : List Hrd) (p : Prc) (hok : alOk ds hs p = true) (w : World) (Sd : Sl w 7 encD vd ds) (Sh : Sl w 3 encH vh hs) :
    Calls Tryd.prog 17 #[vd, vh, .agg #[.int .i64 p.skip, .int .i64 p.off]] w fun e w' => ∃ vl vt, e = .returned (.tuple #[vl, .int .i64 (tab ds hs p 0 0), vt, .int .i64 0]) ∧ Sl w' 2 encM vl (pathL ds hs p) ∧ Tab w' vt (tableL ds hs p) ∧ Ext w w' := by
  obtain ⟨ad, cd, rfl, -, -, -⟩ := Sd.len
  obtain ⟨ah, ch, rfl, -, -, -⟩ := Sh.len
  have hv := alOk_iff.1 hok
  have HO := Lib.hid hok
  have HV := Lib.hid hv
  have hdn := hv.dn; have hhn := hv.hn
  have hsh := shape_table hv
  have htv : ∀ i j, i ≤ ds.length → j ≤ hs.length → tv (tableL ds hs p) i j = tab ds hs p i j := fun i j h1 h2 => tv_table h1 h2
  have hsm : ∀ i j, i ≤ ds.length → j ≤ hs.length → 0 ≤ tab ds hs p i j ∧ tab ds hs p i j ≤ 200000000 := fun i j h1 h2 => tab_small hv h1 h2
  obtain ⟨hs1, hs2⟩ := hv.skip
  clear hok hv
  obtain ⟨n, hn⟩ : ∃ n, ds.length = n := ⟨_, rfl⟩
  obtain ⟨m, hm⟩ : ∃ m, hs.length = m := ⟨_, rfl⟩
  have hpl : pathL ds hs p = path ds hs p (n + m) 0 0 := by rw [pathL, hn, hm]
  have hpe : ∀ f, path ds hs p f n m = [] := fun f => path_end ds hs p f n m (by omega) (by omega)
  have hlt : (tableL ds hs p).length = n + 1 := by rw [tableL, hn]; simp
  have HN := Lib.hid hn; have HM := Lib.hid hm
  rw [hn] at hdn Sd htv hsm hsh; rw [hm] at hhn Sh htv hsm hsh
  rw [hn, hm]
  have HSH := Lib.hid hsh; have HTV := Lib.hid htv; have HSM := Lib.hid hsm; have HPL := Lib.hid hpl; have HPE := Lib.hid hpe; have HLT := Lib.hid hlt
  clear hn hm hsh htv hsm hpl hpe hlt
  go_enter Tryd.func17, Tryd.ntmps17
  go_wp2_with fail
  refine (rvalid_walk _ _ ds hs p _ (Sd.ext (by repeat (first | with_reducible exact Ext.refl _ | with_reducible assumption | with_reducible apply Ext.alloc | with_reducible apply Ext.drew | (with_reducible refine Ext.setCell ?_ (by (try simp) <;> omega) _)))) (Sh.ext (by repeat (first | with_reducible exact Ext.refl _ | with_reducible assumption | with_reducible apply Ext.alloc | with_reducible apply Ext.drew | (with_reducible refine Ext.setCell ?_ (by (try simp) <;> omega) _))))).mono ?_
  rw [HO.out]
  rintro e w1 ⟨rfl, x1⟩
  have b1 := block_ext x1 (block_new w (.cells #[.int .i64 p.skip, .int .i64 p.off] 25))
  have X1 : Ext w w1 := Ext.trans (by repeat (first | with_reducible exact Ext.refl _ | with_reducible assumption | with_reducible apply Ext.alloc | with_reducible apply Ext.drew | (with_reducible refine Ext.setCell ?_ (by (try simp) <;> omega) _))) x1
  have c0 := block_cell b1 0 (.int .i64 p.skip) rfl
  have c1 := block_cell b1 1 (.int .i64 p.off) rfl
  clear x1
  go_wp2_with fail
  refine (rtable_walk _ _ ds hs p HO.out _ (Sd.ext X1) (Sh.ext X1)).mono ?_
  rintro e w2 ⟨vt, rfl, TT, x2⟩
  have X2 : Ext w w2 := X1.trans x2
  replace b1 := block_ext x2 b1
  have SD := Sd.ext X2
  have SH := Sh.ext X2
  obtain ⟨aT, cT, rfl, -⟩ := TT.len
  rw [HLT.out] at TT ⊢
  clear x2 Sd Sh X1 c0 c1
  go_wp2
  obtain ⟨N, hN⟩ : ∃ N, w.heap.size = N := ⟨_, rfl⟩
  rw [hN] at b1 ⊢
  have HNN := Lib.hid hN
  clear hN
  go_loopw [14, 15, 16] (fun v a b wr => ∃ (i j f : Nat) (l : List Mt), a = .int .i64 i ∧ b = .int .i64 j ∧ i ≤ n ∧ j ≤ m ∧ n - i + (m - j) ≤ f ∧ l.length ≤ i ∧ OwnR wr w2.heap.size 56 2 encM v l ∧ pathL ds hs p = l ++ path ds hs p f i j ∧ Ext w2 wr) (fun _ a b _ => (n + m - intOf a - intOf b).toNat)
  case atStart => exact ⟨0, 0, n + m, [], rfl, rfl, by omega, by omega, by omega, by simp, OwnR.nil, by rw [HPL.out]; rfl, Ext.refl _⟩
  case round =>
    obtain ⟨i, j, f, l, rfl, rfl, hi, hj, hf, hll, own, hpath, X⟩ := hrel
    have HP := Lib.hid hpath
    have TR := TT.ext X
    obtain ⟨b, o, rb, ro, cr, rfl, h0, r0⟩ := TR.read HSH.out hi hj
    rw [HTV.out i j hi hj] at r0
    have t0 := HSM.out i j hi hj
    have p0 := block_cell (block_ext X b1) 0 (.int .i64 p.skip) rfl
    have p1 := block_cell (block_ext X b1) 1 (.int .i64 p.off) rfl
    have i0 : (0 : Int) ≤ (i : Int) := by omega
    have j0 : (0 : Int) ≤ (j : Int) := by omega
    have i1 : (i : Int) < (n : Int) + 1 := by omega
    have j1 : (j : Int) < (m : Int) + 1 := by omega
    have i2 : (0 : Int) ≤ (i : Int) + 1 := by omega
    have j2 : (0 : Int) ≤ (j : Int) + 1 := by omega
    have ei : IntKind.i64.wrap ((i : Int) + 1) = (i : Int) + 1 := IntWalk.i64_in _ (by omega)
    have ej : IntKind.i64.wrap ((j : Int) + 1) = (j : Int) + 1 := IntWalk.i64_in _ (by omega)
    clear hpath
    obtain ⟨wo, rfl⟩ : ∃ wo : World, wo = wr := ⟨_, rfl⟩
    by_cases hin : i < n
    · have di : decide ((i : Int) < (n : Int)) = true := decide_eq_true (by omega)
      have i3 : (i : Int) + 1 < (n : Int) + 1 := by omega
      obtain ⟨b', o', rb1, ro1, cr1, e', h1, r1⟩ := TR.read HSH.out (i := i + 1) (by omega) hj
      cases e'
      rw [HTV.out (i + 1) j (by omega) hj] at r1
      have t1 := HSM.out (i + 1) j (by omega) hj
      have es : IntKind.i64.wrap (p.skip + tab ds hs p (i + 1) j) = p.skip + tab ds hs p (i + 1) j := IntWalk.i64_in _ (by omega)
      have kd : i < ds.length := by rw [HN.out]; exact hin
      by_cases hjm : j < m
      · have dj : decide ((j : Int) < (m : Int)) = true := decide_eq_true (by omega)
        have j3 : (j : Int) + 1 < (m : Int) + 1 := by omega
        obtain ⟨b', o', rb2, ro2, cr2, e', h2, r2⟩ := TR.read HSH.out (i := i + 1) (j := j + 1) (by omega) (by omega)
        cases e'
        rw [HTV.out (i + 1) (j + 1) (by omega) (by omega)] at r2
        obtain ⟨rfl, rfl, rfl⟩ : rb2 = rb1 ∧ ro2 = ro1 ∧ cr2 = cr1 := by
          rw [h1] at h2; cases h2; exact ⟨rfl, rfl, rfl⟩
        have t2 := HSM.out (i + 1) (j + 1) (by omega) (by omega)
        have kh : j < hs.length := by rw [HM.out]; exact hjm
        obtain ⟨bd, od, rfl, d0, d1, d2, d3, d4, d5, d6⟩ := Sl.due (SD.ext X) i kd
        obtain ⟨bh, oh, rfl, v0, v1, v2⟩ := Sl.hrd (SH.ext X) j kh
        have d1b := HV.out.dt _ (List.getElem_mem kd)
        have h1b := HV.out.ht _ (List.getElem_mem kh)
        have hob := HV.out.off
        have hmb := mc_bd d1b h1b hob
        have M := Lib.hid (fun w' => rmatch_walk ds[i] hs[j] p d1b h1b hob w')
        have S0 := Lib.hid (fun f => @path_step0 ds hs p i j f)
        have S1 := Lib.hid (fun f => @path_step1 ds hs p i j f)
        have S2 := Lib.hid (fun f => @path_step2 ds hs p i j f)
        obtain ⟨mx, hmx⟩ : ∃ x, mc p ds[i] hs[j] = x := ⟨_, rfl⟩
        obtain ⟨du, hdu⟩ : ∃ d, ds[i] = d := ⟨_, rfl⟩
        obtain ⟨hu, hhu⟩ : ∃ d, hs[j] = d := ⟨_, rfl⟩
        rw [hmx] at hmb
        have es2 : IntKind.i64.wrap (mx + tab ds hs p (i + 1) (j + 1)) = mx + tab ds hs p (i + 1) (j + 1) := IntWalk.i64_in _ (by omega)
        have S0' : Hid (∀ f, tab ds hs p i j = mx + tab ds hs p (i + 1) (j + 1) → path ds hs p (f + 1) i j = ⟨i, j⟩ :: path ds hs p f (i + 1) (j + 1)) := Lib.hid fun f h => S0.out f kd kh (by rw [hmx]; exact h)
        have S1' : Hid (∀ f, ¬ tab ds hs p i j = mx + tab ds hs p (i + 1) (j + 1) → tab ds hs p i j = p.skip + tab ds hs p (i + 1) j → path ds hs p (f + 1) i j = path ds hs p f (i + 1) j) := Lib.hid fun f h h' => S1.out f (fun _ _ => by rw [hmx]; exact h) kd h'
        have S2' : Hid (∀ f, ¬ tab ds hs p i j = mx + tab ds hs p (i + 1) (j + 1) → ¬ tab ds hs p i j = p.skip + tab ds hs p (i + 1) j → path ds hs p (f + 1) i j = path ds hs p f i (j + 1)) := Lib.hid fun f h h' => S2.out f (fun _ _ => by rw [hmx]; exact h) (fun ⟨_, k⟩ => h' k)
        rw [hdu] at d0 d1 d2 d3 d4 d5 d6 hmx M
        rw [hhu] at v0 v1 v2 hmx M
        have HMX := Lib.hid hmx
        obtain ⟨T0, hT0⟩ : ∃ x, tab ds hs p i j = x := ⟨_, rfl⟩
        obtain ⟨T1, hT1⟩ : ∃ x, tab ds hs p (i + 1) j = x := ⟨_, rfl⟩
        obtain ⟨T2, hT2⟩ : ∃ x, tab ds hs p (i + 1) (j + 1) = x := ⟨_, rfl⟩
        rw [hT0] at r0 t0 S0' S1' S2'
        rw [hT1] at r1 t1 es S1' S2'
        rw [hT2] at r2 t2 es2 S0' S1' S2'
        obtain ⟨g, rfl⟩ : ∃ g, f = g + 1 := ⟨f - 1, by omega⟩
        clear hmx hdu hhu d1b h1b hob S0 S1 S2 hT0 hT1 hT2 h2 TR kd kh
        have f0 := ext_cells h0; have f1 := ext_cells r0; have f2 := ext_cells h1; have f3 := ext_cells r1; have f4 := ext_cells r2; have f5 := ext_cells p0; have f6 := ext_cells p1
        have k0 := ext_cells d0; have k1 := ext_cells d1; have k2 := ext_cells d2; have k3 := ext_cells d3; have k4 := ext_cells d4; have k5 := ext_cells d5; have k6 := ext_cells d6
        have y0 := ext_cells v0; have y1 := ext_cells v1; have y2 := ext_cells v2
        have OW := Lib.hid own
        have HH0 := Lib.hid h0; have HR0 := Lib.hid r0; have HH1 := Lib.hid h1; have HR1 := Lib.hid r1; have HP0 := Lib.hid p0
        clear d0 d1 d2 d3 d4 d5 d6 v0 v1 v2 h0 r0 h1 r1 r2 p0 p1 own
        by_cases hm1 : T0 = mx + T2
        · have bm : (T0 == mx + T2) = true := by rw [beq_iff_eq]; exact hm1
          have hp1 := S0'.out g hm1
          have HP1 : Hid (pathL ds hs p = (l ++ [⟨i, j⟩]) ++ path ds hs p g (i + 1) (j + 1)) := Lib.hid (by rw [HP.out, hp1, List.append_assoc]; rfl)
          clear hm1 hp1 S0' S1' S2'
          go_wp2
          refine wp_region_ord [(0,true), (1,true), (2,true), (3,true), (4,true), (5,true), (6,true), (7,true), (8,true), (9,true), (10,true), (11,true), (12,true), (13,true), (14,true), (15,true), (16,true), (17,true), (18,true), (19,true), (20,true), (21,true), (22,true), (23,true), (24,true), (25,true), (26,true), (27,true), (28,true), (29,true), (30,true), (31,true), (32,true), (33,true), (34,true), (35,true), (36,true), (37,true)] 38 Ext (Ext wo) wide (by kernel_rfl) (stable_ext _) (Ext.drawn _ _) ?_
          iterate 4 (apply wpOrd_det rfl rfl; (intro w' hw'; unfold opR; go_simp; exact ⟨Ext.refl _, rfl⟩); (simp only [List.getElem_toArray, List.getElem_cons_succ, List.getElem_cons_zero, Act.put, List.setIfInBounds_toArray, List.set_cons_succ, List.set_cons_zero]; rfl))
          iterate 3 (apply wpOrd_yes rfl (by rfl); (intro w' hw'; unfold opR; go_simp; exact ⟨Ext.refl _, rfl⟩); (simp only [List.getElem_toArray, List.getElem_cons_succ, List.getElem_cons_zero, Act.put, List.setIfInBounds_toArray, List.set_cons_succ, List.set_cons_zero]; rfl))
          iterate 2 (apply wpOrd_det rfl rfl; (intro w' hw'; unfold opR; go_simp; exact ⟨Ext.refl _, rfl⟩); (simp only [List.getElem_toArray, List.getElem_cons_succ, List.getElem_cons_zero, Act.put, List.setIfInBounds_toArray, List.set_cons_succ, List.set_cons_zero]; rfl))
          iterate 16 (apply wpOrd_yes rfl (by rfl); (intro w' hw'; unfold opR; go_simp; exact ⟨Ext.refl _, rfl⟩); (simp only [List.getElem_toArray, List.getElem_cons_succ, List.getElem_cons_zero, Act.put, List.setIfInBounds_toArray, List.set_cons_succ, List.set_cons_zero]; rfl))
          (apply wpOrd_yes rfl (by rfl); (intro w' hw'; refine opR_call rfl (Go.Proofs.enters_of Tryd.func31 (by kernel_rfl) rfl) (by simp only [List.map_toArray, List.map_cons, List.map_nil, Act.eval, Array.getD_eq_getD_getElem?, List.getElem?_toArray, List.getElem?_cons_succ, List.getElem?_cons_zero, Option.getD_some]; rfl) ?_; refine (M.out w').mono ?_; rw [HMX.out]; rintro e w4 ⟨rfl, hx⟩; exact ⟨_, rfl, hx, rfl⟩); (simp only [List.getElem_toArray, List.getElem_cons_succ, List.getElem_cons_zero, Act.put, List.setIfInBounds_toArray, List.set_cons_succ, List.set_cons_zero]; rfl))
          iterate 11 (apply wpOrd_yes rfl (by rfl); (intro w' hw'; unfold opR; go_simp; exact ⟨Ext.refl _, rfl⟩); (simp only [List.getElem_toArray, List.getElem_cons_succ, List.getElem_cons_zero, Act.put, List.setIfInBounds_toArray, List.set_cons_succ, List.set_cons_zero]; rfl))
          (apply wpOrd_det rfl rfl; (intro w' hw'; unfold opR; go_simp; exact ⟨Ext.refl _, rfl⟩); (simp only [List.getElem_toArray, List.getElem_cons_succ, List.getElem_cons_zero, Act.put, List.setIfInBounds_toArray, List.set_cons_succ, List.set_cons_zero]; rfl))
          refine wpOrd_nil rfl ?_
          intro W1 hW1
          have OW1 := OW.out.ext hW1
          have Z1 := X.trans hW1
          clear f0 f1 f2 f3 f4 f5 f6 k0 k1 k2 k3 k4 k5 k6 y0 y1 y2 bm
          go_wp2_with (at_builtin; go_must (refine wpList_own1 et_m rfl _ _ rfl OW1 rfl (⟨i, j⟩ : Mt) rfl rfl rfl (by simp [encM, Value.oneCell']) (by omega) Z1.size ?_; intro v' WQ hown' hb' happ _))
          go_roundw
          case rel => exact ⟨i + 1, j + 1, g, l ++ [⟨i, j⟩], by go_num, by go_num, by omega, by omega, by omega, by simp; omega, hown', HP1.out, Below.trans Z1 hb'⟩
          case measure => simp [intOf]; omega
        · have bm : (T0 == mx + T2) = false := by rw [beq_eq_false_iff_ne]; exact hm1
          by_cases hm2 : T0 = p.skip + T1
          · have bm2 : (T0 == p.skip + T1) = true := by rw [beq_iff_eq]; exact hm2
            have hp1 := S1'.out g hm1 hm2
            have HP1 : Hid (pathL ds hs p = l ++ path ds hs p g (i + 1) j) := Lib.hid (by rw [HP.out, hp1])
            clear hm1 hm2 hp1 S0' S1' S2'
            go_wp2
            refine wp_region_ord [(0,true), (1,true), (2,true), (3,true), (4,true), (5,true), (6,true), (7,true), (8,true), (9,true), (10,true), (11,true), (12,true), (13,true), (14,true), (15,true), (16,true), (17,true), (18,true), (19,true), (20,true), (21,true), (22,true), (23,true), (24,true), (25,true), (26,true), (27,true), (28,true), (29,true), (30,true), (31,true), (32,true), (33,true), (34,true), (35,true), (36,true), (37,true)] 38 Ext (Ext wo) wide (by kernel_rfl) (stable_ext _) (Ext.drawn _ _) ?_
            iterate 4 (apply wpOrd_det rfl rfl; (intro w' hw'; unfold opR; go_simp; exact ⟨Ext.refl _, rfl⟩); (simp only [List.getElem_toArray, List.getElem_cons_succ, List.getElem_cons_zero, Act.put, List.setIfInBounds_toArray, List.set_cons_succ, List.set_cons_zero]; rfl))
            iterate 3 (apply wpOrd_yes rfl (by rfl); (intro w' hw'; unfold opR; go_simp; exact ⟨Ext.refl _, rfl⟩); (simp only [List.getElem_toArray, List.getElem_cons_succ, List.getElem_cons_zero, Act.put, List.setIfInBounds_toArray, List.set_cons_succ, List.set_cons_zero]; rfl))
            iterate 2 (apply wpOrd_det rfl rfl; (intro w' hw'; unfold opR; go_simp; exact ⟨Ext.refl _, rfl⟩); (simp only [List.getElem_toArray, List.getElem_cons_succ, List.getElem_cons_zero, Act.put, List.setIfInBounds_toArray, List.set_cons_succ, List.set_cons_zero]; rfl))
            iterate 16 (apply wpOrd_yes rfl (by rfl); (intro w' hw'; unfold opR; go_simp; exact ⟨Ext.refl _, rfl⟩); (simp only [List.getElem_toArray, List.getElem_cons_succ, List.getElem_cons_zero, Act.put, List.setIfInBounds_toArray, List.set_cons_succ, List.set_cons_zero]; rfl))
            (apply wpOrd_yes rfl (by rfl); (intro w' hw'; refine opR_call rfl (Go.Proofs.enters_of Tryd.func31 (by kernel_rfl) rfl) (by simp only [List.map_toArray, List.map_cons, List.map_nil, Act.eval, Array.getD_eq_getD_getElem?, List.getElem?_toArray, List.getElem?_cons_succ, List.getElem?_cons_zero, Option.getD_some]; rfl) ?_; refine (M.out w').mono ?_; rw [HMX.out]; rintro e w4 ⟨rfl, hx⟩; exact ⟨_, rfl, hx, rfl⟩); (simp only [List.getElem_toArray, List.getElem_cons_succ, List.getElem_cons_zero, Act.put, List.setIfInBounds_toArray, List.set_cons_succ, List.set_cons_zero]; rfl))
            iterate 11 (apply wpOrd_yes rfl (by rfl); (intro w' hw'; unfold opR; go_simp; exact ⟨Ext.refl _, rfl⟩); (simp only [List.getElem_toArray, List.getElem_cons_succ, List.getElem_cons_zero, Act.put, List.setIfInBounds_toArray, List.set_cons_succ, List.set_cons_zero]; rfl))
            (apply wpOrd_det rfl rfl; (intro w' hw'; unfold opR; go_simp; exact ⟨Ext.refl _, rfl⟩); (simp only [List.getElem_toArray, List.getElem_cons_succ, List.getElem_cons_zero, Act.put, List.setIfInBounds_toArray, List.set_cons_succ, List.set_cons_zero]; rfl))
            refine wpOrd_nil rfl ?_
            intro W1 hW1
            have OW1 := OW.out.ext hW1
            have Z1 := X.trans hW1
            have h0 := hW1.cell HH0.out; have r0 := hW1.cell HR0.out; have h1 := hW1.cell HH1.out; have r1 := hW1.cell HR1.out; have p0 := hW1.cell HP0.out
            clear f0 f1 f2 f3 f4 f5 f6 k0 k1 k2 k3 k4 k5 k6 y0 y1 y2 bm
            go_wp2
            go_quiet (fail)
            go_wp2
            go_roundw
            case rel => exact ⟨i + 1, j, g, l, by go_num, rfl, by omega, by omega, by omega, by omega, OW1.ext ((Ext.refl _).drewN _), HP1.out, Z1.drewN _⟩
            case measure => simp [intOf]; omega
          · have bm2 : (T0 == p.skip + T1) = false := by rw [beq_eq_false_iff_ne]; exact hm2
            have hp1 := S2'.out g hm1 hm2
            have HP1 : Hid (pathL ds hs p = l ++ path ds hs p g i (j + 1)) := Lib.hid (by rw [HP.out, hp1])
            clear hm1 hm2 hp1 S0' S1' S2'
            go_wp2
            refine wp_region_ord [(0,true), (1,true), (2,true), (3,true), (4,true), (5,true), (6,true), (7,true), (8,true), (9,true), (10,true), (11,true), (12,true), (13,true), (14,true), (15,true), (16,true), (17,true), (18,true), (19,true), (20,true), (21,true), (22,true), (23,true), (24,true), (25,true), (26,true), (27,true), (28,true), (29,true), (30,true), (31,true), (32,true), (33,true), (34,true), (35,true), (36,true), (37,true)] 38 Ext (Ext wo) wide (by kernel_rfl) (stable_ext _) (Ext.drawn _ _) ?_
            iterate 4 (apply wpOrd_det rfl rfl; (intro w' hw'; unfold opR; go_simp; exact ⟨Ext.refl _, rfl⟩); (simp only [List.getElem_toArray, List.getElem_cons_succ, List.getElem_cons_zero, Act.put, List.setIfInBounds_toArray, List.set_cons_succ, List.set_cons_zero]; rfl))
            iterate 3 (apply wpOrd_yes rfl (by rfl); (intro w' hw'; unfold opR; go_simp; exact ⟨Ext.refl _, rfl⟩); (simp only [List.getElem_toArray, List.getElem_cons_succ, List.getElem_cons_zero, Act.put, List.setIfInBounds_toArray, List.set_cons_succ, List.set_cons_zero]; rfl))
            iterate 2 (apply wpOrd_det rfl rfl; (intro w' hw'; unfold opR; go_simp; exact ⟨Ext.refl _, rfl⟩); (simp only [List.getElem_toArray, List.getElem_cons_succ, List.getElem_cons_zero, Act.put, List.setIfInBounds_toArray, List.set_cons_succ, List.set_cons_zero]; rfl))
            iterate 16 (apply wpOrd_yes rfl (by rfl); (intro w' hw'; unfold opR; go_simp; exact ⟨Ext.refl _, rfl⟩); (simp only [List.getElem_toArray, List.getElem_cons_succ, List.getElem_cons_zero, Act.put, List.setIfInBounds_toArray, List.set_cons_succ, List.set_cons_zero]; rfl))
            (apply wpOrd_yes rfl (by rfl); (intro w' hw'; refine opR_call rfl (Go.Proofs.enters_of Tryd.func31 (by kernel_rfl) rfl) (by simp only [List.map_toArray, List.map_cons, List.map_nil, Act.eval, Array.getD_eq_getD_getElem?, List.getElem?_toArray, List.getElem?_cons_succ, List.getElem?_cons_zero, Option.getD_some]; rfl) ?_; refine (M.out w').mono ?_; rw [HMX.out]; rintro e w4 ⟨rfl, hx⟩; exact ⟨_, rfl, hx, rfl⟩); (simp only [List.getElem_toArray, List.getElem_cons_succ, List.getElem_cons_zero, Act.put, List.setIfInBounds_toArray, List.set_cons_succ, List.set_cons_zero]; rfl))
            iterate 11 (apply wpOrd_yes rfl (by rfl); (intro w' hw'; unfold opR; go_simp; exact ⟨Ext.refl _, rfl⟩); (simp only [List.getElem_toArray, List.getElem_cons_succ, List.getElem_cons_zero, Act.put, List.setIfInBounds_toArray, List.set_cons_succ, List.set_cons_zero]; rfl))
            (apply wpOrd_det rfl rfl; (intro w' hw'; unfold opR; go_simp; exact ⟨Ext.refl _, rfl⟩); (simp only [List.getElem_toArray, List.getElem_cons_succ, List.getElem_cons_zero, Act.put, List.setIfInBounds_toArray, List.set_cons_succ, List.set_cons_zero]; rfl))
            refine wpOrd_nil rfl ?_
            intro W1 hW1
            have OW1 := OW.out.ext hW1
            have Z1 := X.trans hW1
            have h0 := hW1.cell HH0.out; have r0 := hW1.cell HR0.out; have h1 := hW1.cell HH1.out; have r1 := hW1.cell HR1.out; have p0 := hW1.cell HP0.out
            clear f0 f1 f2 f3 f4 f5 f6 k0 k1 k2 k3 k4 k5 k6 y0 y1 y2 bm
            go_wp2
            go_quiet (fail)
            go_wp2
            go_roundw
            case rel => exact ⟨i, j + 1, g, l, rfl, by go_num, by omega, by omega, by omega, by omega, OW1.ext ((Ext.refl _).drewN _), HP1.out, Z1.drewN _⟩
            case measure => simp [intOf]; omega
      · have dj : decide ((j : Int) < (m : Int)) = false := decide_eq_false (by omega)
        have hcol : tab ds hs p i j = p.skip + tab ds hs p (i + 1) j := by
          obtain rfl : j = hs.length := by rw [HM.out]; omega
          exact tab_col kd
        obtain ⟨g, rfl⟩ : ∃ g, f = g + 1 := ⟨f - 1, by omega⟩
        have hp1 := @path_step1 ds hs p i j g (fun _ h2 => by rw [HM.out] at h2; exact absurd h2 hjm) kd hcol
        have HP1 : Hid (pathL ds hs p = l ++ path ds hs p g (i + 1) j) := Lib.hid (by rw [HP.out, hp1])
        obtain ⟨T0, hT0⟩ : ∃ x, tab ds hs p i j = x := ⟨_, rfl⟩
        obtain ⟨T1, hT1⟩ : ∃ x, tab ds hs p (i + 1) j = x := ⟨_, rfl⟩
        rw [hT0] at r0 t0 hcol
        rw [hT1] at r1 t1 es hcol
        have bm2 : (T0 == p.skip + T1) = true := by rw [beq_iff_eq]; exact hcol
        have OW := Lib.hid own
        clear hT0 hT1 hp1 hcol TR kd own
        go_wp2
        go_quiet (fail)
        go_wp2
        go_quiet (fail)
        go_wp2
        go_roundw
        case rel => exact ⟨i + 1, j, g, l, by go_num, rfl, by omega, by omega, by omega, by omega, OW.out.ext ((Ext.refl _).drewN _), HP1.out, X.drewN _⟩
        case measure => simp [intOf]; omega
    · have di : decide ((i : Int) < (n : Int)) = false := decide_eq_false (by omega)
      by_cases hjm : j < m
      · have dj : decide ((j : Int) < (m : Int)) = true := decide_eq_true (by omega)
        obtain ⟨g, rfl⟩ : ∃ g, f = g + 1 := ⟨f - 1, by omega⟩
        have hp1 := @path_step2 ds hs p i j g (fun h1 _ => by rw [HN.out] at h1; exact absurd h1 hin) (fun h1 => by rw [HN.out] at h1; exact absurd h1.1 hin)
        have HP1 : Hid (pathL ds hs p = l ++ path ds hs p g i (j + 1)) := Lib.hid (by rw [HP.out, hp1])
        have OW := Lib.hid own
        clear hp1 TR own h0 r0
        go_wp2
        go_quiet (fail)
        go_wp2
        go_quiet (fail)
        go_wp2
        go_roundw
        case rel => exact ⟨i, j + 1, g, l, rfl, by go_num, by omega, by omega, by omega, by omega, OW.out.ext ((Ext.refl _).drewN _), HP1.out, X.drewN _⟩
        case measure => simp [intOf]; omega
      · obtain rfl : i = n := by omega
        obtain rfl : j = m := by omega
        have hL : pathL ds hs p = l := by rw [HP.out, HPE.out, List.append_nil]
        have SL := own.sl (fun _ _ => rfl) (by omega)
        rw [← hL] at SL
        obtain ⟨b', o', rb1, ro1, cr1, e', h1, r1⟩ := TR.read HSH.out (i := 0) (j := 0) (by omega) (by omega)
        cases e'
        rw [HTV.out 0 0 (by omega) (by omega)] at r1
        rw [Nat.add_zero] at h1 r1
        obtain ⟨T0, hT0⟩ : ∃ x, tab ds hs p 0 0 = x := ⟨_, rfl⟩
        rw [hT0] at r1
        have HT0 := Lib.hid hT0
        have HSL := Lib.hid SL; have HTR := Lib.hid TR
        clear hT0 h0 r0 own TR hL SL di
        have i9 : (0 : Int) < (i : Int) + 1 := by omega
        have j9 : (0 : Int) < (j : Int) + 1 := by omega
        go_wp2
        go_quiet (fail)
        go_wp2
        exact bodyPost_ret (v := .tuple #[_, .int .i64 T0, .slice (some ⟨b, o, none⟩) (i + 1) cT, .int .i64 0]) (by simp [results, Tryd.results17, go_sem]; rfl) rfl ⟨_, _, by rw [HT0.out], HSL.out.ext ((Ext.refl _).drewN _), HTR.out.ext ((Ext.refl _).drewN _), (X2.trans X).drewN _⟩

set_option maxHeartbeats 1000000 in
theorem ralignA_walk (vd vh : Value) (ds : List Due) (hs : List Hrd) (p : Prc) (w : World) (Sd : Sl w 7 encD vd ds) (Sh : Sl w 3 encH vh hs) :
    Calls Tryd.prog 17 #[vd, vh, .agg #[.int .i64 p.skip, .int .i64 p.off]] w fun e w' => ∃ vl vt, e = .returned (.tuple #[vl, .int .i64 (alCr ds hs p), vt, .int .i64 (alEr ds hs p)]) ∧ Sl w' 2 encM vl (alLr ds hs p) ∧ Tab w' vt (alTr ds hs p) ∧ Ext w w' := by
  cases hok : alOk ds hs p with
  | true =>
    have h1 : alCr ds hs p = tab ds hs p 0 0 := by rw [alCr, if_pos hok]
    have h2 : alEr ds hs p = 0 := by rw [alEr, if_pos hok]
    have h3 : alLr ds hs p = pathL ds hs p := by rw [alLr, if_pos hok]
    have h4 : alTr ds hs p = tableL ds hs p := by rw [alTr, if_pos hok]
    rw [h1, h2, h3, h4]
    exact raligny_walk vd vh ds hs p hok w Sd Sh
  | false =>
    have h1 : alCr ds hs p = 0 := by rw [alCr, hok]; rfl
    have h2 : alEr ds hs p = 1 := by rw [alEr, hok]; rfl
    have h3 : alLr ds hs p = [] := by rw [alLr, hok]; rfl
    have h4 : alTr ds hs p = [] := by rw [alTr, hok]; rfl
    rw [h1, h2, h3, h4]
    have HO := Lib.hid hok
    clear hok h1 h2 h3 h4
    obtain ⟨ad, cd, rfl, -, -, -⟩ := Sd.len
    obtain ⟨ah, ch, rfl, -, -, -⟩ := Sh.len
    go_enter Tryd.func17, Tryd.ntmps17
    go_wp2_with fail
    refine (rvalid_walk _ _ ds hs p _ (Sd.ext (by repeat (first | with_reducible exact Ext.refl _ | with_reducible assumption | with_reducible apply Ext.alloc | with_reducible apply Ext.drew | (with_reducible refine Ext.setCell ?_ (by (try simp) <;> omega) _)))) (Sh.ext (by repeat (first | with_reducible exact Ext.refl _ | with_reducible assumption | with_reducible apply Ext.alloc | with_reducible apply Ext.drew | (with_reducible refine Ext.setCell ?_ (by (try simp) <;> omega) _))))).mono ?_
    rw [HO.out]
    rintro e w1 ⟨rfl, x1⟩
    have X1 : Ext w w1 := Ext.trans (by repeat (first | with_reducible exact Ext.refl _ | with_reducible assumption | with_reducible apply Ext.alloc | with_reducible apply Ext.drew | (with_reducible refine Ext.setCell ?_ (by (try simp) <;> omega) _))) x1
    go_wp2
    refine bodyPost_ret (v := .tuple #[.slice none 0 0, .int .i64 0, .slice none 0 0, .int .i64 1]) (by simp [results, Tryd.results17, go_sem]) rfl ⟨_, _, rfl, Sl.nil _ _ _, Tab.nil _, X1⟩
end Go.Proofs.YthomegempfedaaaDoor
