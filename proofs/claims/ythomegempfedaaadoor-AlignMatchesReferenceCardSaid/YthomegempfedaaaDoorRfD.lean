/-
  Walk of the reference: schismaref38.Table.
-/
import Derived.Test.YthomegempfedaaaDoorRfC
set_option linter.unusedVariables false
namespace Go.Proofs.YthomegempfedaaaDoor
open Go.RowKit Go.Sx Go.Sx.Sz Go.Sx.Al

set_option maxRecDepth 100000 in
set_option maxHeartbeats 4000000 in
theorem rtable_walk (vd vh : Value) (ds : List Due) (hs : List Hrd) (p : Prc) (hok : alOk ds hs p = true) (w : World) (Sd : Sl w 7 encD vd ds) (Sh : Sl w 3 encH vh hs) :
    Calls Tryd.prog 34 #[vd, vh, .agg #[.int .i64 p.skip, .int .i64 p.off]] w fun e w' => ∃ v, e = .returned v ∧ Tab w' v (tableL ds hs p) ∧ Ext w w' := by
  obtain ⟨ad, cd, rfl, -, -, -⟩ := Sd.len
  obtain ⟨ah, ch, rfl, -, -, -⟩ := Sh.len
  have hv := alOk_iff.1 hok
  have HV := Lib.hid hv
  have hdn := hv.dn; have hhn := hv.hn
  obtain ⟨hs1, hs2⟩ := hv.skip
  clear hok hv
  obtain ⟨n, hn⟩ : ∃ n, ds.length = n := ⟨_, rfl⟩
  obtain ⟨m, hm⟩ : ∃ m, hs.length = m := ⟨_, rfl⟩
  have hT : tableL ds hs p = (List.range (n + 1)).map fun i => rowL (m + 1) (tab ds hs p i) := by rw [tableL, hn, hm]; rfl
  have HN := Lib.hid hn; have HM := Lib.hid hm; have HT := Lib.hid hT
  rw [hn] at hdn Sd; rw [hm] at hhn Sh
  rw [hn, hm]
  clear hn hm hT
  go_enter Tryd.func34, Tryd.ntmps34
  go_wp2_with (at_make; go_must (refine wpList_mk (e := 62) (sz := 1) (bytes := 24) (enc := fun v => [v]) (z := .slice none 0 0) (Value.slice none 0 0) Tryd.underlying27 (by kernel_rfl) rfl rfl rfl _ _ rfl (n + 1) (by rfl) (by rfl) (by omega) (by omega) ?_); intro ct hbk)
  simp only [World.size_alloc] at hbk
  obtain ⟨N, hN⟩ : ∃ N, w.heap.size = N := ⟨_, rfl⟩
  have bp : ((w.alloc (.cells #[.int .i64 p.skip, .int .i64 p.off] 25)).alloc (.cells ct 62)).heap[w.heap.size]? = some (.cells #[.int .i64 p.skip, .int .i64 p.off] 25 (0, 0)) := block_alloc (block_new w _) _
  have XW : Ext w ((w.alloc (.cells #[.int .i64 p.skip, .int .i64 p.off] 25)).alloc (.cells ct 62)) := (by repeat (first | with_reducible exact Ext.refl _ | with_reducible assumption | with_reducible apply Ext.alloc | with_reducible apply Ext.drew | (with_reducible refine Ext.setCell ?_ (by (try simp) <;> omega) _)))
  obtain ⟨W, hW⟩ : ∃ W, (w.alloc (.cells #[.int .i64 p.skip, .int .i64 p.off] 25)).alloc (.cells ct 62) = W := ⟨_, rfl⟩
  rw [hN] at bp hbk ⊢
  rw [hW] at bp hbk XW ⊢
  have HNN := Lib.hid hN
  clear hN hW
  go_loopw [10] (fun i wr => ∃ (k : Nat) (rows : List Nat), i = .int .i64 ((k : Int) - 1) ∧ k + rows.length = n + 1 ∧ Part (N + 1) (N + 1) (m + 1) k rows (tab ds hs p) wr ∧ wr.heap[N]? = some (.cells #[.int .i64 p.skip, .int .i64 p.off] 25 (0, 0)) ∧ Ext w wr) (fun i _ => (intOf i + 1).toNat)
  case atStart => exact ⟨n + 1, [], congrArg (Value.int .i64) (by omega), by simp, ⟨by simpa using hbk, List.nodup_nil, fun r hr => by simp at hr, fun i hi => by simp at hi⟩, bp, XW⟩
  case round =>
    clear hbk bp XW
    obtain ⟨k, rows, rfl, hlen, P, bp, X⟩ := hrel
    cases k with
    | zero =>
      have M := P.mat
      have TT := M.tab (n := n + 1) (by omega) (by omega) (by omega)
      rw [← HT.out] at TT
      have e0 : ((0 : Nat) : Int) - 1 = -1 := rfl
      rw [e0]
      clear M P bp Sd Sh e0
      go_wp2
      go_ret
      exact ⟨_, rfl, TT, X⟩
    | succ k =>
      have e0 : ((k + 1 : Nat) : Int) - 1 = k := by omega
      rw [e0]
      have q0 := P.nilAt (i := k) (by omega)
      have qf := P.blk.free k
      have qz := P.blk.lt
      have hk0 : (0 : Int) ≤ (k : Int) := by omega
      have hk1 : (k : Int) < ((n + 1 : Nat) : Int) := by omega
      have e1 : IntKind.i64.wrap ((m : Int) + 1) = (m : Int) + 1 := IntWalk.i64_in _ (by omega)
      have hne : ¬ N + 1 = wr.heap.size := by omega
      have HP := Lib.hid P; have HB := Lib.hid bp; have HL := Lib.hid hlen
      obtain ⟨wo, rfl⟩ : ∃ wo : World, wo = wr := ⟨_, rfl⟩
      clear e0 P bp hlen
      go_wp2_with (at_make; go_must (refine wpList_mk (e := 3) (sz := 1) (bytes := 8) (enc := encZ) (z := .int .i64 0) (0 : Int) Tryd.underlying62 (by kernel_rfl) rfl rfl rfl _ _ rfl (m + 1) (by rfl) (by rfl) (by omega) (by omega) ?_); intro cr hbr)
      obtain ⟨r, hr⟩ : ∃ r, wo.heap.size = r := ⟨_, rfl⟩
      have XA := Ext.alloc' wo (.cells cr 3)
      obtain ⟨WA, hWA⟩ : ∃ W, wo.alloc (.cells cr 3) = W := ⟨_, rfl⟩
      rw [hr] at hbr
      rw [hWA] at hbr XA
      have hrn : r ∉ rows := fun h => by
        obtain ⟨i, hi, e⟩ := List.getElem_of_mem h
        have := (HP.out.row i hi).lt
        omega
      have P1 : Part (N + 1) (N + 1) (m + 1) k (r :: rows) (tabC ds hs p k (m + 1)) (WA.setCell ⟨N + 1, k, none⟩ (.slice (some ⟨r, 0, none⟩) (m + 1) (m + 1))) :=
        (HP.out.ext XA).put hrn (by omega) (by omega) (by
          have e : List.replicate (m + 1) (0 : Int) = rowL (m + 1) (tabC ds hs p k (m + 1) k) := by
            apply List.ext_getElem (by simp [rowL])
            intro a h1 h2
            have h3 : a < m + 1 := by simpa using h1
            rw [rowL_get _ _ _ h2]
            simp [tabC, h3]
          rw [← e]; exact hbr) (fun i j h => tabC_gt h)
      have bp1 := block_ne (block_ext XA HB.out) (g := N + 1) k (.slice (some ⟨r, 0, none⟩) (m + 1) (m + 1)) (by omega)
      have X1 := (X.trans XA).setCell (p := ⟨N + 1, k, none⟩) (by have := HNN.out; show w.heap.size ≤ N + 1; omega) (.slice (some ⟨r, 0, none⟩) (m + 1) (m + 1))
      obtain ⟨WB, hWB⟩ : ∃ W, WA.setCell ⟨N + 1, k, none⟩ (.slice (some ⟨r, 0, none⟩) (m + 1) (m + 1)) = W := ⟨_, rfl⟩
      rw [← swap_alloc _ _ _ _ (by show N + 1 < wo.heap.size; exact qz), hr, hWA, hWB]
      rw [hWB] at P1 bp1 X1
      clear hr hWA hWB hbr XA q0 qf qz e1 hne HP HB X hrn
      go_loopw [11] (fun j wr => ∃ c : Nat, j = .int .i64 ((c : Int) - 1) ∧ c ≤ m + 1 ∧ Part (N + 1) (N + 1) (m + 1) k (r :: rows) (tabC ds hs p k c) wr ∧ wr.heap[N]? = some (.cells #[.int .i64 p.skip, .int .i64 p.off] 25 (0, 0)) ∧ Ext w wr) (fun j _ => (intOf j + 1).toNat)
      case atStart => exact ⟨m + 1, congrArg (Value.int .i64) (by omega), by omega, P1, bp1, X1⟩
      case round =>
        clear P1 bp1 X1
        obtain ⟨c, rfl, hc, P, bp, X⟩ := hrel
        cases c with
        | zero =>
          have e0 : ((0 : Nat) : Int) - 1 = -1 := rfl
          rw [e0]
          rw [tabC_zero] at P
          clear Sd Sh e0
          have HP := Lib.hid P; have HB := Lib.hid bp
          clear P bp
          go_wp2
          go_roundw
          case rel => exact ⟨k, r :: rows, rfl, by have := HL.out; simp; omega, HP.out, HB.out, X⟩
          case measure => simp [intOf] <;> omega
        | succ c =>
          have e0 : ((c + 1 : Nat) : Int) - 1 = c := by omega
          rw [e0]
          have hmins : ∀ A, p.skip * ((n : Int) - k + m - c) = A → Mins ds hs p k c A := fun A hA => mins_of HV.out (by rw [HN.out]; omega) (by rw [HM.out]; omega) (by
            rw [← hA]; congr 1; rw [HN.out, HM.out]; omega)
          have hc0 : (0 : Int) ≤ (c : Int) := by omega
          have hc1 : (c : Int) < ((m + 1 : Nat) : Int) := by omega
          have hc2 : (c : Int) < (m : Int) + 1 := by omega
          have hk5 : (k : Int) < (n : Int) + 1 := by omega
          have hAb : 0 ≤ p.skip * ((n : Int) - k + m - c) ∧ p.skip * ((n : Int) - k + m - c) ≤ 200000000 :=
            ⟨Int.mul_nonneg hs1 (by omega), Int.le_trans (Int.mul_le_mul_of_nonneg_right hs2 (by omega)) (by omega)⟩
          obtain ⟨A, hA⟩ : ∃ A, p.skip * ((n : Int) - k + m - c) = A := ⟨_, rfl⟩
          rw [hA] at hAb
          have MI := hmins A hA
          have eA : IntKind.i64.wrap A = A := IntWalk.i64_in _ (by omega)
          have c0 := block_cell bp 0 (.int .i64 p.skip) rfl
          have c1 := block_cell bp 1 (.int .i64 p.off) rfl
          have h0 := P.head (i := 0) (by simp)
          have r0 := P.cell (i := 0) (j := c) (by simp) (by omega)
          have rf := P.free (i := 0) (by simp) c
          rw [List.getElem_cons_zero] at h0 r0 rf
          rw [Nat.add_zero k] at h0 r0
          have hsm : ∀ i j, i ≤ n → j ≤ m → 0 ≤ tab ds hs p i j ∧ tab ds hs p i j ≤ 200000000 := fun i j h1 h2 => tab_small HV.out (by rw [HN.out]; exact h1) (by rw [HM.out]; exact h2)
          have HSM := Lib.hid hsm; have HMI := Lib.hid MI
          have hfin : ∀ wz, Ext wr wz → ∃ P' : Part (N + 1) (N + 1) (m + 1) k (r :: rows) (tabC ds hs p k c) (wz.setCell ⟨r, c, none⟩ (.int .i64 (tab ds hs p k c))), (wz.setCell ⟨r, c, none⟩ (.int .i64 (tab ds hs p k c))).heap[N]? = some (.cells #[.int .i64 p.skip, .int .i64 p.off] 25 (0, 0)) ∧ Ext w (wz.setCell ⟨r, c, none⟩ (.int .i64 (tab ds hs p k c))) := fun wz hz => by
            have hge := (P.ge r (by simp)).1
            refine ⟨((P.ext hz).store (by omega) _).congr (fun i j _ _ _ => tabC_up i j), block_ne (block_ext hz bp) _ _ (by omega), (X.trans hz).setCell (p := ⟨r, c, none⟩) (by have := HNN.out; show w.heap.size ≤ r; omega) _⟩
          have HF := Lib.hid hfin
          have HP := Lib.hid P; have HB := Lib.hid bp; have HX := Lib.hid X
          clear hmins hsm MI hfin e0 P bp X
          obtain ⟨wo, rfl⟩ : ∃ wo : World, wo = wr := ⟨_, rfl⟩
          by_cases hkn : k = n
          · have b1 : ((k : Int) == (n : Int)) = true := by rw [beq_iff_eq]; omega
            have l1 : ¬ (k : Int) < (n : Int) := by omega
            by_cases hcm : c = m
            · have b2 : ((c : Int) == (m : Int)) = true := by rw [beq_iff_eq]; omega
              have ht0 : Hid (tab ds hs p k c = 0) := Lib.hid (by rw [hkn, hcm, ← HN.out, ← HM.out]; exact tab_nm)
              clear hA eA c0 c1 h0 r0 rf l1 hkn hcm
              go_wp2
              go_roundw
              case rel => exact ⟨c, rfl, by omega, HP.out.congr (fun i j _ _ _ => by
                unfold tabC
                by_cases h : i = k ∧ j = c
                · obtain ⟨rfl, rfl⟩ := h
                  rw [if_pos (by omega), if_neg (by omega), ht0.out]
                · by_cases h2 : i = k ∧ j < c
                  · rw [if_pos (by omega), if_pos h2]
                  · rw [if_neg (by omega), if_neg h2]), HB.out, HX.out⟩
              case measure => simp [intOf] <;> omega
            · have b2 : ((c : Int) == (m : Int)) = false := by rw [beq_eq_false_iff_ne]; omega
              have l2 : (c : Int) < (m : Int) := by omega
              have s0 := HP.out.cell (i := 0) (j := c + 1) (by simp) (by omega)
              rw [List.getElem_cons_zero, Nat.add_zero k, tabC_ge (by omega)] at s0
              have hrow := HMI.out.row (by rw [HN.out]; exact hkn) (by rw [HM.out]; omega)
              have t1 := HSM.out k (c + 1) (by omega) (by omega)
              have hd1 : (0 : Int) ≤ (c : Int) + 1 := by omega
              have hd2 : (c : Int) + 1 < ((m + 1 : Nat) : Int) := by omega
              have hd3 : (c : Int) + 1 < (m : Int) + 1 := by omega
              have ec : IntKind.i64.wrap ((c : Int) + 1) = (c : Int) + 1 := IntWalk.i64_in _ (by omega)
              obtain ⟨x, hx⟩ : ∃ x, tab ds hs p k (c + 1) = x := ⟨_, rfl⟩
              obtain ⟨y, hy⟩ : ∃ y, tab ds hs p k c = y := ⟨_, rfl⟩
              rw [hx] at s0 hrow t1
              rw [hy] at hrow
              have es : IntKind.i64.wrap (p.skip + x) = p.skip + x := IntWalk.i64_in _ (by omega)
              have HY := Lib.hid hy; have HROW := Lib.hid hrow
              have f0 := ext_cells c0; have f1 := ext_cells h0; have f2 := ext_cells s0
              have C0 := Lib.hid c0; have H0 := Lib.hid h0; have R0 := Lib.hid r0
              clear hx hy hrow hkn hcm h0 r0 rf s0
              go_wp2
              refine wp_region_ord [(0,true), (1,true), (2,true), (3,true), (4,true), (5,true), (6,true), (7,true), (8,true), (9,true), (10,true), (11,true), (12,true), (13,true)] 14 Ext (Ext wo) wide (by kernel_rfl) (stable_ext _) (Ext.drawn _ _) ?_
              iterate 12 (apply wpOrd_det rfl rfl; (intro w' hw'; unfold opR; go_simp; exact ⟨Ext.refl _, rfl⟩); (simp only [List.getElem_toArray, List.getElem_cons_succ, List.getElem_cons_zero, Act.put, List.setIfInBounds_toArray, List.set_cons_succ, List.set_cons_zero]; rfl))
              (apply wpOrd_det (v := .int .i64 y) rfl rfl; (intro w' hw'; unfold opR; go_simp; exact ⟨Ext.refl _, congrArg _ HROW.out⟩); (simp only [List.getElem_toArray, List.getElem_cons_succ, List.getElem_cons_zero, Act.put, List.setIfInBounds_toArray, List.set_cons_succ, List.set_cons_zero]; rfl))
              (apply wpOrd_det rfl rfl; (intro w' hw'; unfold opR; go_simp; exact ⟨Ext.refl _, rfl⟩); (simp only [List.getElem_toArray, List.getElem_cons_succ, List.getElem_cons_zero, Act.put, List.setIfInBounds_toArray, List.set_cons_succ, List.set_cons_zero]; rfl))
              refine wpOrd_nil rfl ?_
              intro W1 hW1
              have h1 := hW1.cell H0.out
              have r1 := hW1.cell R0.out
              have rf1 := (HP.out.ext hW1).free (i := 0) (by simp) c
              rw [List.getElem_cons_zero] at rf1
              clear f0 f1 f2 c0 c1 hA eA
              obtain ⟨P', B', X'⟩ := HF.out W1 hW1
              rw [HY.out] at P' B' X'
              have HP' := Lib.hid P'; have HB' := Lib.hid B'; have HX' := Lib.hid X'
              clear P' B' X'
              go_wp2
              go_roundw
              case rel => exact ⟨c, rfl, by omega, HP'.out, HB'.out, HX'.out⟩
              case measure => simp [intOf] <;> omega
          · have l1 : (k : Int) < (n : Int) := by omega
            have b1 : ((k : Int) == (n : Int)) = false := by rw [beq_eq_false_iff_ne]; omega
            obtain ⟨r1, rest, hrows⟩ : ∃ a b, rows = a :: b := by
              cases rows with
              | nil => have := HL.out; simp at this; omega
              | cons a b => exact ⟨a, b, rfl⟩
            have g1 := HP.out.head (i := 1) (by rw [hrows]; simp)
            have u0 := HP.out.cell (i := 1) (j := c) (by rw [hrows]; simp) (by omega)
            have er1 : (r :: rows)[1]'(by rw [hrows]; simp) = r1 := by simp [hrows]
            rw [er1] at g1 u0
            rw [tabC_gt (by omega)] at u0
            have t0 := HSM.out (k + 1) c (by omega) (by omega)
            have hk2 : (0 : Int) ≤ (k : Int) + 1 := by omega
            have hk3 : (k : Int) + 1 < ((n + 1 : Nat) : Int) := by omega
            have hk4 : (k : Int) + 1 < (n : Int) + 1 := by omega
            have ek : IntKind.i64.wrap ((k : Int) + 1) = (k : Int) + 1 := IntWalk.i64_in _ (by omega)
            by_cases hcm : c = m
            · have b2 : ((c : Int) == (m : Int)) = true := by rw [beq_iff_eq]; omega
              have l2 : ¬ (c : Int) < (m : Int) := by omega
              have hcol := HMI.out.col (by rw [HN.out]; omega) (by rw [HM.out]; exact hcm)
              obtain ⟨x, hx⟩ : ∃ x, tab ds hs p (k + 1) c = x := ⟨_, rfl⟩
              obtain ⟨y, hy⟩ : ∃ y, tab ds hs p k c = y := ⟨_, rfl⟩
              rw [hx] at u0 hcol t0
              rw [hy] at hcol
              have es : IntKind.i64.wrap (p.skip + x) = p.skip + x := IntWalk.i64_in _ (by omega)
              have HY := Lib.hid hy; have HROW := Lib.hid hcol
              have f0 := ext_cells c0; have f1 := ext_cells g1; have f2 := ext_cells u0
              have C0 := Lib.hid c0; have H0 := Lib.hid h0; have R0 := Lib.hid r0
              clear hx hy hcol hkn hcm h0 r0 rf g1 u0 hrows er1
              go_wp2
              refine wp_region_ord [(0,true), (1,true), (2,true), (3,true), (4,true), (5,true), (6,true), (7,true), (8,true), (9,true), (10,true), (11,true), (12,true), (13,true)] 14 Ext (Ext wo) wide (by kernel_rfl) (stable_ext _) (Ext.drawn _ _) ?_
              iterate 12 (apply wpOrd_det rfl rfl; (intro w' hw'; unfold opR; go_simp; exact ⟨Ext.refl _, rfl⟩); (simp only [List.getElem_toArray, List.getElem_cons_succ, List.getElem_cons_zero, Act.put, List.setIfInBounds_toArray, List.set_cons_succ, List.set_cons_zero]; rfl))
              (apply wpOrd_det (v := .int .i64 y) rfl rfl; (intro w' hw'; unfold opR; go_simp; exact ⟨Ext.refl _, congrArg _ HROW.out⟩); (simp only [List.getElem_toArray, List.getElem_cons_succ, List.getElem_cons_zero, Act.put, List.setIfInBounds_toArray, List.set_cons_succ, List.set_cons_zero]; rfl))
              (apply wpOrd_det rfl rfl; (intro w' hw'; unfold opR; go_simp; exact ⟨Ext.refl _, rfl⟩); (simp only [List.getElem_toArray, List.getElem_cons_succ, List.getElem_cons_zero, Act.put, List.setIfInBounds_toArray, List.set_cons_succ, List.set_cons_zero]; rfl))
              refine wpOrd_nil rfl ?_
              intro W1 hW1
              have h1 := hW1.cell H0.out
              have r1 := hW1.cell R0.out
              have rf1 := (HP.out.ext hW1).free (i := 0) (by simp) c
              rw [List.getElem_cons_zero] at rf1
              clear f0 f1 f2 c0 c1 hA eA
              obtain ⟨P', B', X'⟩ := HF.out W1 hW1
              rw [HY.out] at P' B' X'
              have HP' := Lib.hid P'; have HB' := Lib.hid B'; have HX' := Lib.hid X'
              clear P' B' X'
              go_wp2
              go_roundw
              case rel => exact ⟨c, rfl, by omega, HP'.out, HB'.out, HX'.out⟩
              case measure => simp [intOf] <;> omega
            · have b2 : ((c : Int) == (m : Int)) = false := by rw [beq_eq_false_iff_ne]; omega
              have l2 : (c : Int) < (m : Int) := by omega
              have kd : k < ds.length := by rw [HN.out]; omega
              have kh : c < hs.length := by rw [HM.out]; omega
              obtain ⟨X, Y, m1, m2, m3⟩ := HMI.out.mid kd kh
              have s0 := HP.out.cell (i := 0) (j := c + 1) (by simp) (by omega)
              rw [List.getElem_cons_zero, Nat.add_zero k, tabC_ge (by omega)] at s0
              have u1 := HP.out.cell (i := 1) (j := c + 1) (by rw [hrows]; simp) (by omega)
              rw [er1, tabC_gt (by omega)] at u1
              have t1 := HSM.out k (c + 1) (by omega) (by omega)
              have t2 := HSM.out (k + 1) (c + 1) (by omega) (by omega)
              have hd1 : (0 : Int) ≤ (c : Int) + 1 := by omega
              have hd2 : (c : Int) + 1 < ((m + 1 : Nat) : Int) := by omega
              have hd3 : (c : Int) + 1 < (m : Int) + 1 := by omega
              have ec : IntKind.i64.wrap ((c : Int) + 1) = (c : Int) + 1 := IntWalk.i64_in _ (by omega)
              obtain ⟨bd, od, rfl, d0, d1, d2, d3, d4, d5, d6⟩ := Sl.due (HN.out ▸ (Sd.ext HX.out)) k kd
              obtain ⟨bh, oh, rfl, v0, v1, v2⟩ := Sl.hrd (HM.out ▸ (Sh.ext HX.out)) c kh
              have d1b := HV.out.dt _ (List.getElem_mem kd)
              have h1b := HV.out.ht _ (List.getElem_mem kh)
              have hob := HV.out.off
              have hmb := mc_bd d1b h1b hob
              have M := Lib.hid (fun w' => rmatch_walk ds[k] hs[c] p d1b h1b hob w')
              obtain ⟨mx, hmx⟩ : ∃ x, mc p ds[k] hs[c] = x := ⟨_, rfl⟩
              obtain ⟨du, hdu⟩ : ∃ d, ds[k] = d := ⟨_, rfl⟩
              obtain ⟨hu, hhu⟩ : ∃ d, hs[c] = d := ⟨_, rfl⟩
              obtain ⟨x, hx⟩ : ∃ x, tab ds hs p (k + 1) c = x := ⟨_, rfl⟩
              obtain ⟨x1, hx1⟩ : ∃ x, tab ds hs p k (c + 1) = x := ⟨_, rfl⟩
              obtain ⟨x2, hx2⟩ : ∃ x, tab ds hs p (k + 1) (c + 1) = x := ⟨_, rfl⟩
              obtain ⟨y, hy⟩ : ∃ y, tab ds hs p k c = y := ⟨_, rfl⟩
              rw [hmx] at m3 hmb
              rw [hx] at u0 m1 t0
              rw [hx1] at s0 m2 t1
              rw [hx2] at u1 m3 t2
              rw [hy] at m3
              rw [hdu] at d0 d1 d2 d3 d4 d5 d6 hmx M
              rw [hhu] at v0 v1 v2 hmx M
              have HY := Lib.hid hy; have M1 := Lib.hid m1; have M2 := Lib.hid m2; have M3 := Lib.hid m3; have HMX := Lib.hid hmx
              have i3 : (k : Int) < (n : Int) := l1
              have f0 := ext_cells c0; have f1 := ext_cells g1; have f2 := ext_cells u0; have f3 := ext_cells s0; have f4 := ext_cells u1; have f5 := ext_cells c1; have f6 := ext_cells h0
              have k0 := ext_cells d0; have k1 := ext_cells d1; have k2 := ext_cells d2; have k3 := ext_cells d3; have k4 := ext_cells d4; have k5 := ext_cells d5; have k6 := ext_cells d6
              have j0 := ext_cells v0; have j1 := ext_cells v1; have j2 := ext_cells v2
              have H0 := Lib.hid h0; have R0 := Lib.hid r0
              have XB : X ≤ 200000000 ∧ -100000000 ≤ X := by rw [← m1]; split <;> omega
              have YB : Y ≤ 200000000 ∧ -100000000 ≤ Y := by rw [← m2]; split <;> omega
              have es : IntKind.i64.wrap (p.skip + x) = p.skip + x := IntWalk.i64_in _ (by omega)
              have es1 : IntKind.i64.wrap (p.skip + x1) = p.skip + x1 := IntWalk.i64_in _ (by omega)
              have es2 : IntKind.i64.wrap (mx + x2) = mx + x2 := IntWalk.i64_in _ (by omega)
              clear hx hx1 hx2 hy hmx hdu hhu m1 m2 m3 d0 d1 d2 d3 d4 d5 d6 v0 v1 v2 hkn hcm h0 r0 rf g1 u0 s0 u1 hrows er1 d1b h1b hob kd kh
              go_wp2
              refine wp_region_ord [(0,true), (1,true), (2,true), (3,true), (4,true), (5,true), (6,true), (7,true), (8,true), (9,true), (10,true), (11,true), (12,true), (13,true)] 14 Ext (Ext wo) wide (by kernel_rfl) (stable_ext _) (Ext.drawn _ _) ?_
              iterate 12 (apply wpOrd_det rfl rfl; (intro w' hw'; unfold opR; go_simp; exact ⟨Ext.refl _, rfl⟩); (simp only [List.getElem_toArray, List.getElem_cons_succ, List.getElem_cons_zero, Act.put, List.setIfInBounds_toArray, List.set_cons_succ, List.set_cons_zero]; rfl))
              (apply wpOrd_det (v := .int .i64 X) rfl rfl; (intro w' hw'; unfold opR; go_simp; exact ⟨Ext.refl _, congrArg _ M1.out⟩); (simp only [List.getElem_toArray, List.getElem_cons_succ, List.getElem_cons_zero, Act.put, List.setIfInBounds_toArray, List.set_cons_succ, List.set_cons_zero]; rfl))
              (apply wpOrd_det rfl rfl; (intro w' hw'; unfold opR; go_simp; exact ⟨Ext.refl _, rfl⟩); (simp only [List.getElem_toArray, List.getElem_cons_succ, List.getElem_cons_zero, Act.put, List.setIfInBounds_toArray, List.set_cons_succ, List.set_cons_zero]; rfl))
              refine wpOrd_nil rfl ?_
              intro W1 hW1
              clear hA eA
              go_wp2
              refine wp_region_ord [(0,true), (1,true), (2,true), (3,true), (4,true), (5,true), (6,true), (7,true), (8,true), (9,true), (10,true), (11,true), (12,true), (13,true)] 14 Ext (Ext wo) wide (by kernel_rfl) (stable_ext _) (hW1.trans (Ext.drawn _ _)) ?_
              iterate 12 (apply wpOrd_det rfl rfl; (intro w' hw'; unfold opR; go_simp; exact ⟨Ext.refl _, rfl⟩); (simp only [List.getElem_toArray, List.getElem_cons_succ, List.getElem_cons_zero, Act.put, List.setIfInBounds_toArray, List.set_cons_succ, List.set_cons_zero]; rfl))
              (apply wpOrd_det (v := .int .i64 Y) rfl rfl; (intro w' hw'; unfold opR; go_simp; exact ⟨Ext.refl _, congrArg _ M2.out⟩); (simp only [List.getElem_toArray, List.getElem_cons_succ, List.getElem_cons_zero, Act.put, List.setIfInBounds_toArray, List.set_cons_succ, List.set_cons_zero]; rfl))
              (apply wpOrd_det rfl rfl; (intro w' hw'; unfold opR; go_simp; exact ⟨Ext.refl _, rfl⟩); (simp only [List.getElem_toArray, List.getElem_cons_succ, List.getElem_cons_zero, Act.put, List.setIfInBounds_toArray, List.set_cons_succ, List.set_cons_zero]; rfl))
              refine wpOrd_nil rfl ?_
              intro W2 hW2
              go_wp2
              refine wp_region_ord [(0,true), (1,true), (2,true), (3,true), (4,true), (5,true), (6,true), (7,true), (8,true), (9,true), (10,true), (11,true), (12,true), (13,true), (14,true), (15,true), (16,true), (17,true), (18,true), (19,true), (20,true), (21,true), (22,true)] 23 Ext (Ext wo) wide (by kernel_rfl) (stable_ext _) (hW2.trans (Ext.drawn _ _)) ?_
              iterate 10 (apply wpOrd_det rfl rfl; (intro w' hw'; unfold opR; go_simp; exact ⟨Ext.refl _, rfl⟩); (simp only [List.getElem_toArray, List.getElem_cons_succ, List.getElem_cons_zero, Act.put, List.setIfInBounds_toArray, List.set_cons_succ, List.set_cons_zero]; rfl))
              (apply wpOrd_det rfl rfl; (intro w' hw'; refine opR_call rfl (Go.Proofs.enters_of Tryd.func31 (by kernel_rfl) rfl) (by simp only [List.map_toArray, List.map_cons, List.map_nil, Act.eval, Array.getD_eq_getD_getElem?, List.getElem?_toArray, List.getElem?_cons_succ, List.getElem?_cons_zero, Option.getD_some]; rfl) ?_; refine (M.out w').mono ?_; rw [HMX.out]; rintro e w4 ⟨rfl, hx⟩; exact ⟨_, rfl, hx, rfl⟩); (simp only [List.getElem_toArray, List.getElem_cons_succ, List.getElem_cons_zero, Act.put, List.setIfInBounds_toArray, List.set_cons_succ, List.set_cons_zero]; rfl))
              iterate 10 (apply wpOrd_det rfl rfl; (intro w' hw'; unfold opR; go_simp; exact ⟨Ext.refl _, rfl⟩); (simp only [List.getElem_toArray, List.getElem_cons_succ, List.getElem_cons_zero, Act.put, List.setIfInBounds_toArray, List.set_cons_succ, List.set_cons_zero]; rfl))
              (apply wpOrd_det (v := .int .i64 y) rfl rfl; (intro w' hw'; unfold opR; go_simp; exact ⟨Ext.refl _, congrArg _ M3.out⟩); (simp only [List.getElem_toArray, List.getElem_cons_succ, List.getElem_cons_zero, Act.put, List.setIfInBounds_toArray, List.set_cons_succ, List.set_cons_zero]; rfl))
              (apply wpOrd_det rfl rfl; (intro w' hw'; unfold opR; go_simp; exact ⟨Ext.refl _, rfl⟩); (simp only [List.getElem_toArray, List.getElem_cons_succ, List.getElem_cons_zero, Act.put, List.setIfInBounds_toArray, List.set_cons_succ, List.set_cons_zero]; rfl))
              refine wpOrd_nil rfl ?_
              intro W3 hW3
              have h1 := hW3.cell H0.out
              have r1 := hW3.cell R0.out
              have rf1 := (HP.out.ext hW3).free (i := 0) (by simp) c
              rw [List.getElem_cons_zero] at rf1
              clear f0 f1 f2 f3 f4 f5 f6 k0 k1 k2 k3 k4 k5 k6 j0 j1 j2 c0 c1
              obtain ⟨P', B', X'⟩ := HF.out W3 hW3
              rw [HY.out] at P' B' X'
              have HP' := Lib.hid P'; have HB' := Lib.hid B'; have HX' := Lib.hid X'
              clear P' B' X' hW1 hW2 hW3
              go_wp2
              go_roundw
              case rel => exact ⟨c, rfl, by omega, HP'.out, HB'.out, HX'.out⟩
              case measure => simp [intOf] <;> omega
end Go.Proofs.YthomegempfedaaaDoor
