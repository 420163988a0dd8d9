/-
  Walks of the reference: schismaref04.Valid, Lower, Upper, Exponents, Pure; schismaref03.Interval.
-/
import Derived.Test.YtdpegkkbhanjkaaDoorSzB
set_option linter.unusedVariables false
namespace Go.Proofs.YtdpegkkbhanjkaaDoor
open Go.RowKit Go.Sx Go.Sx.Sz

set_option maxRecDepth 100000 in
set_option maxHeartbeats 2000000 in
theorem lower_walk (k : Nat) (hk : k < 6) (w : World) : Calls Tryd.prog 89 #[.int .i64 k] w fun e w' => e = .returned (.int .i64 (logLo k)) ∧ Ext w w' := by
  rcases lt6 hk with rfl | rfl | rfl | rfl | rfl | rfl
  all_goals
    go_enter Tryd.func89, Tryd.ntmps89
    go_wp2
    go_ret
    exact ⟨rfl, (by repeat (first | with_reducible exact Ext.refl _ | with_reducible assumption | with_reducible apply Ext.alloc | with_reducible apply Ext.drew | (with_reducible refine Ext.setCell ?_ (by (try simp) <;> omega) _)))⟩

set_option maxRecDepth 100000 in
set_option maxHeartbeats 2000000 in
theorem upper_walk (k : Nat) (hk : k < 6) (w : World) : Calls Tryd.prog 90 #[.int .i64 k] w fun e w' => e = .returned (.int .i64 (logHi k)) ∧ Ext w w' := by
  rcases Nat.eq_zero_or_pos k with rfl | hp
  · go_enter Tryd.func90, Tryd.ntmps90
    go_wp2_with fail
    refine (lower_walk 0 (by omega) _).mono ?_
    rintro e w1 ⟨rfl, x1⟩
    go_wp2
    go_ret
    exact ⟨rfl, x1⟩
  · have hb : ((k : Int) == 0) = false := by simp; omega
    have hl : Hid (logLo k + 1 = logHi k) := Lib.hid (by
      have : k = 1 ∨ k = 2 ∨ k = 3 ∨ k = 4 ∨ k = 5 := by omega
      rcases this with rfl | rfl | rfl | rfl | rfl <;> rfl)
    have hbd := log_le k
    go_enter Tryd.func90, Tryd.ntmps90
    go_wp2_with fail
    refine (lower_walk k hk _).mono ?_
    rintro e w1 ⟨rfl, x1⟩
    go_wp2
    go_ret
    exact ⟨by rw [← hl.out] <;> rfl, x1⟩

set_option maxRecDepth 100000 in
theorem t_order (x : Int) (k : Nat) : (x * logLo k < x * logHi k → tLo x k = x * logLo k ∧ tHi x k = x * logHi k) ∧ (x * logHi k < x * logLo k → tLo x k = x * logHi k ∧ tHi x k = x * logLo k) ∧ (x * logLo k = x * logHi k → tLo x k = x * logLo k ∧ tHi x k = x * logLo k) := by
  have h := tLo_le x k
  unfold tLo tHi at *
  by_cases hx : x < 0
  · simp only [if_pos hx] at *
    exact ⟨fun hlt => by omega, fun _ => by simp, fun e => by simp [e]⟩
  · simp only [if_neg hx] at *
    exact ⟨fun _ => by simp, fun hlt => by omega, fun e => by simp [e]⟩

set_option maxRecDepth 100000 in
set_option maxHeartbeats 4000000 in
theorem rexpo_walk (v : V6) (hv : within v 4000 = true) (w : World) : Calls Tryd.prog 82 #[.agg #[.int .i64 v.a, .int .i64 v.b, .int .i64 v.c, .int .i64 v.d, .int .i64 v.e, .int .i64 v.f]] w fun e w' => e = .returned (.agg #[.int .i64 (expo v).lo, .int .i64 (expo v).hi]) ∧ Ext w w' := by
  have hbd := fun k (hk : k < 6) => Sz.within_iff.1 hv k hk
  have hsb := fun (k : Nat) (hk : k ≤ 6) => s_bd hv hk
  clear hv
  go_enter Tryd.func82, Tryd.ntmps82
  go_wp2
  go_loopw [4] (fun i wr => ∃ k : Nat, k ≤ 6 ∧ i = .int .i64 k ∧ wr.heap[w.heap.size]? = some (.cells v.cells 40 (0, 0)) ∧ wr.heap[w.heap.size + 1]? = some (.cells #[.int .i64 0, .int .i64 0] 100 (0, 0)) ∧ wr.heap[w.heap.size + 2]? = some (.cells #[.int .i64 (sLo v k), .int .i64 (sHi v k)] 100 (0, 0)) ∧ Ext w wr) (fun i _ => 6 - (intOf i).toNat)
  case atStart => exact ⟨0, by omega, rfl, block_alloc (block_alloc (block_new w _) _) _, block_alloc (block_at (by simp) _) _, block_at (by simp) _, (by repeat (first | with_reducible exact Ext.refl _ | with_reducible assumption | with_reducible apply Ext.alloc | with_reducible apply Ext.drew | (with_reducible refine Ext.setCell ?_ (by (try simp) <;> omega) _)))⟩
  case round =>
    obtain ⟨k, hk, rfl, c0, c1, c2, X⟩ := hrel
    by_cases hlt : k < 6
    · obtain ⟨b1, b2⟩ := hbd k hlt
      have hm := t_bd k b1 b2
      have hle := tLo_le (v.get k) k
      have hs := hsb k hk
      have hlog := log_le k
      obtain ⟨o1, o2, o3⟩ := t_order (v.get k) k
      have hP : -(4000 * 3700439719) ≤ v.get k * logLo k ∧ v.get k * logLo k ≤ 4000 * 3700439719 ∧ -(4000 * 3700439719) ≤ v.get k * logHi k ∧ v.get k * logHi k ≤ 4000 * 3700439719 := by
        rcases Int.lt_trichotomy (v.get k * logLo k) (v.get k * logHi k) with h | h | h
        · have := o1 h; omega
        · have := o3 h; omega
        · have := o2 h; omega
      have w1 : IntKind.i64.wrap (v.get k * logLo k) = v.get k * logLo k := IntWalk.i64_in _ (by omega)
      have w2 : IntKind.i64.wrap (v.get k * logHi k) = v.get k * logHi k := IntWalk.i64_in _ (by omega)
      have H1 := Lib.hid w1; have H2 := Lib.hid w2
      clear w1 w2 hbd hm hle
      have f0 := ext_cells (block_cell c0 k _ (V6.cells_at _ hlt))
      have HO1 := Lib.hid o1; have HO2 := Lib.hid o2; have HO3 := Lib.hid o3
      have C0 := Lib.hid c0; have C1 := Lib.hid c1; have C2 := Lib.hid c2
      clear o1 o2 o3 c0 c1 c2
      obtain ⟨wo, rfl⟩ : ∃ wo : World, wo = wr := ⟨_, rfl⟩
      go_wp2
      refine wp_region_ord [(0,true), (1,true), (2,true), (3,true), (4,true), (5,true)] 6 Ext (Ext wo) wide (by kernel_rfl) (stable_ext _) (Ext.drawn _ _) ?_
      have h1 := H1.out
      iterate 4 (apply wpOrd_det rfl rfl; (intro w' hw'; unfold opR; go_simp; exact ⟨Ext.refl _, rfl⟩); (simp only [List.getElem_toArray, List.getElem_cons_succ, List.getElem_cons_zero, Act.put, List.setIfInBounds_toArray, List.set_cons_succ, List.set_cons_zero]; rfl))
      (apply wpOrd_det rfl rfl; (intro w' hw'; refine opR_call rfl (Go.Proofs.enters_of Tryd.func89 (by kernel_rfl) rfl) (by simp only [List.map_toArray, List.map_cons, List.map_nil, Act.eval, Array.getD_eq_getD_getElem?, List.getElem?_toArray, List.getElem?_cons_succ, List.getElem?_cons_zero, Option.getD_some]; rfl) ?_; refine (lower_walk k hlt w').mono ?_; rintro e w4 ⟨rfl, hx⟩; exact ⟨_, rfl, hx, rfl⟩); (simp only [List.getElem_toArray, List.getElem_cons_succ, List.getElem_cons_zero, Act.put, List.setIfInBounds_toArray, List.set_cons_succ, List.set_cons_zero]; rfl))
      (apply wpOrd_det rfl rfl; (intro w' hw'; unfold opR; go_simp; exact ⟨Ext.refl _, rfl⟩); (simp only [List.getElem_toArray, List.getElem_cons_succ, List.getElem_cons_zero, Act.put, List.setIfInBounds_toArray, List.set_cons_succ, List.set_cons_zero]; rfl))
      clear h1
      refine wpOrd_nil rfl ?_
      intro W1 hW1
      have g0 := ext_cells (hW1.cell (f0 wo (Ext.refl _)))
      clear f0
      go_wp2
      refine wp_region_ord [(0,true), (1,true), (2,true), (3,true), (4,true), (5,true)] 6 Ext (Ext W1) wide (by kernel_rfl) (stable_ext _) (Ext.drawn _ _) ?_
      have h2 := H2.out
      iterate 4 (apply wpOrd_det rfl rfl; (intro w' hw'; unfold opR; go_simp; exact ⟨Ext.refl _, rfl⟩); (simp only [List.getElem_toArray, List.getElem_cons_succ, List.getElem_cons_zero, Act.put, List.setIfInBounds_toArray, List.set_cons_succ, List.set_cons_zero]; rfl))
      (apply wpOrd_det rfl rfl; (intro w' hw'; refine opR_call rfl (Go.Proofs.enters_of Tryd.func90 (by kernel_rfl) rfl) (by simp only [List.map_toArray, List.map_cons, List.map_nil, Act.eval, Array.getD_eq_getD_getElem?, List.getElem?_toArray, List.getElem?_cons_succ, List.getElem?_cons_zero, Option.getD_some]; rfl) ?_; refine (upper_walk k hlt w').mono ?_; rintro e w4 ⟨rfl, hx⟩; exact ⟨_, rfl, hx, rfl⟩); (simp only [List.getElem_toArray, List.getElem_cons_succ, List.getElem_cons_zero, Act.put, List.setIfInBounds_toArray, List.set_cons_succ, List.set_cons_zero]; rfl))
      (apply wpOrd_det rfl rfl; (intro w' hw'; unfold opR; go_simp; exact ⟨Ext.refl _, rfl⟩); (simp only [List.getElem_toArray, List.getElem_cons_succ, List.getElem_cons_zero, Act.put, List.setIfInBounds_toArray, List.set_cons_succ, List.set_cons_zero]; rfl))
      clear h2
      refine wpOrd_nil rfl ?_
      intro W2 hW2
      have x2 := hW1.trans hW2
      have d0 := block_ext x2 C0.out
      have d1 := block_ext x2 C1.out
      have d2 := block_ext x2 C2.out
      have X2 := X.trans x2
      clear g0 hW1 hW2 W1 C0 C1 C2 X x2 wo
      obtain ⟨P, hPP⟩ : ∃ P, v.get k * logLo k = P := ⟨_, rfl⟩
      obtain ⟨Qv, hQQ⟩ : ∃ Q, v.get k * logHi k = Q := ⟨_, rfl⟩
      have E1 := Lib.hid hPP; have E2 := Lib.hid hQQ
      have j1 := HO1.out; have j2 := HO2.out; have j3 := HO3.out
      rw [hPP, hQQ] at hP j1 j2 j3
      rw [hPP, hQQ]
      have J1 := Lib.hid j1; have J2 := Lib.hid j2; have J3 := Lib.hid j3
      clear hPP hQQ j1 j2 j3 HO1 HO2 HO3 H1 H2 hlog b1 b2
      obtain ⟨r2, s2⟩ := block_rules d2
      have z2 := block_lt d2
      have key : ∀ a b : Int, tLo (v.get k) k = a → tHi (v.get k) k = b → ((W2.setCell ⟨w.heap.size + 1 + 1, 0, none⟩ (.int .i64 (sLo v k + a))).setCell ⟨w.heap.size + 1 + 1, 1, none⟩ (.int .i64 (sHi v k + b))).heap[w.heap.size]? = some (.cells v.cells 40 (0, 0)) ∧
          ((W2.setCell ⟨w.heap.size + 1 + 1, 0, none⟩ (.int .i64 (sLo v k + a))).setCell ⟨w.heap.size + 1 + 1, 1, none⟩ (.int .i64 (sHi v k + b))).heap[w.heap.size + 1]? = some (.cells #[.int .i64 0, .int .i64 0] 100 (0, 0)) ∧
          ((W2.setCell ⟨w.heap.size + 1 + 1, 0, none⟩ (.int .i64 (sLo v k + a))).setCell ⟨w.heap.size + 1 + 1, 1, none⟩ (.int .i64 (sHi v k + b))).heap[w.heap.size + 2]? = some (.cells #[.int .i64 (sLo v (k + 1)), .int .i64 (sHi v (k + 1))] 100 (0, 0)) := fun a b ha hb => by
        refine ⟨block_ne (block_ne d0 _ _ (by omega)) _ _ (by omega), block_ne (block_ne d1 _ _ (by omega)) _ _ (by omega), ?_⟩
        rw [show sLo v (k + 1) = sLo v k + a by rw [← ha]; rfl, show sHi v (k + 1) = sHi v k + b by rw [← hb]; rfl]
        exact block_set (block_set d2 0 _) 1 _
      have KEY := Lib.hid key
      clear key d0 d1 d2
      rcases Int.lt_trichotomy P Qv with h | h | h
      · have hn : ¬ Qv < P := by omega
        go_wp2
        go_roundw
        case rel =>
          obtain ⟨y1, y2, y3⟩ := KEY.out P Qv (J1.out h).1 (J1.out h).2
          exact ⟨k + 1, by omega, by go_num, y1, y2, y3, (X2.setCell (p := ⟨w.heap.size + 1 + 1, 0, none⟩) (by show w.heap.size ≤ w.heap.size + 1 + 1; omega) _).setCell (p := ⟨w.heap.size + 1 + 1, 1, none⟩) (by show w.heap.size ≤ w.heap.size + 1 + 1; omega) _⟩
        case measure => simp [intOf]; omega
      · have hn : ¬ Qv < P := by omega
        have hn2 : ¬ P < Qv := by omega
        have HH := Lib.hid h
        clear h
        go_wp2
        go_roundw
        case rel =>
          obtain ⟨y1, y2, y3⟩ := KEY.out P P (J3.out HH.out).1 (J3.out HH.out).2
          exact ⟨k + 1, by omega, by go_num, y1, y2, y3, (X2.setCell (p := ⟨w.heap.size + 1 + 1, 0, none⟩) (by show w.heap.size ≤ w.heap.size + 1 + 1; omega) _).setCell (p := ⟨w.heap.size + 1 + 1, 1, none⟩) (by show w.heap.size ≤ w.heap.size + 1 + 1; omega) _⟩
        case measure => simp [intOf]; omega
      · have hn : ¬ P < Qv := by omega
        go_wp2
        go_roundw
        case rel =>
          obtain ⟨y1, y2, y3⟩ := KEY.out Qv P (J2.out h).1 (J2.out h).2
          exact ⟨k + 1, by omega, by go_num, y1, y2, y3, (X2.setCell (p := ⟨w.heap.size + 1 + 1, 0, none⟩) (by show w.heap.size ≤ w.heap.size + 1 + 1; omega) _).setCell (p := ⟨w.heap.size + 1 + 1, 1, none⟩) (by show w.heap.size ≤ w.heap.size + 1 + 1; omega) _⟩
        case measure => simp [intOf]; omega
    · obtain rfl : k = 6 := by omega
      obtain ⟨r1, s1⟩ := block_rules c1
      obtain ⟨r2, s2⟩ := block_rules c2
      clear hbd hsb c0 c1 c2
      go_wp2
      exact bodyPost_ret (v := .agg #[.int .i64 (sLo v 6), .int .i64 (sHi v 6)]) (by simp [results, Tryd.results82, go_sem, r1]) rfl ⟨rfl, (by repeat (first | with_reducible exact Ext.refl _ | with_reducible assumption | with_reducible apply Ext.alloc | with_reducible apply Ext.drew | (with_reducible refine Ext.setCell ?_ (by (try simp) <;> omega) _)))⟩

set_option maxRecDepth 100000 in
set_option maxHeartbeats 2000000 in
theorem rinterval_walk (v : V6) (w : World) : Calls Tryd.prog 23 #[.agg #[.int .i64 v.a, .int .i64 v.b, .int .i64 v.c, .int .i64 v.d, .int .i64 v.e, .int .i64 v.f]] w fun e w' => e = .returned (.bool (within v 48)) ∧ Ext w w' := by
  have q := alloc_cell w v.cells 41
  go_enter Tryd.func23, Tryd.ntmps23
  go_wp2
  go_loopw [3] (fun i wr => ∃ k : Nat, k ≤ 6 ∧ i = .int .i64 k ∧ withinK v 48 k = true ∧ wr = w.alloc (.cells v.cells 41)) (fun i _ => 6 - (intOf i).toNat)
  case atStart => exact ⟨0, by omega, rfl, rfl, rfl⟩
  case round =>
    obtain ⟨k, hk, rfl, hw, rfl⟩ := hrel
    have HW := Lib.hid hw
    clear hw
    by_cases hlt : k < 6
    · have hx := q k _ (by rw [Array.getElem?_toList]; exact V6.cells_at v hlt)
      clear q
      obtain ⟨W, hW⟩ : ∃ W, w.alloc (.cells v.cells 41) = W := ⟨_, rfl⟩
      have XW : Ext w W := by rw [← hW]; exact Ext.alloc' _ _
      have HWW := Lib.hid hW
      rw [hW] at hx ⊢
      clear hW
      by_cases hb : -48 ≤ v.get k
      · by_cases hc : v.get k ≤ 48
        · go_wp2
          go_roundw
          case rel => exact ⟨k + 1, by omega, by go_num, by simp [withinK, HW.out, hb, hc], by first | exact HWW.out.symm | trivial⟩
          case measure => simp [intOf]; omega
        · go_wp2
          go_ret
          exact ⟨by rw [withinK_false hlt (by omega)]; rfl, (by repeat (first | with_reducible exact Ext.refl _ | with_reducible assumption | with_reducible apply Ext.alloc | with_reducible apply Ext.drew | (with_reducible refine Ext.setCell ?_ (by (try simp) <;> omega) _)))⟩
      · go_wp2
        go_ret
        exact ⟨by rw [withinK_false hlt (by omega)]; rfl, (by repeat (first | with_reducible exact Ext.refl _ | with_reducible assumption | with_reducible apply Ext.alloc | with_reducible apply Ext.drew | (with_reducible refine Ext.setCell ?_ (by (try simp) <;> omega) _)))⟩
    · obtain rfl : k = 6 := by omega
      clear q
      go_wp2
      go_ret
      exact ⟨by rw [show within v 48 = true from HW.out]; rfl, (by repeat (first | with_reducible exact Ext.refl _ | with_reducible assumption | with_reducible apply Ext.alloc | with_reducible apply Ext.drew | (with_reducible refine Ext.setCell ?_ (by (try simp) <;> omega) _)))⟩
end Go.Proofs.YtdpegkkbhanjkaaDoor
