/-
  Libraries of these proofs, laid as one text: SzA, SzB, SzC, SzD.
-/
import Derived.Test.YthpfalbeieloaaaGreatDoorLibB
import Derived.IntWalk
/-
  Walks: size.Valid, pitch.within, pitch.Valid, pitch.Interval, pitch.Of.
-/
set_option linter.unusedVariables false
namespace Go.Proofs.YthpfalbeieloaaaGreatDoor
open Go.RowKit Go.Sx Go.Sx.Sz

set_option maxRecDepth 100000 in
set_option maxHeartbeats 1000000 in
theorem szvalid_walk (s : S2) (w : World) : Calls Tryz.prog 22 #[.agg #[.int .i64 s.lo, .int .i64 s.hi]] w fun e w' => e = .returned (.bool (szOk s)) ∧ Ext w w' := by
  unfold szOk
  by_cases h1 : -100000000000000 ≤ s.lo
  · by_cases h2 : s.lo ≤ s.hi
    · by_cases h3 : s.hi ≤ 100000000000000
      all_goals
        go_enter Tryz.func22, Tryz.ntmps22
        go_wp2
        go_ret
        exact ⟨by simp [h1, h2, h3], (by repeat (first | with_reducible exact Ext.refl _ | with_reducible assumption | with_reducible apply Ext.alloc | with_reducible apply Ext.drew | (with_reducible refine Ext.setCell ?_ (by (try simp) <;> omega) _)))⟩
    · go_enter Tryz.func22, Tryz.ntmps22
      go_wp2
      go_ret
      exact ⟨by simp; omega, (by repeat (first | with_reducible exact Ext.refl _ | with_reducible assumption | with_reducible apply Ext.alloc | with_reducible apply Ext.drew | (with_reducible refine Ext.setCell ?_ (by (try simp) <;> omega) _)))⟩
  · go_enter Tryz.func22, Tryz.ntmps22
    go_wp2
    go_ret
    exact ⟨by simp; omega, (by repeat (first | with_reducible exact Ext.refl _ | with_reducible assumption | with_reducible apply Ext.alloc | with_reducible apply Ext.drew | (with_reducible refine Ext.setCell ?_ (by (try simp) <;> omega) _)))⟩
set_option maxRecDepth 100000 in
set_option maxHeartbeats 1000000 in
theorem within_walk (v : V6) (B : Int) (h0 : 0 ≤ B) (h1 : B ≤ 1000000) (w : World) : Calls Tryz.prog 46 #[.agg #[.int .i64 v.a, .int .i64 v.b, .int .i64 v.c, .int .i64 v.d, .int .i64 v.e, .int .i64 v.f], .int .i64 B] w fun e w' => e = .returned (.bool (within v B)) ∧ Ext w w' := by
  have ix := fun (k : Nat) (hk : k < 6) (w : World) => run_index_v6 (P := Tryz.prog) (t := 43) Tryz.underlying43 Tryz.underlying3 (by kernel_rfl) v hk w
  go_enter Tryz.func46, Tryz.ntmps46
  go_wp2
  go_loop [8] (fun i => ∃ k : Nat, k ≤ 6 ∧ i = .int .i64 k ∧ withinK v B k = true) (fun i => 6 - (intOf i).toNat)
  case atStart => exact ⟨0, by omega, rfl, rfl⟩
  case round =>
    obtain ⟨k, hk, rfl, hw⟩ := hrel
    have HW := Lib.hid hw
    clear hw
    by_cases hlt : k < 6
    · have hx := ix k hlt
      clear ix
      by_cases hb : -B ≤ v.get k
      · by_cases hc : v.get k ≤ B
        · go_wp2
          go_round
          case rel => exact ⟨k + 1, by omega, by go_num, by simp [withinK, HW.out, hb, hc]⟩
          case measure => simp [intOf]; omega
        · go_wp2
          go_ret
          exact ⟨by rw [withinK_false hlt (by omega)] <;> rfl, (by repeat (first | with_reducible exact Ext.refl _ | with_reducible assumption | with_reducible apply Ext.alloc | with_reducible apply Ext.drew | (with_reducible refine Ext.setCell ?_ (by (try simp) <;> omega) _)))⟩
      · go_wp2
        go_ret
        exact ⟨by rw [withinK_false hlt (by omega)] <;> rfl, (by repeat (first | with_reducible exact Ext.refl _ | with_reducible assumption | with_reducible apply Ext.alloc | with_reducible apply Ext.drew | (with_reducible refine Ext.setCell ?_ (by (try simp) <;> omega) _)))⟩
    · obtain rfl : k = 6 := by omega
      clear ix
      go_wp2
      go_ret
      exact ⟨by rw [show within v B = true from HW.out] <;> rfl, (by repeat (first | with_reducible exact Ext.refl _ | with_reducible assumption | with_reducible apply Ext.alloc | with_reducible apply Ext.drew | (with_reducible refine Ext.setCell ?_ (by (try simp) <;> omega) _)))⟩

set_option maxRecDepth 100000 in
set_option maxHeartbeats 1000000 in
theorem pvalid_walk (v : V6) (w : World) : Calls Tryz.prog 42 #[.agg #[.int .i64 v.a, .int .i64 v.b, .int .i64 v.c, .int .i64 v.d, .int .i64 v.e, .int .i64 v.f]] w fun e w' => e = .returned (.bool (within v 576)) ∧ Ext w w' := by
  go_enter Tryz.func42, Tryz.ntmps42
  go_wp2_with fail
  refine (within_walk v 576 (by omega) (by omega) _).mono ?_
  rintro e w1 ⟨rfl, x1⟩
  go_wp2
  go_ret
  exact ⟨rfl, Ext.trans (by repeat (first | with_reducible exact Ext.refl _ | with_reducible assumption | with_reducible apply Ext.alloc | with_reducible apply Ext.drew | (with_reducible refine Ext.setCell ?_ (by (try simp) <;> omega) _))) x1⟩

set_option maxRecDepth 100000 in
set_option maxHeartbeats 1000000 in
theorem interval_walk (v : V6) (w : World) : Calls Tryz.prog 21 #[.agg #[.int .i64 v.a, .int .i64 v.b, .int .i64 v.c, .int .i64 v.d, .int .i64 v.e, .int .i64 v.f]] w fun e w' => e = .returned (.bool (within v 48)) ∧ Ext w w' := by
  go_enter Tryz.func21, Tryz.ntmps21
  go_wp2_with fail
  refine (within_walk v 48 (by omega) (by omega) _).mono ?_
  rintro e w1 ⟨rfl, x1⟩
  go_wp2
  go_ret
  exact ⟨rfl, Ext.trans (by repeat (first | with_reducible exact Ext.refl _ | with_reducible assumption | with_reducible apply Ext.alloc | with_reducible apply Ext.drew | (with_reducible refine Ext.setCell ?_ (by (try simp) <;> omega) _))) x1⟩

set_option maxRecDepth 100000 in
theorem times_put (v : V6) (k : Nat) (hk : k < 6) (n : Int) : (V6.of fun j => if j < k + 1 then v.get j * n else v.get j) = (V6.of fun j => if j < k then v.get j * n else v.get j).put k (v.get k * n) := by
  refine V6.ext' fun j hj => ?_
  rw [V6.put_get _ hk _ hj, V6.get_of _ hj, V6.get_of _ hj]
  by_cases h : j = k
  · subst h; simp
  · rw [if_neg h]
    by_cases h' : j < k
    · rw [if_pos h', if_pos (by omega)]
    · rw [if_neg h', if_neg (by omega)]

set_option maxRecDepth 100000 in
set_option maxHeartbeats 1000000 in
theorem of_walk (v : V6) (w : World) : Calls Tryz.prog 16 #[.agg #[.int .i64 v.a, .int .i64 v.b, .int .i64 v.c, .int .i64 v.d, .int .i64 v.e, .int .i64 v.f]] w fun e w' => e = .returned (.tuple #[.agg #[.int .i64 (ofR v).1.a, .int .i64 (ofR v).1.b, .int .i64 (ofR v).1.c, .int .i64 (ofR v).1.d, .int .i64 (ofR v).1.e, .int .i64 (ofR v).1.f], .int .i64 (ofR v).2]) ∧ Ext w w' := by
  cases hv : within v 48 with
  | false =>
    have HV := Lib.hid hv; clear hv
    go_enter Tryz.func16, Tryz.ntmps16
    go_wp2_with fail
    refine (interval_walk v _).mono ?_
    rw [HV.out]
    rintro e w1 ⟨rfl, x1⟩
    obtain ⟨hc1, hf1⟩ := x1.rules
    have hz1 : w.heap.size + 1 < w1.heap.size := by have := x1.size; simp at this; omega
    have X1 : Ext w w1 := Ext.trans (by repeat (first | with_reducible exact Ext.refl _ | with_reducible assumption | with_reducible apply Ext.alloc | with_reducible apply Ext.drew | (with_reducible refine Ext.setCell ?_ (by (try simp) <;> omega) _))) x1
    go_wp2
    exact bodyPost_ret (v := .tuple #[V6.zero.val, .int .i64 1]) (by simp [results, Tryz.results16, go_sem, hc1, V6.val, V6.zero]) rfl ⟨by rw [ofR, if_neg (by rw [HV.out]; decide)]; rfl, (by repeat (first | with_reducible exact Ext.refl _ | with_reducible assumption | with_reducible apply Ext.alloc | with_reducible apply Ext.drew | (with_reducible refine Ext.setCell ?_ (by (try simp) <;> omega) _)))⟩
  | true =>
    have HV := Lib.hid hv
    have hbd := fun k (hk : k < 6) => (Sz.within_iff.1 hv) k hk
    clear hv
    go_enter Tryz.func16, Tryz.ntmps16
    go_wp2_with fail
    refine (interval_walk v _).mono ?_
    rw [HV.out]
    rintro e w1 ⟨rfl, x1⟩
    obtain ⟨hc1, hf1⟩ := x1.rules
    have hz1 : w.heap.size + 1 < w1.heap.size := by have := x1.size; simp at this; omega
    have X1 : Ext w w1 := Ext.trans (by repeat (first | with_reducible exact Ext.refl _ | with_reducible assumption | with_reducible apply Ext.alloc | with_reducible apply Ext.drew | (with_reducible refine Ext.setCell ?_ (by (try simp) <;> omega) _))) x1
    have g0 : w1.heap[w.heap.size]? = some (.cells v.cells 44 (0, 0)) := block_ext x1 (block_alloc (block_new w _) _)
    have g1 : w1.heap[w.heap.size + 1]? = some (.cells V6.zero.cells 79 (0, 0)) := block_ext x1 (block_at (by simp) _)
    clear x1
    go_wp2
    go_loopw [9] (fun i wr => ∃ k : Nat, k ≤ 6 ∧ i = .int .i64 k ∧ wr.heap[w.heap.size]? = some (.cells (V6.of fun j => if j < k then v.get j * 12 else v.get j).cells 44 (0, 0)) ∧ wr.heap[w.heap.size + 1]? = some (.cells V6.zero.cells 79 (0, 0)) ∧ Ext w wr) (fun i _ => 6 - (intOf i).toNat)
    case atStart => exact ⟨0, by omega, rfl, by simpa [V6.of, V6.get] using g0, g1, X1⟩
    case round =>
      clear g0 g1 hc1 hf1 hz1 X1 w1
      obtain ⟨k, hk, rfl, c0, c1, X⟩ := hrel
      by_cases hlt : k < 6
      · have hg := block_cell c0 k _ (V6.cells_at _ hlt)
        have hf := block_free c0 k
        rw [V6.get_of _ hlt, if_neg (by omega)] at hg
        obtain ⟨b1, b2⟩ := hbd k hlt
        have n0 := block_set c0 k (.int .i64 (v.get k * 12))
        rw [V6.cells_put _ hlt, ← times_put v k hlt] at n0
        have n1 := block_ne c1 (g := w.heap.size) k (.int .i64 (v.get k * 12)) (by omega)
        have N0 := Lib.hid n0; have N1 := Lib.hid n1
        clear n0 n1 c0 c1 hbd
        go_wp2
        go_roundw
        case rel => exact ⟨k + 1, by omega, by go_num, N0.out, N1.out, (by repeat (first | with_reducible exact Ext.refl _ | with_reducible assumption | with_reducible apply Ext.alloc | with_reducible apply Ext.drew | (with_reducible refine Ext.setCell ?_ (by (try simp) <;> omega) _)))⟩
        case measure => simp [intOf]; omega
      · obtain rfl : k = 6 := by omega
        have e : (V6.of fun j => if j < 6 then v.get j * 12 else v.get j) = v.times 12 := V6.ext' fun j hj => by simp [V6.times, V6.get_of _ hj, hj]
        rw [e] at c0
        clear e
        obtain ⟨r0, s0⟩ := block_rules c0
        obtain ⟨r1, s1⟩ := block_rules c1
        have R0 : ∀ j, wr.cell? ⟨w.heap.size, j, none⟩ = (#[.int .i64 (v.times 12).a, .int .i64 (v.times 12).b, .int .i64 (v.times 12).c, .int .i64 (v.times 12).d, .int .i64 (v.times 12).e, .int .i64 (v.times 12).f] : Array Value)[j]? := r0
        have R1 : ∀ j, wr.cell? ⟨w.heap.size + 1, j, none⟩ = (#[.int .i64 V6.zero.a, .int .i64 V6.zero.b, .int .i64 V6.zero.c, .int .i64 V6.zero.d, .int .i64 V6.zero.e, .int .i64 V6.zero.f] : Array Value)[j]? := r1
        clear r0 r1 c0 c1 s0
        go_wp2
        exact bodyPost_ret (v := .tuple #[(v.times 12).val, .int .i64 0]) (by simp [results, Tryz.results16, go_sem, V6.val, R1]) rfl ⟨by rw [ofR, if_pos HV.out] <;> rfl, (by repeat (first | with_reducible exact Ext.refl _ | with_reducible assumption | with_reducible apply Ext.alloc | with_reducible apply Ext.drew | (with_reducible refine Ext.setCell ?_ (by (try simp) <;> omega) _)))⟩
end Go.Proofs.YthpfalbeieloaaaGreatDoor

/-
  Walks: size.exponents, size.Of.
-/
set_option linter.unusedVariables false
namespace Go.Proofs.YthpfalbeieloaaaGreatDoor
open Go.RowKit Go.Sx Go.Sx.Sz

set_option maxRecDepth 100000 in
set_option maxHeartbeats 2000000 in
theorem expo_walk (v : V6) (hv : within v 4000 = true) (w : World) (G : Gl 1 w) : Calls Tryz.prog 43 #[.agg #[.int .i64 v.a, .int .i64 v.b, .int .i64 v.c, .int .i64 v.d, .int .i64 v.e, .int .i64 v.f]] w fun e w' => e = .returned (.agg #[.int .i64 (expo v).lo, .int .i64 (expo v).hi]) ∧ Ext w w' := by
  have ix := fun (k : Nat) (hk : k < 6) (w : World) => run_index_logs (P := Tryz.prog) (t := 157) Tryz.underlying157 Tryz.underlying50 (by kernel_rfl) hk w
  have hbd := fun k (hk : k < 6) => Sz.within_iff.1 hv k hk
  have hsb := fun (k : Nat) (hk : k ≤ 6) => s_bd hv hk
  clear hv
  go_enter Tryz.func43, Tryz.ntmps43
  go_wp2_with (refine wpList_load_mid rfl 157 (.global 1) rfl 1 0 rfl logCells _ (G.ext (by repeat (first | with_reducible exact Ext.refl _ | with_reducible assumption | with_reducible apply Ext.alloc | with_reducible apply Ext.drew | (with_reducible refine Ext.setCell ?_ (by (try simp) <;> omega) _)))).logRange Tryz.underlying157 rfl (by kernel_rfl) ?_)
  go_loopw [7] (fun i wr => ∃ k : Nat, k ≤ 6 ∧ i = .int .i64 k ∧ wr.heap[w.heap.size]? = some (.cells v.cells 43 (0, 0)) ∧ wr.heap[w.heap.size + 1]? = some (.cells #[.int .i64 0, .int .i64 0] 50 (0, 0)) ∧ wr.heap[w.heap.size + 2]? = some (.cells #[.int .i64 (sLo v k), .int .i64 (sHi v k)] 50 (0, 0)) ∧ Ext w wr) (fun i _ => 6 - (intOf i).toNat)
  case atStart => exact ⟨0, by omega, rfl, block_alloc (block_alloc (block_new w _) _) _, block_alloc (block_at (by simp) _) _, block_at (by simp) _, (by repeat (first | with_reducible exact Ext.refl _ | with_reducible assumption | with_reducible apply Ext.alloc | with_reducible apply Ext.drew | (with_reducible refine Ext.setCell ?_ (by (try simp) <;> omega) _)))⟩
  case round =>
    obtain ⟨k, hk, rfl, c0, c1, c2, X⟩ := hrel
    by_cases hlt : k < 6
    · have hx := ix k hlt
      have hcell := block_cell c0 k _ (V6.cells_at _ hlt)
      obtain ⟨b1, b2⟩ := hbd k hlt
      clear ix hbd
      have hz := block_lt c2
      have hz0 : w.heap.size < wr.heap.size := by omega
      have hz1 : w.heap.size ≠ wr.heap.size := by omega
      obtain ⟨W, hW⟩ : ∃ W : World, wr = W := ⟨_, rfl⟩
      subst hW
      have hm := t_bd k b1 b2
      have hle := tLo_le (v.get k) k
      have hs := hsb k hk
      obtain ⟨A, Bv, hA, hB, hnew⟩ : ∃ A Bv : Int, v.get k * A = tLo (v.get k) k ∧ v.get k * Bv = tHi (v.get k) k ∧ ((v.get k < 0 ∧ A = logHi k ∧ Bv = logLo k) ∨ (¬ v.get k < 0 ∧ A = logLo k ∧ Bv = logHi k)) := by
        by_cases hneg : v.get k < 0
        · exact ⟨_, _, by rw [tLo, if_pos hneg], by rw [tHi, if_pos hneg], .inl ⟨hneg, rfl, rfl⟩⟩
        · exact ⟨_, _, by rw [tLo, if_neg hneg], by rw [tHi, if_neg hneg], .inr ⟨hneg, rfl, rfl⟩⟩
      have w1 : IntKind.i64.wrap (v.get k * A) = v.get k * A := IntWalk.i64_in _ (by rw [hA]; omega)
      have w2 : IntKind.i64.wrap (sLo v k + v.get k * A) = sLo v k + v.get k * A := IntWalk.i64_in _ (by rw [hA]; omega)
      have w3 : IntKind.i64.wrap (v.get k * Bv) = v.get k * Bv := IntWalk.i64_in _ (by rw [hB]; omega)
      have w4 : IntKind.i64.wrap (sHi v k + v.get k * Bv) = sHi v k + v.get k * Bv := IntWalk.i64_in _ (by rw [hB]; omega)
      have HA := Lib.hid hA; have HB := Lib.hid hB; have H1 := Lib.hid w1; have H2 := Lib.hid w2; have H3 := Lib.hid w3; have H4 := Lib.hid w4
      clear hA hB w1 w2 w3 w4 hm hle hs b1 b2
      have C0 := Lib.hid c0; have C1 := Lib.hid c1; have C2 := Lib.hid c2
      clear c0 c1 c2
      rcases hnew with ⟨hneg, e1, e2⟩ | ⟨hneg, e1, e2⟩
      all_goals
        have E1 := Lib.hid e1; have E2 := Lib.hid e2
        clear e1 e2
        go_wp2
        rw [← E1.out, ← E2.out]
        have d2 := block_alloc C2.out (.cells #[.int .i64 A, .int .i64 Bv] 50)
        have d1 := block_alloc C1.out (.cells #[.int .i64 A, .int .i64 Bv] 50)
        have d0 := block_alloc C0.out (.cells #[.int .i64 A, .int .i64 Bv] 50)
        have d3 := block_new wr (.cells #[.int .i64 A, .int .i64 Bv] 50)
        have X2 := X.alloc (.cells #[.int .i64 A, .int .i64 Bv] 50)
        obtain ⟨N, hN⟩ : ∃ N : Nat, wr.heap.size = N := ⟨_, rfl⟩
        obtain ⟨W, hW⟩ : ∃ W : World, wr.alloc (.cells #[.int .i64 A, .int .i64 Bv] 50) = W := ⟨_, rfl⟩
        rw [hN] at d3 ⊢
        rw [hW] at d0 d1 d2 d3 X2 ⊢
        have f0 := ext_cells (block_cell d0 k _ (V6.cells_at _ hlt))
        have f1 := ext_cells (block_cell d2 0 (.int .i64 (sLo v k)) rfl)
        have f2 := ext_cells (block_cell d3 0 (.int .i64 A) rfl)
        clear hcell hz0 hz1 hx
        have hN2 : w.heap.size + 2 < N := by omega
        clear hz hW hN
        refine wp_region_ord [(0,true), (1,true), (2,true), (3,true), (4,true), (5,true), (6,true), (7,true), (8,true), (9,true)] 10 Ext (Ext W) wide (by kernel_rfl) (stable_ext _) (Ext.drawn _ _) ?_
        have h1 := H1.out; have h2 := H2.out
        clear hsb hneg
        iterate 10 (apply wpOrd_det rfl rfl; (intro w' hw'; unfold opR; go_simp; exact ⟨Ext.refl _, rfl⟩); (simp only [List.getElem_toArray, List.getElem_cons_succ, List.getElem_cons_zero, Act.put, List.setIfInBounds_toArray, List.set_cons_succ, List.set_cons_zero]; rfl))
        clear h1 h2 f0 f1 f2
        refine wpOrd_nil rfl ?_
        intro W3 hW3
        replace d0 := block_ext hW3 d0
        replace d1 := block_ext hW3 d1
        replace d2 := block_ext hW3 d2
        replace d3 := block_ext hW3 d3
        replace X2 := X2.trans hW3
        clear hW3 W
        obtain ⟨r2, s2⟩ := block_rules d2
        go_wp2
        clear r2 s2
        replace d0 := block_ne d0 (g := w.heap.size + 1 + 1) 0 (.int .i64 (sLo v k + v.get k * A)) (by omega)
        replace d1 := block_ne d1 (g := w.heap.size + 1 + 1) 0 (.int .i64 (sLo v k + v.get k * A)) (by omega)
        replace d3 := block_ne d3 (g := w.heap.size + 1 + 1) 0 (.int .i64 (sLo v k + v.get k * A)) (by omega)
        replace d2 : (W3.setCell ⟨w.heap.size + 1 + 1, 0, none⟩ (.int .i64 (sLo v k + v.get k * A))).heap[w.heap.size + 2]? = some (.cells #[.int .i64 (sLo v k + v.get k * A), .int .i64 (sHi v k)] 50 (0, 0)) := block_set d2 0 _
        replace X2 : Ext w (W3.setCell ⟨w.heap.size + 1 + 1, 0, none⟩ (.int .i64 (sLo v k + v.get k * A))) := X2.setCell (by show w.heap.size ≤ w.heap.size + 1 + 1; omega) _
        obtain ⟨W, hW⟩ : ∃ W : World, W3.setCell ⟨w.heap.size + 1 + 1, 0, none⟩ (.int .i64 (sLo v k + v.get k * A)) = W := ⟨_, rfl⟩
        rw [hW] at d0 d1 d2 d3 X2 ⊢
        clear hW W3
        have f0 := ext_cells (block_cell d0 k _ (V6.cells_at _ hlt))
        have f1 := ext_cells (block_cell d2 1 (.int .i64 (sHi v k)) rfl)
        have f2 := ext_cells (block_cell d3 1 (.int .i64 Bv) rfl)
        refine wp_region_ord [(0,true), (1,true), (2,true), (3,true), (4,true), (5,true), (6,true), (7,true), (8,true), (9,true)] 10 Ext (Ext W) wide (by kernel_rfl) (stable_ext _) (Ext.drawn _ _) ?_
        have h1 := H3.out; have h2 := H4.out
        iterate 10 (apply wpOrd_det rfl rfl; (intro w' hw'; unfold opR; go_simp; exact ⟨Ext.refl _, rfl⟩); (simp only [List.getElem_toArray, List.getElem_cons_succ, List.getElem_cons_zero, Act.put, List.setIfInBounds_toArray, List.set_cons_succ, List.set_cons_zero]; rfl))
        clear h1 h2 f0 f1 f2
        refine wpOrd_nil rfl ?_
        intro W3 hW3
        replace d0 := block_ext hW3 d0
        replace d1 := block_ext hW3 d1
        replace d2 := block_ext hW3 d2
        replace X2 := X2.trans hW3
        clear hW3 d3 W
        obtain ⟨r2, s2⟩ := block_rules d2
        replace d0 := block_ne d0 (g := w.heap.size + 2) 1 (.int .i64 (sHi v k + v.get k * Bv)) (by omega)
        replace d1 := block_ne d1 (g := w.heap.size + 2) 1 (.int .i64 (sHi v k + v.get k * Bv)) (by omega)
        replace d2 : (W3.setCell ⟨w.heap.size + 2, 1, none⟩ (.int .i64 (sHi v k + v.get k * Bv))).heap[w.heap.size + 2]? = some (.cells #[.int .i64 (sLo v (k + 1)), .int .i64 (sHi v (k + 1))] 50 (0, 0)) := by
          rw [show sLo v (k + 1) = sLo v k + v.get k * A by rw [HA.out]; rfl, show sHi v (k + 1) = sHi v k + v.get k * Bv by rw [HB.out]; rfl]
          exact block_set d2 1 _
        have D0 := Lib.hid d0; have D1 := Lib.hid d1; have D2 := Lib.hid d2
        clear d0 d1 d2
        go_wp2
        go_roundw
        case rel => exact ⟨k + 1, by omega, by go_num, D0.out, D1.out, D2.out, X2.setCell (by show w.heap.size ≤ w.heap.size + 1 + 1; omega) _⟩
        case measure => simp [intOf]; omega
    · obtain rfl : k = 6 := by omega
      obtain ⟨r1, s1⟩ := block_rules c1
      obtain ⟨r2, s2⟩ := block_rules c2
      clear ix hbd hsb c0 c1 c2
      go_wp2
      exact bodyPost_ret (v := .agg #[.int .i64 (sLo v 6), .int .i64 (sHi v 6)]) (by simp [results, Tryz.results43, go_sem, r1]) rfl ⟨rfl, (by repeat (first | with_reducible exact Ext.refl _ | with_reducible assumption | with_reducible apply Ext.alloc | with_reducible apply Ext.drew | (with_reducible refine Ext.setCell ?_ (by (try simp) <;> omega) _)))⟩
end Go.Proofs.YthpfalbeieloaaaGreatDoor

/-
  Walks: size.Of, plus, minus, combine, Add, Sub, Cmp, Meet.
-/
set_option linter.unusedVariables false
namespace Go.Proofs.YthpfalbeieloaaaGreatDoor
open Go.RowKit Go.Sx Go.Sx.Sz


set_option maxRecDepth 100000 in
set_option maxHeartbeats 1000000 in
theorem sof_walk (p : V6) (w : World) (G : Gl 1 w) : Calls Tryz.prog 17 #[.agg #[.int .i64 p.a, .int .i64 p.b, .int .i64 p.c, .int .i64 p.d, .int .i64 p.e, .int .i64 p.f]] w fun e w' => e = .returned (.tuple #[.agg #[.int .i64 (sizeR p).1.lo, .int .i64 (sizeR p).1.hi], .int .i64 (sizeR p).2]) ∧ Ext w w' := by
  cases hv : within p 576 with
  | false =>
    have HV := Lib.hid hv; clear hv
    go_enter Tryz.func17, Tryz.ntmps17
    go_wp2_with fail
    refine (pvalid_walk p _).mono ?_
    rw [HV.out]
    rintro e w1 ⟨rfl, x1⟩
    obtain ⟨hc1, hf1⟩ := x1.rules
    have hz1 : w.heap.size + 1 < w1.heap.size := by have := x1.size; (try simp at this); omega
    have X1 : Ext w w1 := Ext.trans (by repeat (first | with_reducible exact Ext.refl _ | with_reducible assumption | with_reducible apply Ext.alloc | with_reducible apply Ext.drew | (with_reducible refine Ext.setCell ?_ (by (try simp) <;> omega) _))) x1
    go_wp2
    exact bodyPost_ret (v := .tuple #[.agg #[.int .i64 zeroS.lo, .int .i64 zeroS.hi], .int .i64 1]) (by simp [results, Tryz.results17, go_sem, hc1, zeroS]) rfl ⟨by rw [sizeR, if_neg (by rw [HV.out]; decide)], (by repeat (first | with_reducible exact Ext.refl _ | with_reducible assumption | with_reducible apply Ext.alloc | with_reducible apply Ext.drew | (with_reducible refine Ext.setCell ?_ (by (try simp) <;> omega) _)))⟩
  | true =>
    have HV := Lib.hid hv
    have hw := within_mono (A := 576) (B := 4000) (by omega) hv
    have HW := Lib.hid hw
    clear hv hw
    go_enter Tryz.func17, Tryz.ntmps17
    go_wp2_with fail
    refine (pvalid_walk p _).mono ?_
    rw [HV.out]
    rintro e w1 ⟨rfl, x1⟩
    obtain ⟨hc1, hf1⟩ := x1.rules
    have hz1 : w.heap.size + 1 < w1.heap.size := by have := x1.size; (try simp at this); omega
    have X1 : Ext w w1 := Ext.trans (by repeat (first | with_reducible exact Ext.refl _ | with_reducible assumption | with_reducible apply Ext.alloc | with_reducible apply Ext.drew | (with_reducible refine Ext.setCell ?_ (by (try simp) <;> omega) _))) x1
    go_wp2_with fail
    refine (expo_walk p HW.out _ (G.ext X1)).mono ?_
    rintro e w2 ⟨rfl, x2⟩
    obtain ⟨hc2, hf2⟩ := x2.rules
    have hz2 : w.heap.size + 1 < w2.heap.size := by have := x2.size; omega
    have X2 : Ext w w2 := Ext.trans X1 x2
    go_wp2
    exact bodyPost_ret (v := .tuple #[.agg #[.int .i64 (expo p).lo, .int .i64 (expo p).hi], .int .i64 0]) (by simp [results, Tryz.results17, go_sem, hc1, hc2, hz1]) rfl ⟨by rw [sizeR, if_pos HV.out] <;> rfl, (by repeat (first | with_reducible exact Ext.refl _ | with_reducible assumption | with_reducible apply Ext.alloc | with_reducible apply Ext.drew | (with_reducible refine Ext.setCell ?_ (by (try simp) <;> omega) _)))⟩
set_option maxRecDepth 100000 in
set_option maxHeartbeats 1000000 in
theorem plus_walk (a b : S2) (ha : szOk a = true) (hb : szOk b = true) (w : World) : Calls Tryz.prog 45 #[.agg #[.int .i64 a.lo, .int .i64 a.hi], .agg #[.int .i64 b.lo, .int .i64 b.hi]] w fun e w' => e = .returned (.agg #[.int .i64 (addS a b).lo, .int .i64 (addS a b).hi]) ∧ Ext w w' := by
  obtain ⟨a1, a2, a3⟩ := szOk_iff.1 ha
  obtain ⟨b1, b2, b3⟩ := szOk_iff.1 hb
  clear ha hb
  go_enter Tryz.func45, Tryz.ntmps45
  go_wp2
  exact bodyPost_ret (v := .agg #[.int .i64 (addS a b).lo, .int .i64 (addS a b).hi]) (by simp [results, Tryz.results45, go_sem, addS]) rfl ⟨rfl, (by repeat (first | with_reducible exact Ext.refl _ | with_reducible assumption | with_reducible apply Ext.alloc | with_reducible apply Ext.drew | (with_reducible refine Ext.setCell ?_ (by (try simp) <;> omega) _)))⟩

set_option maxRecDepth 100000 in
set_option maxHeartbeats 1000000 in
theorem minus_walk (a b : S2) (ha : szOk a = true) (hb : szOk b = true) (w : World) : Calls Tryz.prog 98 #[.agg #[.int .i64 a.lo, .int .i64 a.hi], .agg #[.int .i64 b.lo, .int .i64 b.hi]] w fun e w' => e = .returned (.agg #[.int .i64 (subS a b).lo, .int .i64 (subS a b).hi]) ∧ Ext w w' := by
  obtain ⟨a1, a2, a3⟩ := szOk_iff.1 ha
  obtain ⟨b1, b2, b3⟩ := szOk_iff.1 hb
  clear ha hb
  go_enter Tryz.func98, Tryz.ntmps98
  go_wp2
  exact bodyPost_ret (v := .agg #[.int .i64 (subS a b).lo, .int .i64 (subS a b).hi]) (by simp [results, Tryz.results98, go_sem, subS]) rfl ⟨rfl, (by repeat (first | with_reducible exact Ext.refl _ | with_reducible assumption | with_reducible apply Ext.alloc | with_reducible apply Ext.drew | (with_reducible refine Ext.setCell ?_ (by (try simp) <;> omega) _)))⟩

set_option maxRecDepth 100000 in
theorem addR_a {a b : S2} (h : szOk a = false) : addR a b = (zeroS, 1) := by simp [addR, combR, h]
set_option maxRecDepth 100000 in
theorem addR_b {a b : S2} (h : szOk b = false) : addR a b = (zeroS, 1) := by simp [addR, combR, h]
set_option maxRecDepth 100000 in
theorem addR_c {a b : S2} (h : szOk a = true) (k : szOk b = true) (l : szOk (addS a b) = false) : addR a b = (zeroS, 3) := by simp [addR, combR, h, k, l]
set_option maxRecDepth 100000 in
theorem addR_d {a b : S2} (h : szOk a = true) (k : szOk b = true) (l : szOk (addS a b) = true) : addR a b = (addS a b, 0) := by simp [addR, combR, h, k, l]

set_option maxRecDepth 100000 in
set_option maxHeartbeats 2000000 in
theorem comb_plus_walk (a b : S2) (w : World) : Calls Tryz.prog 44 #[.func (.func 45) #[] #[], .agg #[.int .i64 a.lo, .int .i64 a.hi], .agg #[.int .i64 b.lo, .int .i64 b.hi]] w fun e w' => e = .returned (.tuple #[.agg #[.int .i64 (addR a b).1.lo, .int .i64 (addR a b).1.hi], .int .i64 (addR a b).2]) ∧ Ext w w' := by
  cases ha : szOk a with
  | false =>
    have HA := Lib.hid ha; clear ha
    go_enter Tryz.func44, Tryz.ntmps44
    go_wp2_with fail
    refine (szvalid_walk a _).mono ?_
    rw [HA.out]
    rintro e w1 ⟨rfl, x1⟩
    obtain ⟨hc1, hf1⟩ := x1.rules
    obtain ⟨hz1_0, hz1_1, hz1_2⟩ : w.heap.size < w1.heap.size ∧ w.heap.size + 1 < w1.heap.size ∧ w.heap.size + 1 + 1 < w1.heap.size := by have := x1.size; (try simp at this); omega
    obtain ⟨hl1_0, hl1_1, hl1_2, hl1_3, hl1_4, hl1_5, hl1_6, hl1_7, hl1_8, hl1_9, hl1_10, hl1_11⟩ : w.heap.size < w1.heap.size + 1 ∧ w.heap.size < w1.heap.size + 1 + 1 ∧ w.heap.size < w1.heap.size + 1 + 1 + 1 ∧ w.heap.size + 1 < w1.heap.size + 1 ∧ w.heap.size + 1 < w1.heap.size + 1 + 1 ∧ w.heap.size + 1 < w1.heap.size + 1 + 1 + 1 ∧ w.heap.size + 1 + 1 < w1.heap.size + 1 ∧ w.heap.size + 1 + 1 < w1.heap.size + 1 + 1 ∧ w.heap.size + 1 + 1 < w1.heap.size + 1 + 1 + 1 ∧ ¬ w.heap.size = w1.heap.size ∧ ¬ w.heap.size + 1 = w1.heap.size ∧ ¬ w.heap.size + 1 + 1 = w1.heap.size := by omega
    have X1 : Ext w w1 := Ext.trans (by repeat (first | with_reducible exact Ext.refl _ | with_reducible assumption | with_reducible apply Ext.alloc | with_reducible apply Ext.drew | (with_reducible refine Ext.setCell ?_ (by (try simp) <;> omega) _))) x1
    go_wp2
    refine bodyPost_ret (v := .tuple #[.agg #[.int .i64 0, .int .i64 0], .int .i64 1]) (by simp [results, Tryz.results44, go_sem, *]) rfl ⟨?_, (by repeat (first | with_reducible exact Ext.refl _ | with_reducible assumption | with_reducible apply Ext.alloc | with_reducible apply Ext.drew | (with_reducible refine Ext.setCell ?_ (by (try simp) <;> omega) _)))⟩
    rw [addR_a HA.out] <;> rfl
  | true =>
  cases hb : szOk b with
  | false =>
    have HA := Lib.hid ha; clear ha
    have HB := Lib.hid hb; clear hb
    go_enter Tryz.func44, Tryz.ntmps44
    go_wp2_with fail
    refine (szvalid_walk a _).mono ?_
    rw [HA.out]
    rintro e w1 ⟨rfl, x1⟩
    obtain ⟨hc1, hf1⟩ := x1.rules
    obtain ⟨hz1_0, hz1_1, hz1_2⟩ : w.heap.size < w1.heap.size ∧ w.heap.size + 1 < w1.heap.size ∧ w.heap.size + 1 + 1 < w1.heap.size := by have := x1.size; (try simp at this); omega
    obtain ⟨hl1_0, hl1_1, hl1_2, hl1_3, hl1_4, hl1_5, hl1_6, hl1_7, hl1_8, hl1_9, hl1_10, hl1_11⟩ : w.heap.size < w1.heap.size + 1 ∧ w.heap.size < w1.heap.size + 1 + 1 ∧ w.heap.size < w1.heap.size + 1 + 1 + 1 ∧ w.heap.size + 1 < w1.heap.size + 1 ∧ w.heap.size + 1 < w1.heap.size + 1 + 1 ∧ w.heap.size + 1 < w1.heap.size + 1 + 1 + 1 ∧ w.heap.size + 1 + 1 < w1.heap.size + 1 ∧ w.heap.size + 1 + 1 < w1.heap.size + 1 + 1 ∧ w.heap.size + 1 + 1 < w1.heap.size + 1 + 1 + 1 ∧ ¬ w.heap.size = w1.heap.size ∧ ¬ w.heap.size + 1 = w1.heap.size ∧ ¬ w.heap.size + 1 + 1 = w1.heap.size := by omega
    have X1 : Ext w w1 := Ext.trans (by repeat (first | with_reducible exact Ext.refl _ | with_reducible assumption | with_reducible apply Ext.alloc | with_reducible apply Ext.drew | (with_reducible refine Ext.setCell ?_ (by (try simp) <;> omega) _))) x1
    go_wp2_with fail
    refine (szvalid_walk b _).mono ?_
    rw [HB.out]
    rintro e w2 ⟨rfl, x2⟩
    obtain ⟨hc2, hf2⟩ := x2.rules
    obtain ⟨hz2_0, hz2_1, hz2_2⟩ : w.heap.size < w2.heap.size ∧ w.heap.size + 1 < w2.heap.size ∧ w.heap.size + 1 + 1 < w2.heap.size := by have := x2.size; (try simp at this); omega
    obtain ⟨hl2_0, hl2_1, hl2_2, hl2_3, hl2_4, hl2_5, hl2_6, hl2_7, hl2_8, hl2_9, hl2_10, hl2_11⟩ : w.heap.size < w2.heap.size + 1 ∧ w.heap.size < w2.heap.size + 1 + 1 ∧ w.heap.size < w2.heap.size + 1 + 1 + 1 ∧ w.heap.size + 1 < w2.heap.size + 1 ∧ w.heap.size + 1 < w2.heap.size + 1 + 1 ∧ w.heap.size + 1 < w2.heap.size + 1 + 1 + 1 ∧ w.heap.size + 1 + 1 < w2.heap.size + 1 ∧ w.heap.size + 1 + 1 < w2.heap.size + 1 + 1 ∧ w.heap.size + 1 + 1 < w2.heap.size + 1 + 1 + 1 ∧ ¬ w.heap.size = w2.heap.size ∧ ¬ w.heap.size + 1 = w2.heap.size ∧ ¬ w.heap.size + 1 + 1 = w2.heap.size := by omega
    have X2 : Ext w w2 := Ext.trans (by repeat (first | with_reducible exact Ext.refl _ | with_reducible assumption | with_reducible apply Ext.alloc | with_reducible apply Ext.drew | (with_reducible refine Ext.setCell ?_ (by (try simp) <;> omega) _))) x2
    go_wp2
    refine bodyPost_ret (v := .tuple #[.agg #[.int .i64 0, .int .i64 0], .int .i64 1]) (by simp [results, Tryz.results44, go_sem, *]) rfl ⟨?_, (by repeat (first | with_reducible exact Ext.refl _ | with_reducible assumption | with_reducible apply Ext.alloc | with_reducible apply Ext.drew | (with_reducible refine Ext.setCell ?_ (by (try simp) <;> omega) _)))⟩
    rw [addR_b HB.out] <;> rfl
  | true =>
  cases hc : szOk (addS a b) with
  | false =>
    have HA := Lib.hid ha; clear ha
    have HB := Lib.hid hb; clear hb
    have HC := Lib.hid hc; clear hc
    go_enter Tryz.func44, Tryz.ntmps44
    go_wp2_with fail
    refine (szvalid_walk a _).mono ?_
    rw [HA.out]
    rintro e w1 ⟨rfl, x1⟩
    obtain ⟨hc1, hf1⟩ := x1.rules
    obtain ⟨hz1_0, hz1_1, hz1_2⟩ : w.heap.size < w1.heap.size ∧ w.heap.size + 1 < w1.heap.size ∧ w.heap.size + 1 + 1 < w1.heap.size := by have := x1.size; (try simp at this); omega
    obtain ⟨hl1_0, hl1_1, hl1_2, hl1_3, hl1_4, hl1_5, hl1_6, hl1_7, hl1_8, hl1_9, hl1_10, hl1_11⟩ : w.heap.size < w1.heap.size + 1 ∧ w.heap.size < w1.heap.size + 1 + 1 ∧ w.heap.size < w1.heap.size + 1 + 1 + 1 ∧ w.heap.size + 1 < w1.heap.size + 1 ∧ w.heap.size + 1 < w1.heap.size + 1 + 1 ∧ w.heap.size + 1 < w1.heap.size + 1 + 1 + 1 ∧ w.heap.size + 1 + 1 < w1.heap.size + 1 ∧ w.heap.size + 1 + 1 < w1.heap.size + 1 + 1 ∧ w.heap.size + 1 + 1 < w1.heap.size + 1 + 1 + 1 ∧ ¬ w.heap.size = w1.heap.size ∧ ¬ w.heap.size + 1 = w1.heap.size ∧ ¬ w.heap.size + 1 + 1 = w1.heap.size := by omega
    have X1 : Ext w w1 := Ext.trans (by repeat (first | with_reducible exact Ext.refl _ | with_reducible assumption | with_reducible apply Ext.alloc | with_reducible apply Ext.drew | (with_reducible refine Ext.setCell ?_ (by (try simp) <;> omega) _))) x1
    go_wp2_with fail
    refine (szvalid_walk b _).mono ?_
    rw [HB.out]
    rintro e w2 ⟨rfl, x2⟩
    obtain ⟨hc2, hf2⟩ := x2.rules
    obtain ⟨hz2_0, hz2_1, hz2_2⟩ : w.heap.size < w2.heap.size ∧ w.heap.size + 1 < w2.heap.size ∧ w.heap.size + 1 + 1 < w2.heap.size := by have := x2.size; (try simp at this); omega
    obtain ⟨hl2_0, hl2_1, hl2_2, hl2_3, hl2_4, hl2_5, hl2_6, hl2_7, hl2_8, hl2_9, hl2_10, hl2_11⟩ : w.heap.size < w2.heap.size + 1 ∧ w.heap.size < w2.heap.size + 1 + 1 ∧ w.heap.size < w2.heap.size + 1 + 1 + 1 ∧ w.heap.size + 1 < w2.heap.size + 1 ∧ w.heap.size + 1 < w2.heap.size + 1 + 1 ∧ w.heap.size + 1 < w2.heap.size + 1 + 1 + 1 ∧ w.heap.size + 1 + 1 < w2.heap.size + 1 ∧ w.heap.size + 1 + 1 < w2.heap.size + 1 + 1 ∧ w.heap.size + 1 + 1 < w2.heap.size + 1 + 1 + 1 ∧ ¬ w.heap.size = w2.heap.size ∧ ¬ w.heap.size + 1 = w2.heap.size ∧ ¬ w.heap.size + 1 + 1 = w2.heap.size := by omega
    have X2 : Ext w w2 := Ext.trans (by repeat (first | with_reducible exact Ext.refl _ | with_reducible assumption | with_reducible apply Ext.alloc | with_reducible apply Ext.drew | (with_reducible refine Ext.setCell ?_ (by (try simp) <;> omega) _))) x2
    go_wp2_with fail
    refine (plus_walk a b HA.out HB.out _).mono ?_
    rintro e w3 ⟨rfl, x3⟩
    obtain ⟨hc3, hf3⟩ := x3.rules
    obtain ⟨hz3_0, hz3_1, hz3_2⟩ : w.heap.size < w3.heap.size ∧ w.heap.size + 1 < w3.heap.size ∧ w.heap.size + 1 + 1 < w3.heap.size := by have := x3.size; (try simp at this); omega
    obtain ⟨hl3_0, hl3_1, hl3_2, hl3_3, hl3_4, hl3_5, hl3_6, hl3_7, hl3_8, hl3_9, hl3_10, hl3_11⟩ : w.heap.size < w3.heap.size + 1 ∧ w.heap.size < w3.heap.size + 1 + 1 ∧ w.heap.size < w3.heap.size + 1 + 1 + 1 ∧ w.heap.size + 1 < w3.heap.size + 1 ∧ w.heap.size + 1 < w3.heap.size + 1 + 1 ∧ w.heap.size + 1 < w3.heap.size + 1 + 1 + 1 ∧ w.heap.size + 1 + 1 < w3.heap.size + 1 ∧ w.heap.size + 1 + 1 < w3.heap.size + 1 + 1 ∧ w.heap.size + 1 + 1 < w3.heap.size + 1 + 1 + 1 ∧ ¬ w.heap.size = w3.heap.size ∧ ¬ w.heap.size + 1 = w3.heap.size ∧ ¬ w.heap.size + 1 + 1 = w3.heap.size := by omega
    have X3 : Ext w w3 := Ext.trans (by repeat (first | with_reducible exact Ext.refl _ | with_reducible assumption | with_reducible apply Ext.alloc | with_reducible apply Ext.drew | (with_reducible refine Ext.setCell ?_ (by (try simp) <;> omega) _))) x3
    go_wp2_with fail
    refine (szvalid_walk (addS a b) _).mono ?_
    rw [HC.out]
    rintro e w4 ⟨rfl, x4⟩
    obtain ⟨hc4, hf4⟩ := x4.rules
    obtain ⟨hz4_0, hz4_1, hz4_2⟩ : w.heap.size < w4.heap.size ∧ w.heap.size + 1 < w4.heap.size ∧ w.heap.size + 1 + 1 < w4.heap.size := by have := x4.size; (try simp at this); omega
    obtain ⟨hl4_0, hl4_1, hl4_2, hl4_3, hl4_4, hl4_5, hl4_6, hl4_7, hl4_8, hl4_9, hl4_10, hl4_11⟩ : w.heap.size < w4.heap.size + 1 ∧ w.heap.size < w4.heap.size + 1 + 1 ∧ w.heap.size < w4.heap.size + 1 + 1 + 1 ∧ w.heap.size + 1 < w4.heap.size + 1 ∧ w.heap.size + 1 < w4.heap.size + 1 + 1 ∧ w.heap.size + 1 < w4.heap.size + 1 + 1 + 1 ∧ w.heap.size + 1 + 1 < w4.heap.size + 1 ∧ w.heap.size + 1 + 1 < w4.heap.size + 1 + 1 ∧ w.heap.size + 1 + 1 < w4.heap.size + 1 + 1 + 1 ∧ ¬ w.heap.size = w4.heap.size ∧ ¬ w.heap.size + 1 = w4.heap.size ∧ ¬ w.heap.size + 1 + 1 = w4.heap.size := by omega
    have X4 : Ext w w4 := Ext.trans (by repeat (first | with_reducible exact Ext.refl _ | with_reducible assumption | with_reducible apply Ext.alloc | with_reducible apply Ext.drew | (with_reducible refine Ext.setCell ?_ (by (try simp) <;> omega) _))) x4
    go_wp2
    refine bodyPost_ret (v := .tuple #[.agg #[.int .i64 0, .int .i64 0], .int .i64 3]) (by simp [results, Tryz.results44, go_sem, *]) rfl ⟨?_, (by repeat (first | with_reducible exact Ext.refl _ | with_reducible assumption | with_reducible apply Ext.alloc | with_reducible apply Ext.drew | (with_reducible refine Ext.setCell ?_ (by (try simp) <;> omega) _)))⟩
    rw [addR_c HA.out HB.out HC.out] <;> rfl
  | true =>
    have HA := Lib.hid ha; clear ha
    have HB := Lib.hid hb; clear hb
    have HC := Lib.hid hc; clear hc
    go_enter Tryz.func44, Tryz.ntmps44
    go_wp2_with fail
    refine (szvalid_walk a _).mono ?_
    rw [HA.out]
    rintro e w1 ⟨rfl, x1⟩
    obtain ⟨hc1, hf1⟩ := x1.rules
    obtain ⟨hz1_0, hz1_1, hz1_2⟩ : w.heap.size < w1.heap.size ∧ w.heap.size + 1 < w1.heap.size ∧ w.heap.size + 1 + 1 < w1.heap.size := by have := x1.size; (try simp at this); omega
    obtain ⟨hl1_0, hl1_1, hl1_2, hl1_3, hl1_4, hl1_5, hl1_6, hl1_7, hl1_8, hl1_9, hl1_10, hl1_11⟩ : w.heap.size < w1.heap.size + 1 ∧ w.heap.size < w1.heap.size + 1 + 1 ∧ w.heap.size < w1.heap.size + 1 + 1 + 1 ∧ w.heap.size + 1 < w1.heap.size + 1 ∧ w.heap.size + 1 < w1.heap.size + 1 + 1 ∧ w.heap.size + 1 < w1.heap.size + 1 + 1 + 1 ∧ w.heap.size + 1 + 1 < w1.heap.size + 1 ∧ w.heap.size + 1 + 1 < w1.heap.size + 1 + 1 ∧ w.heap.size + 1 + 1 < w1.heap.size + 1 + 1 + 1 ∧ ¬ w.heap.size = w1.heap.size ∧ ¬ w.heap.size + 1 = w1.heap.size ∧ ¬ w.heap.size + 1 + 1 = w1.heap.size := by omega
    have X1 : Ext w w1 := Ext.trans (by repeat (first | with_reducible exact Ext.refl _ | with_reducible assumption | with_reducible apply Ext.alloc | with_reducible apply Ext.drew | (with_reducible refine Ext.setCell ?_ (by (try simp) <;> omega) _))) x1
    go_wp2_with fail
    refine (szvalid_walk b _).mono ?_
    rw [HB.out]
    rintro e w2 ⟨rfl, x2⟩
    obtain ⟨hc2, hf2⟩ := x2.rules
    obtain ⟨hz2_0, hz2_1, hz2_2⟩ : w.heap.size < w2.heap.size ∧ w.heap.size + 1 < w2.heap.size ∧ w.heap.size + 1 + 1 < w2.heap.size := by have := x2.size; (try simp at this); omega
    obtain ⟨hl2_0, hl2_1, hl2_2, hl2_3, hl2_4, hl2_5, hl2_6, hl2_7, hl2_8, hl2_9, hl2_10, hl2_11⟩ : w.heap.size < w2.heap.size + 1 ∧ w.heap.size < w2.heap.size + 1 + 1 ∧ w.heap.size < w2.heap.size + 1 + 1 + 1 ∧ w.heap.size + 1 < w2.heap.size + 1 ∧ w.heap.size + 1 < w2.heap.size + 1 + 1 ∧ w.heap.size + 1 < w2.heap.size + 1 + 1 + 1 ∧ w.heap.size + 1 + 1 < w2.heap.size + 1 ∧ w.heap.size + 1 + 1 < w2.heap.size + 1 + 1 ∧ w.heap.size + 1 + 1 < w2.heap.size + 1 + 1 + 1 ∧ ¬ w.heap.size = w2.heap.size ∧ ¬ w.heap.size + 1 = w2.heap.size ∧ ¬ w.heap.size + 1 + 1 = w2.heap.size := by omega
    have X2 : Ext w w2 := Ext.trans (by repeat (first | with_reducible exact Ext.refl _ | with_reducible assumption | with_reducible apply Ext.alloc | with_reducible apply Ext.drew | (with_reducible refine Ext.setCell ?_ (by (try simp) <;> omega) _))) x2
    go_wp2_with fail
    refine (plus_walk a b HA.out HB.out _).mono ?_
    rintro e w3 ⟨rfl, x3⟩
    obtain ⟨hc3, hf3⟩ := x3.rules
    obtain ⟨hz3_0, hz3_1, hz3_2⟩ : w.heap.size < w3.heap.size ∧ w.heap.size + 1 < w3.heap.size ∧ w.heap.size + 1 + 1 < w3.heap.size := by have := x3.size; (try simp at this); omega
    obtain ⟨hl3_0, hl3_1, hl3_2, hl3_3, hl3_4, hl3_5, hl3_6, hl3_7, hl3_8, hl3_9, hl3_10, hl3_11⟩ : w.heap.size < w3.heap.size + 1 ∧ w.heap.size < w3.heap.size + 1 + 1 ∧ w.heap.size < w3.heap.size + 1 + 1 + 1 ∧ w.heap.size + 1 < w3.heap.size + 1 ∧ w.heap.size + 1 < w3.heap.size + 1 + 1 ∧ w.heap.size + 1 < w3.heap.size + 1 + 1 + 1 ∧ w.heap.size + 1 + 1 < w3.heap.size + 1 ∧ w.heap.size + 1 + 1 < w3.heap.size + 1 + 1 ∧ w.heap.size + 1 + 1 < w3.heap.size + 1 + 1 + 1 ∧ ¬ w.heap.size = w3.heap.size ∧ ¬ w.heap.size + 1 = w3.heap.size ∧ ¬ w.heap.size + 1 + 1 = w3.heap.size := by omega
    have X3 : Ext w w3 := Ext.trans (by repeat (first | with_reducible exact Ext.refl _ | with_reducible assumption | with_reducible apply Ext.alloc | with_reducible apply Ext.drew | (with_reducible refine Ext.setCell ?_ (by (try simp) <;> omega) _))) x3
    go_wp2_with fail
    refine (szvalid_walk (addS a b) _).mono ?_
    rw [HC.out]
    rintro e w4 ⟨rfl, x4⟩
    obtain ⟨hc4, hf4⟩ := x4.rules
    obtain ⟨hz4_0, hz4_1, hz4_2⟩ : w.heap.size < w4.heap.size ∧ w.heap.size + 1 < w4.heap.size ∧ w.heap.size + 1 + 1 < w4.heap.size := by have := x4.size; (try simp at this); omega
    obtain ⟨hl4_0, hl4_1, hl4_2, hl4_3, hl4_4, hl4_5, hl4_6, hl4_7, hl4_8, hl4_9, hl4_10, hl4_11⟩ : w.heap.size < w4.heap.size + 1 ∧ w.heap.size < w4.heap.size + 1 + 1 ∧ w.heap.size < w4.heap.size + 1 + 1 + 1 ∧ w.heap.size + 1 < w4.heap.size + 1 ∧ w.heap.size + 1 < w4.heap.size + 1 + 1 ∧ w.heap.size + 1 < w4.heap.size + 1 + 1 + 1 ∧ w.heap.size + 1 + 1 < w4.heap.size + 1 ∧ w.heap.size + 1 + 1 < w4.heap.size + 1 + 1 ∧ w.heap.size + 1 + 1 < w4.heap.size + 1 + 1 + 1 ∧ ¬ w.heap.size = w4.heap.size ∧ ¬ w.heap.size + 1 = w4.heap.size ∧ ¬ w.heap.size + 1 + 1 = w4.heap.size := by omega
    have X4 : Ext w w4 := Ext.trans (by repeat (first | with_reducible exact Ext.refl _ | with_reducible assumption | with_reducible apply Ext.alloc | with_reducible apply Ext.drew | (with_reducible refine Ext.setCell ?_ (by (try simp) <;> omega) _))) x4
    go_wp2
    refine bodyPost_ret (v := .tuple #[.agg #[.int .i64 (addS a b).lo, .int .i64 (addS a b).hi], .int .i64 0]) (by simp [results, Tryz.results44, go_sem, *]) rfl ⟨?_, (by repeat (first | with_reducible exact Ext.refl _ | with_reducible assumption | with_reducible apply Ext.alloc | with_reducible apply Ext.drew | (with_reducible refine Ext.setCell ?_ (by (try simp) <;> omega) _)))⟩
    rw [addR_d HA.out HB.out HC.out] <;> rfl

set_option maxRecDepth 100000 in
theorem subR_a {a b : S2} (h : szOk a = false) : subR a b = (zeroS, 1) := by simp [subR, combR, h]
set_option maxRecDepth 100000 in
theorem subR_b {a b : S2} (h : szOk b = false) : subR a b = (zeroS, 1) := by simp [subR, combR, h]
set_option maxRecDepth 100000 in
theorem subR_c {a b : S2} (h : szOk a = true) (k : szOk b = true) (l : szOk (subS a b) = false) : subR a b = (zeroS, 3) := by simp [subR, combR, h, k, l]
set_option maxRecDepth 100000 in
theorem subR_d {a b : S2} (h : szOk a = true) (k : szOk b = true) (l : szOk (subS a b) = true) : subR a b = (subS a b, 0) := by simp [subR, combR, h, k, l]

set_option maxRecDepth 100000 in
set_option maxHeartbeats 2000000 in
theorem comb_minus_walk (a b : S2) (w : World) : Calls Tryz.prog 44 #[.func (.func 98) #[] #[], .agg #[.int .i64 a.lo, .int .i64 a.hi], .agg #[.int .i64 b.lo, .int .i64 b.hi]] w fun e w' => e = .returned (.tuple #[.agg #[.int .i64 (subR a b).1.lo, .int .i64 (subR a b).1.hi], .int .i64 (subR a b).2]) ∧ Ext w w' := by
  cases ha : szOk a with
  | false =>
    have HA := Lib.hid ha; clear ha
    go_enter Tryz.func44, Tryz.ntmps44
    go_wp2_with fail
    refine (szvalid_walk a _).mono ?_
    rw [HA.out]
    rintro e w1 ⟨rfl, x1⟩
    obtain ⟨hc1, hf1⟩ := x1.rules
    obtain ⟨hz1_0, hz1_1, hz1_2⟩ : w.heap.size < w1.heap.size ∧ w.heap.size + 1 < w1.heap.size ∧ w.heap.size + 1 + 1 < w1.heap.size := by have := x1.size; (try simp at this); omega
    obtain ⟨hl1_0, hl1_1, hl1_2, hl1_3, hl1_4, hl1_5, hl1_6, hl1_7, hl1_8, hl1_9, hl1_10, hl1_11⟩ : w.heap.size < w1.heap.size + 1 ∧ w.heap.size < w1.heap.size + 1 + 1 ∧ w.heap.size < w1.heap.size + 1 + 1 + 1 ∧ w.heap.size + 1 < w1.heap.size + 1 ∧ w.heap.size + 1 < w1.heap.size + 1 + 1 ∧ w.heap.size + 1 < w1.heap.size + 1 + 1 + 1 ∧ w.heap.size + 1 + 1 < w1.heap.size + 1 ∧ w.heap.size + 1 + 1 < w1.heap.size + 1 + 1 ∧ w.heap.size + 1 + 1 < w1.heap.size + 1 + 1 + 1 ∧ ¬ w.heap.size = w1.heap.size ∧ ¬ w.heap.size + 1 = w1.heap.size ∧ ¬ w.heap.size + 1 + 1 = w1.heap.size := by omega
    have X1 : Ext w w1 := Ext.trans (by repeat (first | with_reducible exact Ext.refl _ | with_reducible assumption | with_reducible apply Ext.alloc | with_reducible apply Ext.drew | (with_reducible refine Ext.setCell ?_ (by (try simp) <;> omega) _))) x1
    go_wp2
    refine bodyPost_ret (v := .tuple #[.agg #[.int .i64 0, .int .i64 0], .int .i64 1]) (by simp [results, Tryz.results44, go_sem, *]) rfl ⟨?_, (by repeat (first | with_reducible exact Ext.refl _ | with_reducible assumption | with_reducible apply Ext.alloc | with_reducible apply Ext.drew | (with_reducible refine Ext.setCell ?_ (by (try simp) <;> omega) _)))⟩
    rw [subR_a HA.out] <;> rfl
  | true =>
  cases hb : szOk b with
  | false =>
    have HA := Lib.hid ha; clear ha
    have HB := Lib.hid hb; clear hb
    go_enter Tryz.func44, Tryz.ntmps44
    go_wp2_with fail
    refine (szvalid_walk a _).mono ?_
    rw [HA.out]
    rintro e w1 ⟨rfl, x1⟩
    obtain ⟨hc1, hf1⟩ := x1.rules
    obtain ⟨hz1_0, hz1_1, hz1_2⟩ : w.heap.size < w1.heap.size ∧ w.heap.size + 1 < w1.heap.size ∧ w.heap.size + 1 + 1 < w1.heap.size := by have := x1.size; (try simp at this); omega
    obtain ⟨hl1_0, hl1_1, hl1_2, hl1_3, hl1_4, hl1_5, hl1_6, hl1_7, hl1_8, hl1_9, hl1_10, hl1_11⟩ : w.heap.size < w1.heap.size + 1 ∧ w.heap.size < w1.heap.size + 1 + 1 ∧ w.heap.size < w1.heap.size + 1 + 1 + 1 ∧ w.heap.size + 1 < w1.heap.size + 1 ∧ w.heap.size + 1 < w1.heap.size + 1 + 1 ∧ w.heap.size + 1 < w1.heap.size + 1 + 1 + 1 ∧ w.heap.size + 1 + 1 < w1.heap.size + 1 ∧ w.heap.size + 1 + 1 < w1.heap.size + 1 + 1 ∧ w.heap.size + 1 + 1 < w1.heap.size + 1 + 1 + 1 ∧ ¬ w.heap.size = w1.heap.size ∧ ¬ w.heap.size + 1 = w1.heap.size ∧ ¬ w.heap.size + 1 + 1 = w1.heap.size := by omega
    have X1 : Ext w w1 := Ext.trans (by repeat (first | with_reducible exact Ext.refl _ | with_reducible assumption | with_reducible apply Ext.alloc | with_reducible apply Ext.drew | (with_reducible refine Ext.setCell ?_ (by (try simp) <;> omega) _))) x1
    go_wp2_with fail
    refine (szvalid_walk b _).mono ?_
    rw [HB.out]
    rintro e w2 ⟨rfl, x2⟩
    obtain ⟨hc2, hf2⟩ := x2.rules
    obtain ⟨hz2_0, hz2_1, hz2_2⟩ : w.heap.size < w2.heap.size ∧ w.heap.size + 1 < w2.heap.size ∧ w.heap.size + 1 + 1 < w2.heap.size := by have := x2.size; (try simp at this); omega
    obtain ⟨hl2_0, hl2_1, hl2_2, hl2_3, hl2_4, hl2_5, hl2_6, hl2_7, hl2_8, hl2_9, hl2_10, hl2_11⟩ : w.heap.size < w2.heap.size + 1 ∧ w.heap.size < w2.heap.size + 1 + 1 ∧ w.heap.size < w2.heap.size + 1 + 1 + 1 ∧ w.heap.size + 1 < w2.heap.size + 1 ∧ w.heap.size + 1 < w2.heap.size + 1 + 1 ∧ w.heap.size + 1 < w2.heap.size + 1 + 1 + 1 ∧ w.heap.size + 1 + 1 < w2.heap.size + 1 ∧ w.heap.size + 1 + 1 < w2.heap.size + 1 + 1 ∧ w.heap.size + 1 + 1 < w2.heap.size + 1 + 1 + 1 ∧ ¬ w.heap.size = w2.heap.size ∧ ¬ w.heap.size + 1 = w2.heap.size ∧ ¬ w.heap.size + 1 + 1 = w2.heap.size := by omega
    have X2 : Ext w w2 := Ext.trans (by repeat (first | with_reducible exact Ext.refl _ | with_reducible assumption | with_reducible apply Ext.alloc | with_reducible apply Ext.drew | (with_reducible refine Ext.setCell ?_ (by (try simp) <;> omega) _))) x2
    go_wp2
    refine bodyPost_ret (v := .tuple #[.agg #[.int .i64 0, .int .i64 0], .int .i64 1]) (by simp [results, Tryz.results44, go_sem, *]) rfl ⟨?_, (by repeat (first | with_reducible exact Ext.refl _ | with_reducible assumption | with_reducible apply Ext.alloc | with_reducible apply Ext.drew | (with_reducible refine Ext.setCell ?_ (by (try simp) <;> omega) _)))⟩
    rw [subR_b HB.out] <;> rfl
  | true =>
  cases hc : szOk (subS a b) with
  | false =>
    have HA := Lib.hid ha; clear ha
    have HB := Lib.hid hb; clear hb
    have HC := Lib.hid hc; clear hc
    go_enter Tryz.func44, Tryz.ntmps44
    go_wp2_with fail
    refine (szvalid_walk a _).mono ?_
    rw [HA.out]
    rintro e w1 ⟨rfl, x1⟩
    obtain ⟨hc1, hf1⟩ := x1.rules
    obtain ⟨hz1_0, hz1_1, hz1_2⟩ : w.heap.size < w1.heap.size ∧ w.heap.size + 1 < w1.heap.size ∧ w.heap.size + 1 + 1 < w1.heap.size := by have := x1.size; (try simp at this); omega
    obtain ⟨hl1_0, hl1_1, hl1_2, hl1_3, hl1_4, hl1_5, hl1_6, hl1_7, hl1_8, hl1_9, hl1_10, hl1_11⟩ : w.heap.size < w1.heap.size + 1 ∧ w.heap.size < w1.heap.size + 1 + 1 ∧ w.heap.size < w1.heap.size + 1 + 1 + 1 ∧ w.heap.size + 1 < w1.heap.size + 1 ∧ w.heap.size + 1 < w1.heap.size + 1 + 1 ∧ w.heap.size + 1 < w1.heap.size + 1 + 1 + 1 ∧ w.heap.size + 1 + 1 < w1.heap.size + 1 ∧ w.heap.size + 1 + 1 < w1.heap.size + 1 + 1 ∧ w.heap.size + 1 + 1 < w1.heap.size + 1 + 1 + 1 ∧ ¬ w.heap.size = w1.heap.size ∧ ¬ w.heap.size + 1 = w1.heap.size ∧ ¬ w.heap.size + 1 + 1 = w1.heap.size := by omega
    have X1 : Ext w w1 := Ext.trans (by repeat (first | with_reducible exact Ext.refl _ | with_reducible assumption | with_reducible apply Ext.alloc | with_reducible apply Ext.drew | (with_reducible refine Ext.setCell ?_ (by (try simp) <;> omega) _))) x1
    go_wp2_with fail
    refine (szvalid_walk b _).mono ?_
    rw [HB.out]
    rintro e w2 ⟨rfl, x2⟩
    obtain ⟨hc2, hf2⟩ := x2.rules
    obtain ⟨hz2_0, hz2_1, hz2_2⟩ : w.heap.size < w2.heap.size ∧ w.heap.size + 1 < w2.heap.size ∧ w.heap.size + 1 + 1 < w2.heap.size := by have := x2.size; (try simp at this); omega
    obtain ⟨hl2_0, hl2_1, hl2_2, hl2_3, hl2_4, hl2_5, hl2_6, hl2_7, hl2_8, hl2_9, hl2_10, hl2_11⟩ : w.heap.size < w2.heap.size + 1 ∧ w.heap.size < w2.heap.size + 1 + 1 ∧ w.heap.size < w2.heap.size + 1 + 1 + 1 ∧ w.heap.size + 1 < w2.heap.size + 1 ∧ w.heap.size + 1 < w2.heap.size + 1 + 1 ∧ w.heap.size + 1 < w2.heap.size + 1 + 1 + 1 ∧ w.heap.size + 1 + 1 < w2.heap.size + 1 ∧ w.heap.size + 1 + 1 < w2.heap.size + 1 + 1 ∧ w.heap.size + 1 + 1 < w2.heap.size + 1 + 1 + 1 ∧ ¬ w.heap.size = w2.heap.size ∧ ¬ w.heap.size + 1 = w2.heap.size ∧ ¬ w.heap.size + 1 + 1 = w2.heap.size := by omega
    have X2 : Ext w w2 := Ext.trans (by repeat (first | with_reducible exact Ext.refl _ | with_reducible assumption | with_reducible apply Ext.alloc | with_reducible apply Ext.drew | (with_reducible refine Ext.setCell ?_ (by (try simp) <;> omega) _))) x2
    go_wp2_with fail
    refine (minus_walk a b HA.out HB.out _).mono ?_
    rintro e w3 ⟨rfl, x3⟩
    obtain ⟨hc3, hf3⟩ := x3.rules
    obtain ⟨hz3_0, hz3_1, hz3_2⟩ : w.heap.size < w3.heap.size ∧ w.heap.size + 1 < w3.heap.size ∧ w.heap.size + 1 + 1 < w3.heap.size := by have := x3.size; (try simp at this); omega
    obtain ⟨hl3_0, hl3_1, hl3_2, hl3_3, hl3_4, hl3_5, hl3_6, hl3_7, hl3_8, hl3_9, hl3_10, hl3_11⟩ : w.heap.size < w3.heap.size + 1 ∧ w.heap.size < w3.heap.size + 1 + 1 ∧ w.heap.size < w3.heap.size + 1 + 1 + 1 ∧ w.heap.size + 1 < w3.heap.size + 1 ∧ w.heap.size + 1 < w3.heap.size + 1 + 1 ∧ w.heap.size + 1 < w3.heap.size + 1 + 1 + 1 ∧ w.heap.size + 1 + 1 < w3.heap.size + 1 ∧ w.heap.size + 1 + 1 < w3.heap.size + 1 + 1 ∧ w.heap.size + 1 + 1 < w3.heap.size + 1 + 1 + 1 ∧ ¬ w.heap.size = w3.heap.size ∧ ¬ w.heap.size + 1 = w3.heap.size ∧ ¬ w.heap.size + 1 + 1 = w3.heap.size := by omega
    have X3 : Ext w w3 := Ext.trans (by repeat (first | with_reducible exact Ext.refl _ | with_reducible assumption | with_reducible apply Ext.alloc | with_reducible apply Ext.drew | (with_reducible refine Ext.setCell ?_ (by (try simp) <;> omega) _))) x3
    go_wp2_with fail
    refine (szvalid_walk (subS a b) _).mono ?_
    rw [HC.out]
    rintro e w4 ⟨rfl, x4⟩
    obtain ⟨hc4, hf4⟩ := x4.rules
    obtain ⟨hz4_0, hz4_1, hz4_2⟩ : w.heap.size < w4.heap.size ∧ w.heap.size + 1 < w4.heap.size ∧ w.heap.size + 1 + 1 < w4.heap.size := by have := x4.size; (try simp at this); omega
    obtain ⟨hl4_0, hl4_1, hl4_2, hl4_3, hl4_4, hl4_5, hl4_6, hl4_7, hl4_8, hl4_9, hl4_10, hl4_11⟩ : w.heap.size < w4.heap.size + 1 ∧ w.heap.size < w4.heap.size + 1 + 1 ∧ w.heap.size < w4.heap.size + 1 + 1 + 1 ∧ w.heap.size + 1 < w4.heap.size + 1 ∧ w.heap.size + 1 < w4.heap.size + 1 + 1 ∧ w.heap.size + 1 < w4.heap.size + 1 + 1 + 1 ∧ w.heap.size + 1 + 1 < w4.heap.size + 1 ∧ w.heap.size + 1 + 1 < w4.heap.size + 1 + 1 ∧ w.heap.size + 1 + 1 < w4.heap.size + 1 + 1 + 1 ∧ ¬ w.heap.size = w4.heap.size ∧ ¬ w.heap.size + 1 = w4.heap.size ∧ ¬ w.heap.size + 1 + 1 = w4.heap.size := by omega
    have X4 : Ext w w4 := Ext.trans (by repeat (first | with_reducible exact Ext.refl _ | with_reducible assumption | with_reducible apply Ext.alloc | with_reducible apply Ext.drew | (with_reducible refine Ext.setCell ?_ (by (try simp) <;> omega) _))) x4
    go_wp2
    refine bodyPost_ret (v := .tuple #[.agg #[.int .i64 0, .int .i64 0], .int .i64 3]) (by simp [results, Tryz.results44, go_sem, *]) rfl ⟨?_, (by repeat (first | with_reducible exact Ext.refl _ | with_reducible assumption | with_reducible apply Ext.alloc | with_reducible apply Ext.drew | (with_reducible refine Ext.setCell ?_ (by (try simp) <;> omega) _)))⟩
    rw [subR_c HA.out HB.out HC.out] <;> rfl
  | true =>
    have HA := Lib.hid ha; clear ha
    have HB := Lib.hid hb; clear hb
    have HC := Lib.hid hc; clear hc
    go_enter Tryz.func44, Tryz.ntmps44
    go_wp2_with fail
    refine (szvalid_walk a _).mono ?_
    rw [HA.out]
    rintro e w1 ⟨rfl, x1⟩
    obtain ⟨hc1, hf1⟩ := x1.rules
    obtain ⟨hz1_0, hz1_1, hz1_2⟩ : w.heap.size < w1.heap.size ∧ w.heap.size + 1 < w1.heap.size ∧ w.heap.size + 1 + 1 < w1.heap.size := by have := x1.size; (try simp at this); omega
    obtain ⟨hl1_0, hl1_1, hl1_2, hl1_3, hl1_4, hl1_5, hl1_6, hl1_7, hl1_8, hl1_9, hl1_10, hl1_11⟩ : w.heap.size < w1.heap.size + 1 ∧ w.heap.size < w1.heap.size + 1 + 1 ∧ w.heap.size < w1.heap.size + 1 + 1 + 1 ∧ w.heap.size + 1 < w1.heap.size + 1 ∧ w.heap.size + 1 < w1.heap.size + 1 + 1 ∧ w.heap.size + 1 < w1.heap.size + 1 + 1 + 1 ∧ w.heap.size + 1 + 1 < w1.heap.size + 1 ∧ w.heap.size + 1 + 1 < w1.heap.size + 1 + 1 ∧ w.heap.size + 1 + 1 < w1.heap.size + 1 + 1 + 1 ∧ ¬ w.heap.size = w1.heap.size ∧ ¬ w.heap.size + 1 = w1.heap.size ∧ ¬ w.heap.size + 1 + 1 = w1.heap.size := by omega
    have X1 : Ext w w1 := Ext.trans (by repeat (first | with_reducible exact Ext.refl _ | with_reducible assumption | with_reducible apply Ext.alloc | with_reducible apply Ext.drew | (with_reducible refine Ext.setCell ?_ (by (try simp) <;> omega) _))) x1
    go_wp2_with fail
    refine (szvalid_walk b _).mono ?_
    rw [HB.out]
    rintro e w2 ⟨rfl, x2⟩
    obtain ⟨hc2, hf2⟩ := x2.rules
    obtain ⟨hz2_0, hz2_1, hz2_2⟩ : w.heap.size < w2.heap.size ∧ w.heap.size + 1 < w2.heap.size ∧ w.heap.size + 1 + 1 < w2.heap.size := by have := x2.size; (try simp at this); omega
    obtain ⟨hl2_0, hl2_1, hl2_2, hl2_3, hl2_4, hl2_5, hl2_6, hl2_7, hl2_8, hl2_9, hl2_10, hl2_11⟩ : w.heap.size < w2.heap.size + 1 ∧ w.heap.size < w2.heap.size + 1 + 1 ∧ w.heap.size < w2.heap.size + 1 + 1 + 1 ∧ w.heap.size + 1 < w2.heap.size + 1 ∧ w.heap.size + 1 < w2.heap.size + 1 + 1 ∧ w.heap.size + 1 < w2.heap.size + 1 + 1 + 1 ∧ w.heap.size + 1 + 1 < w2.heap.size + 1 ∧ w.heap.size + 1 + 1 < w2.heap.size + 1 + 1 ∧ w.heap.size + 1 + 1 < w2.heap.size + 1 + 1 + 1 ∧ ¬ w.heap.size = w2.heap.size ∧ ¬ w.heap.size + 1 = w2.heap.size ∧ ¬ w.heap.size + 1 + 1 = w2.heap.size := by omega
    have X2 : Ext w w2 := Ext.trans (by repeat (first | with_reducible exact Ext.refl _ | with_reducible assumption | with_reducible apply Ext.alloc | with_reducible apply Ext.drew | (with_reducible refine Ext.setCell ?_ (by (try simp) <;> omega) _))) x2
    go_wp2_with fail
    refine (minus_walk a b HA.out HB.out _).mono ?_
    rintro e w3 ⟨rfl, x3⟩
    obtain ⟨hc3, hf3⟩ := x3.rules
    obtain ⟨hz3_0, hz3_1, hz3_2⟩ : w.heap.size < w3.heap.size ∧ w.heap.size + 1 < w3.heap.size ∧ w.heap.size + 1 + 1 < w3.heap.size := by have := x3.size; (try simp at this); omega
    obtain ⟨hl3_0, hl3_1, hl3_2, hl3_3, hl3_4, hl3_5, hl3_6, hl3_7, hl3_8, hl3_9, hl3_10, hl3_11⟩ : w.heap.size < w3.heap.size + 1 ∧ w.heap.size < w3.heap.size + 1 + 1 ∧ w.heap.size < w3.heap.size + 1 + 1 + 1 ∧ w.heap.size + 1 < w3.heap.size + 1 ∧ w.heap.size + 1 < w3.heap.size + 1 + 1 ∧ w.heap.size + 1 < w3.heap.size + 1 + 1 + 1 ∧ w.heap.size + 1 + 1 < w3.heap.size + 1 ∧ w.heap.size + 1 + 1 < w3.heap.size + 1 + 1 ∧ w.heap.size + 1 + 1 < w3.heap.size + 1 + 1 + 1 ∧ ¬ w.heap.size = w3.heap.size ∧ ¬ w.heap.size + 1 = w3.heap.size ∧ ¬ w.heap.size + 1 + 1 = w3.heap.size := by omega
    have X3 : Ext w w3 := Ext.trans (by repeat (first | with_reducible exact Ext.refl _ | with_reducible assumption | with_reducible apply Ext.alloc | with_reducible apply Ext.drew | (with_reducible refine Ext.setCell ?_ (by (try simp) <;> omega) _))) x3
    go_wp2_with fail
    refine (szvalid_walk (subS a b) _).mono ?_
    rw [HC.out]
    rintro e w4 ⟨rfl, x4⟩
    obtain ⟨hc4, hf4⟩ := x4.rules
    obtain ⟨hz4_0, hz4_1, hz4_2⟩ : w.heap.size < w4.heap.size ∧ w.heap.size + 1 < w4.heap.size ∧ w.heap.size + 1 + 1 < w4.heap.size := by have := x4.size; (try simp at this); omega
    obtain ⟨hl4_0, hl4_1, hl4_2, hl4_3, hl4_4, hl4_5, hl4_6, hl4_7, hl4_8, hl4_9, hl4_10, hl4_11⟩ : w.heap.size < w4.heap.size + 1 ∧ w.heap.size < w4.heap.size + 1 + 1 ∧ w.heap.size < w4.heap.size + 1 + 1 + 1 ∧ w.heap.size + 1 < w4.heap.size + 1 ∧ w.heap.size + 1 < w4.heap.size + 1 + 1 ∧ w.heap.size + 1 < w4.heap.size + 1 + 1 + 1 ∧ w.heap.size + 1 + 1 < w4.heap.size + 1 ∧ w.heap.size + 1 + 1 < w4.heap.size + 1 + 1 ∧ w.heap.size + 1 + 1 < w4.heap.size + 1 + 1 + 1 ∧ ¬ w.heap.size = w4.heap.size ∧ ¬ w.heap.size + 1 = w4.heap.size ∧ ¬ w.heap.size + 1 + 1 = w4.heap.size := by omega
    have X4 : Ext w w4 := Ext.trans (by repeat (first | with_reducible exact Ext.refl _ | with_reducible assumption | with_reducible apply Ext.alloc | with_reducible apply Ext.drew | (with_reducible refine Ext.setCell ?_ (by (try simp) <;> omega) _))) x4
    go_wp2
    refine bodyPost_ret (v := .tuple #[.agg #[.int .i64 (subS a b).lo, .int .i64 (subS a b).hi], .int .i64 0]) (by simp [results, Tryz.results44, go_sem, *]) rfl ⟨?_, (by repeat (first | with_reducible exact Ext.refl _ | with_reducible assumption | with_reducible apply Ext.alloc | with_reducible apply Ext.drew | (with_reducible refine Ext.setCell ?_ (by (try simp) <;> omega) _)))⟩
    rw [subR_d HA.out HB.out HC.out] <;> rfl
end Go.Proofs.YthpfalbeieloaaaGreatDoor

/-
  Walks: size.Add, Sub, Cmp, Meet.
-/
set_option linter.unusedVariables false
namespace Go.Proofs.YthpfalbeieloaaaGreatDoor
open Go.RowKit Go.Sx Go.Sx.Sz

set_option maxRecDepth 100000 in
set_option maxHeartbeats 2000000 in
theorem add_walk (a b : S2) (w : World) : Calls Tryz.prog 20 #[.agg #[.int .i64 a.lo, .int .i64 a.hi], .agg #[.int .i64 b.lo, .int .i64 b.hi]] w fun e w' => e = .returned (.tuple #[.agg #[.int .i64 (addR a b).1.lo, .int .i64 (addR a b).1.hi], .int .i64 (addR a b).2]) ∧ Ext w w' := by
  obtain ⟨r, hr⟩ : ∃ r, addR a b = r := ⟨_, rfl⟩
  have HR := Lib.hid hr; clear hr
  go_enter Tryz.func20, Tryz.ntmps20
  go_wp2_with fail
  refine (comb_plus_walk a b _).mono ?_
  rw [HR.out]
  rintro e w1 ⟨rfl, x1⟩
  obtain ⟨hc1, hf1⟩ := x1.rules
  obtain ⟨hz1_0, hz1_1, hz1_2⟩ : w.heap.size < w1.heap.size ∧ w.heap.size + 1 < w1.heap.size ∧ w.heap.size + 1 + 1 < w1.heap.size := by have := x1.size; (try simp at this); omega
  obtain ⟨hl1_0, hl1_1, hl1_2, hl1_3, hl1_4, hl1_5, hl1_6, hl1_7, hl1_8, hl1_9, hl1_10, hl1_11⟩ : w.heap.size < w1.heap.size + 1 ∧ w.heap.size < w1.heap.size + 1 + 1 ∧ w.heap.size < w1.heap.size + 1 + 1 + 1 ∧ w.heap.size + 1 < w1.heap.size + 1 ∧ w.heap.size + 1 < w1.heap.size + 1 + 1 ∧ w.heap.size + 1 < w1.heap.size + 1 + 1 + 1 ∧ w.heap.size + 1 + 1 < w1.heap.size + 1 ∧ w.heap.size + 1 + 1 < w1.heap.size + 1 + 1 ∧ w.heap.size + 1 + 1 < w1.heap.size + 1 + 1 + 1 ∧ ¬ w.heap.size = w1.heap.size ∧ ¬ w.heap.size + 1 = w1.heap.size ∧ ¬ w.heap.size + 1 + 1 = w1.heap.size := by omega
  have X1 : Ext w w1 := Ext.trans (by repeat (first | with_reducible exact Ext.refl _ | with_reducible assumption | with_reducible apply Ext.alloc | with_reducible apply Ext.drew | (with_reducible refine Ext.setCell ?_ (by (try simp) <;> omega) _))) x1
  go_wp2
  refine bodyPost_ret (v := .tuple #[.agg #[.int .i64 r.1.lo, .int .i64 r.1.hi], .int .i64 r.2]) (by simp [results, Tryz.results20, go_sem, *]) rfl ⟨?_, (by repeat (first | with_reducible exact Ext.refl _ | with_reducible assumption | with_reducible apply Ext.alloc | with_reducible apply Ext.drew | (with_reducible refine Ext.setCell ?_ (by (try simp) <;> omega) _)))⟩
  rw [HR.out] <;> rfl

set_option maxRecDepth 100000 in
set_option maxHeartbeats 2000000 in
theorem sub_walk (a b : S2) (w : World) : Calls Tryz.prog 90 #[.agg #[.int .i64 a.lo, .int .i64 a.hi], .agg #[.int .i64 b.lo, .int .i64 b.hi]] w fun e w' => e = .returned (.tuple #[.agg #[.int .i64 (subR a b).1.lo, .int .i64 (subR a b).1.hi], .int .i64 (subR a b).2]) ∧ Ext w w' := by
  obtain ⟨r, hr⟩ : ∃ r, subR a b = r := ⟨_, rfl⟩
  have HR := Lib.hid hr; clear hr
  go_enter Tryz.func90, Tryz.ntmps90
  go_wp2_with fail
  refine (comb_minus_walk a b _).mono ?_
  rw [HR.out]
  rintro e w1 ⟨rfl, x1⟩
  obtain ⟨hc1, hf1⟩ := x1.rules
  obtain ⟨hz1_0, hz1_1, hz1_2⟩ : w.heap.size < w1.heap.size ∧ w.heap.size + 1 < w1.heap.size ∧ w.heap.size + 1 + 1 < w1.heap.size := by have := x1.size; (try simp at this); omega
  obtain ⟨hl1_0, hl1_1, hl1_2, hl1_3, hl1_4, hl1_5, hl1_6, hl1_7, hl1_8, hl1_9, hl1_10, hl1_11⟩ : w.heap.size < w1.heap.size + 1 ∧ w.heap.size < w1.heap.size + 1 + 1 ∧ w.heap.size < w1.heap.size + 1 + 1 + 1 ∧ w.heap.size + 1 < w1.heap.size + 1 ∧ w.heap.size + 1 < w1.heap.size + 1 + 1 ∧ w.heap.size + 1 < w1.heap.size + 1 + 1 + 1 ∧ w.heap.size + 1 + 1 < w1.heap.size + 1 ∧ w.heap.size + 1 + 1 < w1.heap.size + 1 + 1 ∧ w.heap.size + 1 + 1 < w1.heap.size + 1 + 1 + 1 ∧ ¬ w.heap.size = w1.heap.size ∧ ¬ w.heap.size + 1 = w1.heap.size ∧ ¬ w.heap.size + 1 + 1 = w1.heap.size := by omega
  have X1 : Ext w w1 := Ext.trans (by repeat (first | with_reducible exact Ext.refl _ | with_reducible assumption | with_reducible apply Ext.alloc | with_reducible apply Ext.drew | (with_reducible refine Ext.setCell ?_ (by (try simp) <;> omega) _))) x1
  go_wp2
  refine bodyPost_ret (v := .tuple #[.agg #[.int .i64 r.1.lo, .int .i64 r.1.hi], .int .i64 r.2]) (by simp [results, Tryz.results90, go_sem, *]) rfl ⟨?_, (by repeat (first | with_reducible exact Ext.refl _ | with_reducible assumption | with_reducible apply Ext.alloc | with_reducible apply Ext.drew | (with_reducible refine Ext.setCell ?_ (by (try simp) <;> omega) _)))⟩
  rw [HR.out] <;> rfl

set_option maxRecDepth 100000 in
theorem cmpR_a {a b : S2} (h : szOk a = false) : cmpR a b = (0, 1) := by simp [cmpR, h]
set_option maxRecDepth 100000 in
theorem cmpR_b {a b : S2} (h : szOk b = false) : cmpR a b = (0, 1) := by simp [cmpR, h]
set_option maxRecDepth 100000 in
theorem meetR_a {a b : S2} (h : szOk a = false) : meetR a b = (zeroS, 1) := by simp [meetR, h]
set_option maxRecDepth 100000 in
theorem meetR_b {a b : S2} (h : szOk b = false) : meetR a b = (zeroS, 1) := by simp [meetR, h]

set_option maxRecDepth 100000 in
set_option maxHeartbeats 2000000 in
theorem cmp_walk (a b : S2) (w : World) : Calls Tryz.prog 54 #[.agg #[.int .i64 a.lo, .int .i64 a.hi], .agg #[.int .i64 b.lo, .int .i64 b.hi]] w fun e w' => e = .returned (.tuple #[.int .i64 (cmpR a b).1, .int .i64 (cmpR a b).2]) ∧ Ext w w' := by
  cases ha : szOk a with
  | false =>
    have HA := Lib.hid ha; clear ha
    go_enter Tryz.func54, Tryz.ntmps54
    go_wp2_with fail
    refine (szvalid_walk a _).mono ?_
    rw [HA.out]
    rintro e w1 ⟨rfl, x1⟩
    obtain ⟨hc1, hf1⟩ := x1.rules
    obtain ⟨hz1_0, hz1_1⟩ : w.heap.size < w1.heap.size ∧ w.heap.size + 1 < w1.heap.size := by have := x1.size; (try simp at this); omega
    obtain ⟨hl1_0, hl1_1, hl1_2, hl1_3, hl1_4, hl1_5, hl1_6, hl1_7⟩ : w.heap.size < w1.heap.size + 1 ∧ w.heap.size < w1.heap.size + 1 + 1 ∧ w.heap.size < w1.heap.size + 1 + 1 + 1 ∧ w.heap.size + 1 < w1.heap.size + 1 ∧ w.heap.size + 1 < w1.heap.size + 1 + 1 ∧ w.heap.size + 1 < w1.heap.size + 1 + 1 + 1 ∧ ¬ w.heap.size = w1.heap.size ∧ ¬ w.heap.size + 1 = w1.heap.size := by omega
    have X1 : Ext w w1 := Ext.trans (by repeat (first | with_reducible exact Ext.refl _ | with_reducible assumption | with_reducible apply Ext.alloc | with_reducible apply Ext.drew | (with_reducible refine Ext.setCell ?_ (by (try simp) <;> omega) _))) x1
    go_wp2
    go_ret2
    exact ⟨by rw [cmpR_a HA.out] <;> rfl, (by repeat (first | with_reducible exact Ext.refl _ | with_reducible assumption | with_reducible apply Ext.alloc | with_reducible apply Ext.drew | (with_reducible refine Ext.setCell ?_ (by (try simp) <;> omega) _)))⟩
  | true =>
  cases hb : szOk b with
  | false =>
    have HA := Lib.hid ha; clear ha
    have HB := Lib.hid hb; clear hb
    go_enter Tryz.func54, Tryz.ntmps54
    go_wp2_with fail
    refine (szvalid_walk a _).mono ?_
    rw [HA.out]
    rintro e w1 ⟨rfl, x1⟩
    obtain ⟨hc1, hf1⟩ := x1.rules
    obtain ⟨hz1_0, hz1_1⟩ : w.heap.size < w1.heap.size ∧ w.heap.size + 1 < w1.heap.size := by have := x1.size; (try simp at this); omega
    obtain ⟨hl1_0, hl1_1, hl1_2, hl1_3, hl1_4, hl1_5, hl1_6, hl1_7⟩ : w.heap.size < w1.heap.size + 1 ∧ w.heap.size < w1.heap.size + 1 + 1 ∧ w.heap.size < w1.heap.size + 1 + 1 + 1 ∧ w.heap.size + 1 < w1.heap.size + 1 ∧ w.heap.size + 1 < w1.heap.size + 1 + 1 ∧ w.heap.size + 1 < w1.heap.size + 1 + 1 + 1 ∧ ¬ w.heap.size = w1.heap.size ∧ ¬ w.heap.size + 1 = w1.heap.size := by omega
    have X1 : Ext w w1 := Ext.trans (by repeat (first | with_reducible exact Ext.refl _ | with_reducible assumption | with_reducible apply Ext.alloc | with_reducible apply Ext.drew | (with_reducible refine Ext.setCell ?_ (by (try simp) <;> omega) _))) x1
    go_wp2_with fail
    refine (szvalid_walk b _).mono ?_
    rw [HB.out]
    rintro e w2 ⟨rfl, x2⟩
    obtain ⟨hc2, hf2⟩ := x2.rules
    obtain ⟨hz2_0, hz2_1⟩ : w.heap.size < w2.heap.size ∧ w.heap.size + 1 < w2.heap.size := by have := x2.size; (try simp at this); omega
    obtain ⟨hl2_0, hl2_1, hl2_2, hl2_3, hl2_4, hl2_5, hl2_6, hl2_7⟩ : w.heap.size < w2.heap.size + 1 ∧ w.heap.size < w2.heap.size + 1 + 1 ∧ w.heap.size < w2.heap.size + 1 + 1 + 1 ∧ w.heap.size + 1 < w2.heap.size + 1 ∧ w.heap.size + 1 < w2.heap.size + 1 + 1 ∧ w.heap.size + 1 < w2.heap.size + 1 + 1 + 1 ∧ ¬ w.heap.size = w2.heap.size ∧ ¬ w.heap.size + 1 = w2.heap.size := by omega
    have X2 : Ext w w2 := Ext.trans (by repeat (first | with_reducible exact Ext.refl _ | with_reducible assumption | with_reducible apply Ext.alloc | with_reducible apply Ext.drew | (with_reducible refine Ext.setCell ?_ (by (try simp) <;> omega) _))) x2
    go_wp2
    go_ret2
    exact ⟨by rw [cmpR_b HB.out] <;> rfl, (by repeat (first | with_reducible exact Ext.refl _ | with_reducible assumption | with_reducible apply Ext.alloc | with_reducible apply Ext.drew | (with_reducible refine Ext.setCell ?_ (by (try simp) <;> omega) _)))⟩
  | true =>
    have HA := Lib.hid ha; clear ha
    have HB := Lib.hid hb; clear hb
    by_cases h1 : a.hi < b.lo
    · go_enter Tryz.func54, Tryz.ntmps54
      go_wp2_with fail
      refine (szvalid_walk a _).mono ?_
      rw [HA.out]
      rintro e w1 ⟨rfl, x1⟩
      obtain ⟨hc1, hf1⟩ := x1.rules
      obtain ⟨hz1_0, hz1_1⟩ : w.heap.size < w1.heap.size ∧ w.heap.size + 1 < w1.heap.size := by have := x1.size; (try simp at this); omega
      obtain ⟨hl1_0, hl1_1, hl1_2, hl1_3, hl1_4, hl1_5, hl1_6, hl1_7⟩ : w.heap.size < w1.heap.size + 1 ∧ w.heap.size < w1.heap.size + 1 + 1 ∧ w.heap.size < w1.heap.size + 1 + 1 + 1 ∧ w.heap.size + 1 < w1.heap.size + 1 ∧ w.heap.size + 1 < w1.heap.size + 1 + 1 ∧ w.heap.size + 1 < w1.heap.size + 1 + 1 + 1 ∧ ¬ w.heap.size = w1.heap.size ∧ ¬ w.heap.size + 1 = w1.heap.size := by omega
      have X1 : Ext w w1 := Ext.trans (by repeat (first | with_reducible exact Ext.refl _ | with_reducible assumption | with_reducible apply Ext.alloc | with_reducible apply Ext.drew | (with_reducible refine Ext.setCell ?_ (by (try simp) <;> omega) _))) x1
      go_wp2_with fail
      refine (szvalid_walk b _).mono ?_
      rw [HB.out]
      rintro e w2 ⟨rfl, x2⟩
      obtain ⟨hc2, hf2⟩ := x2.rules
      obtain ⟨hz2_0, hz2_1⟩ : w.heap.size < w2.heap.size ∧ w.heap.size + 1 < w2.heap.size := by have := x2.size; (try simp at this); omega
      obtain ⟨hl2_0, hl2_1, hl2_2, hl2_3, hl2_4, hl2_5, hl2_6, hl2_7⟩ : w.heap.size < w2.heap.size + 1 ∧ w.heap.size < w2.heap.size + 1 + 1 ∧ w.heap.size < w2.heap.size + 1 + 1 + 1 ∧ w.heap.size + 1 < w2.heap.size + 1 ∧ w.heap.size + 1 < w2.heap.size + 1 + 1 ∧ w.heap.size + 1 < w2.heap.size + 1 + 1 + 1 ∧ ¬ w.heap.size = w2.heap.size ∧ ¬ w.heap.size + 1 = w2.heap.size := by omega
      have X2 : Ext w w2 := Ext.trans (by repeat (first | with_reducible exact Ext.refl _ | with_reducible assumption | with_reducible apply Ext.alloc | with_reducible apply Ext.drew | (with_reducible refine Ext.setCell ?_ (by (try simp) <;> omega) _))) x2
      go_wp2
      go_ret2
      exact ⟨by rw [cmpR, if_pos ⟨HA.out, HB.out⟩, if_pos h1]; rfl, (by repeat (first | with_reducible exact Ext.refl _ | with_reducible assumption | with_reducible apply Ext.alloc | with_reducible apply Ext.drew | (with_reducible refine Ext.setCell ?_ (by (try simp) <;> omega) _)))⟩
    · by_cases h2 : b.hi < a.lo
      · go_enter Tryz.func54, Tryz.ntmps54
        go_wp2_with fail
        refine (szvalid_walk a _).mono ?_
        rw [HA.out]
        rintro e w1 ⟨rfl, x1⟩
        obtain ⟨hc1, hf1⟩ := x1.rules
        obtain ⟨hz1_0, hz1_1⟩ : w.heap.size < w1.heap.size ∧ w.heap.size + 1 < w1.heap.size := by have := x1.size; (try simp at this); omega
        obtain ⟨hl1_0, hl1_1, hl1_2, hl1_3, hl1_4, hl1_5, hl1_6, hl1_7⟩ : w.heap.size < w1.heap.size + 1 ∧ w.heap.size < w1.heap.size + 1 + 1 ∧ w.heap.size < w1.heap.size + 1 + 1 + 1 ∧ w.heap.size + 1 < w1.heap.size + 1 ∧ w.heap.size + 1 < w1.heap.size + 1 + 1 ∧ w.heap.size + 1 < w1.heap.size + 1 + 1 + 1 ∧ ¬ w.heap.size = w1.heap.size ∧ ¬ w.heap.size + 1 = w1.heap.size := by omega
        have X1 : Ext w w1 := Ext.trans (by repeat (first | with_reducible exact Ext.refl _ | with_reducible assumption | with_reducible apply Ext.alloc | with_reducible apply Ext.drew | (with_reducible refine Ext.setCell ?_ (by (try simp) <;> omega) _))) x1
        go_wp2_with fail
        refine (szvalid_walk b _).mono ?_
        rw [HB.out]
        rintro e w2 ⟨rfl, x2⟩
        obtain ⟨hc2, hf2⟩ := x2.rules
        obtain ⟨hz2_0, hz2_1⟩ : w.heap.size < w2.heap.size ∧ w.heap.size + 1 < w2.heap.size := by have := x2.size; (try simp at this); omega
        obtain ⟨hl2_0, hl2_1, hl2_2, hl2_3, hl2_4, hl2_5, hl2_6, hl2_7⟩ : w.heap.size < w2.heap.size + 1 ∧ w.heap.size < w2.heap.size + 1 + 1 ∧ w.heap.size < w2.heap.size + 1 + 1 + 1 ∧ w.heap.size + 1 < w2.heap.size + 1 ∧ w.heap.size + 1 < w2.heap.size + 1 + 1 ∧ w.heap.size + 1 < w2.heap.size + 1 + 1 + 1 ∧ ¬ w.heap.size = w2.heap.size ∧ ¬ w.heap.size + 1 = w2.heap.size := by omega
        have X2 : Ext w w2 := Ext.trans (by repeat (first | with_reducible exact Ext.refl _ | with_reducible assumption | with_reducible apply Ext.alloc | with_reducible apply Ext.drew | (with_reducible refine Ext.setCell ?_ (by (try simp) <;> omega) _))) x2
        go_wp2
        go_ret2
        exact ⟨by rw [cmpR, if_pos ⟨HA.out, HB.out⟩, if_neg (by omega), if_pos h2]; rfl, (by repeat (first | with_reducible exact Ext.refl _ | with_reducible assumption | with_reducible apply Ext.alloc | with_reducible apply Ext.drew | (with_reducible refine Ext.setCell ?_ (by (try simp) <;> omega) _)))⟩
      · go_enter Tryz.func54, Tryz.ntmps54
        go_wp2_with fail
        refine (szvalid_walk a _).mono ?_
        rw [HA.out]
        rintro e w1 ⟨rfl, x1⟩
        obtain ⟨hc1, hf1⟩ := x1.rules
        obtain ⟨hz1_0, hz1_1⟩ : w.heap.size < w1.heap.size ∧ w.heap.size + 1 < w1.heap.size := by have := x1.size; (try simp at this); omega
        obtain ⟨hl1_0, hl1_1, hl1_2, hl1_3, hl1_4, hl1_5, hl1_6, hl1_7⟩ : w.heap.size < w1.heap.size + 1 ∧ w.heap.size < w1.heap.size + 1 + 1 ∧ w.heap.size < w1.heap.size + 1 + 1 + 1 ∧ w.heap.size + 1 < w1.heap.size + 1 ∧ w.heap.size + 1 < w1.heap.size + 1 + 1 ∧ w.heap.size + 1 < w1.heap.size + 1 + 1 + 1 ∧ ¬ w.heap.size = w1.heap.size ∧ ¬ w.heap.size + 1 = w1.heap.size := by omega
        have X1 : Ext w w1 := Ext.trans (by repeat (first | with_reducible exact Ext.refl _ | with_reducible assumption | with_reducible apply Ext.alloc | with_reducible apply Ext.drew | (with_reducible refine Ext.setCell ?_ (by (try simp) <;> omega) _))) x1
        go_wp2_with fail
        refine (szvalid_walk b _).mono ?_
        rw [HB.out]
        rintro e w2 ⟨rfl, x2⟩
        obtain ⟨hc2, hf2⟩ := x2.rules
        obtain ⟨hz2_0, hz2_1⟩ : w.heap.size < w2.heap.size ∧ w.heap.size + 1 < w2.heap.size := by have := x2.size; (try simp at this); omega
        obtain ⟨hl2_0, hl2_1, hl2_2, hl2_3, hl2_4, hl2_5, hl2_6, hl2_7⟩ : w.heap.size < w2.heap.size + 1 ∧ w.heap.size < w2.heap.size + 1 + 1 ∧ w.heap.size < w2.heap.size + 1 + 1 + 1 ∧ w.heap.size + 1 < w2.heap.size + 1 ∧ w.heap.size + 1 < w2.heap.size + 1 + 1 ∧ w.heap.size + 1 < w2.heap.size + 1 + 1 + 1 ∧ ¬ w.heap.size = w2.heap.size ∧ ¬ w.heap.size + 1 = w2.heap.size := by omega
        have X2 : Ext w w2 := Ext.trans (by repeat (first | with_reducible exact Ext.refl _ | with_reducible assumption | with_reducible apply Ext.alloc | with_reducible apply Ext.drew | (with_reducible refine Ext.setCell ?_ (by (try simp) <;> omega) _))) x2
        go_wp2
        go_ret2
        exact ⟨by rw [cmpR, if_pos ⟨HA.out, HB.out⟩, if_neg (by omega), if_neg (by omega)]; rfl, (by repeat (first | with_reducible exact Ext.refl _ | with_reducible assumption | with_reducible apply Ext.alloc | with_reducible apply Ext.drew | (with_reducible refine Ext.setCell ?_ (by (try simp) <;> omega) _)))⟩

set_option maxRecDepth 100000 in
set_option maxHeartbeats 1000000 in
theorem meet_walk_0 (a b : S2) (HA : Hid (szOk a = true)) (HB : Hid (szOk b = true)) (h1 : a.lo < b.lo) (h2 : b.hi < a.hi) (h3 : b.lo ≤ b.hi) (w : World) : Calls Tryz.prog 69 #[.agg #[.int .i64 a.lo, .int .i64 a.hi], .agg #[.int .i64 b.lo, .int .i64 b.hi]] w fun e w' => e = .returned (.tuple #[.agg #[.int .i64 (meetR a b).1.lo, .int .i64 (meetR a b).1.hi], .int .i64 (meetR a b).2]) ∧ Ext w w' := by
  have HM : Hid (meetR a b = (⟨b.lo, b.hi⟩, 0)) := by
    have e : meet a b = ⟨b.lo, b.hi⟩ := by rw [meet, if_pos h1, if_pos h2]
    rw [meetR, if_pos ⟨HA.out, HB.out⟩, e]
    exact Lib.hid (if_pos h3)
  go_enter Tryz.func69, Tryz.ntmps69
  go_wp2_with fail
  refine (szvalid_walk a _).mono ?_
  rw [HA.out]
  rintro e w1 ⟨rfl, x1⟩
  obtain ⟨hc1, hf1⟩ := x1.rules
  obtain ⟨hz1_0, hz1_1, hz1_2⟩ : w.heap.size < w1.heap.size ∧ w.heap.size + 1 < w1.heap.size ∧ w.heap.size + 1 + 1 < w1.heap.size := by have := x1.size; (try simp at this); omega
  obtain ⟨hl1_0, hl1_1, hl1_2, hl1_3, hl1_4, hl1_5, hl1_6, hl1_7, hl1_8, hl1_9, hl1_10, hl1_11⟩ : w.heap.size < w1.heap.size + 1 ∧ w.heap.size < w1.heap.size + 1 + 1 ∧ w.heap.size < w1.heap.size + 1 + 1 + 1 ∧ w.heap.size + 1 < w1.heap.size + 1 ∧ w.heap.size + 1 < w1.heap.size + 1 + 1 ∧ w.heap.size + 1 < w1.heap.size + 1 + 1 + 1 ∧ w.heap.size + 1 + 1 < w1.heap.size + 1 ∧ w.heap.size + 1 + 1 < w1.heap.size + 1 + 1 ∧ w.heap.size + 1 + 1 < w1.heap.size + 1 + 1 + 1 ∧ ¬ w.heap.size = w1.heap.size ∧ ¬ w.heap.size + 1 = w1.heap.size ∧ ¬ w.heap.size + 1 + 1 = w1.heap.size := by omega
  have X1 : Ext w w1 := Ext.trans (by repeat (first | with_reducible exact Ext.refl _ | with_reducible assumption | with_reducible apply Ext.alloc | with_reducible apply Ext.drew | (with_reducible refine Ext.setCell ?_ (by (try simp) <;> omega) _))) x1
  go_wp2_with fail
  refine (szvalid_walk b _).mono ?_
  rw [HB.out]
  rintro e w2 ⟨rfl, x2⟩
  obtain ⟨hc2, hf2⟩ := x2.rules
  obtain ⟨hz2_0, hz2_1, hz2_2⟩ : w.heap.size < w2.heap.size ∧ w.heap.size + 1 < w2.heap.size ∧ w.heap.size + 1 + 1 < w2.heap.size := by have := x2.size; (try simp at this); omega
  obtain ⟨hl2_0, hl2_1, hl2_2, hl2_3, hl2_4, hl2_5, hl2_6, hl2_7, hl2_8, hl2_9, hl2_10, hl2_11⟩ : w.heap.size < w2.heap.size + 1 ∧ w.heap.size < w2.heap.size + 1 + 1 ∧ w.heap.size < w2.heap.size + 1 + 1 + 1 ∧ w.heap.size + 1 < w2.heap.size + 1 ∧ w.heap.size + 1 < w2.heap.size + 1 + 1 ∧ w.heap.size + 1 < w2.heap.size + 1 + 1 + 1 ∧ w.heap.size + 1 + 1 < w2.heap.size + 1 ∧ w.heap.size + 1 + 1 < w2.heap.size + 1 + 1 ∧ w.heap.size + 1 + 1 < w2.heap.size + 1 + 1 + 1 ∧ ¬ w.heap.size = w2.heap.size ∧ ¬ w.heap.size + 1 = w2.heap.size ∧ ¬ w.heap.size + 1 + 1 = w2.heap.size := by omega
  have X2 : Ext w w2 := Ext.trans (by repeat (first | with_reducible exact Ext.refl _ | with_reducible assumption | with_reducible apply Ext.alloc | with_reducible apply Ext.drew | (with_reducible refine Ext.setCell ?_ (by (try simp) <;> omega) _))) x2
  have hne : w.heap.size + 1 + 1 ≠ w2.heap.size := by omega
  go_wp2
  refine bodyPost_ret (v := .tuple #[.agg #[.int .i64 b.lo, .int .i64 b.hi], .int .i64 0]) (by simp [results, Tryz.results69, go_sem, *]) rfl ⟨?_, (by repeat (first | with_reducible exact Ext.refl _ | with_reducible assumption | with_reducible apply Ext.alloc | with_reducible apply Ext.drew | (with_reducible refine Ext.setCell ?_ (by (try simp) <;> omega) _)))⟩
  rw [HM.out] <;> rfl

set_option maxRecDepth 100000 in
set_option maxHeartbeats 1000000 in
theorem meet_walk_1 (a b : S2) (HA : Hid (szOk a = true)) (HB : Hid (szOk b = true)) (h1 : a.lo < b.lo) (h2 : b.hi < a.hi) (h3 : ¬ b.lo ≤ b.hi) (w : World) : Calls Tryz.prog 69 #[.agg #[.int .i64 a.lo, .int .i64 a.hi], .agg #[.int .i64 b.lo, .int .i64 b.hi]] w fun e w' => e = .returned (.tuple #[.agg #[.int .i64 (meetR a b).1.lo, .int .i64 (meetR a b).1.hi], .int .i64 (meetR a b).2]) ∧ Ext w w' := by
  have HM : Hid (meetR a b = (zeroS, 4)) := by
    have e : meet a b = ⟨b.lo, b.hi⟩ := by rw [meet, if_pos h1, if_pos h2]
    rw [meetR, if_pos ⟨HA.out, HB.out⟩, e]
    exact Lib.hid (if_neg h3)
  go_enter Tryz.func69, Tryz.ntmps69
  go_wp2_with fail
  refine (szvalid_walk a _).mono ?_
  rw [HA.out]
  rintro e w1 ⟨rfl, x1⟩
  obtain ⟨hc1, hf1⟩ := x1.rules
  obtain ⟨hz1_0, hz1_1, hz1_2⟩ : w.heap.size < w1.heap.size ∧ w.heap.size + 1 < w1.heap.size ∧ w.heap.size + 1 + 1 < w1.heap.size := by have := x1.size; (try simp at this); omega
  obtain ⟨hl1_0, hl1_1, hl1_2, hl1_3, hl1_4, hl1_5, hl1_6, hl1_7, hl1_8, hl1_9, hl1_10, hl1_11⟩ : w.heap.size < w1.heap.size + 1 ∧ w.heap.size < w1.heap.size + 1 + 1 ∧ w.heap.size < w1.heap.size + 1 + 1 + 1 ∧ w.heap.size + 1 < w1.heap.size + 1 ∧ w.heap.size + 1 < w1.heap.size + 1 + 1 ∧ w.heap.size + 1 < w1.heap.size + 1 + 1 + 1 ∧ w.heap.size + 1 + 1 < w1.heap.size + 1 ∧ w.heap.size + 1 + 1 < w1.heap.size + 1 + 1 ∧ w.heap.size + 1 + 1 < w1.heap.size + 1 + 1 + 1 ∧ ¬ w.heap.size = w1.heap.size ∧ ¬ w.heap.size + 1 = w1.heap.size ∧ ¬ w.heap.size + 1 + 1 = w1.heap.size := by omega
  have X1 : Ext w w1 := Ext.trans (by repeat (first | with_reducible exact Ext.refl _ | with_reducible assumption | with_reducible apply Ext.alloc | with_reducible apply Ext.drew | (with_reducible refine Ext.setCell ?_ (by (try simp) <;> omega) _))) x1
  go_wp2_with fail
  refine (szvalid_walk b _).mono ?_
  rw [HB.out]
  rintro e w2 ⟨rfl, x2⟩
  obtain ⟨hc2, hf2⟩ := x2.rules
  obtain ⟨hz2_0, hz2_1, hz2_2⟩ : w.heap.size < w2.heap.size ∧ w.heap.size + 1 < w2.heap.size ∧ w.heap.size + 1 + 1 < w2.heap.size := by have := x2.size; (try simp at this); omega
  obtain ⟨hl2_0, hl2_1, hl2_2, hl2_3, hl2_4, hl2_5, hl2_6, hl2_7, hl2_8, hl2_9, hl2_10, hl2_11⟩ : w.heap.size < w2.heap.size + 1 ∧ w.heap.size < w2.heap.size + 1 + 1 ∧ w.heap.size < w2.heap.size + 1 + 1 + 1 ∧ w.heap.size + 1 < w2.heap.size + 1 ∧ w.heap.size + 1 < w2.heap.size + 1 + 1 ∧ w.heap.size + 1 < w2.heap.size + 1 + 1 + 1 ∧ w.heap.size + 1 + 1 < w2.heap.size + 1 ∧ w.heap.size + 1 + 1 < w2.heap.size + 1 + 1 ∧ w.heap.size + 1 + 1 < w2.heap.size + 1 + 1 + 1 ∧ ¬ w.heap.size = w2.heap.size ∧ ¬ w.heap.size + 1 = w2.heap.size ∧ ¬ w.heap.size + 1 + 1 = w2.heap.size := by omega
  have X2 : Ext w w2 := Ext.trans (by repeat (first | with_reducible exact Ext.refl _ | with_reducible assumption | with_reducible apply Ext.alloc | with_reducible apply Ext.drew | (with_reducible refine Ext.setCell ?_ (by (try simp) <;> omega) _))) x2
  have hne : w.heap.size + 1 + 1 ≠ w2.heap.size := by omega
  go_wp2
  refine bodyPost_ret (v := .tuple #[.agg #[.int .i64 0, .int .i64 0], .int .i64 4]) (by simp [results, Tryz.results69, go_sem, *]) rfl ⟨?_, (by repeat (first | with_reducible exact Ext.refl _ | with_reducible assumption | with_reducible apply Ext.alloc | with_reducible apply Ext.drew | (with_reducible refine Ext.setCell ?_ (by (try simp) <;> omega) _)))⟩
  rw [HM.out] <;> rfl

set_option maxRecDepth 100000 in
set_option maxHeartbeats 1000000 in
theorem meet_walk_2 (a b : S2) (HA : Hid (szOk a = true)) (HB : Hid (szOk b = true)) (h1 : a.lo < b.lo) (h2 : ¬ b.hi < a.hi) (h3 : b.lo ≤ a.hi) (w : World) : Calls Tryz.prog 69 #[.agg #[.int .i64 a.lo, .int .i64 a.hi], .agg #[.int .i64 b.lo, .int .i64 b.hi]] w fun e w' => e = .returned (.tuple #[.agg #[.int .i64 (meetR a b).1.lo, .int .i64 (meetR a b).1.hi], .int .i64 (meetR a b).2]) ∧ Ext w w' := by
  have HM : Hid (meetR a b = (⟨b.lo, a.hi⟩, 0)) := by
    have e : meet a b = ⟨b.lo, a.hi⟩ := by rw [meet, if_pos h1, if_neg h2]
    rw [meetR, if_pos ⟨HA.out, HB.out⟩, e]
    exact Lib.hid (if_pos h3)
  go_enter Tryz.func69, Tryz.ntmps69
  go_wp2_with fail
  refine (szvalid_walk a _).mono ?_
  rw [HA.out]
  rintro e w1 ⟨rfl, x1⟩
  obtain ⟨hc1, hf1⟩ := x1.rules
  obtain ⟨hz1_0, hz1_1, hz1_2⟩ : w.heap.size < w1.heap.size ∧ w.heap.size + 1 < w1.heap.size ∧ w.heap.size + 1 + 1 < w1.heap.size := by have := x1.size; (try simp at this); omega
  obtain ⟨hl1_0, hl1_1, hl1_2, hl1_3, hl1_4, hl1_5, hl1_6, hl1_7, hl1_8, hl1_9, hl1_10, hl1_11⟩ : w.heap.size < w1.heap.size + 1 ∧ w.heap.size < w1.heap.size + 1 + 1 ∧ w.heap.size < w1.heap.size + 1 + 1 + 1 ∧ w.heap.size + 1 < w1.heap.size + 1 ∧ w.heap.size + 1 < w1.heap.size + 1 + 1 ∧ w.heap.size + 1 < w1.heap.size + 1 + 1 + 1 ∧ w.heap.size + 1 + 1 < w1.heap.size + 1 ∧ w.heap.size + 1 + 1 < w1.heap.size + 1 + 1 ∧ w.heap.size + 1 + 1 < w1.heap.size + 1 + 1 + 1 ∧ ¬ w.heap.size = w1.heap.size ∧ ¬ w.heap.size + 1 = w1.heap.size ∧ ¬ w.heap.size + 1 + 1 = w1.heap.size := by omega
  have X1 : Ext w w1 := Ext.trans (by repeat (first | with_reducible exact Ext.refl _ | with_reducible assumption | with_reducible apply Ext.alloc | with_reducible apply Ext.drew | (with_reducible refine Ext.setCell ?_ (by (try simp) <;> omega) _))) x1
  go_wp2_with fail
  refine (szvalid_walk b _).mono ?_
  rw [HB.out]
  rintro e w2 ⟨rfl, x2⟩
  obtain ⟨hc2, hf2⟩ := x2.rules
  obtain ⟨hz2_0, hz2_1, hz2_2⟩ : w.heap.size < w2.heap.size ∧ w.heap.size + 1 < w2.heap.size ∧ w.heap.size + 1 + 1 < w2.heap.size := by have := x2.size; (try simp at this); omega
  obtain ⟨hl2_0, hl2_1, hl2_2, hl2_3, hl2_4, hl2_5, hl2_6, hl2_7, hl2_8, hl2_9, hl2_10, hl2_11⟩ : w.heap.size < w2.heap.size + 1 ∧ w.heap.size < w2.heap.size + 1 + 1 ∧ w.heap.size < w2.heap.size + 1 + 1 + 1 ∧ w.heap.size + 1 < w2.heap.size + 1 ∧ w.heap.size + 1 < w2.heap.size + 1 + 1 ∧ w.heap.size + 1 < w2.heap.size + 1 + 1 + 1 ∧ w.heap.size + 1 + 1 < w2.heap.size + 1 ∧ w.heap.size + 1 + 1 < w2.heap.size + 1 + 1 ∧ w.heap.size + 1 + 1 < w2.heap.size + 1 + 1 + 1 ∧ ¬ w.heap.size = w2.heap.size ∧ ¬ w.heap.size + 1 = w2.heap.size ∧ ¬ w.heap.size + 1 + 1 = w2.heap.size := by omega
  have X2 : Ext w w2 := Ext.trans (by repeat (first | with_reducible exact Ext.refl _ | with_reducible assumption | with_reducible apply Ext.alloc | with_reducible apply Ext.drew | (with_reducible refine Ext.setCell ?_ (by (try simp) <;> omega) _))) x2
  have hne : w.heap.size + 1 + 1 ≠ w2.heap.size := by omega
  go_wp2
  refine bodyPost_ret (v := .tuple #[.agg #[.int .i64 b.lo, .int .i64 a.hi], .int .i64 0]) (by simp [results, Tryz.results69, go_sem, *]) rfl ⟨?_, (by repeat (first | with_reducible exact Ext.refl _ | with_reducible assumption | with_reducible apply Ext.alloc | with_reducible apply Ext.drew | (with_reducible refine Ext.setCell ?_ (by (try simp) <;> omega) _)))⟩
  rw [HM.out] <;> rfl

set_option maxRecDepth 100000 in
set_option maxHeartbeats 1000000 in
theorem meet_walk_3 (a b : S2) (HA : Hid (szOk a = true)) (HB : Hid (szOk b = true)) (h1 : a.lo < b.lo) (h2 : ¬ b.hi < a.hi) (h3 : ¬ b.lo ≤ a.hi) (w : World) : Calls Tryz.prog 69 #[.agg #[.int .i64 a.lo, .int .i64 a.hi], .agg #[.int .i64 b.lo, .int .i64 b.hi]] w fun e w' => e = .returned (.tuple #[.agg #[.int .i64 (meetR a b).1.lo, .int .i64 (meetR a b).1.hi], .int .i64 (meetR a b).2]) ∧ Ext w w' := by
  have HM : Hid (meetR a b = (zeroS, 4)) := by
    have e : meet a b = ⟨b.lo, a.hi⟩ := by rw [meet, if_pos h1, if_neg h2]
    rw [meetR, if_pos ⟨HA.out, HB.out⟩, e]
    exact Lib.hid (if_neg h3)
  go_enter Tryz.func69, Tryz.ntmps69
  go_wp2_with fail
  refine (szvalid_walk a _).mono ?_
  rw [HA.out]
  rintro e w1 ⟨rfl, x1⟩
  obtain ⟨hc1, hf1⟩ := x1.rules
  obtain ⟨hz1_0, hz1_1, hz1_2⟩ : w.heap.size < w1.heap.size ∧ w.heap.size + 1 < w1.heap.size ∧ w.heap.size + 1 + 1 < w1.heap.size := by have := x1.size; (try simp at this); omega
  obtain ⟨hl1_0, hl1_1, hl1_2, hl1_3, hl1_4, hl1_5, hl1_6, hl1_7, hl1_8, hl1_9, hl1_10, hl1_11⟩ : w.heap.size < w1.heap.size + 1 ∧ w.heap.size < w1.heap.size + 1 + 1 ∧ w.heap.size < w1.heap.size + 1 + 1 + 1 ∧ w.heap.size + 1 < w1.heap.size + 1 ∧ w.heap.size + 1 < w1.heap.size + 1 + 1 ∧ w.heap.size + 1 < w1.heap.size + 1 + 1 + 1 ∧ w.heap.size + 1 + 1 < w1.heap.size + 1 ∧ w.heap.size + 1 + 1 < w1.heap.size + 1 + 1 ∧ w.heap.size + 1 + 1 < w1.heap.size + 1 + 1 + 1 ∧ ¬ w.heap.size = w1.heap.size ∧ ¬ w.heap.size + 1 = w1.heap.size ∧ ¬ w.heap.size + 1 + 1 = w1.heap.size := by omega
  have X1 : Ext w w1 := Ext.trans (by repeat (first | with_reducible exact Ext.refl _ | with_reducible assumption | with_reducible apply Ext.alloc | with_reducible apply Ext.drew | (with_reducible refine Ext.setCell ?_ (by (try simp) <;> omega) _))) x1
  go_wp2_with fail
  refine (szvalid_walk b _).mono ?_
  rw [HB.out]
  rintro e w2 ⟨rfl, x2⟩
  obtain ⟨hc2, hf2⟩ := x2.rules
  obtain ⟨hz2_0, hz2_1, hz2_2⟩ : w.heap.size < w2.heap.size ∧ w.heap.size + 1 < w2.heap.size ∧ w.heap.size + 1 + 1 < w2.heap.size := by have := x2.size; (try simp at this); omega
  obtain ⟨hl2_0, hl2_1, hl2_2, hl2_3, hl2_4, hl2_5, hl2_6, hl2_7, hl2_8, hl2_9, hl2_10, hl2_11⟩ : w.heap.size < w2.heap.size + 1 ∧ w.heap.size < w2.heap.size + 1 + 1 ∧ w.heap.size < w2.heap.size + 1 + 1 + 1 ∧ w.heap.size + 1 < w2.heap.size + 1 ∧ w.heap.size + 1 < w2.heap.size + 1 + 1 ∧ w.heap.size + 1 < w2.heap.size + 1 + 1 + 1 ∧ w.heap.size + 1 + 1 < w2.heap.size + 1 ∧ w.heap.size + 1 + 1 < w2.heap.size + 1 + 1 ∧ w.heap.size + 1 + 1 < w2.heap.size + 1 + 1 + 1 ∧ ¬ w.heap.size = w2.heap.size ∧ ¬ w.heap.size + 1 = w2.heap.size ∧ ¬ w.heap.size + 1 + 1 = w2.heap.size := by omega
  have X2 : Ext w w2 := Ext.trans (by repeat (first | with_reducible exact Ext.refl _ | with_reducible assumption | with_reducible apply Ext.alloc | with_reducible apply Ext.drew | (with_reducible refine Ext.setCell ?_ (by (try simp) <;> omega) _))) x2
  have hne : w.heap.size + 1 + 1 ≠ w2.heap.size := by omega
  go_wp2
  refine bodyPost_ret (v := .tuple #[.agg #[.int .i64 0, .int .i64 0], .int .i64 4]) (by simp [results, Tryz.results69, go_sem, *]) rfl ⟨?_, (by repeat (first | with_reducible exact Ext.refl _ | with_reducible assumption | with_reducible apply Ext.alloc | with_reducible apply Ext.drew | (with_reducible refine Ext.setCell ?_ (by (try simp) <;> omega) _)))⟩
  rw [HM.out] <;> rfl

set_option maxRecDepth 100000 in
set_option maxHeartbeats 1000000 in
theorem meet_walk_4 (a b : S2) (HA : Hid (szOk a = true)) (HB : Hid (szOk b = true)) (h1 : ¬ a.lo < b.lo) (h2 : b.hi < a.hi) (h3 : a.lo ≤ b.hi) (w : World) : Calls Tryz.prog 69 #[.agg #[.int .i64 a.lo, .int .i64 a.hi], .agg #[.int .i64 b.lo, .int .i64 b.hi]] w fun e w' => e = .returned (.tuple #[.agg #[.int .i64 (meetR a b).1.lo, .int .i64 (meetR a b).1.hi], .int .i64 (meetR a b).2]) ∧ Ext w w' := by
  have HM : Hid (meetR a b = (⟨a.lo, b.hi⟩, 0)) := by
    have e : meet a b = ⟨a.lo, b.hi⟩ := by rw [meet, if_neg h1, if_pos h2]
    rw [meetR, if_pos ⟨HA.out, HB.out⟩, e]
    exact Lib.hid (if_pos h3)
  go_enter Tryz.func69, Tryz.ntmps69
  go_wp2_with fail
  refine (szvalid_walk a _).mono ?_
  rw [HA.out]
  rintro e w1 ⟨rfl, x1⟩
  obtain ⟨hc1, hf1⟩ := x1.rules
  obtain ⟨hz1_0, hz1_1, hz1_2⟩ : w.heap.size < w1.heap.size ∧ w.heap.size + 1 < w1.heap.size ∧ w.heap.size + 1 + 1 < w1.heap.size := by have := x1.size; (try simp at this); omega
  obtain ⟨hl1_0, hl1_1, hl1_2, hl1_3, hl1_4, hl1_5, hl1_6, hl1_7, hl1_8, hl1_9, hl1_10, hl1_11⟩ : w.heap.size < w1.heap.size + 1 ∧ w.heap.size < w1.heap.size + 1 + 1 ∧ w.heap.size < w1.heap.size + 1 + 1 + 1 ∧ w.heap.size + 1 < w1.heap.size + 1 ∧ w.heap.size + 1 < w1.heap.size + 1 + 1 ∧ w.heap.size + 1 < w1.heap.size + 1 + 1 + 1 ∧ w.heap.size + 1 + 1 < w1.heap.size + 1 ∧ w.heap.size + 1 + 1 < w1.heap.size + 1 + 1 ∧ w.heap.size + 1 + 1 < w1.heap.size + 1 + 1 + 1 ∧ ¬ w.heap.size = w1.heap.size ∧ ¬ w.heap.size + 1 = w1.heap.size ∧ ¬ w.heap.size + 1 + 1 = w1.heap.size := by omega
  have X1 : Ext w w1 := Ext.trans (by repeat (first | with_reducible exact Ext.refl _ | with_reducible assumption | with_reducible apply Ext.alloc | with_reducible apply Ext.drew | (with_reducible refine Ext.setCell ?_ (by (try simp) <;> omega) _))) x1
  go_wp2_with fail
  refine (szvalid_walk b _).mono ?_
  rw [HB.out]
  rintro e w2 ⟨rfl, x2⟩
  obtain ⟨hc2, hf2⟩ := x2.rules
  obtain ⟨hz2_0, hz2_1, hz2_2⟩ : w.heap.size < w2.heap.size ∧ w.heap.size + 1 < w2.heap.size ∧ w.heap.size + 1 + 1 < w2.heap.size := by have := x2.size; (try simp at this); omega
  obtain ⟨hl2_0, hl2_1, hl2_2, hl2_3, hl2_4, hl2_5, hl2_6, hl2_7, hl2_8, hl2_9, hl2_10, hl2_11⟩ : w.heap.size < w2.heap.size + 1 ∧ w.heap.size < w2.heap.size + 1 + 1 ∧ w.heap.size < w2.heap.size + 1 + 1 + 1 ∧ w.heap.size + 1 < w2.heap.size + 1 ∧ w.heap.size + 1 < w2.heap.size + 1 + 1 ∧ w.heap.size + 1 < w2.heap.size + 1 + 1 + 1 ∧ w.heap.size + 1 + 1 < w2.heap.size + 1 ∧ w.heap.size + 1 + 1 < w2.heap.size + 1 + 1 ∧ w.heap.size + 1 + 1 < w2.heap.size + 1 + 1 + 1 ∧ ¬ w.heap.size = w2.heap.size ∧ ¬ w.heap.size + 1 = w2.heap.size ∧ ¬ w.heap.size + 1 + 1 = w2.heap.size := by omega
  have X2 : Ext w w2 := Ext.trans (by repeat (first | with_reducible exact Ext.refl _ | with_reducible assumption | with_reducible apply Ext.alloc | with_reducible apply Ext.drew | (with_reducible refine Ext.setCell ?_ (by (try simp) <;> omega) _))) x2
  have hne : w.heap.size + 1 + 1 ≠ w2.heap.size := by omega
  go_wp2
  refine bodyPost_ret (v := .tuple #[.agg #[.int .i64 a.lo, .int .i64 b.hi], .int .i64 0]) (by simp [results, Tryz.results69, go_sem, *]) rfl ⟨?_, (by repeat (first | with_reducible exact Ext.refl _ | with_reducible assumption | with_reducible apply Ext.alloc | with_reducible apply Ext.drew | (with_reducible refine Ext.setCell ?_ (by (try simp) <;> omega) _)))⟩
  rw [HM.out] <;> rfl

set_option maxRecDepth 100000 in
set_option maxHeartbeats 1000000 in
theorem meet_walk_5 (a b : S2) (HA : Hid (szOk a = true)) (HB : Hid (szOk b = true)) (h1 : ¬ a.lo < b.lo) (h2 : b.hi < a.hi) (h3 : ¬ a.lo ≤ b.hi) (w : World) : Calls Tryz.prog 69 #[.agg #[.int .i64 a.lo, .int .i64 a.hi], .agg #[.int .i64 b.lo, .int .i64 b.hi]] w fun e w' => e = .returned (.tuple #[.agg #[.int .i64 (meetR a b).1.lo, .int .i64 (meetR a b).1.hi], .int .i64 (meetR a b).2]) ∧ Ext w w' := by
  have HM : Hid (meetR a b = (zeroS, 4)) := by
    have e : meet a b = ⟨a.lo, b.hi⟩ := by rw [meet, if_neg h1, if_pos h2]
    rw [meetR, if_pos ⟨HA.out, HB.out⟩, e]
    exact Lib.hid (if_neg h3)
  go_enter Tryz.func69, Tryz.ntmps69
  go_wp2_with fail
  refine (szvalid_walk a _).mono ?_
  rw [HA.out]
  rintro e w1 ⟨rfl, x1⟩
  obtain ⟨hc1, hf1⟩ := x1.rules
  obtain ⟨hz1_0, hz1_1, hz1_2⟩ : w.heap.size < w1.heap.size ∧ w.heap.size + 1 < w1.heap.size ∧ w.heap.size + 1 + 1 < w1.heap.size := by have := x1.size; (try simp at this); omega
  obtain ⟨hl1_0, hl1_1, hl1_2, hl1_3, hl1_4, hl1_5, hl1_6, hl1_7, hl1_8, hl1_9, hl1_10, hl1_11⟩ : w.heap.size < w1.heap.size + 1 ∧ w.heap.size < w1.heap.size + 1 + 1 ∧ w.heap.size < w1.heap.size + 1 + 1 + 1 ∧ w.heap.size + 1 < w1.heap.size + 1 ∧ w.heap.size + 1 < w1.heap.size + 1 + 1 ∧ w.heap.size + 1 < w1.heap.size + 1 + 1 + 1 ∧ w.heap.size + 1 + 1 < w1.heap.size + 1 ∧ w.heap.size + 1 + 1 < w1.heap.size + 1 + 1 ∧ w.heap.size + 1 + 1 < w1.heap.size + 1 + 1 + 1 ∧ ¬ w.heap.size = w1.heap.size ∧ ¬ w.heap.size + 1 = w1.heap.size ∧ ¬ w.heap.size + 1 + 1 = w1.heap.size := by omega
  have X1 : Ext w w1 := Ext.trans (by repeat (first | with_reducible exact Ext.refl _ | with_reducible assumption | with_reducible apply Ext.alloc | with_reducible apply Ext.drew | (with_reducible refine Ext.setCell ?_ (by (try simp) <;> omega) _))) x1
  go_wp2_with fail
  refine (szvalid_walk b _).mono ?_
  rw [HB.out]
  rintro e w2 ⟨rfl, x2⟩
  obtain ⟨hc2, hf2⟩ := x2.rules
  obtain ⟨hz2_0, hz2_1, hz2_2⟩ : w.heap.size < w2.heap.size ∧ w.heap.size + 1 < w2.heap.size ∧ w.heap.size + 1 + 1 < w2.heap.size := by have := x2.size; (try simp at this); omega
  obtain ⟨hl2_0, hl2_1, hl2_2, hl2_3, hl2_4, hl2_5, hl2_6, hl2_7, hl2_8, hl2_9, hl2_10, hl2_11⟩ : w.heap.size < w2.heap.size + 1 ∧ w.heap.size < w2.heap.size + 1 + 1 ∧ w.heap.size < w2.heap.size + 1 + 1 + 1 ∧ w.heap.size + 1 < w2.heap.size + 1 ∧ w.heap.size + 1 < w2.heap.size + 1 + 1 ∧ w.heap.size + 1 < w2.heap.size + 1 + 1 + 1 ∧ w.heap.size + 1 + 1 < w2.heap.size + 1 ∧ w.heap.size + 1 + 1 < w2.heap.size + 1 + 1 ∧ w.heap.size + 1 + 1 < w2.heap.size + 1 + 1 + 1 ∧ ¬ w.heap.size = w2.heap.size ∧ ¬ w.heap.size + 1 = w2.heap.size ∧ ¬ w.heap.size + 1 + 1 = w2.heap.size := by omega
  have X2 : Ext w w2 := Ext.trans (by repeat (first | with_reducible exact Ext.refl _ | with_reducible assumption | with_reducible apply Ext.alloc | with_reducible apply Ext.drew | (with_reducible refine Ext.setCell ?_ (by (try simp) <;> omega) _))) x2
  have hne : w.heap.size + 1 + 1 ≠ w2.heap.size := by omega
  go_wp2
  refine bodyPost_ret (v := .tuple #[.agg #[.int .i64 0, .int .i64 0], .int .i64 4]) (by simp [results, Tryz.results69, go_sem, *]) rfl ⟨?_, (by repeat (first | with_reducible exact Ext.refl _ | with_reducible assumption | with_reducible apply Ext.alloc | with_reducible apply Ext.drew | (with_reducible refine Ext.setCell ?_ (by (try simp) <;> omega) _)))⟩
  rw [HM.out] <;> rfl

set_option maxRecDepth 100000 in
set_option maxHeartbeats 1000000 in
theorem meet_walk_6 (a b : S2) (HA : Hid (szOk a = true)) (HB : Hid (szOk b = true)) (h1 : ¬ a.lo < b.lo) (h2 : ¬ b.hi < a.hi) (h3 : a.lo ≤ a.hi) (w : World) : Calls Tryz.prog 69 #[.agg #[.int .i64 a.lo, .int .i64 a.hi], .agg #[.int .i64 b.lo, .int .i64 b.hi]] w fun e w' => e = .returned (.tuple #[.agg #[.int .i64 (meetR a b).1.lo, .int .i64 (meetR a b).1.hi], .int .i64 (meetR a b).2]) ∧ Ext w w' := by
  have HM : Hid (meetR a b = (⟨a.lo, a.hi⟩, 0)) := by
    have e : meet a b = ⟨a.lo, a.hi⟩ := by rw [meet, if_neg h1, if_neg h2]
    rw [meetR, if_pos ⟨HA.out, HB.out⟩, e]
    exact Lib.hid (if_pos h3)
  go_enter Tryz.func69, Tryz.ntmps69
  go_wp2_with fail
  refine (szvalid_walk a _).mono ?_
  rw [HA.out]
  rintro e w1 ⟨rfl, x1⟩
  obtain ⟨hc1, hf1⟩ := x1.rules
  obtain ⟨hz1_0, hz1_1, hz1_2⟩ : w.heap.size < w1.heap.size ∧ w.heap.size + 1 < w1.heap.size ∧ w.heap.size + 1 + 1 < w1.heap.size := by have := x1.size; (try simp at this); omega
  obtain ⟨hl1_0, hl1_1, hl1_2, hl1_3, hl1_4, hl1_5, hl1_6, hl1_7, hl1_8, hl1_9, hl1_10, hl1_11⟩ : w.heap.size < w1.heap.size + 1 ∧ w.heap.size < w1.heap.size + 1 + 1 ∧ w.heap.size < w1.heap.size + 1 + 1 + 1 ∧ w.heap.size + 1 < w1.heap.size + 1 ∧ w.heap.size + 1 < w1.heap.size + 1 + 1 ∧ w.heap.size + 1 < w1.heap.size + 1 + 1 + 1 ∧ w.heap.size + 1 + 1 < w1.heap.size + 1 ∧ w.heap.size + 1 + 1 < w1.heap.size + 1 + 1 ∧ w.heap.size + 1 + 1 < w1.heap.size + 1 + 1 + 1 ∧ ¬ w.heap.size = w1.heap.size ∧ ¬ w.heap.size + 1 = w1.heap.size ∧ ¬ w.heap.size + 1 + 1 = w1.heap.size := by omega
  have X1 : Ext w w1 := Ext.trans (by repeat (first | with_reducible exact Ext.refl _ | with_reducible assumption | with_reducible apply Ext.alloc | with_reducible apply Ext.drew | (with_reducible refine Ext.setCell ?_ (by (try simp) <;> omega) _))) x1
  go_wp2_with fail
  refine (szvalid_walk b _).mono ?_
  rw [HB.out]
  rintro e w2 ⟨rfl, x2⟩
  obtain ⟨hc2, hf2⟩ := x2.rules
  obtain ⟨hz2_0, hz2_1, hz2_2⟩ : w.heap.size < w2.heap.size ∧ w.heap.size + 1 < w2.heap.size ∧ w.heap.size + 1 + 1 < w2.heap.size := by have := x2.size; (try simp at this); omega
  obtain ⟨hl2_0, hl2_1, hl2_2, hl2_3, hl2_4, hl2_5, hl2_6, hl2_7, hl2_8, hl2_9, hl2_10, hl2_11⟩ : w.heap.size < w2.heap.size + 1 ∧ w.heap.size < w2.heap.size + 1 + 1 ∧ w.heap.size < w2.heap.size + 1 + 1 + 1 ∧ w.heap.size + 1 < w2.heap.size + 1 ∧ w.heap.size + 1 < w2.heap.size + 1 + 1 ∧ w.heap.size + 1 < w2.heap.size + 1 + 1 + 1 ∧ w.heap.size + 1 + 1 < w2.heap.size + 1 ∧ w.heap.size + 1 + 1 < w2.heap.size + 1 + 1 ∧ w.heap.size + 1 + 1 < w2.heap.size + 1 + 1 + 1 ∧ ¬ w.heap.size = w2.heap.size ∧ ¬ w.heap.size + 1 = w2.heap.size ∧ ¬ w.heap.size + 1 + 1 = w2.heap.size := by omega
  have X2 : Ext w w2 := Ext.trans (by repeat (first | with_reducible exact Ext.refl _ | with_reducible assumption | with_reducible apply Ext.alloc | with_reducible apply Ext.drew | (with_reducible refine Ext.setCell ?_ (by (try simp) <;> omega) _))) x2
  have hne : w.heap.size + 1 + 1 ≠ w2.heap.size := by omega
  go_wp2
  refine bodyPost_ret (v := .tuple #[.agg #[.int .i64 a.lo, .int .i64 a.hi], .int .i64 0]) (by simp [results, Tryz.results69, go_sem, *]) rfl ⟨?_, (by repeat (first | with_reducible exact Ext.refl _ | with_reducible assumption | with_reducible apply Ext.alloc | with_reducible apply Ext.drew | (with_reducible refine Ext.setCell ?_ (by (try simp) <;> omega) _)))⟩
  rw [HM.out] <;> rfl

set_option maxRecDepth 100000 in
set_option maxHeartbeats 1000000 in
theorem meet_walk_7 (a b : S2) (HA : Hid (szOk a = true)) (HB : Hid (szOk b = true)) (h1 : ¬ a.lo < b.lo) (h2 : ¬ b.hi < a.hi) (h3 : ¬ a.lo ≤ a.hi) (w : World) : Calls Tryz.prog 69 #[.agg #[.int .i64 a.lo, .int .i64 a.hi], .agg #[.int .i64 b.lo, .int .i64 b.hi]] w fun e w' => e = .returned (.tuple #[.agg #[.int .i64 (meetR a b).1.lo, .int .i64 (meetR a b).1.hi], .int .i64 (meetR a b).2]) ∧ Ext w w' := by
  have HM : Hid (meetR a b = (zeroS, 4)) := by
    have e : meet a b = ⟨a.lo, a.hi⟩ := by rw [meet, if_neg h1, if_neg h2]
    rw [meetR, if_pos ⟨HA.out, HB.out⟩, e]
    exact Lib.hid (if_neg h3)
  go_enter Tryz.func69, Tryz.ntmps69
  go_wp2_with fail
  refine (szvalid_walk a _).mono ?_
  rw [HA.out]
  rintro e w1 ⟨rfl, x1⟩
  obtain ⟨hc1, hf1⟩ := x1.rules
  obtain ⟨hz1_0, hz1_1, hz1_2⟩ : w.heap.size < w1.heap.size ∧ w.heap.size + 1 < w1.heap.size ∧ w.heap.size + 1 + 1 < w1.heap.size := by have := x1.size; (try simp at this); omega
  obtain ⟨hl1_0, hl1_1, hl1_2, hl1_3, hl1_4, hl1_5, hl1_6, hl1_7, hl1_8, hl1_9, hl1_10, hl1_11⟩ : w.heap.size < w1.heap.size + 1 ∧ w.heap.size < w1.heap.size + 1 + 1 ∧ w.heap.size < w1.heap.size + 1 + 1 + 1 ∧ w.heap.size + 1 < w1.heap.size + 1 ∧ w.heap.size + 1 < w1.heap.size + 1 + 1 ∧ w.heap.size + 1 < w1.heap.size + 1 + 1 + 1 ∧ w.heap.size + 1 + 1 < w1.heap.size + 1 ∧ w.heap.size + 1 + 1 < w1.heap.size + 1 + 1 ∧ w.heap.size + 1 + 1 < w1.heap.size + 1 + 1 + 1 ∧ ¬ w.heap.size = w1.heap.size ∧ ¬ w.heap.size + 1 = w1.heap.size ∧ ¬ w.heap.size + 1 + 1 = w1.heap.size := by omega
  have X1 : Ext w w1 := Ext.trans (by repeat (first | with_reducible exact Ext.refl _ | with_reducible assumption | with_reducible apply Ext.alloc | with_reducible apply Ext.drew | (with_reducible refine Ext.setCell ?_ (by (try simp) <;> omega) _))) x1
  go_wp2_with fail
  refine (szvalid_walk b _).mono ?_
  rw [HB.out]
  rintro e w2 ⟨rfl, x2⟩
  obtain ⟨hc2, hf2⟩ := x2.rules
  obtain ⟨hz2_0, hz2_1, hz2_2⟩ : w.heap.size < w2.heap.size ∧ w.heap.size + 1 < w2.heap.size ∧ w.heap.size + 1 + 1 < w2.heap.size := by have := x2.size; (try simp at this); omega
  obtain ⟨hl2_0, hl2_1, hl2_2, hl2_3, hl2_4, hl2_5, hl2_6, hl2_7, hl2_8, hl2_9, hl2_10, hl2_11⟩ : w.heap.size < w2.heap.size + 1 ∧ w.heap.size < w2.heap.size + 1 + 1 ∧ w.heap.size < w2.heap.size + 1 + 1 + 1 ∧ w.heap.size + 1 < w2.heap.size + 1 ∧ w.heap.size + 1 < w2.heap.size + 1 + 1 ∧ w.heap.size + 1 < w2.heap.size + 1 + 1 + 1 ∧ w.heap.size + 1 + 1 < w2.heap.size + 1 ∧ w.heap.size + 1 + 1 < w2.heap.size + 1 + 1 ∧ w.heap.size + 1 + 1 < w2.heap.size + 1 + 1 + 1 ∧ ¬ w.heap.size = w2.heap.size ∧ ¬ w.heap.size + 1 = w2.heap.size ∧ ¬ w.heap.size + 1 + 1 = w2.heap.size := by omega
  have X2 : Ext w w2 := Ext.trans (by repeat (first | with_reducible exact Ext.refl _ | with_reducible assumption | with_reducible apply Ext.alloc | with_reducible apply Ext.drew | (with_reducible refine Ext.setCell ?_ (by (try simp) <;> omega) _))) x2
  have hne : w.heap.size + 1 + 1 ≠ w2.heap.size := by omega
  go_wp2
  refine bodyPost_ret (v := .tuple #[.agg #[.int .i64 0, .int .i64 0], .int .i64 4]) (by simp [results, Tryz.results69, go_sem, *]) rfl ⟨?_, (by repeat (first | with_reducible exact Ext.refl _ | with_reducible assumption | with_reducible apply Ext.alloc | with_reducible apply Ext.drew | (with_reducible refine Ext.setCell ?_ (by (try simp) <;> omega) _)))⟩
  rw [HM.out] <;> rfl

set_option maxRecDepth 100000 in
set_option maxHeartbeats 2000000 in
theorem meet_walk (a b : S2) (w : World) : Calls Tryz.prog 69 #[.agg #[.int .i64 a.lo, .int .i64 a.hi], .agg #[.int .i64 b.lo, .int .i64 b.hi]] w fun e w' => e = .returned (.tuple #[.agg #[.int .i64 (meetR a b).1.lo, .int .i64 (meetR a b).1.hi], .int .i64 (meetR a b).2]) ∧ Ext w w' := by
  cases ha : szOk a with
  | false =>
    have HA := Lib.hid ha; clear ha
    go_enter Tryz.func69, Tryz.ntmps69
    go_wp2_with fail
    refine (szvalid_walk a _).mono ?_
    rw [HA.out]
    rintro e w1 ⟨rfl, x1⟩
    obtain ⟨hc1, hf1⟩ := x1.rules
    obtain ⟨hz1_0, hz1_1, hz1_2⟩ : w.heap.size < w1.heap.size ∧ w.heap.size + 1 < w1.heap.size ∧ w.heap.size + 1 + 1 < w1.heap.size := by have := x1.size; (try simp at this); omega
    obtain ⟨hl1_0, hl1_1, hl1_2, hl1_3, hl1_4, hl1_5, hl1_6, hl1_7, hl1_8, hl1_9, hl1_10, hl1_11⟩ : w.heap.size < w1.heap.size + 1 ∧ w.heap.size < w1.heap.size + 1 + 1 ∧ w.heap.size < w1.heap.size + 1 + 1 + 1 ∧ w.heap.size + 1 < w1.heap.size + 1 ∧ w.heap.size + 1 < w1.heap.size + 1 + 1 ∧ w.heap.size + 1 < w1.heap.size + 1 + 1 + 1 ∧ w.heap.size + 1 + 1 < w1.heap.size + 1 ∧ w.heap.size + 1 + 1 < w1.heap.size + 1 + 1 ∧ w.heap.size + 1 + 1 < w1.heap.size + 1 + 1 + 1 ∧ ¬ w.heap.size = w1.heap.size ∧ ¬ w.heap.size + 1 = w1.heap.size ∧ ¬ w.heap.size + 1 + 1 = w1.heap.size := by omega
    have X1 : Ext w w1 := Ext.trans (by repeat (first | with_reducible exact Ext.refl _ | with_reducible assumption | with_reducible apply Ext.alloc | with_reducible apply Ext.drew | (with_reducible refine Ext.setCell ?_ (by (try simp) <;> omega) _))) x1
    go_wp2
    refine bodyPost_ret (v := .tuple #[.agg #[.int .i64 0, .int .i64 0], .int .i64 1]) (by simp [results, Tryz.results69, go_sem, *]) rfl ⟨?_, (by repeat (first | with_reducible exact Ext.refl _ | with_reducible assumption | with_reducible apply Ext.alloc | with_reducible apply Ext.drew | (with_reducible refine Ext.setCell ?_ (by (try simp) <;> omega) _)))⟩
    rw [meetR_a HA.out] <;> rfl
  | true =>
  cases hb : szOk b with
  | false =>
    have HA := Lib.hid ha; clear ha
    have HB := Lib.hid hb; clear hb
    go_enter Tryz.func69, Tryz.ntmps69
    go_wp2_with fail
    refine (szvalid_walk a _).mono ?_
    rw [HA.out]
    rintro e w1 ⟨rfl, x1⟩
    obtain ⟨hc1, hf1⟩ := x1.rules
    obtain ⟨hz1_0, hz1_1, hz1_2⟩ : w.heap.size < w1.heap.size ∧ w.heap.size + 1 < w1.heap.size ∧ w.heap.size + 1 + 1 < w1.heap.size := by have := x1.size; (try simp at this); omega
    obtain ⟨hl1_0, hl1_1, hl1_2, hl1_3, hl1_4, hl1_5, hl1_6, hl1_7, hl1_8, hl1_9, hl1_10, hl1_11⟩ : w.heap.size < w1.heap.size + 1 ∧ w.heap.size < w1.heap.size + 1 + 1 ∧ w.heap.size < w1.heap.size + 1 + 1 + 1 ∧ w.heap.size + 1 < w1.heap.size + 1 ∧ w.heap.size + 1 < w1.heap.size + 1 + 1 ∧ w.heap.size + 1 < w1.heap.size + 1 + 1 + 1 ∧ w.heap.size + 1 + 1 < w1.heap.size + 1 ∧ w.heap.size + 1 + 1 < w1.heap.size + 1 + 1 ∧ w.heap.size + 1 + 1 < w1.heap.size + 1 + 1 + 1 ∧ ¬ w.heap.size = w1.heap.size ∧ ¬ w.heap.size + 1 = w1.heap.size ∧ ¬ w.heap.size + 1 + 1 = w1.heap.size := by omega
    have X1 : Ext w w1 := Ext.trans (by repeat (first | with_reducible exact Ext.refl _ | with_reducible assumption | with_reducible apply Ext.alloc | with_reducible apply Ext.drew | (with_reducible refine Ext.setCell ?_ (by (try simp) <;> omega) _))) x1
    go_wp2_with fail
    refine (szvalid_walk b _).mono ?_
    rw [HB.out]
    rintro e w2 ⟨rfl, x2⟩
    obtain ⟨hc2, hf2⟩ := x2.rules
    obtain ⟨hz2_0, hz2_1, hz2_2⟩ : w.heap.size < w2.heap.size ∧ w.heap.size + 1 < w2.heap.size ∧ w.heap.size + 1 + 1 < w2.heap.size := by have := x2.size; (try simp at this); omega
    obtain ⟨hl2_0, hl2_1, hl2_2, hl2_3, hl2_4, hl2_5, hl2_6, hl2_7, hl2_8, hl2_9, hl2_10, hl2_11⟩ : w.heap.size < w2.heap.size + 1 ∧ w.heap.size < w2.heap.size + 1 + 1 ∧ w.heap.size < w2.heap.size + 1 + 1 + 1 ∧ w.heap.size + 1 < w2.heap.size + 1 ∧ w.heap.size + 1 < w2.heap.size + 1 + 1 ∧ w.heap.size + 1 < w2.heap.size + 1 + 1 + 1 ∧ w.heap.size + 1 + 1 < w2.heap.size + 1 ∧ w.heap.size + 1 + 1 < w2.heap.size + 1 + 1 ∧ w.heap.size + 1 + 1 < w2.heap.size + 1 + 1 + 1 ∧ ¬ w.heap.size = w2.heap.size ∧ ¬ w.heap.size + 1 = w2.heap.size ∧ ¬ w.heap.size + 1 + 1 = w2.heap.size := by omega
    have X2 : Ext w w2 := Ext.trans (by repeat (first | with_reducible exact Ext.refl _ | with_reducible assumption | with_reducible apply Ext.alloc | with_reducible apply Ext.drew | (with_reducible refine Ext.setCell ?_ (by (try simp) <;> omega) _))) x2
    go_wp2
    refine bodyPost_ret (v := .tuple #[.agg #[.int .i64 0, .int .i64 0], .int .i64 1]) (by simp [results, Tryz.results69, go_sem, *]) rfl ⟨?_, (by repeat (first | with_reducible exact Ext.refl _ | with_reducible assumption | with_reducible apply Ext.alloc | with_reducible apply Ext.drew | (with_reducible refine Ext.setCell ?_ (by (try simp) <;> omega) _)))⟩
    rw [meetR_b HB.out] <;> rfl
  | true =>
    have HA := Lib.hid ha; clear ha
    have HB := Lib.hid hb; clear hb
    by_cases h1 : a.lo < b.lo <;> by_cases h2 : b.hi < a.hi
    · by_cases h3 : b.lo ≤ b.hi
      · exact meet_walk_0 a b HA HB h1 h2 h3 w
      · exact meet_walk_1 a b HA HB h1 h2 h3 w
    · by_cases h3 : b.lo ≤ a.hi
      · exact meet_walk_2 a b HA HB h1 h2 h3 w
      · exact meet_walk_3 a b HA HB h1 h2 h3 w
    · by_cases h3 : a.lo ≤ b.hi
      · exact meet_walk_4 a b HA HB h1 h2 h3 w
      · exact meet_walk_5 a b HA HB h1 h2 h3 w
    · by_cases h3 : a.lo ≤ a.hi
      · exact meet_walk_6 a b HA HB h1 h2 h3 w
      · exact meet_walk_7 a b HA HB h1 h2 h3 w
end Go.Proofs.YthpfalbeieloaaaGreatDoor
