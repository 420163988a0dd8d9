/-
  Libraries of these proofs, laid as one text: SzA, SzB, SzC, SzD.
-/
import Derived.Test.YtgfaiihekibcbaaGreatDoorLibB
import Derived.IntWalk
/-
  Walks: size.Valid, pitch.within, pitch.Valid, pitch.Interval, pitch.Of.
-/
set_option linter.unusedVariables false
namespace Go.Proofs.YtgfaiihekibcbaaGreatDoor
open Go.RowKit Go.Sx Go.Sx.Sz

set_option maxRecDepth 100000 in
set_option maxHeartbeats 1000000 in
theorem within_walk (v : V6) (B : Int) (h0 : 0 ≤ B) (h1 : B ≤ 1000000) (w : World) : Calls Tryz.prog 77 #[.agg #[.int .i64 v.a, .int .i64 v.b, .int .i64 v.c, .int .i64 v.d, .int .i64 v.e, .int .i64 v.f], .int .i64 B] w fun e w' => e = .returned (.bool (within v B)) ∧ Ext w w' := by
  have ix := fun (k : Nat) (hk : k < 6) (w : World) => run_index_v6 (P := Tryz.prog) (t := 31) Tryz.underlying31 Tryz.underlying3 (by kernel_rfl) v hk w
  go_enter Tryz.func77, Tryz.ntmps77
  go_wp2
  go_loop [8] (fun i => ∃ k : Nat, k ≤ 6 ∧ i = .int .i64 k ∧ withinK v B k = true) (fun i => 6 - (intOf i).toNat)
  case atStart => exact ⟨0, by omega, rfl, rfl⟩
  case round =>
    obtain ⟨k, hk, rfl, hw⟩ := hrel
    have HW := Lib.hid hw
    clear hw
    by_cases hlt : k < 6
    · have hx := ix k hlt
      clear ix
      by_cases hb : -B ≤ v.get k
      · by_cases hc : v.get k ≤ B
        · go_wp2
          go_round
          case rel => exact ⟨k + 1, by omega, by go_num, by simp [withinK, HW.out, hb, hc]⟩
          case measure => simp [intOf]; omega
        · go_wp2
          go_ret
          exact ⟨by rw [withinK_false hlt (by omega)] <;> rfl, (by repeat (first | with_reducible exact Ext.refl _ | with_reducible assumption | with_reducible apply Ext.alloc | with_reducible apply Ext.drew | (with_reducible refine Ext.setCell ?_ (by (try simp) <;> omega) _)))⟩
      · go_wp2
        go_ret
        exact ⟨by rw [withinK_false hlt (by omega)] <;> rfl, (by repeat (first | with_reducible exact Ext.refl _ | with_reducible assumption | with_reducible apply Ext.alloc | with_reducible apply Ext.drew | (with_reducible refine Ext.setCell ?_ (by (try simp) <;> omega) _)))⟩
    · obtain rfl : k = 6 := by omega
      clear ix
      go_wp2
      go_ret
      exact ⟨by rw [show within v B = true from HW.out] <;> rfl, (by repeat (first | with_reducible exact Ext.refl _ | with_reducible assumption | with_reducible apply Ext.alloc | with_reducible apply Ext.drew | (with_reducible refine Ext.setCell ?_ (by (try simp) <;> omega) _)))⟩

set_option maxRecDepth 100000 in
set_option maxHeartbeats 1000000 in
theorem pvalid_walk (v : V6) (w : World) : Calls Tryz.prog 98 #[.agg #[.int .i64 v.a, .int .i64 v.b, .int .i64 v.c, .int .i64 v.d, .int .i64 v.e, .int .i64 v.f]] w fun e w' => e = .returned (.bool (within v 576)) ∧ Ext w w' := by
  go_enter Tryz.func98, Tryz.ntmps98
  go_wp2_with fail
  refine (within_walk v 576 (by omega) (by omega) _).mono ?_
  rintro e w1 ⟨rfl, x1⟩
  go_wp2
  go_ret
  exact ⟨rfl, Ext.trans (by repeat (first | with_reducible exact Ext.refl _ | with_reducible assumption | with_reducible apply Ext.alloc | with_reducible apply Ext.drew | (with_reducible refine Ext.setCell ?_ (by (try simp) <;> omega) _))) x1⟩

set_option maxRecDepth 100000 in
set_option maxHeartbeats 1000000 in
theorem interval_walk (v : V6) (w : World) : Calls Tryz.prog 49 #[.agg #[.int .i64 v.a, .int .i64 v.b, .int .i64 v.c, .int .i64 v.d, .int .i64 v.e, .int .i64 v.f]] w fun e w' => e = .returned (.bool (within v 48)) ∧ Ext w w' := by
  go_enter Tryz.func49, Tryz.ntmps49
  go_wp2_with fail
  refine (within_walk v 48 (by omega) (by omega) _).mono ?_
  rintro e w1 ⟨rfl, x1⟩
  go_wp2
  go_ret
  exact ⟨rfl, Ext.trans (by repeat (first | with_reducible exact Ext.refl _ | with_reducible assumption | with_reducible apply Ext.alloc | with_reducible apply Ext.drew | (with_reducible refine Ext.setCell ?_ (by (try simp) <;> omega) _))) x1⟩

set_option maxRecDepth 100000 in
theorem times_put (v : V6) (k : Nat) (hk : k < 6) (n : Int) : (V6.of fun j => if j < k + 1 then v.get j * n else v.get j) = (V6.of fun j => if j < k then v.get j * n else v.get j).put k (v.get k * n) := by
  refine V6.ext' fun j hj => ?_
  rw [V6.put_get _ hk _ hj, V6.get_of _ hj, V6.get_of _ hj]
  by_cases h : j = k
  · subst h; simp
  · rw [if_neg h]
    by_cases h' : j < k
    · rw [if_pos h', if_pos (by omega)]
    · rw [if_neg h', if_neg (by omega)]

set_option maxRecDepth 100000 in
set_option maxHeartbeats 1000000 in
theorem of_walk (v : V6) (w : World) : Calls Tryz.prog 54 #[.agg #[.int .i64 v.a, .int .i64 v.b, .int .i64 v.c, .int .i64 v.d, .int .i64 v.e, .int .i64 v.f]] w fun e w' => e = .returned (.tuple #[.agg #[.int .i64 (ofR v).1.a, .int .i64 (ofR v).1.b, .int .i64 (ofR v).1.c, .int .i64 (ofR v).1.d, .int .i64 (ofR v).1.e, .int .i64 (ofR v).1.f], .int .i64 (ofR v).2]) ∧ Ext w w' := by
  cases hv : within v 48 with
  | false =>
    have HV := Lib.hid hv; clear hv
    go_enter Tryz.func54, Tryz.ntmps54
    go_wp2_with fail
    refine (interval_walk v _).mono ?_
    rw [HV.out]
    rintro e w1 ⟨rfl, x1⟩
    obtain ⟨hc1, hf1⟩ := x1.rules
    have hz1 : w.heap.size + 1 < w1.heap.size := by have := x1.size; simp at this; omega
    have X1 : Ext w w1 := Ext.trans (by repeat (first | with_reducible exact Ext.refl _ | with_reducible assumption | with_reducible apply Ext.alloc | with_reducible apply Ext.drew | (with_reducible refine Ext.setCell ?_ (by (try simp) <;> omega) _))) x1
    go_wp2
    exact bodyPost_ret (v := .tuple #[V6.zero.val, .int .i64 1]) (by simp [results, Tryz.results54, go_sem, hc1, V6.val, V6.zero]) rfl ⟨by rw [ofR, if_neg (by rw [HV.out]; decide)]; rfl, (by repeat (first | with_reducible exact Ext.refl _ | with_reducible assumption | with_reducible apply Ext.alloc | with_reducible apply Ext.drew | (with_reducible refine Ext.setCell ?_ (by (try simp) <;> omega) _)))⟩
  | true =>
    have HV := Lib.hid hv
    have hbd := fun k (hk : k < 6) => (Sz.within_iff.1 hv) k hk
    clear hv
    go_enter Tryz.func54, Tryz.ntmps54
    go_wp2_with fail
    refine (interval_walk v _).mono ?_
    rw [HV.out]
    rintro e w1 ⟨rfl, x1⟩
    obtain ⟨hc1, hf1⟩ := x1.rules
    have hz1 : w.heap.size + 1 < w1.heap.size := by have := x1.size; simp at this; omega
    have X1 : Ext w w1 := Ext.trans (by repeat (first | with_reducible exact Ext.refl _ | with_reducible assumption | with_reducible apply Ext.alloc | with_reducible apply Ext.drew | (with_reducible refine Ext.setCell ?_ (by (try simp) <;> omega) _))) x1
    have g0 : w1.heap[w.heap.size]? = some (.cells v.cells 32 (0, 0)) := block_ext x1 (block_alloc (block_new w _) _)
    have g1 : w1.heap[w.heap.size + 1]? = some (.cells V6.zero.cells 107 (0, 0)) := block_ext x1 (block_at (by simp) _)
    clear x1
    go_wp2
    go_loopw [9] (fun i wr => ∃ k : Nat, k ≤ 6 ∧ i = .int .i64 k ∧ wr.heap[w.heap.size]? = some (.cells (V6.of fun j => if j < k then v.get j * 12 else v.get j).cells 32 (0, 0)) ∧ wr.heap[w.heap.size + 1]? = some (.cells V6.zero.cells 107 (0, 0)) ∧ Ext w wr) (fun i _ => 6 - (intOf i).toNat)
    case atStart => exact ⟨0, by omega, rfl, by simpa [V6.of, V6.get] using g0, g1, X1⟩
    case round =>
      clear g0 g1 hc1 hf1 hz1 X1 w1
      obtain ⟨k, hk, rfl, c0, c1, X⟩ := hrel
      by_cases hlt : k < 6
      · have hg := block_cell c0 k _ (V6.cells_at _ hlt)
        have hf := block_free c0 k
        rw [V6.get_of _ hlt, if_neg (by omega)] at hg
        obtain ⟨b1, b2⟩ := hbd k hlt
        have n0 := block_set c0 k (.int .i64 (v.get k * 12))
        rw [V6.cells_put _ hlt, ← times_put v k hlt] at n0
        have n1 := block_ne c1 (g := w.heap.size) k (.int .i64 (v.get k * 12)) (by omega)
        have N0 := Lib.hid n0; have N1 := Lib.hid n1
        clear n0 n1 c0 c1 hbd
        go_wp2
        go_roundw
        case rel => exact ⟨k + 1, by omega, by go_num, N0.out, N1.out, (by repeat (first | with_reducible exact Ext.refl _ | with_reducible assumption | with_reducible apply Ext.alloc | with_reducible apply Ext.drew | (with_reducible refine Ext.setCell ?_ (by (try simp) <;> omega) _)))⟩
        case measure => simp [intOf]; omega
      · obtain rfl : k = 6 := by omega
        have e : (V6.of fun j => if j < 6 then v.get j * 12 else v.get j) = v.times 12 := V6.ext' fun j hj => by simp [V6.times, V6.get_of _ hj, hj]
        rw [e] at c0
        clear e
        obtain ⟨r0, s0⟩ := block_rules c0
        obtain ⟨r1, s1⟩ := block_rules c1
        have R0 : ∀ j, wr.cell? ⟨w.heap.size, j, none⟩ = (#[.int .i64 (v.times 12).a, .int .i64 (v.times 12).b, .int .i64 (v.times 12).c, .int .i64 (v.times 12).d, .int .i64 (v.times 12).e, .int .i64 (v.times 12).f] : Array Value)[j]? := r0
        have R1 : ∀ j, wr.cell? ⟨w.heap.size + 1, j, none⟩ = (#[.int .i64 V6.zero.a, .int .i64 V6.zero.b, .int .i64 V6.zero.c, .int .i64 V6.zero.d, .int .i64 V6.zero.e, .int .i64 V6.zero.f] : Array Value)[j]? := r1
        clear r0 r1 c0 c1 s0
        go_wp2
        exact bodyPost_ret (v := .tuple #[(v.times 12).val, .int .i64 0]) (by simp [results, Tryz.results54, go_sem, V6.val, R1]) rfl ⟨by rw [ofR, if_pos HV.out] <;> rfl, (by repeat (first | with_reducible exact Ext.refl _ | with_reducible assumption | with_reducible apply Ext.alloc | with_reducible apply Ext.drew | (with_reducible refine Ext.setCell ?_ (by (try simp) <;> omega) _)))⟩
end Go.Proofs.YtgfaiihekibcbaaGreatDoor

/-
  Walks: size.exponents, size.Of.
-/
set_option linter.unusedVariables false
namespace Go.Proofs.YtgfaiihekibcbaaGreatDoor
open Go.RowKit Go.Sx Go.Sx.Sz

set_option maxRecDepth 100000 in
set_option maxHeartbeats 2000000 in
theorem expo_walk (v : V6) (hv : within v 4000 = true) (w : World) (G : Gl 0 w) : Calls Tryz.prog 99 #[.agg #[.int .i64 v.a, .int .i64 v.b, .int .i64 v.c, .int .i64 v.d, .int .i64 v.e, .int .i64 v.f]] w fun e w' => e = .returned (.agg #[.int .i64 (expo v).lo, .int .i64 (expo v).hi]) ∧ Ext w w' := by
  have ix := fun (k : Nat) (hk : k < 6) (w : World) => run_index_logs (P := Tryz.prog) (t := 167) Tryz.underlying167 Tryz.underlying141 (by kernel_rfl) hk w
  have hbd := fun k (hk : k < 6) => Sz.within_iff.1 hv k hk
  have hsb := fun (k : Nat) (hk : k ≤ 6) => s_bd hv hk
  clear hv
  go_enter Tryz.func99, Tryz.ntmps99
  go_wp2_with (refine wpList_load_mid rfl 167 (.global 0) rfl 0 0 rfl logCells _ (G.ext (by repeat (first | with_reducible exact Ext.refl _ | with_reducible assumption | with_reducible apply Ext.alloc | with_reducible apply Ext.drew | (with_reducible refine Ext.setCell ?_ (by (try simp) <;> omega) _)))).logRange Tryz.underlying167 rfl (by kernel_rfl) ?_)
  go_loopw [7] (fun i wr => ∃ k : Nat, k ≤ 6 ∧ i = .int .i64 k ∧ wr.heap[w.heap.size]? = some (.cells v.cells 31 (0, 0)) ∧ wr.heap[w.heap.size + 1]? = some (.cells #[.int .i64 0, .int .i64 0] 141 (0, 0)) ∧ wr.heap[w.heap.size + 2]? = some (.cells #[.int .i64 (sLo v k), .int .i64 (sHi v k)] 141 (0, 0)) ∧ Ext w wr) (fun i _ => 6 - (intOf i).toNat)
  case atStart => exact ⟨0, by omega, rfl, block_alloc (block_alloc (block_new w _) _) _, block_alloc (block_at (by simp) _) _, block_at (by simp) _, (by repeat (first | with_reducible exact Ext.refl _ | with_reducible assumption | with_reducible apply Ext.alloc | with_reducible apply Ext.drew | (with_reducible refine Ext.setCell ?_ (by (try simp) <;> omega) _)))⟩
  case round =>
    obtain ⟨k, hk, rfl, c0, c1, c2, X⟩ := hrel
    by_cases hlt : k < 6
    · have hx := ix k hlt
      have hcell := block_cell c0 k _ (V6.cells_at _ hlt)
      obtain ⟨b1, b2⟩ := hbd k hlt
      clear ix hbd
      have hz := block_lt c2
      have hz0 : w.heap.size < wr.heap.size := by omega
      have hz1 : w.heap.size ≠ wr.heap.size := by omega
      obtain ⟨W, hW⟩ : ∃ W : World, wr = W := ⟨_, rfl⟩
      subst hW
      have hm := t_bd k b1 b2
      have hle := tLo_le (v.get k) k
      have hs := hsb k hk
      obtain ⟨A, Bv, hA, hB, hnew⟩ : ∃ A Bv : Int, v.get k * A = tLo (v.get k) k ∧ v.get k * Bv = tHi (v.get k) k ∧ ((v.get k < 0 ∧ A = logHi k ∧ Bv = logLo k) ∨ (¬ v.get k < 0 ∧ A = logLo k ∧ Bv = logHi k)) := by
        by_cases hneg : v.get k < 0
        · exact ⟨_, _, by rw [tLo, if_pos hneg], by rw [tHi, if_pos hneg], .inl ⟨hneg, rfl, rfl⟩⟩
        · exact ⟨_, _, by rw [tLo, if_neg hneg], by rw [tHi, if_neg hneg], .inr ⟨hneg, rfl, rfl⟩⟩
      have w1 : IntKind.i64.wrap (v.get k * A) = v.get k * A := IntWalk.i64_in _ (by rw [hA]; omega)
      have w2 : IntKind.i64.wrap (sLo v k + v.get k * A) = sLo v k + v.get k * A := IntWalk.i64_in _ (by rw [hA]; omega)
      have w3 : IntKind.i64.wrap (v.get k * Bv) = v.get k * Bv := IntWalk.i64_in _ (by rw [hB]; omega)
      have w4 : IntKind.i64.wrap (sHi v k + v.get k * Bv) = sHi v k + v.get k * Bv := IntWalk.i64_in _ (by rw [hB]; omega)
      have HA := Lib.hid hA; have HB := Lib.hid hB; have H1 := Lib.hid w1; have H2 := Lib.hid w2; have H3 := Lib.hid w3; have H4 := Lib.hid w4
      clear hA hB w1 w2 w3 w4 hm hle hs b1 b2
      have C0 := Lib.hid c0; have C1 := Lib.hid c1; have C2 := Lib.hid c2
      clear c0 c1 c2
      rcases hnew with ⟨hneg, e1, e2⟩ | ⟨hneg, e1, e2⟩
      all_goals
        have E1 := Lib.hid e1; have E2 := Lib.hid e2
        clear e1 e2
        go_wp2
        rw [← E1.out, ← E2.out]
        have d2 := block_alloc C2.out (.cells #[.int .i64 A, .int .i64 Bv] 141)
        have d1 := block_alloc C1.out (.cells #[.int .i64 A, .int .i64 Bv] 141)
        have d0 := block_alloc C0.out (.cells #[.int .i64 A, .int .i64 Bv] 141)
        have d3 := block_new wr (.cells #[.int .i64 A, .int .i64 Bv] 141)
        have X2 := X.alloc (.cells #[.int .i64 A, .int .i64 Bv] 141)
        obtain ⟨N, hN⟩ : ∃ N : Nat, wr.heap.size = N := ⟨_, rfl⟩
        obtain ⟨W, hW⟩ : ∃ W : World, wr.alloc (.cells #[.int .i64 A, .int .i64 Bv] 141) = W := ⟨_, rfl⟩
        rw [hN] at d3 ⊢
        rw [hW] at d0 d1 d2 d3 X2 ⊢
        have f0 := ext_cells (block_cell d0 k _ (V6.cells_at _ hlt))
        have f1 := ext_cells (block_cell d2 0 (.int .i64 (sLo v k)) rfl)
        have f2 := ext_cells (block_cell d3 0 (.int .i64 A) rfl)
        clear hcell hz0 hz1 hx
        have hN2 : w.heap.size + 2 < N := by omega
        clear hz hW hN
        refine wp_region_ord [(0,true), (1,true), (2,true), (3,true), (4,true), (5,true), (6,true), (7,true), (8,true), (9,true)] 10 Ext (Ext W) wide (by kernel_rfl) (stable_ext _) (Ext.drawn _ _) ?_
        have h1 := H1.out; have h2 := H2.out
        clear hsb hneg
        iterate 10 (apply wpOrd_det rfl rfl; (intro w' hw'; unfold opR; go_simp; exact ⟨Ext.refl _, rfl⟩); (simp only [List.getElem_toArray, List.getElem_cons_succ, List.getElem_cons_zero, Act.put, List.setIfInBounds_toArray, List.set_cons_succ, List.set_cons_zero]; rfl))
        clear h1 h2 f0 f1 f2
        refine wpOrd_nil rfl ?_
        intro W3 hW3
        replace d0 := block_ext hW3 d0
        replace d1 := block_ext hW3 d1
        replace d2 := block_ext hW3 d2
        replace d3 := block_ext hW3 d3
        replace X2 := X2.trans hW3
        clear hW3 W
        obtain ⟨r2, s2⟩ := block_rules d2
        go_wp2
        clear r2 s2
        replace d0 := block_ne d0 (g := w.heap.size + 1 + 1) 0 (.int .i64 (sLo v k + v.get k * A)) (by omega)
        replace d1 := block_ne d1 (g := w.heap.size + 1 + 1) 0 (.int .i64 (sLo v k + v.get k * A)) (by omega)
        replace d3 := block_ne d3 (g := w.heap.size + 1 + 1) 0 (.int .i64 (sLo v k + v.get k * A)) (by omega)
        replace d2 : (W3.setCell ⟨w.heap.size + 1 + 1, 0, none⟩ (.int .i64 (sLo v k + v.get k * A))).heap[w.heap.size + 2]? = some (.cells #[.int .i64 (sLo v k + v.get k * A), .int .i64 (sHi v k)] 141 (0, 0)) := block_set d2 0 _
        replace X2 : Ext w (W3.setCell ⟨w.heap.size + 1 + 1, 0, none⟩ (.int .i64 (sLo v k + v.get k * A))) := X2.setCell (by show w.heap.size ≤ w.heap.size + 1 + 1; omega) _
        obtain ⟨W, hW⟩ : ∃ W : World, W3.setCell ⟨w.heap.size + 1 + 1, 0, none⟩ (.int .i64 (sLo v k + v.get k * A)) = W := ⟨_, rfl⟩
        rw [hW] at d0 d1 d2 d3 X2 ⊢
        clear hW W3
        have f0 := ext_cells (block_cell d0 k _ (V6.cells_at _ hlt))
        have f1 := ext_cells (block_cell d2 1 (.int .i64 (sHi v k)) rfl)
        have f2 := ext_cells (block_cell d3 1 (.int .i64 Bv) rfl)
        refine wp_region_ord [(0,true), (1,true), (2,true), (3,true), (4,true), (5,true), (6,true), (7,true), (8,true), (9,true)] 10 Ext (Ext W) wide (by kernel_rfl) (stable_ext _) (Ext.drawn _ _) ?_
        have h1 := H3.out; have h2 := H4.out
        iterate 10 (apply wpOrd_det rfl rfl; (intro w' hw'; unfold opR; go_simp; exact ⟨Ext.refl _, rfl⟩); (simp only [List.getElem_toArray, List.getElem_cons_succ, List.getElem_cons_zero, Act.put, List.setIfInBounds_toArray, List.set_cons_succ, List.set_cons_zero]; rfl))
        clear h1 h2 f0 f1 f2
        refine wpOrd_nil rfl ?_
        intro W3 hW3
        replace d0 := block_ext hW3 d0
        replace d1 := block_ext hW3 d1
        replace d2 := block_ext hW3 d2
        replace X2 := X2.trans hW3
        clear hW3 d3 W
        obtain ⟨r2, s2⟩ := block_rules d2
        replace d0 := block_ne d0 (g := w.heap.size + 2) 1 (.int .i64 (sHi v k + v.get k * Bv)) (by omega)
        replace d1 := block_ne d1 (g := w.heap.size + 2) 1 (.int .i64 (sHi v k + v.get k * Bv)) (by omega)
        replace d2 : (W3.setCell ⟨w.heap.size + 2, 1, none⟩ (.int .i64 (sHi v k + v.get k * Bv))).heap[w.heap.size + 2]? = some (.cells #[.int .i64 (sLo v (k + 1)), .int .i64 (sHi v (k + 1))] 141 (0, 0)) := by
          rw [show sLo v (k + 1) = sLo v k + v.get k * A by rw [HA.out]; rfl, show sHi v (k + 1) = sHi v k + v.get k * Bv by rw [HB.out]; rfl]
          exact block_set d2 1 _
        have D0 := Lib.hid d0; have D1 := Lib.hid d1; have D2 := Lib.hid d2
        clear d0 d1 d2
        go_wp2
        go_roundw
        case rel => exact ⟨k + 1, by omega, by go_num, D0.out, D1.out, D2.out, X2.setCell (by show w.heap.size ≤ w.heap.size + 1 + 1; omega) _⟩
        case measure => simp [intOf]; omega
    · obtain rfl : k = 6 := by omega
      obtain ⟨r1, s1⟩ := block_rules c1
      obtain ⟨r2, s2⟩ := block_rules c2
      clear ix hbd hsb c0 c1 c2
      go_wp2
      exact bodyPost_ret (v := .agg #[.int .i64 (sLo v 6), .int .i64 (sHi v 6)]) (by simp [results, Tryz.results99, go_sem, r1]) rfl ⟨rfl, (by repeat (first | with_reducible exact Ext.refl _ | with_reducible assumption | with_reducible apply Ext.alloc | with_reducible apply Ext.drew | (with_reducible refine Ext.setCell ?_ (by (try simp) <;> omega) _)))⟩
end Go.Proofs.YtgfaiihekibcbaaGreatDoor

/-
  Walks: size.Of, plus, minus, combine, Add, Sub, Cmp, Meet.
-/
set_option linter.unusedVariables false
namespace Go.Proofs.YtgfaiihekibcbaaGreatDoor
open Go.RowKit Go.Sx Go.Sx.Sz


end Go.Proofs.YtgfaiihekibcbaaGreatDoor

/-
  Walks: size.Add, Sub, Cmp, Meet.
-/
set_option linter.unusedVariables false
namespace Go.Proofs.YtgfaiihekibcbaaGreatDoor
open Go.RowKit Go.Sx Go.Sx.Sz

end Go.Proofs.YtgfaiihekibcbaaGreatDoor
