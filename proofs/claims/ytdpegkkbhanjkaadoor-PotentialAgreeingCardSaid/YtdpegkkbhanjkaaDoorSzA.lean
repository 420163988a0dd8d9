/-
  Walks: size.Valid, pitch.within, pitch.Valid, pitch.Interval, pitch.Of.
-/
import Derived.Test.YtdpegkkbhanjkaaDoorLibB
set_option linter.unusedVariables false
namespace Go.Proofs.YtdpegkkbhanjkaaDoor
open Go.RowKit Go.Sx Go.Sx.Sz

set_option maxRecDepth 100000 in
set_option maxHeartbeats 1000000 in
theorem within_walk (v : V6) (B : Int) (h0 : 0 ≤ B) (h1 : B ≤ 1000000) (w : World) : Calls Tryd.prog 65 #[.agg #[.int .i64 v.a, .int .i64 v.b, .int .i64 v.c, .int .i64 v.d, .int .i64 v.e, .int .i64 v.f], .int .i64 B] w fun e w' => e = .returned (.bool (within v B)) ∧ Ext w w' := by
  have ix := fun (k : Nat) (hk : k < 6) (w : World) => run_index_v6 (P := Tryd.prog) (t := 40) Tryd.underlying40 Tryd.underlying3 (by kernel_rfl) v hk w
  go_enter Tryd.func65, Tryd.ntmps65
  go_wp2
  go_loop [8] (fun i => ∃ k : Nat, k ≤ 6 ∧ i = .int .i64 k ∧ withinK v B k = true) (fun i => 6 - (intOf i).toNat)
  case atStart => exact ⟨0, by omega, rfl, rfl⟩
  case round =>
    obtain ⟨k, hk, rfl, hw⟩ := hrel
    have HW := Lib.hid hw
    clear hw
    by_cases hlt : k < 6
    · have hx := ix k hlt
      clear ix
      by_cases hb : -B ≤ v.get k
      · by_cases hc : v.get k ≤ B
        · go_wp2
          go_round
          case rel => exact ⟨k + 1, by omega, by go_num, by simp [withinK, HW.out, hb, hc]⟩
          case measure => simp [intOf]; omega
        · go_wp2
          go_ret
          exact ⟨by rw [withinK_false hlt (by omega)] <;> rfl, (by repeat (first | with_reducible exact Ext.refl _ | with_reducible assumption | with_reducible apply Ext.alloc | with_reducible apply Ext.drew | (with_reducible refine Ext.setCell ?_ (by (try simp) <;> omega) _)))⟩
      · go_wp2
        go_ret
        exact ⟨by rw [withinK_false hlt (by omega)] <;> rfl, (by repeat (first | with_reducible exact Ext.refl _ | with_reducible assumption | with_reducible apply Ext.alloc | with_reducible apply Ext.drew | (with_reducible refine Ext.setCell ?_ (by (try simp) <;> omega) _)))⟩
    · obtain rfl : k = 6 := by omega
      clear ix
      go_wp2
      go_ret
      exact ⟨by rw [show within v B = true from HW.out] <;> rfl, (by repeat (first | with_reducible exact Ext.refl _ | with_reducible assumption | with_reducible apply Ext.alloc | with_reducible apply Ext.drew | (with_reducible refine Ext.setCell ?_ (by (try simp) <;> omega) _)))⟩

set_option maxRecDepth 100000 in
set_option maxHeartbeats 1000000 in
theorem pvalid_walk (v : V6) (w : World) : Calls Tryd.prog 87 #[.agg #[.int .i64 v.a, .int .i64 v.b, .int .i64 v.c, .int .i64 v.d, .int .i64 v.e, .int .i64 v.f]] w fun e w' => e = .returned (.bool (within v 576)) ∧ Ext w w' := by
  go_enter Tryd.func87, Tryd.ntmps87
  go_wp2_with fail
  refine (within_walk v 576 (by omega) (by omega) _).mono ?_
  rintro e w1 ⟨rfl, x1⟩
  go_wp2
  go_ret
  exact ⟨rfl, Ext.trans (by repeat (first | with_reducible exact Ext.refl _ | with_reducible assumption | with_reducible apply Ext.alloc | with_reducible apply Ext.drew | (with_reducible refine Ext.setCell ?_ (by (try simp) <;> omega) _))) x1⟩

set_option maxRecDepth 100000 in
set_option maxHeartbeats 1000000 in
theorem interval_walk (v : V6) (w : World) : Calls Tryd.prog 46 #[.agg #[.int .i64 v.a, .int .i64 v.b, .int .i64 v.c, .int .i64 v.d, .int .i64 v.e, .int .i64 v.f]] w fun e w' => e = .returned (.bool (within v 48)) ∧ Ext w w' := by
  go_enter Tryd.func46, Tryd.ntmps46
  go_wp2_with fail
  refine (within_walk v 48 (by omega) (by omega) _).mono ?_
  rintro e w1 ⟨rfl, x1⟩
  go_wp2
  go_ret
  exact ⟨rfl, Ext.trans (by repeat (first | with_reducible exact Ext.refl _ | with_reducible assumption | with_reducible apply Ext.alloc | with_reducible apply Ext.drew | (with_reducible refine Ext.setCell ?_ (by (try simp) <;> omega) _))) x1⟩

set_option maxRecDepth 100000 in
theorem times_put (v : V6) (k : Nat) (hk : k < 6) (n : Int) : (V6.of fun j => if j < k + 1 then v.get j * n else v.get j) = (V6.of fun j => if j < k then v.get j * n else v.get j).put k (v.get k * n) := by
  refine V6.ext' fun j hj => ?_
  rw [V6.put_get _ hk _ hj, V6.get_of _ hj, V6.get_of _ hj]
  by_cases h : j = k
  · subst h; simp
  · rw [if_neg h]
    by_cases h' : j < k
    · rw [if_pos h', if_pos (by omega)]
    · rw [if_neg h', if_neg (by omega)]

set_option maxRecDepth 100000 in
set_option maxHeartbeats 1000000 in
theorem of_walk (v : V6) (w : World) : Calls Tryd.prog 56 #[.agg #[.int .i64 v.a, .int .i64 v.b, .int .i64 v.c, .int .i64 v.d, .int .i64 v.e, .int .i64 v.f]] w fun e w' => e = .returned (.tuple #[.agg #[.int .i64 (ofR v).1.a, .int .i64 (ofR v).1.b, .int .i64 (ofR v).1.c, .int .i64 (ofR v).1.d, .int .i64 (ofR v).1.e, .int .i64 (ofR v).1.f], .int .i64 (ofR v).2]) ∧ Ext w w' := by
  cases hv : within v 48 with
  | false =>
    have HV := Lib.hid hv; clear hv
    go_enter Tryd.func56, Tryd.ntmps56
    go_wp2_with fail
    refine (interval_walk v _).mono ?_
    rw [HV.out]
    rintro e w1 ⟨rfl, x1⟩
    obtain ⟨hc1, hf1⟩ := x1.rules
    have hz1 : w.heap.size + 1 < w1.heap.size := by have := x1.size; simp at this; omega
    have X1 : Ext w w1 := Ext.trans (by repeat (first | with_reducible exact Ext.refl _ | with_reducible assumption | with_reducible apply Ext.alloc | with_reducible apply Ext.drew | (with_reducible refine Ext.setCell ?_ (by (try simp) <;> omega) _))) x1
    go_wp2
    exact bodyPost_ret (v := .tuple #[V6.zero.val, .int .i64 1]) (by simp [results, Tryd.results56, go_sem, hc1, V6.val, V6.zero]) rfl ⟨by rw [ofR, if_neg (by rw [HV.out]; decide)]; rfl, (by repeat (first | with_reducible exact Ext.refl _ | with_reducible assumption | with_reducible apply Ext.alloc | with_reducible apply Ext.drew | (with_reducible refine Ext.setCell ?_ (by (try simp) <;> omega) _)))⟩
  | true =>
    have HV := Lib.hid hv
    have hbd := fun k (hk : k < 6) => (Sz.within_iff.1 hv) k hk
    clear hv
    go_enter Tryd.func56, Tryd.ntmps56
    go_wp2_with fail
    refine (interval_walk v _).mono ?_
    rw [HV.out]
    rintro e w1 ⟨rfl, x1⟩
    obtain ⟨hc1, hf1⟩ := x1.rules
    have hz1 : w.heap.size + 1 < w1.heap.size := by have := x1.size; simp at this; omega
    have X1 : Ext w w1 := Ext.trans (by repeat (first | with_reducible exact Ext.refl _ | with_reducible assumption | with_reducible apply Ext.alloc | with_reducible apply Ext.drew | (with_reducible refine Ext.setCell ?_ (by (try simp) <;> omega) _))) x1
    have g0 : w1.heap[w.heap.size]? = some (.cells v.cells 41 (0, 0)) := block_ext x1 (block_alloc (block_new w _) _)
    have g1 : w1.heap[w.heap.size + 1]? = some (.cells V6.zero.cells 78 (0, 0)) := block_ext x1 (block_at (by simp) _)
    clear x1
    go_wp2
    go_loopw [9] (fun i wr => ∃ k : Nat, k ≤ 6 ∧ i = .int .i64 k ∧ wr.heap[w.heap.size]? = some (.cells (V6.of fun j => if j < k then v.get j * 12 else v.get j).cells 41 (0, 0)) ∧ wr.heap[w.heap.size + 1]? = some (.cells V6.zero.cells 78 (0, 0)) ∧ Ext w wr) (fun i _ => 6 - (intOf i).toNat)
    case atStart => exact ⟨0, by omega, rfl, by simpa [V6.of, V6.get] using g0, g1, X1⟩
    case round =>
      clear g0 g1 hc1 hf1 hz1 X1 w1
      obtain ⟨k, hk, rfl, c0, c1, X⟩ := hrel
      by_cases hlt : k < 6
      · have hg := block_cell c0 k _ (V6.cells_at _ hlt)
        have hf := block_free c0 k
        rw [V6.get_of _ hlt, if_neg (by omega)] at hg
        obtain ⟨b1, b2⟩ := hbd k hlt
        have n0 := block_set c0 k (.int .i64 (v.get k * 12))
        rw [V6.cells_put _ hlt, ← times_put v k hlt] at n0
        have n1 := block_ne c1 (g := w.heap.size) k (.int .i64 (v.get k * 12)) (by omega)
        have N0 := Lib.hid n0; have N1 := Lib.hid n1
        clear n0 n1 c0 c1 hbd
        go_wp2
        go_roundw
        case rel => exact ⟨k + 1, by omega, by go_num, N0.out, N1.out, (by repeat (first | with_reducible exact Ext.refl _ | with_reducible assumption | with_reducible apply Ext.alloc | with_reducible apply Ext.drew | (with_reducible refine Ext.setCell ?_ (by (try simp) <;> omega) _)))⟩
        case measure => simp [intOf]; omega
      · obtain rfl : k = 6 := by omega
        have e : (V6.of fun j => if j < 6 then v.get j * 12 else v.get j) = v.times 12 := V6.ext' fun j hj => by simp [V6.times, V6.get_of _ hj, hj]
        rw [e] at c0
        clear e
        obtain ⟨r0, s0⟩ := block_rules c0
        obtain ⟨r1, s1⟩ := block_rules c1
        have R0 : ∀ j, wr.cell? ⟨w.heap.size, j, none⟩ = (#[.int .i64 (v.times 12).a, .int .i64 (v.times 12).b, .int .i64 (v.times 12).c, .int .i64 (v.times 12).d, .int .i64 (v.times 12).e, .int .i64 (v.times 12).f] : Array Value)[j]? := r0
        have R1 : ∀ j, wr.cell? ⟨w.heap.size + 1, j, none⟩ = (#[.int .i64 V6.zero.a, .int .i64 V6.zero.b, .int .i64 V6.zero.c, .int .i64 V6.zero.d, .int .i64 V6.zero.e, .int .i64 V6.zero.f] : Array Value)[j]? := r1
        clear r0 r1 c0 c1 s0
        go_wp2
        exact bodyPost_ret (v := .tuple #[(v.times 12).val, .int .i64 0]) (by simp [results, Tryd.results56, go_sem, V6.val, R1]) rfl ⟨by rw [ofR, if_pos HV.out] <;> rfl, (by repeat (first | with_reducible exact Ext.refl _ | with_reducible assumption | with_reducible apply Ext.alloc | with_reducible apply Ext.drew | (with_reducible refine Ext.setCell ?_ (by (try simp) <;> omega) _)))⟩
end Go.Proofs.YtdpegkkbhanjkaaDoor
