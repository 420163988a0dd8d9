/-
  Walks of the reference: schismaref03.Valid, Of; schismaref04.Of, Cmp.
-/
import Derived.Test.YtdpegkkbhanjkaaDoorR4B
set_option linter.unusedVariables false
namespace Go.Proofs.YtdpegkkbhanjkaaDoor
open Go.RowKit Go.Sx Go.Sx.Sz

set_option maxRecDepth 100000 in
set_option maxHeartbeats 2000000 in
theorem rpvalid_walk (v : V6) (w : World) : Calls Tryd.prog 81 #[.agg #[.int .i64 v.a, .int .i64 v.b, .int .i64 v.c, .int .i64 v.d, .int .i64 v.e, .int .i64 v.f]] w fun e w' => e = .returned (.bool (within v 576)) ∧ Ext w w' := by
  have q := alloc_cell w v.cells 78
  go_enter Tryd.func81, Tryd.ntmps81
  go_wp2
  go_loopw [3] (fun i wr => ∃ k : Nat, k ≤ 6 ∧ i = .int .i64 k ∧ withinK v 576 k = true ∧ wr = w.alloc (.cells v.cells 78)) (fun i _ => 6 - (intOf i).toNat)
  case atStart => exact ⟨0, by omega, rfl, rfl, rfl⟩
  case round =>
    obtain ⟨k, hk, rfl, hw, rfl⟩ := hrel
    have HW := Lib.hid hw
    clear hw
    by_cases hlt : k < 6
    · have hx := q k _ (by rw [Array.getElem?_toList]; exact V6.cells_at v hlt)
      clear q
      obtain ⟨W, hW⟩ : ∃ W, w.alloc (.cells v.cells 78) = W := ⟨_, rfl⟩
      have XW : Ext w W := by rw [← hW]; exact Ext.alloc' _ _
      have HWW := Lib.hid hW
      rw [hW] at hx ⊢
      clear hW
      by_cases hb : -576 ≤ v.get k
      · by_cases hc : v.get k ≤ 576
        · go_wp2
          go_roundw
          case rel => exact ⟨k + 1, by omega, by go_num, by simp [withinK, HW.out, hb, hc], by first | exact HWW.out.symm | trivial⟩
          case measure => simp [intOf]; omega
        · go_wp2
          go_ret
          exact ⟨by rw [withinK_false hlt (by omega)]; rfl, (by repeat (first | with_reducible exact Ext.refl _ | with_reducible assumption | with_reducible apply Ext.alloc | with_reducible apply Ext.drew | (with_reducible refine Ext.setCell ?_ (by (try simp) <;> omega) _)))⟩
      · go_wp2
        go_ret
        exact ⟨by rw [withinK_false hlt (by omega)]; rfl, (by repeat (first | with_reducible exact Ext.refl _ | with_reducible assumption | with_reducible apply Ext.alloc | with_reducible apply Ext.drew | (with_reducible refine Ext.setCell ?_ (by (try simp) <;> omega) _)))⟩
    · obtain rfl : k = 6 := by omega
      clear q
      go_wp2
      go_ret
      exact ⟨by rw [show within v 576 = true from HW.out]; rfl, (by repeat (first | with_reducible exact Ext.refl _ | with_reducible assumption | with_reducible apply Ext.alloc | with_reducible apply Ext.drew | (with_reducible refine Ext.setCell ?_ (by (try simp) <;> omega) _)))⟩

set_option maxRecDepth 100000 in
set_option maxHeartbeats 2000000 in
theorem rof_walk (v : V6) (w : World) : Calls Tryd.prog 36 #[.agg #[.int .i64 v.a, .int .i64 v.b, .int .i64 v.c, .int .i64 v.d, .int .i64 v.e, .int .i64 v.f]] w fun e w' => e = .returned (.tuple #[.agg #[.int .i64 (ofR v).1.a, .int .i64 (ofR v).1.b, .int .i64 (ofR v).1.c, .int .i64 (ofR v).1.d, .int .i64 (ofR v).1.e, .int .i64 (ofR v).1.f], .int .i64 (ofR v).2]) ∧ Ext w w' := by
  cases hv : within v 48 with
  | false =>
    have HB : Hid (ofR v = (V6.zero, 1)) := Lib.hid (by rw [ofR, hv]; rfl)
    have HV := Lib.hid hv; clear hv
    go_enter Tryd.func36, Tryd.ntmps36
    go_wp2_with fail
    refine (rinterval_walk v _).mono ?_
    rw [HV.out]
    rintro e w1 ⟨rfl, x1⟩
    obtain ⟨hc1, hf1⟩ := x1.rules
    obtain ⟨hz1_0, hz1_1, hz1_2⟩ : w.heap.size < w1.heap.size ∧ w.heap.size + 1 < w1.heap.size ∧ w.heap.size + 1 + 1 < w1.heap.size := by have := x1.size; (try simp at this); omega
    obtain ⟨hl1_0, hl1_1, hl1_2, hl1_3, hl1_4, hl1_5, hl1_6, hl1_7, hl1_8, hl1_9, hl1_10, hl1_11⟩ : w.heap.size < w1.heap.size + 1 ∧ w.heap.size < w1.heap.size + 1 + 1 ∧ w.heap.size < w1.heap.size + 1 + 1 + 1 ∧ w.heap.size + 1 < w1.heap.size + 1 ∧ w.heap.size + 1 < w1.heap.size + 1 + 1 ∧ w.heap.size + 1 < w1.heap.size + 1 + 1 + 1 ∧ w.heap.size + 1 + 1 < w1.heap.size + 1 ∧ w.heap.size + 1 + 1 < w1.heap.size + 1 + 1 ∧ w.heap.size + 1 + 1 < w1.heap.size + 1 + 1 + 1 ∧ ¬ w.heap.size = w1.heap.size ∧ ¬ w.heap.size + 1 = w1.heap.size ∧ ¬ w.heap.size + 1 + 1 = w1.heap.size := by omega
    have X1 : Ext w w1 := Ext.trans (by repeat (first | with_reducible exact Ext.refl _ | with_reducible assumption | with_reducible apply Ext.alloc | with_reducible apply Ext.drew | (with_reducible refine Ext.setCell ?_ (by (try simp) <;> omega) _))) x1
    go_wp2
    refine bodyPost_ret (v := .tuple #[.agg #[.int .i64 0, .int .i64 0, .int .i64 0, .int .i64 0, .int .i64 0, .int .i64 0], .int .i64 1]) (by simp [results, Tryd.results36, go_sem, *]) rfl ⟨?_, (by repeat (first | with_reducible exact Ext.refl _ | with_reducible assumption | with_reducible apply Ext.alloc | with_reducible apply Ext.drew | (with_reducible refine Ext.setCell ?_ (by (try simp) <;> omega) _)))⟩
    rw [HB.out] <;> rfl
  | true =>
    have HB : Hid (ofR v = (v.times 12, 0)) := Lib.hid (by rw [ofR, if_pos hv])
    have hb := fun k (hk : k < 6) => (Sz.within_iff.1 hv) k hk
    have HV := Lib.hid hv; clear hv
    go_enter Tryd.func36, Tryd.ntmps36
    go_wp2_with fail
    refine (rinterval_walk v _).mono ?_
    rw [HV.out]
    rintro e w1 ⟨rfl, x1⟩
    have X1 : Ext w w1 := Ext.trans (by repeat (first | with_reducible exact Ext.refl _ | with_reducible assumption | with_reducible apply Ext.alloc | with_reducible apply Ext.drew | (with_reducible refine Ext.setCell ?_ (by (try simp) <;> omega) _))) x1
    have g0 : w1.heap[w.heap.size]? = some (.cells v.cells 41 (0, 0)) := block_ext x1 (block_alloc (block_alloc (block_new w _) _) _)
    have g1 : w1.heap[w.heap.size + 1]? = some (.cells V6.zero.cells 78 (0, 0)) := block_ext x1 (block_alloc (block_at (by simp) _) _)
    have g2 : w1.heap[w.heap.size + 1 + 1]? = some (.cells V6.zero.cells 78 (0, 0)) := block_ext x1 (block_at (by simp) _)
    clear x1
    go_wp2
    go_loopw [6] (fun i wr => ∃ k : Nat, k ≤ 6 ∧ i = .int .i64 k ∧ wr.heap[w.heap.size]? = some (.cells v.cells 41 (0, 0)) ∧ wr.heap[w.heap.size + 1]? = some (.cells V6.zero.cells 78 (0, 0)) ∧ wr.heap[w.heap.size + 1 + 1]? = some (.cells (V6.of fun j => if j < k then v.get j * 12 else 0).cells 78 (0, 0)) ∧ Ext w wr) (fun i _ => 6 - (intOf i).toNat)
    case atStart => exact ⟨0, by omega, rfl, g0, g1, g2, X1⟩
    case round =>
      clear g0 g1 g2 X1
      obtain ⟨k, hk, rfl, c0, c1, c2, X⟩ := hrel
      by_cases hlt : k < 6
      · obtain ⟨b1, b2⟩ := hb k hlt
        have q0 := block_cell c0 k _ (V6.cells_at _ hlt)
        have q2 := block_cell c2 k _ (V6.cells_at _ hlt)
        have hf := block_free c2 k
        have n2 := block_set c2 k (.int .i64 (v.get k * 12))
        rw [V6.cells_put _ hlt, show (V6.of fun j => if j < k then v.get j * 12 else 0).put k (v.get k * 12) = (V6.of fun j => if j < k + 1 then v.get j * 12 else 0) from V6.ext' fun j hj => by
          rw [V6.put_get _ hlt _ hj, V6.get_of _ hj, V6.get_of _ hj]
          by_cases h : j = k
          · subst h; simp
          · rw [if_neg h]
            by_cases h' : j < k
            · rw [if_pos h', if_pos (by omega)]
            · rw [if_neg h', if_neg (by omega)]] at n2
        have n0 := block_ne c0 (g := w.heap.size + 1 + 1) k (.int .i64 (v.get k * 12)) (by omega)
        have n1 := block_ne c1 (g := w.heap.size + 1 + 1) k (.int .i64 (v.get k * 12)) (by omega)
        have N0 := Lib.hid n0; have N1 := Lib.hid n1; have N2 := Lib.hid n2
        clear n0 n1 n2 c0 c1 c2 hb
        go_wp2
        go_roundw
        case rel => exact ⟨k + 1, by omega, by go_num, N0.out, N1.out, N2.out, X.setCell (p := ⟨w.heap.size + 1 + 1, k, none⟩) (by show w.heap.size ≤ w.heap.size + 1 + 1; omega) _⟩
        case measure => simp [intOf]; omega
      · obtain rfl : k = 6 := by omega
        have e : (V6.of fun j => if j < 6 then v.get j * 12 else 0) = v.times 12 := V6.ext' fun j hj => by simp [V6.times, V6.get_of _ hj, hj]
        rw [e] at c2
        clear e
        obtain ⟨r1, s1⟩ := block_rules c1
        obtain ⟨r2, s2⟩ := block_rules c2
        have R1 : ∀ j, wr.cell? ⟨w.heap.size + 1, j, none⟩ = (#[.int .i64 V6.zero.a, .int .i64 V6.zero.b, .int .i64 V6.zero.c, .int .i64 V6.zero.d, .int .i64 V6.zero.e, .int .i64 V6.zero.f] : Array Value)[j]? := r1
        have R2 : ∀ j, wr.cell? ⟨w.heap.size + 1 + 1, j, none⟩ = (#[.int .i64 (v.times 12).a, .int .i64 (v.times 12).b, .int .i64 (v.times 12).c, .int .i64 (v.times 12).d, .int .i64 (v.times 12).e, .int .i64 (v.times 12).f] : Array Value)[j]? := r2
        clear r1 r2 c0 c1 c2 hb
        go_wp2
        refine bodyPost_ret (v := .tuple #[.agg #[.int .i64 (v.times 12).a, .int .i64 (v.times 12).b, .int .i64 (v.times 12).c, .int .i64 (v.times 12).d, .int .i64 (v.times 12).e, .int .i64 (v.times 12).f], .int .i64 0]) (by simp [results, Tryd.results36, go_sem, *]) rfl ⟨?_, (by repeat (first | with_reducible exact Ext.refl _ | with_reducible assumption | with_reducible apply Ext.alloc | with_reducible apply Ext.drew | (with_reducible refine Ext.setCell ?_ (by (try simp) <;> omega) _)))⟩
        rw [HB.out] <;> rfl

end Go.Proofs.YtdpegkkbhanjkaaDoor
