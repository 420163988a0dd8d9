/-
  Walks of the reference: schismaref13.Primes; schismaref04.Both, Bounded, Add.
-/
import Derived.Test.YthhkpgbfefakeaaDoorR4A
import Derived.Test.YthhkpgbfefakeaaDoorSzD
import Derived.Test.YthhkpgbfefakeaaDoorSzN
set_option linter.unusedVariables false
namespace Go.Proofs.YthhkpgbfefakeaaDoor
open Go.RowKit Go.Sx Go.Sx.Sz

theorem primeCells_at {k : Nat} (h : k < 6) : primeCells.toArray[k]? = some (.int .i64 (prime k)) := by
  rcases lt6 h with rfl | rfl | rfl | rfl | rfl | rfl <;> rfl

set_option maxHeartbeats 2000000 in
theorem primes_walk (n : Int) (hn1 : 1 ≤ n) (hn2 : n ≤ 16) (w : World) : Calls Tryd.prog 51 #[.int .i64 n] w fun e w' => e = .returned (.agg #[.int .i64 (harmV n).a, .int .i64 (harmV n).b, .int .i64 (harmV n).c, .int .i64 (harmV n).d, .int .i64 (harmV n).e, .int .i64 (harmV n).f]) ∧ Ext w w' := by
  go_enter Tryd.func51, Tryd.ntmps51
  go_wp2
  go_loopw [5, 0] (fun i m wr => ∃ k : Nat, k ≤ 6 ∧ i = .int .i64 k ∧ m = .int .i64 (ratS n k).1 ∧ wr.heap[w.heap.size]? = some (.cells V6.zero.cells 33 (0, 0)) ∧ wr.heap[w.heap.size + 1]? = some (.cells (ratS n k).2.cells 33 (0, 0)) ∧ wr.heap[w.heap.size + 2]? = some (.cells primeCells.toArray 32 (0, 0)) ∧ Ext w wr) (fun i _ _ => 6 - (intOf i).toNat)
  case atStart => exact ⟨0, by omega, rfl, rfl, block_alloc (block_alloc (block_new w _) _) _, block_alloc (block_at (by simp) _) _, block_at (by simp) _, (by repeat (first | with_reducible exact Ext.refl _ | with_reducible assumption | with_reducible apply Ext.alloc | with_reducible apply Ext.drew | (with_reducible refine Ext.setCell ?_ (by (try simp) <;> omega) _)))⟩
  case round =>
    obtain ⟨k, hk, rfl, rfl, c0, c1, c2, X⟩ := hrel
    by_cases hlt : k < 6
    · have hb := ratS_bd hn1 k
      have hp := prime_bd k
      have hget := ratS_get n k k (Nat.le_refl _) hlt
      obtain ⟨p, hpp⟩ : ∃ p, prime k = p := ⟨_, rfl⟩
      obtain ⟨R, hR⟩ : ∃ R, stripF 20 p (ratS n k).1 = R := ⟨_, rfl⟩
      obtain ⟨M, hM⟩ : ∃ M, (ratS n k).1 = M := ⟨_, rfl⟩
      obtain ⟨V, hV⟩ : ∃ V, (ratS n k).2 = V := ⟨_, rfl⟩
      have hnext : ratS n (k + 1) = (R.1, V.put k R.2) := by rw [← hR, ← hV, ← hpp]; rfl
      rw [hpp] at hp
      rw [hM] at hR hb ⊢
      rw [hV] at c1 hget
      have HN := Lib.hid hnext
      have HG := Lib.hid hget
      have HR := Lib.hid hR
      have C0 := Lib.hid c0
      have C1 := Lib.hid c1
      have C2 := Lib.hid c2
      have HPP := Lib.hid hpp
      clear hget hnext hR c0 c1 c2 hpp hM hV
      obtain ⟨wo, rfl⟩ : ∃ wo : World, wo = wr := ⟨_, rfl⟩
      go_wp2
      go_loopw [0] (fun m wr => ∃ (x c : Int) (f : Nat), m = .int .i64 x ∧ 1 ≤ x ∧ x ≤ M ∧ 0 ≤ c ∧ x ≤ f ∧ c + f ≤ 20 ∧ (stripF (f + 1) p x).1 = R.1 ∧ (stripF (f + 1) p x).2 + c = R.2 ∧ wr.heap[w.heap.size]? = some (.cells V6.zero.cells 33 (0, 0)) ∧ wr.heap[w.heap.size + 1]? = some (.cells (V.put k c).cells 33 (0, 0)) ∧ wr.heap[w.heap.size + 2]? = some (.cells primeCells.toArray 32 (0, 0)) ∧ Ext w wr) (fun m _ => (intOf m).toNat)
      case atStart =>
        refine ⟨M, 0, 19, rfl, by omega, by omega, by omega, by omega, by omega, by rw [HR.out], by rw [HR.out]; omega, C0.out, ?_, C2.out, X⟩
        have e := V6.put_same V hlt
        rw [HG.out] at e
        rw [e]; exact C1.out
      case round =>
        clear C0 C1 C2 X wo
        obtain ⟨x, c, f, rfl, x1, x2, c1, xf, cf, s1, s2, d0, d1, d2, X2⟩ := hrel
        have hpc := block_cell d2 k _ (primeCells_at hlt)
        rw [HPP.out] at hpc
        by_cases hd : x % p = 0
        · obtain ⟨e1, e2, e3⟩ := strip_step (f := f) hp.1 x1 hd
          rw [e1] at s1 s2
          obtain ⟨g, rfl⟩ : ∃ g, f = g + 1 := ⟨f - 1, by omega⟩
          have hb1 : (x % p == 0) = true := by simpa using hd
          obtain ⟨q, hq⟩ : ∃ q, x / p = q := ⟨_, rfl⟩
          rw [hq] at s1 s2 e2 e3
          have hg := block_cell d1 k _ (V6.cells_at _ hlt)
          rw [V6.put_at _ hlt] at hg
          have hf := block_free d1 k
          have n0 := block_ne d0 (g := w.heap.size + 1) k (.int .i64 (c + 1)) (by omega)
          have n2 := block_ne d2 (g := w.heap.size + 1) k (.int .i64 (c + 1)) (by omega)
          have n1 := block_set d1 k (.int .i64 (c + 1))
          rw [V6.cells_put _ hlt, V6.put_put _ hlt] at n1
          have N0 := Lib.hid n0; have N1 := Lib.hid n1; have N2 := Lib.hid n2; have S1 := Lib.hid s1; have S2 := Lib.hid s2; have HQ := Lib.hid hq; have HD := Lib.hid hd
          have hz := block_lt d2
          have hz1 : w.heap.size + 1 + 1 ≠ w.heap.size + 1 := by omega
          have hz2 : w.heap.size + 1 ≠ w.heap.size + 1 + 1 := by omega
          clear n0 n1 n2 s1 s2 hq e1 d0 d1 d2 hd
          go_wp2
          rw [HQ.out]
          go_roundw
          case rel => exact ⟨q, c + 1, g, rfl, e2, by omega, by omega, by omega, by omega, S1.out, by have := S2.out; simp only at this; omega, N0.out, N1.out, N2.out, X2.setCell (p := ⟨w.heap.size + 1, k, none⟩) (by show w.heap.size ≤ w.heap.size + 1; omega) _⟩
          case measure => simp [intOf]; omega
        · rw [strip_stop hd] at s1 s2
          have hb1 : (x % p == 0) = false := by simpa using hd
          simp only at s1 s2
          have hc : c = R.2 := by omega
          have E2 : Hid (ratS n (k + 1) = (x, V.put k c)) := by rw [HN.out, s1, hc]; exact Lib.hid rfl
          have D0 := Lib.hid d0; have D1 := Lib.hid d1; have D2 := Lib.hid d2
          clear s1 s2 hc d0 d1 d2 hd
          go_wp2
          go_roundw
          case rel => exact ⟨k + 1, by omega, by go_num, by rw [E2.out], D0.out, by rw [E2.out]; exact D1.out, D2.out, X2⟩
          case measure => simp [intOf]; omega
    · obtain rfl : k = 6 := by omega
      obtain ⟨r0, s0⟩ := block_rules c0
      obtain ⟨r1, s1⟩ := block_rules c1
      have R0 : ∀ j, wr.cell? ⟨w.heap.size, j, none⟩ = (#[.int .i64 V6.zero.a, .int .i64 V6.zero.b, .int .i64 V6.zero.c, .int .i64 V6.zero.d, .int .i64 V6.zero.e, .int .i64 V6.zero.f] : Array Value)[j]? := r0
      have R1 : ∀ j, wr.cell? ⟨w.heap.size + 1, j, none⟩ = (#[.int .i64 (ratS n 6).2.a, .int .i64 (ratS n 6).2.b, .int .i64 (ratS n 6).2.c, .int .i64 (ratS n 6).2.d, .int .i64 (ratS n 6).2.e, .int .i64 (ratS n 6).2.f] : Array Value)[j]? := r1
      clear r0 r1 c0 c1 c2
      go_wp2
      refine bodyPost_ret (v := .agg #[.int .i64 (ratS n 6).2.a, .int .i64 (ratS n 6).2.b, .int .i64 (ratS n 6).2.c, .int .i64 (ratS n 6).2.d, .int .i64 (ratS n 6).2.e, .int .i64 (ratS n 6).2.f]) (by simp [results, Tryd.results51, go_sem, *]) rfl ⟨?_, (by repeat (first | with_reducible exact Ext.refl _ | with_reducible assumption | with_reducible apply Ext.alloc | with_reducible apply Ext.drew | (with_reducible refine Ext.setCell ?_ (by (try simp) <;> omega) _)))⟩
      rfl

set_option maxHeartbeats 1000000 in
theorem both_walk (a b : S2) (w : World) : Calls Tryd.prog 55 #[.agg #[.int .i64 a.lo, .int .i64 a.hi], .agg #[.int .i64 b.lo, .int .i64 b.hi]] w fun e w' => e = .returned (.bool (szOk a && szOk b)) ∧ Ext w w' := by
  cases ha : szOk a with
  | false =>
    have HA := Lib.hid ha; clear ha
    go_enter Tryd.func55, Tryd.ntmps55
    go_wp2_with fail
    refine (rszvalid_walk a _).mono ?_
    rw [HA.out]
    rintro e w1 ⟨rfl, x1⟩
    obtain ⟨hc1, hf1⟩ := x1.rules
    obtain ⟨hz1_0, hz1_1⟩ : w.heap.size < w1.heap.size ∧ w.heap.size + 1 < w1.heap.size := by have := x1.size; (try simp at this); omega
    obtain ⟨hl1_0, hl1_1, hl1_2, hl1_3, hl1_4, hl1_5, hl1_6, hl1_7⟩ : w.heap.size < w1.heap.size + 1 ∧ w.heap.size < w1.heap.size + 1 + 1 ∧ w.heap.size < w1.heap.size + 1 + 1 + 1 ∧ w.heap.size + 1 < w1.heap.size + 1 ∧ w.heap.size + 1 < w1.heap.size + 1 + 1 ∧ w.heap.size + 1 < w1.heap.size + 1 + 1 + 1 ∧ ¬ w.heap.size = w1.heap.size ∧ ¬ w.heap.size + 1 = w1.heap.size := by omega
    have X1 : Ext w w1 := Ext.trans (by repeat (first | with_reducible exact Ext.refl _ | with_reducible assumption | with_reducible apply Ext.alloc | with_reducible apply Ext.drew | (with_reducible refine Ext.setCell ?_ (by (try simp) <;> omega) _))) x1
    go_wp2
    go_ret
    exact ⟨by first | rfl | simp, (by repeat (first | with_reducible exact Ext.refl _ | with_reducible assumption | with_reducible apply Ext.alloc | with_reducible apply Ext.drew | (with_reducible refine Ext.setCell ?_ (by (try simp) <;> omega) _)))⟩
  | true =>
    have HA := Lib.hid ha; clear ha
    go_enter Tryd.func55, Tryd.ntmps55
    go_wp2_with fail
    refine (rszvalid_walk a _).mono ?_
    rw [HA.out]
    rintro e w1 ⟨rfl, x1⟩
    obtain ⟨hc1, hf1⟩ := x1.rules
    obtain ⟨hz1_0, hz1_1⟩ : w.heap.size < w1.heap.size ∧ w.heap.size + 1 < w1.heap.size := by have := x1.size; (try simp at this); omega
    obtain ⟨hl1_0, hl1_1, hl1_2, hl1_3, hl1_4, hl1_5, hl1_6, hl1_7⟩ : w.heap.size < w1.heap.size + 1 ∧ w.heap.size < w1.heap.size + 1 + 1 ∧ w.heap.size < w1.heap.size + 1 + 1 + 1 ∧ w.heap.size + 1 < w1.heap.size + 1 ∧ w.heap.size + 1 < w1.heap.size + 1 + 1 ∧ w.heap.size + 1 < w1.heap.size + 1 + 1 + 1 ∧ ¬ w.heap.size = w1.heap.size ∧ ¬ w.heap.size + 1 = w1.heap.size := by omega
    have X1 : Ext w w1 := Ext.trans (by repeat (first | with_reducible exact Ext.refl _ | with_reducible assumption | with_reducible apply Ext.alloc | with_reducible apply Ext.drew | (with_reducible refine Ext.setCell ?_ (by (try simp) <;> omega) _))) x1
    go_wp2_with fail
    refine (rszvalid_walk b _).mono ?_
    rintro e w2 ⟨rfl, x2⟩
    obtain ⟨hc2, hf2⟩ := x2.rules
    obtain ⟨hz2_0, hz2_1⟩ : w.heap.size < w2.heap.size ∧ w.heap.size + 1 < w2.heap.size := by have := x2.size; (try simp at this); omega
    obtain ⟨hl2_0, hl2_1, hl2_2, hl2_3, hl2_4, hl2_5, hl2_6, hl2_7⟩ : w.heap.size < w2.heap.size + 1 ∧ w.heap.size < w2.heap.size + 1 + 1 ∧ w.heap.size < w2.heap.size + 1 + 1 + 1 ∧ w.heap.size + 1 < w2.heap.size + 1 ∧ w.heap.size + 1 < w2.heap.size + 1 + 1 ∧ w.heap.size + 1 < w2.heap.size + 1 + 1 + 1 ∧ ¬ w.heap.size = w2.heap.size ∧ ¬ w.heap.size + 1 = w2.heap.size := by omega
    have X2 : Ext w w2 := Ext.trans (by repeat (first | with_reducible exact Ext.refl _ | with_reducible assumption | with_reducible apply Ext.alloc | with_reducible apply Ext.drew | (with_reducible refine Ext.setCell ?_ (by (try simp) <;> omega) _))) x2
    go_wp2
    go_ret
    exact ⟨by first | rfl | simp, (by repeat (first | with_reducible exact Ext.refl _ | with_reducible assumption | with_reducible apply Ext.alloc | with_reducible apply Ext.drew | (with_reducible refine Ext.setCell ?_ (by (try simp) <;> omega) _)))⟩

def bndR (a : S2) : S2 × Int := if szOk a = true then (a, 0) else (zeroS, 3)
set_option maxHeartbeats 1000000 in
theorem bounded_walk (a : S2) (w : World) : Calls Tryd.prog 56 #[.agg #[.int .i64 a.lo, .int .i64 a.hi]] w fun e w' => e = .returned (.tuple #[.agg #[.int .i64 (bndR a).1.lo, .int .i64 (bndR a).1.hi], .int .i64 (bndR a).2]) ∧ Ext w w' := by
  cases ha : szOk a with
  | false =>
    have HB : Hid (bndR a = (zeroS, 3)) := Lib.hid (by rw [bndR, ha]; rfl)
    have HA := Lib.hid ha; clear ha
    go_enter Tryd.func56, Tryd.ntmps56
    go_wp2_with fail
    refine (rszvalid_walk a _).mono ?_
    rw [HA.out]
    rintro e w1 ⟨rfl, x1⟩
    obtain ⟨hc1, hf1⟩ := x1.rules
    obtain ⟨hz1_0, hz1_1⟩ : w.heap.size < w1.heap.size ∧ w.heap.size + 1 < w1.heap.size := by have := x1.size; (try simp at this); omega
    obtain ⟨hl1_0, hl1_1, hl1_2, hl1_3, hl1_4, hl1_5, hl1_6, hl1_7⟩ : w.heap.size < w1.heap.size + 1 ∧ w.heap.size < w1.heap.size + 1 + 1 ∧ w.heap.size < w1.heap.size + 1 + 1 + 1 ∧ w.heap.size + 1 < w1.heap.size + 1 ∧ w.heap.size + 1 < w1.heap.size + 1 + 1 ∧ w.heap.size + 1 < w1.heap.size + 1 + 1 + 1 ∧ ¬ w.heap.size = w1.heap.size ∧ ¬ w.heap.size + 1 = w1.heap.size := by omega
    have X1 : Ext w w1 := Ext.trans (by repeat (first | with_reducible exact Ext.refl _ | with_reducible assumption | with_reducible apply Ext.alloc | with_reducible apply Ext.drew | (with_reducible refine Ext.setCell ?_ (by (try simp) <;> omega) _))) x1
    go_wp2
    refine bodyPost_ret (v := .tuple #[.agg #[.int .i64 0, .int .i64 0], .int .i64 3]) (by simp [results, Tryd.results56, go_sem, *]) rfl ⟨?_, (by repeat (first | with_reducible exact Ext.refl _ | with_reducible assumption | with_reducible apply Ext.alloc | with_reducible apply Ext.drew | (with_reducible refine Ext.setCell ?_ (by (try simp) <;> omega) _)))⟩
    rw [HB.out] <;> rfl
  | true =>
    have HB : Hid (bndR a = (a, 0)) := Lib.hid (by rw [bndR, if_pos ha])
    have HA := Lib.hid ha; clear ha
    go_enter Tryd.func56, Tryd.ntmps56
    go_wp2_with fail
    refine (rszvalid_walk a _).mono ?_
    rw [HA.out]
    rintro e w1 ⟨rfl, x1⟩
    obtain ⟨hc1, hf1⟩ := x1.rules
    obtain ⟨hz1_0, hz1_1⟩ : w.heap.size < w1.heap.size ∧ w.heap.size + 1 < w1.heap.size := by have := x1.size; (try simp at this); omega
    obtain ⟨hl1_0, hl1_1, hl1_2, hl1_3, hl1_4, hl1_5, hl1_6, hl1_7⟩ : w.heap.size < w1.heap.size + 1 ∧ w.heap.size < w1.heap.size + 1 + 1 ∧ w.heap.size < w1.heap.size + 1 + 1 + 1 ∧ w.heap.size + 1 < w1.heap.size + 1 ∧ w.heap.size + 1 < w1.heap.size + 1 + 1 ∧ w.heap.size + 1 < w1.heap.size + 1 + 1 + 1 ∧ ¬ w.heap.size = w1.heap.size ∧ ¬ w.heap.size + 1 = w1.heap.size := by omega
    have X1 : Ext w w1 := Ext.trans (by repeat (first | with_reducible exact Ext.refl _ | with_reducible assumption | with_reducible apply Ext.alloc | with_reducible apply Ext.drew | (with_reducible refine Ext.setCell ?_ (by (try simp) <;> omega) _))) x1
    go_wp2
    refine bodyPost_ret (v := .tuple #[.agg #[.int .i64 a.lo, .int .i64 a.hi], .int .i64 0]) (by simp [results, Tryd.results56, go_sem, *]) rfl ⟨?_, (by repeat (first | with_reducible exact Ext.refl _ | with_reducible assumption | with_reducible apply Ext.alloc | with_reducible apply Ext.drew | (with_reducible refine Ext.setCell ?_ (by (try simp) <;> omega) _)))⟩
    rw [HB.out] <;> rfl

set_option maxHeartbeats 2000000 in
theorem radd_walk (a b : S2) (w : World) : Calls Tryd.prog 36 #[.agg #[.int .i64 a.lo, .int .i64 a.hi], .agg #[.int .i64 b.lo, .int .i64 b.hi]] w fun e w' => e = .returned (.tuple #[.agg #[.int .i64 (addR a b).1.lo, .int .i64 (addR a b).1.hi], .int .i64 (addR a b).2]) ∧ Ext w w' := by
  cases hab : (szOk a && szOk b) with
  | false =>
    have HB : Hid (addR a b = (zeroS, 1)) := Lib.hid (by
      rw [Bool.and_eq_false_iff] at hab
      rcases hab with h | h
      · exact addR_a h
      · exact addR_b h)
    have HA := Lib.hid hab; clear hab
    go_enter Tryd.func36, Tryd.ntmps36
    go_wp2_with fail
    refine (both_walk a b _).mono ?_
    rw [HA.out]
    rintro e w1 ⟨rfl, x1⟩
    obtain ⟨hc1, hf1⟩ := x1.rules
    obtain ⟨hz1_0, hz1_1, hz1_2⟩ : w.heap.size < w1.heap.size ∧ w.heap.size + 1 < w1.heap.size ∧ w.heap.size + 1 + 1 < w1.heap.size := by have := x1.size; (try simp at this); omega
    obtain ⟨hl1_0, hl1_1, hl1_2, hl1_3, hl1_4, hl1_5, hl1_6, hl1_7, hl1_8, hl1_9, hl1_10, hl1_11⟩ : w.heap.size < w1.heap.size + 1 ∧ w.heap.size < w1.heap.size + 1 + 1 ∧ w.heap.size < w1.heap.size + 1 + 1 + 1 ∧ w.heap.size + 1 < w1.heap.size + 1 ∧ w.heap.size + 1 < w1.heap.size + 1 + 1 ∧ w.heap.size + 1 < w1.heap.size + 1 + 1 + 1 ∧ w.heap.size + 1 + 1 < w1.heap.size + 1 ∧ w.heap.size + 1 + 1 < w1.heap.size + 1 + 1 ∧ w.heap.size + 1 + 1 < w1.heap.size + 1 + 1 + 1 ∧ ¬ w.heap.size = w1.heap.size ∧ ¬ w.heap.size + 1 = w1.heap.size ∧ ¬ w.heap.size + 1 + 1 = w1.heap.size := by omega
    have X1 : Ext w w1 := Ext.trans (by repeat (first | with_reducible exact Ext.refl _ | with_reducible assumption | with_reducible apply Ext.alloc | with_reducible apply Ext.drew | (with_reducible refine Ext.setCell ?_ (by (try simp) <;> omega) _))) x1
    go_wp2
    refine bodyPost_ret (v := .tuple #[.agg #[.int .i64 0, .int .i64 0], .int .i64 1]) (by simp [results, Tryd.results36, go_sem, *]) rfl ⟨?_, (by repeat (first | with_reducible exact Ext.refl _ | with_reducible assumption | with_reducible apply Ext.alloc | with_reducible apply Ext.drew | (with_reducible refine Ext.setCell ?_ (by (try simp) <;> omega) _)))⟩
    rw [HB.out] <;> rfl
  | true =>
    have hab' := hab
    rw [Bool.and_eq_true] at hab'
    obtain ⟨ha, hb⟩ := hab'
    have HB : Hid (addR a b = bndR (addS a b)) := Lib.hid (by
      cases hc : szOk (addS a b) with
      | true => rw [addR_d ha hb hc, bndR, if_pos hc]
      | false => rw [addR_c ha hb hc, bndR, hc]; rfl)
    obtain ⟨a1, a2, a3⟩ := szOk_iff.1 ha
    obtain ⟨b1, b2, b3⟩ := szOk_iff.1 hb
    have HA := Lib.hid hab; clear hab ha hb
    obtain ⟨r, hr⟩ : ∃ r, bndR (addS a b) = r := ⟨_, rfl⟩
    have HR := Lib.hid hr
    clear hr
    go_enter Tryd.func36, Tryd.ntmps36
    go_wp2_with fail
    refine (both_walk a b _).mono ?_
    rw [HA.out]
    rintro e w1 ⟨rfl, x1⟩
    obtain ⟨hc1, hf1⟩ := x1.rules
    obtain ⟨hz1_0, hz1_1, hz1_2⟩ : w.heap.size < w1.heap.size ∧ w.heap.size + 1 < w1.heap.size ∧ w.heap.size + 1 + 1 < w1.heap.size := by have := x1.size; (try simp at this); omega
    obtain ⟨hl1_0, hl1_1, hl1_2, hl1_3, hl1_4, hl1_5, hl1_6, hl1_7, hl1_8, hl1_9, hl1_10, hl1_11⟩ : w.heap.size < w1.heap.size + 1 ∧ w.heap.size < w1.heap.size + 1 + 1 ∧ w.heap.size < w1.heap.size + 1 + 1 + 1 ∧ w.heap.size + 1 < w1.heap.size + 1 ∧ w.heap.size + 1 < w1.heap.size + 1 + 1 ∧ w.heap.size + 1 < w1.heap.size + 1 + 1 + 1 ∧ w.heap.size + 1 + 1 < w1.heap.size + 1 ∧ w.heap.size + 1 + 1 < w1.heap.size + 1 + 1 ∧ w.heap.size + 1 + 1 < w1.heap.size + 1 + 1 + 1 ∧ ¬ w.heap.size = w1.heap.size ∧ ¬ w.heap.size + 1 = w1.heap.size ∧ ¬ w.heap.size + 1 + 1 = w1.heap.size := by omega
    have X1 : Ext w w1 := Ext.trans (by repeat (first | with_reducible exact Ext.refl _ | with_reducible assumption | with_reducible apply Ext.alloc | with_reducible apply Ext.drew | (with_reducible refine Ext.setCell ?_ (by (try simp) <;> omega) _))) x1
    go_wp2_with fail
    refine (bounded_walk (addS a b) _).mono ?_
    rw [HR.out]
    rintro e w2 ⟨rfl, x2⟩
    obtain ⟨hc2, hf2⟩ := x2.rules
    obtain ⟨hz2_0, hz2_1, hz2_2⟩ : w.heap.size < w2.heap.size ∧ w.heap.size + 1 < w2.heap.size ∧ w.heap.size + 1 + 1 < w2.heap.size := by have := x2.size; (try simp at this); omega
    obtain ⟨hl2_0, hl2_1, hl2_2, hl2_3, hl2_4, hl2_5, hl2_6, hl2_7, hl2_8, hl2_9, hl2_10, hl2_11⟩ : w.heap.size < w2.heap.size + 1 ∧ w.heap.size < w2.heap.size + 1 + 1 ∧ w.heap.size < w2.heap.size + 1 + 1 + 1 ∧ w.heap.size + 1 < w2.heap.size + 1 ∧ w.heap.size + 1 < w2.heap.size + 1 + 1 ∧ w.heap.size + 1 < w2.heap.size + 1 + 1 + 1 ∧ w.heap.size + 1 + 1 < w2.heap.size + 1 ∧ w.heap.size + 1 + 1 < w2.heap.size + 1 + 1 ∧ w.heap.size + 1 + 1 < w2.heap.size + 1 + 1 + 1 ∧ ¬ w.heap.size = w2.heap.size ∧ ¬ w.heap.size + 1 = w2.heap.size ∧ ¬ w.heap.size + 1 + 1 = w2.heap.size := by omega
    have X2 : Ext w w2 := Ext.trans (by repeat (first | with_reducible exact Ext.refl _ | with_reducible assumption | with_reducible apply Ext.alloc | with_reducible apply Ext.drew | (with_reducible refine Ext.setCell ?_ (by (try simp) <;> omega) _))) x2
    go_wp2
    refine bodyPost_ret (v := .tuple #[.agg #[.int .i64 r.1.lo, .int .i64 r.1.hi], .int .i64 r.2]) (by simp [results, Tryd.results36, go_sem, *]) rfl ⟨?_, (by repeat (first | with_reducible exact Ext.refl _ | with_reducible assumption | with_reducible apply Ext.alloc | with_reducible apply Ext.drew | (with_reducible refine Ext.setCell ?_ (by (try simp) <;> omega) _)))⟩
    rw [HB.out, HR.out] <;> rfl
end Go.Proofs.YthhkpgbfefakeaaDoor
