/-
  Walk: pitch.Ratio at n : 1.
-/
import Derived.Test.YtkckingkocacjaaDoorLibM
import Derived.Test.YtkckingkocacjaaDoorLibB
set_option linter.unusedVariables false
namespace Go.Proofs.YtkckingkocacjaaDoor
open Go.RowKit Go.Sx Go.Sx.Sz

set_option maxHeartbeats 2000000 in
theorem ratio_walk (n : Int) (hn1 : 1 ≤ n) (hn2 : n ≤ 16) (w : World) (G : Gv 0 1 w) : Calls Tryd.prog 19 #[.int .i64 n, .int .i64 1] w fun e w' => e = .returned (.tuple #[.agg #[.int .i64 (harmV n).a, .int .i64 (harmV n).b, .int .i64 (harmV n).c, .int .i64 (harmV n).d, .int .i64 (harmV n).e, .int .i64 (harmV n).f], .int .i64 0]) ∧ Ext w w' := by
  have ix := fun (k : Nat) (hk : k < 6) (w : World) => run_index_primes (P := Tryd.prog) (t := 36) Tryd.underlying36 Tryd.underlying3 (by kernel_rfl) hk w
  go_enter Tryd.func19, Tryd.ntmps19
  go_wp2_with (refine wpList_load_mid rfl 36 (.global 0) rfl 0 0 rfl primeCells _ (G.ext (by repeat (first | with_reducible exact Ext.refl _ | with_reducible assumption | with_reducible apply Ext.alloc | with_reducible apply Ext.drew | (with_reducible refine Ext.setCell ?_ (by (try simp) <;> omega) _)))).primeRange Tryd.underlying36 rfl (by kernel_rfl) ?_)
  go_loopw [25, 0, 1] (fun i m d wr => ∃ k : Nat, k ≤ 6 ∧ i = .int .i64 k ∧ m = .int .i64 (ratS n k).1 ∧ d = .int .i64 1 ∧ wr.heap[w.heap.size]? = some (.cells V6.zero.cells 37 (0, 0)) ∧ wr.heap[w.heap.size + 1]? = some (.cells (ratS n k).2.cells 37 (0, 0)) ∧ Ext w wr) (fun i _ _ _ => 6 - (intOf i).toNat)
  case atStart => exact ⟨0, by omega, rfl, rfl, rfl, block_alloc (block_new w _) _, block_at (by simp) _, (by repeat (first | with_reducible exact Ext.refl _ | with_reducible assumption | with_reducible apply Ext.alloc | with_reducible apply Ext.drew | (with_reducible refine Ext.setCell ?_ (by (try simp) <;> omega) _)))⟩
  case round =>
    obtain ⟨k, hk, rfl, rfl, rfl, c0, c1, X⟩ := hrel
    by_cases hlt : k < 6
    · have hx := ix k hlt
      have hb := ratS_bd hn1 k
      have hp := prime_bd k
      have hget := ratS_get n k k (Nat.le_refl _) hlt
      obtain ⟨p, hpp⟩ : ∃ p, prime k = p := ⟨_, rfl⟩
      obtain ⟨R, hR⟩ : ∃ R, stripF 20 p (ratS n k).1 = R := ⟨_, rfl⟩
      obtain ⟨M, hM⟩ : ∃ M, (ratS n k).1 = M := ⟨_, rfl⟩
      obtain ⟨V, hV⟩ : ∃ V, (ratS n k).2 = V := ⟨_, rfl⟩
      have hnext : ratS n (k + 1) = (R.1, V.put k R.2) := by rw [← hR, ← hV, ← hpp]; rfl
      rw [hpp] at hx hp
      rw [hM] at hR hb ⊢
      rw [hV] at c1 hget
      have HN := Lib.hid hnext
      have HG := Lib.hid hget
      have HR := Lib.hid hR
      have C0 := Lib.hid c0
      have C1 := Lib.hid c1
      clear ix hget hnext hR c0 c1 hpp hM hV
      have h1p : ¬ (1 % p = 0) := by rw [Int.emod_eq_of_lt (by omega) (by omega)]; decide
      have h1q : (1 % p == 0) = false := by simpa using h1p
      obtain ⟨wo, rfl⟩ : ∃ wo : World, wo = wr := ⟨_, rfl⟩
      go_wp2
      go_loopw [0] (fun m wr => ∃ (x c : Int) (f : Nat), m = .int .i64 x ∧ 1 ≤ x ∧ x ≤ M ∧ 0 ≤ c ∧ x ≤ f ∧ c + f ≤ 20 ∧ (stripF (f + 1) p x).1 = R.1 ∧ (stripF (f + 1) p x).2 + c = R.2 ∧ wr.heap[w.heap.size]? = some (.cells V6.zero.cells 37 (0, 0)) ∧ wr.heap[w.heap.size + 1]? = some (.cells (V.put k c).cells 37 (0, 0)) ∧ Ext w wr) (fun m _ => (intOf m).toNat)
      case atStart =>
        refine ⟨M, 0, 19, rfl, by omega, by omega, by omega, by omega, by omega, by rw [HR.out], by rw [HR.out]; omega, C0.out, ?_, X⟩
        have e := V6.put_same V hlt
        rw [HG.out] at e
        rw [e]; exact C1.out
      case round =>
        obtain ⟨x, c, f, rfl, x1, x2, c1, xf, cf, s1, s2, d0, d1, X2⟩ := hrel
        by_cases hd : x % p = 0
        · obtain ⟨e1, e2, e3⟩ := strip_step (f := f) hp.1 x1 hd
          rw [e1] at s1 s2
          obtain ⟨g, rfl⟩ : ∃ g, f = g + 1 := ⟨f - 1, by omega⟩
          have hb1 : (x % p == 0) = true := by simpa using hd
          obtain ⟨q, hq⟩ : ∃ q, x / p = q := ⟨_, rfl⟩
          rw [hq] at s1 s2 e2 e3
          have hg := block_cell d1 k _ (V6.cells_at _ hlt)
          rw [V6.put_at _ hlt] at hg
          have hf := block_free d1 k
          have n0 := block_ne d0 (g := w.heap.size + 1) k (.int .i64 (c + 1)) (by omega)
          have n1 := block_set d1 k (.int .i64 (c + 1))
          rw [V6.cells_put _ hlt, V6.put_put _ hlt] at n1
          have N0 := Lib.hid n0; have N1 := Lib.hid n1; have S1 := Lib.hid s1; have S2 := Lib.hid s2; have HQ := Lib.hid hq; have HD := Lib.hid hd
          clear n0 n1 s1 s2 hq e1 d0 d1 hd hx h1q
          go_wp2
          rw [HQ.out]
          go_roundw
          case rel => exact ⟨q, c + 1, g, rfl, e2, by omega, by omega, by omega, by omega, S1.out, by have := S2.out; simp only at this; omega, N0.out, N1.out, X2.setCell (by (try simp) <;> omega) _⟩
          case measure => simp [intOf]; omega
        · rw [strip_stop hd] at s1 s2
          have hb1 : (x % p == 0) = false := by simpa using hd
          simp only at s1 s2
          have hc : c = R.2 := by omega
          have E2 : Hid (ratS n (k + 1) = (x, V.put k c)) := by rw [HN.out, s1, hc]; exact Lib.hid rfl
          have D0 := Lib.hid d0; have D1 := Lib.hid d1
          clear s1 s2 hc d0 d1 hd hx
          go_wp2
          obtain ⟨W2, hW2⟩ : ∃ W : World, W = wr := ⟨_, rfl⟩
          subst hW2
          go_loopw [1] (fun d wr => d = .int .i64 1 ∧ wr = W2) (fun _ _ => 0)
          case atStart => exact ⟨rfl, rfl⟩
          case round =>
            obtain ⟨rfl, rfl⟩ := hrel
            go_wp2
            go_roundw
            case rel => exact ⟨k + 1, by omega, by go_num, by rw [E2.out], rfl, D0.out, by rw [E2.out]; exact D1.out, X2⟩
            case measure => simp [intOf]; omega
    · obtain rfl : k = 6 := by omega
      have ho := Lib.hid (ratS_one hn1 hn2)
      obtain ⟨r0, s0⟩ := block_rules c0
      obtain ⟨r1, s1⟩ := block_rules c1
      have R0 : ∀ j, wr.cell? ⟨w.heap.size, j, none⟩ = (#[.int .i64 V6.zero.a, .int .i64 V6.zero.b, .int .i64 V6.zero.c, .int .i64 V6.zero.d, .int .i64 V6.zero.e, .int .i64 V6.zero.f] : Array Value)[j]? := r0
      have R1 : ∀ j, wr.cell? ⟨w.heap.size + 1, j, none⟩ = (#[.int .i64 (ratS n 6).2.a, .int .i64 (ratS n 6).2.b, .int .i64 (ratS n 6).2.c, .int .i64 (ratS n 6).2.d, .int .i64 (ratS n 6).2.e, .int .i64 (ratS n 6).2.f] : Array Value)[j]? := r1
      clear ix r0 r1 c0 c1
      rw [ho.out]
      go_wp2
      refine bodyPost_ret (v := .tuple #[.agg #[.int .i64 (ratS n 6).2.a, .int .i64 (ratS n 6).2.b, .int .i64 (ratS n 6).2.c, .int .i64 (ratS n 6).2.d, .int .i64 (ratS n 6).2.e, .int .i64 (ratS n 6).2.f], .int .i64 0]) (by simp [results, Tryd.results19, go_sem, *]) rfl ⟨?_, (by repeat (first | with_reducible exact Ext.refl _ | with_reducible assumption | with_reducible apply Ext.alloc | with_reducible apply Ext.drew | (with_reducible refine Ext.setCell ?_ (by (try simp) <;> omega) _)))⟩
      rfl
end Go.Proofs.YtkckingkocacjaaDoor
