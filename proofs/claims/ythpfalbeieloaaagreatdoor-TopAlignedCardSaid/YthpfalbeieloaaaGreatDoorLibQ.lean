/-
  Libraries of these proofs, laid as one text: SzE, PaA, PaB, PaC, PaD, PaD2, PaE, PaF.
-/
import Derived.Test.YthpfalbeieloaaaGreatDoorLibM
import Derived.Test.YthpfalbeieloaaaGreatDoorLibB
import Derived.Test.YthpfalbeieloaaaGreatDoorPaM
import Derived.Test.YthpfalbeieloaaaGreatDoorAuC
/-
  Walk: pitch.Ratio at n : 1.
-/
set_option linter.unusedVariables false
namespace Go.Proofs.YthpfalbeieloaaaGreatDoor
open Go.RowKit Go.Sx Go.Sx.Sz

set_option maxHeartbeats 2000000 in
theorem ratio_walk (n : Int) (hn1 : 1 ≤ n) (hn2 : n ≤ 16) (w : World) (G : Gv 0 1 w) : Calls Tryz.prog 19 #[.int .i64 n, .int .i64 1] w fun e w' => e = .returned (.tuple #[.agg #[.int .i64 (harmV n).a, .int .i64 (harmV n).b, .int .i64 (harmV n).c, .int .i64 (harmV n).d, .int .i64 (harmV n).e, .int .i64 (harmV n).f], .int .i64 0]) ∧ Ext w w' := by
  have ix := fun (k : Nat) (hk : k < 6) (w : World) => run_index_primes (P := Tryz.prog) (t := 43) Tryz.underlying43 Tryz.underlying3 (by kernel_rfl) hk w
  go_enter Tryz.func19, Tryz.ntmps19
  go_wp2_with (refine wpList_load_mid rfl 43 (.global 0) rfl 0 0 rfl primeCells _ (G.ext (by repeat (first | with_reducible exact Ext.refl _ | with_reducible assumption | with_reducible apply Ext.alloc | with_reducible apply Ext.drew | (with_reducible refine Ext.setCell ?_ (by (try simp) <;> omega) _)))).primeRange Tryz.underlying43 rfl (by kernel_rfl) ?_)
  go_loopw [25, 0, 1] (fun i m d wr => ∃ k : Nat, k ≤ 6 ∧ i = .int .i64 k ∧ m = .int .i64 (ratS n k).1 ∧ d = .int .i64 1 ∧ wr.heap[w.heap.size]? = some (.cells V6.zero.cells 44 (0, 0)) ∧ wr.heap[w.heap.size + 1]? = some (.cells (ratS n k).2.cells 44 (0, 0)) ∧ Ext w wr) (fun i _ _ _ => 6 - (intOf i).toNat)
  case atStart => exact ⟨0, by omega, rfl, rfl, rfl, block_alloc (block_new w _) _, block_at (by simp) _, (by repeat (first | with_reducible exact Ext.refl _ | with_reducible assumption | with_reducible apply Ext.alloc | with_reducible apply Ext.drew | (with_reducible refine Ext.setCell ?_ (by (try simp) <;> omega) _)))⟩
  case round =>
    obtain ⟨k, hk, rfl, rfl, rfl, c0, c1, X⟩ := hrel
    by_cases hlt : k < 6
    · have hx := ix k hlt
      have hb := ratS_bd hn1 k
      have hp := prime_bd k
      have hget := ratS_get n k k (Nat.le_refl _) hlt
      obtain ⟨p, hpp⟩ : ∃ p, prime k = p := ⟨_, rfl⟩
      obtain ⟨R, hR⟩ : ∃ R, stripF 20 p (ratS n k).1 = R := ⟨_, rfl⟩
      obtain ⟨M, hM⟩ : ∃ M, (ratS n k).1 = M := ⟨_, rfl⟩
      obtain ⟨V, hV⟩ : ∃ V, (ratS n k).2 = V := ⟨_, rfl⟩
      have hnext : ratS n (k + 1) = (R.1, V.put k R.2) := by rw [← hR, ← hV, ← hpp]; rfl
      rw [hpp] at hx hp
      rw [hM] at hR hb ⊢
      rw [hV] at c1 hget
      have HN := Lib.hid hnext
      have HG := Lib.hid hget
      have HR := Lib.hid hR
      have C0 := Lib.hid c0
      have C1 := Lib.hid c1
      clear ix hget hnext hR c0 c1 hpp hM hV
      have h1p : ¬ (1 % p = 0) := by rw [Int.emod_eq_of_lt (by omega) (by omega)]; decide
      have h1q : (1 % p == 0) = false := by simpa using h1p
      obtain ⟨wo, rfl⟩ : ∃ wo : World, wo = wr := ⟨_, rfl⟩
      go_wp2
      go_loopw [0] (fun m wr => ∃ (x c : Int) (f : Nat), m = .int .i64 x ∧ 1 ≤ x ∧ x ≤ M ∧ 0 ≤ c ∧ x ≤ f ∧ c + f ≤ 20 ∧ (stripF (f + 1) p x).1 = R.1 ∧ (stripF (f + 1) p x).2 + c = R.2 ∧ wr.heap[w.heap.size]? = some (.cells V6.zero.cells 44 (0, 0)) ∧ wr.heap[w.heap.size + 1]? = some (.cells (V.put k c).cells 44 (0, 0)) ∧ Ext w wr) (fun m _ => (intOf m).toNat)
      case atStart =>
        refine ⟨M, 0, 19, rfl, by omega, by omega, by omega, by omega, by omega, by rw [HR.out], by rw [HR.out]; omega, C0.out, ?_, X⟩
        have e := V6.put_same V hlt
        rw [HG.out] at e
        rw [e]; exact C1.out
      case round =>
        obtain ⟨x, c, f, rfl, x1, x2, c1, xf, cf, s1, s2, d0, d1, X2⟩ := hrel
        by_cases hd : x % p = 0
        · obtain ⟨e1, e2, e3⟩ := strip_step (f := f) hp.1 x1 hd
          rw [e1] at s1 s2
          obtain ⟨g, rfl⟩ : ∃ g, f = g + 1 := ⟨f - 1, by omega⟩
          have hb1 : (x % p == 0) = true := by simpa using hd
          obtain ⟨q, hq⟩ : ∃ q, x / p = q := ⟨_, rfl⟩
          rw [hq] at s1 s2 e2 e3
          have hg := block_cell d1 k _ (V6.cells_at _ hlt)
          rw [V6.put_at _ hlt] at hg
          have hf := block_free d1 k
          have n0 := block_ne d0 (g := w.heap.size + 1) k (.int .i64 (c + 1)) (by omega)
          have n1 := block_set d1 k (.int .i64 (c + 1))
          rw [V6.cells_put _ hlt, V6.put_put _ hlt] at n1
          have N0 := Lib.hid n0; have N1 := Lib.hid n1; have S1 := Lib.hid s1; have S2 := Lib.hid s2; have HQ := Lib.hid hq; have HD := Lib.hid hd
          clear n0 n1 s1 s2 hq e1 d0 d1 hd hx h1q
          go_wp2
          rw [HQ.out]
          go_roundw
          case rel => exact ⟨q, c + 1, g, rfl, e2, by omega, by omega, by omega, by omega, S1.out, by have := S2.out; simp only at this; omega, N0.out, N1.out, X2.setCell (by (try simp) <;> omega) _⟩
          case measure => simp [intOf]; omega
        · rw [strip_stop hd] at s1 s2
          have hb1 : (x % p == 0) = false := by simpa using hd
          simp only at s1 s2
          have hc : c = R.2 := by omega
          have E2 : Hid (ratS n (k + 1) = (x, V.put k c)) := by rw [HN.out, s1, hc]; exact Lib.hid rfl
          have D0 := Lib.hid d0; have D1 := Lib.hid d1
          clear s1 s2 hc d0 d1 hd hx
          go_wp2
          obtain ⟨W2, hW2⟩ : ∃ W : World, W = wr := ⟨_, rfl⟩
          subst hW2
          go_loopw [1] (fun d wr => d = .int .i64 1 ∧ wr = W2) (fun _ _ => 0)
          case atStart => exact ⟨rfl, rfl⟩
          case round =>
            obtain ⟨rfl, rfl⟩ := hrel
            go_wp2
            go_roundw
            case rel => exact ⟨k + 1, by omega, by go_num, by rw [E2.out], rfl, D0.out, by rw [E2.out]; exact D1.out, X2⟩
            case measure => simp [intOf]; omega
    · obtain rfl : k = 6 := by omega
      have ho := Lib.hid (ratS_one hn1 hn2)
      obtain ⟨r0, s0⟩ := block_rules c0
      obtain ⟨r1, s1⟩ := block_rules c1
      have R0 : ∀ j, wr.cell? ⟨w.heap.size, j, none⟩ = (#[.int .i64 V6.zero.a, .int .i64 V6.zero.b, .int .i64 V6.zero.c, .int .i64 V6.zero.d, .int .i64 V6.zero.e, .int .i64 V6.zero.f] : Array Value)[j]? := r0
      have R1 : ∀ j, wr.cell? ⟨w.heap.size + 1, j, none⟩ = (#[.int .i64 (ratS n 6).2.a, .int .i64 (ratS n 6).2.b, .int .i64 (ratS n 6).2.c, .int .i64 (ratS n 6).2.d, .int .i64 (ratS n 6).2.e, .int .i64 (ratS n 6).2.f] : Array Value)[j]? := r1
      clear ix r0 r1 c0 c1
      rw [ho.out]
      go_wp2
      refine bodyPost_ret (v := .tuple #[.agg #[.int .i64 (ratS n 6).2.a, .int .i64 (ratS n 6).2.b, .int .i64 (ratS n 6).2.c, .int .i64 (ratS n 6).2.d, .int .i64 (ratS n 6).2.e, .int .i64 (ratS n 6).2.f], .int .i64 0]) (by simp [results, Tryz.results19, go_sem, *]) rfl ⟨?_, (by repeat (first | with_reducible exact Ext.refl _ | with_reducible assumption | with_reducible apply Ext.alloc | with_reducible apply Ext.drew | (with_reducible refine Ext.setCell ?_ (by (try simp) <;> omega) _)))⟩
      rfl
end Go.Proofs.YthpfalbeieloaaaGreatDoor

/-
  Walks: partial.everything, harmonic, Root.
-/
set_option linter.unusedVariables false
namespace Go.Proofs.YthpfalbeieloaaaGreatDoor
open Go.RowKit Go.Sx Go.Sx.Sz

set_option maxHeartbeats 400000 in
theorem every_walk (w : World) : Calls Tryz.prog 68 #[] w fun e w' => e = .returned (.agg #[.int .i64 everything.lo, .int .i64 everything.hi]) ∧ Ext w w' := by
  go_enter Tryz.func68, Tryz.ntmps68
  go_wp2
  refine bodyPost_ret (v := .agg #[.int .i64 (-100000000000000), .int .i64 100000000000000]) (by simp [results, Tryz.results68, go_sem, *]) rfl ⟨?_, (by repeat (first | with_reducible exact Ext.refl _ | with_reducible assumption | with_reducible apply Ext.alloc | with_reducible apply Ext.drew | (with_reducible refine Ext.setCell ?_ (by (try simp) <;> omega) _)))⟩
  rfl

set_option maxHeartbeats 2000000 in
theorem harm_yes (n : Int) (h1 : 1 ≤ n) (h2 : n ≤ 16) (w : World) (G : Gv 0 1 w) : Calls Tryz.prog 89 #[.int .i64 n] w fun e w' => e = .returned (.tuple #[.agg #[.int .i64 (harmS n).lo, .int .i64 (harmS n).hi], .bool true]) ∧ Ext w w' := by
  go_enter Tryz.func89, Tryz.ntmps89
  go_wp2
  go_loop [11] (fun i => ∃ k : Nat, (k : Int) < n ∧ i = .int .i64 k) (fun i => 16 - (intOf i).toNat)
  case atStart => exact ⟨0, by omega, rfl⟩
  case round =>
    obtain ⟨k, hk, rfl⟩ := hrel
    by_cases he : (k : Int) + 1 = n
    · have hb : ((k : Int) + 1 != n) = false := by simpa using he
      have hw := harm_within h1 h2
      have ho := ofR_ok hw
      have hs := sizeR_ok (times_within hw)
      have HO := Lib.hid ho; have HS := Lib.hid hs
      clear he hw ho hs
      go_wp2_with fail
      refine (ratio_walk n h1 h2 _ (G.ext (by repeat (first | with_reducible exact Ext.refl _ | with_reducible assumption | with_reducible apply Ext.alloc | with_reducible apply Ext.drew | (with_reducible refine Ext.setCell ?_ (by (try simp) <;> omega) _))))).mono ?_
      rintro e w1 ⟨rfl, x1⟩
      obtain ⟨hc1, hf1⟩ := x1.rules
      have hz1_0 : w.heap.size < w1.heap.size := by have := x1.size; (try simp at this); omega
      obtain ⟨hl1_0, hl1_1, hl1_2, hl1_3⟩ : w.heap.size < w1.heap.size + 1 ∧ w.heap.size < w1.heap.size + 1 + 1 ∧ w.heap.size < w1.heap.size + 1 + 1 + 1 ∧ ¬ w.heap.size = w1.heap.size := by omega
      have X1 : Ext w w1 := Ext.trans (by repeat (first | with_reducible exact Ext.refl _ | with_reducible assumption | with_reducible apply Ext.alloc | with_reducible apply Ext.drew | (with_reducible refine Ext.setCell ?_ (by (try simp) <;> omega) _))) x1
      go_wp2_with fail
      refine (of_walk (harmV n) _).mono ?_
      rw [HO.out]
      rintro e w2 ⟨rfl, x2⟩
      obtain ⟨hc2, hf2⟩ := x2.rules
      have hz2_0 : w.heap.size < w2.heap.size := by have := x2.size; (try simp at this); omega
      obtain ⟨hl2_0, hl2_1, hl2_2, hl2_3⟩ : w.heap.size < w2.heap.size + 1 ∧ w.heap.size < w2.heap.size + 1 + 1 ∧ w.heap.size < w2.heap.size + 1 + 1 + 1 ∧ ¬ w.heap.size = w2.heap.size := by omega
      have X2 : Ext w w2 := Ext.trans (by repeat (first | with_reducible exact Ext.refl _ | with_reducible assumption | with_reducible apply Ext.alloc | with_reducible apply Ext.drew | (with_reducible refine Ext.setCell ?_ (by (try simp) <;> omega) _))) x2
      go_wp2_with fail
      refine (sof_walk ((harmV n).times 12) _ (G.gl.ext (by repeat (first | with_reducible exact Ext.refl _ | with_reducible assumption | with_reducible apply Ext.alloc | with_reducible apply Ext.drew | (with_reducible refine Ext.setCell ?_ (by (try simp) <;> omega) _))))).mono ?_
      rw [HS.out]
      rintro e w3 ⟨rfl, x3⟩
      obtain ⟨hc3, hf3⟩ := x3.rules
      have hz3_0 : w.heap.size < w3.heap.size := by have := x3.size; (try simp at this); omega
      obtain ⟨hl3_0, hl3_1, hl3_2, hl3_3⟩ : w.heap.size < w3.heap.size + 1 ∧ w.heap.size < w3.heap.size + 1 + 1 ∧ w.heap.size < w3.heap.size + 1 + 1 + 1 ∧ ¬ w.heap.size = w3.heap.size := by omega
      have X3 : Ext w w3 := Ext.trans (by repeat (first | with_reducible exact Ext.refl _ | with_reducible assumption | with_reducible apply Ext.alloc | with_reducible apply Ext.drew | (with_reducible refine Ext.setCell ?_ (by (try simp) <;> omega) _))) x3
      go_wp2
      refine bodyPost_ret (v := .tuple #[.agg #[.int .i64 (expo ((harmV n).times 12)).lo, .int .i64 (expo ((harmV n).times 12)).hi], .bool true]) (by simp [results, Tryz.results89, go_sem, *]) rfl ⟨?_, (by repeat (first | with_reducible exact Ext.refl _ | with_reducible assumption | with_reducible apply Ext.alloc | with_reducible apply Ext.drew | (with_reducible refine Ext.setCell ?_ (by (try simp) <;> omega) _)))⟩
      rfl
    · have hb : ((k : Int) + 1 != n) = true := by simpa using he
      go_wp2
      go_round
      case rel => exact ⟨k + 1, by omega, by go_num⟩
      case measure => simp [intOf]; omega

set_option maxHeartbeats 1000000 in
theorem harm_no (n : Int) (h : ¬ (1 ≤ n ∧ n ≤ 16)) (w : World) : Calls Tryz.prog 89 #[.int .i64 n] w fun e w' => e = .returned (.tuple #[.agg #[.int .i64 zeroS.lo, .int .i64 zeroS.hi], .bool false]) ∧ Ext w w' := by
  go_enter Tryz.func89, Tryz.ntmps89
  go_wp2
  go_loop [11] (fun i => ∃ k : Nat, k ≤ 16 ∧ i = .int .i64 k) (fun i => 16 - (intOf i).toNat)
  case atStart => exact ⟨0, by omega, rfl⟩
  case round =>
    obtain ⟨k, hk, rfl⟩ := hrel
    by_cases hlt : k < 16
    · have hb : ((k : Int) + 1 != n) = true := by simp; omega
      go_wp2
      go_round
      case rel => exact ⟨k + 1, by omega, by go_num⟩
      case measure => simp [intOf]; omega
    · obtain rfl : k = 16 := by omega
      go_wp2
      refine bodyPost_ret (v := .tuple #[.agg #[.int .i64 0, .int .i64 0], .bool false]) (by simp [results, Tryz.results89, go_sem, *]) rfl ⟨?_, (by repeat (first | with_reducible exact Ext.refl _ | with_reducible assumption | with_reducible apply Ext.alloc | with_reducible apply Ext.drew | (with_reducible refine Ext.setCell ?_ (by (try simp) <;> omega) _)))⟩
      rfl

theorem rootR_no {r : Row} (h : rowOk r = false) : rootR r = (zeroS, 1) := by rw [rootR, h]; rfl
theorem root_sub {r : Row} (h : rowOk r = true) : subR ⟨r.lo, r.hi⟩ (harmS r.h) = (rootS r, 0) := by
  have h1 := rootS_ok h
  rw [rowOk_iff] at h
  exact subR_d (by rw [szOk_iff]; simp only; omega) (harmS_ok h.1 h.2.1) h1

set_option maxHeartbeats 2000000 in
theorem root_walk (r : Row) (w : World) (G : Gv 0 1 w) : Calls Tryz.prog 67 #[.agg #[.int .i64 r.h, .int .i64 r.lo, .int .i64 r.hi]] w fun e w' => e = .returned (.tuple #[.agg #[.int .i64 (rootR r).1.lo, .int .i64 (rootR r).1.hi], .int .i64 (rootR r).2]) ∧ Ext w w' := by
  by_cases h0 : 1 ≤ r.h ∧ r.h ≤ 16
  · obtain ⟨H1, H2⟩ := h0
    by_cases h1 : -10000000000000 ≤ r.lo
    · by_cases h2 : r.lo ≤ r.hi
      · by_cases h3 : r.hi ≤ 10000000000000
        · have hok : rowOk r = true := rowOk_iff.2 ⟨H1, H2, h1, h2, h3⟩
          have HS := Lib.hid (root_sub hok)
          have HR : Hid (rootR r = (rootS r, 0)) := Lib.hid (by rw [rootR, if_pos hok])
          clear hok
          go_enter Tryz.func67, Tryz.ntmps67
          go_wp2_with fail
          refine (harm_yes r.h H1 H2 _ (G.ext (by repeat (first | with_reducible exact Ext.refl _ | with_reducible assumption | with_reducible apply Ext.alloc | with_reducible apply Ext.drew | (with_reducible refine Ext.setCell ?_ (by (try simp) <;> omega) _))))).mono ?_
          rintro e w1 ⟨rfl, x1⟩
          obtain ⟨hc1, hf1⟩ := x1.rules
          obtain ⟨hz1_0, hz1_1⟩ : w.heap.size < w1.heap.size ∧ w.heap.size + 1 < w1.heap.size := by have := x1.size; (try simp at this); omega
          obtain ⟨hl1_0, hl1_1, hl1_2, hl1_3, hl1_4, hl1_5, hl1_6, hl1_7⟩ : w.heap.size < w1.heap.size + 1 ∧ w.heap.size < w1.heap.size + 1 + 1 ∧ w.heap.size < w1.heap.size + 1 + 1 + 1 ∧ w.heap.size + 1 < w1.heap.size + 1 ∧ w.heap.size + 1 < w1.heap.size + 1 + 1 ∧ w.heap.size + 1 < w1.heap.size + 1 + 1 + 1 ∧ ¬ w.heap.size = w1.heap.size ∧ ¬ w.heap.size + 1 = w1.heap.size := by omega
          have X1 : Ext w w1 := Ext.trans (by repeat (first | with_reducible exact Ext.refl _ | with_reducible assumption | with_reducible apply Ext.alloc | with_reducible apply Ext.drew | (with_reducible refine Ext.setCell ?_ (by (try simp) <;> omega) _))) x1
          go_wp2_with fail
          refine (sub_walk ⟨r.lo, r.hi⟩ (harmS r.h) _).mono ?_
          rw [HS.out]
          rintro e w2 ⟨rfl, x2⟩
          obtain ⟨hc2, hf2⟩ := x2.rules
          obtain ⟨hz2_0, hz2_1⟩ : w.heap.size < w2.heap.size ∧ w.heap.size + 1 < w2.heap.size := by have := x2.size; (try simp at this); omega
          obtain ⟨hl2_0, hl2_1, hl2_2, hl2_3, hl2_4, hl2_5, hl2_6, hl2_7⟩ : w.heap.size < w2.heap.size + 1 ∧ w.heap.size < w2.heap.size + 1 + 1 ∧ w.heap.size < w2.heap.size + 1 + 1 + 1 ∧ w.heap.size + 1 < w2.heap.size + 1 ∧ w.heap.size + 1 < w2.heap.size + 1 + 1 ∧ w.heap.size + 1 < w2.heap.size + 1 + 1 + 1 ∧ ¬ w.heap.size = w2.heap.size ∧ ¬ w.heap.size + 1 = w2.heap.size := by omega
          have X2 : Ext w w2 := Ext.trans (by repeat (first | with_reducible exact Ext.refl _ | with_reducible assumption | with_reducible apply Ext.alloc | with_reducible apply Ext.drew | (with_reducible refine Ext.setCell ?_ (by (try simp) <;> omega) _))) x2
          go_wp2
          refine bodyPost_ret (v := .tuple #[.agg #[.int .i64 (rootS r).lo, .int .i64 (rootS r).hi], .int .i64 0]) (by simp [results, Tryz.results67, go_sem, *]) rfl ⟨?_, (by repeat (first | with_reducible exact Ext.refl _ | with_reducible assumption | with_reducible apply Ext.alloc | with_reducible apply Ext.drew | (with_reducible refine Ext.setCell ?_ (by (try simp) <;> omega) _)))⟩
          rw [HR.out] <;> rfl
        · have HF := Lib.hid (rootR_no (r := r) (by simp [rowOk]; omega))
          go_enter Tryz.func67, Tryz.ntmps67
          go_wp2_with fail
          refine (harm_yes r.h H1 H2 _ (G.ext (by repeat (first | with_reducible exact Ext.refl _ | with_reducible assumption | with_reducible apply Ext.alloc | with_reducible apply Ext.drew | (with_reducible refine Ext.setCell ?_ (by (try simp) <;> omega) _))))).mono ?_
          rintro e w1 ⟨rfl, x1⟩
          obtain ⟨hc1, hf1⟩ := x1.rules
          obtain ⟨hz1_0, hz1_1⟩ : w.heap.size < w1.heap.size ∧ w.heap.size + 1 < w1.heap.size := by have := x1.size; (try simp at this); omega
          obtain ⟨hl1_0, hl1_1, hl1_2, hl1_3, hl1_4, hl1_5, hl1_6, hl1_7⟩ : w.heap.size < w1.heap.size + 1 ∧ w.heap.size < w1.heap.size + 1 + 1 ∧ w.heap.size < w1.heap.size + 1 + 1 + 1 ∧ w.heap.size + 1 < w1.heap.size + 1 ∧ w.heap.size + 1 < w1.heap.size + 1 + 1 ∧ w.heap.size + 1 < w1.heap.size + 1 + 1 + 1 ∧ ¬ w.heap.size = w1.heap.size ∧ ¬ w.heap.size + 1 = w1.heap.size := by omega
          have X1 : Ext w w1 := Ext.trans (by repeat (first | with_reducible exact Ext.refl _ | with_reducible assumption | with_reducible apply Ext.alloc | with_reducible apply Ext.drew | (with_reducible refine Ext.setCell ?_ (by (try simp) <;> omega) _))) x1
          go_wp2
          refine bodyPost_ret (v := .tuple #[.agg #[.int .i64 0, .int .i64 0], .int .i64 1]) (by simp [results, Tryz.results67, go_sem, *]) rfl ⟨?_, (by repeat (first | with_reducible exact Ext.refl _ | with_reducible assumption | with_reducible apply Ext.alloc | with_reducible apply Ext.drew | (with_reducible refine Ext.setCell ?_ (by (try simp) <;> omega) _)))⟩
          rw [HF.out] <;> rfl
      · have HF := Lib.hid (rootR_no (r := r) (by simp [rowOk]; omega))
        go_enter Tryz.func67, Tryz.ntmps67
        go_wp2_with fail
        refine (harm_yes r.h H1 H2 _ (G.ext (by repeat (first | with_reducible exact Ext.refl _ | with_reducible assumption | with_reducible apply Ext.alloc | with_reducible apply Ext.drew | (with_reducible refine Ext.setCell ?_ (by (try simp) <;> omega) _))))).mono ?_
        rintro e w1 ⟨rfl, x1⟩
        obtain ⟨hc1, hf1⟩ := x1.rules
        obtain ⟨hz1_0, hz1_1⟩ : w.heap.size < w1.heap.size ∧ w.heap.size + 1 < w1.heap.size := by have := x1.size; (try simp at this); omega
        obtain ⟨hl1_0, hl1_1, hl1_2, hl1_3, hl1_4, hl1_5, hl1_6, hl1_7⟩ : w.heap.size < w1.heap.size + 1 ∧ w.heap.size < w1.heap.size + 1 + 1 ∧ w.heap.size < w1.heap.size + 1 + 1 + 1 ∧ w.heap.size + 1 < w1.heap.size + 1 ∧ w.heap.size + 1 < w1.heap.size + 1 + 1 ∧ w.heap.size + 1 < w1.heap.size + 1 + 1 + 1 ∧ ¬ w.heap.size = w1.heap.size ∧ ¬ w.heap.size + 1 = w1.heap.size := by omega
        have X1 : Ext w w1 := Ext.trans (by repeat (first | with_reducible exact Ext.refl _ | with_reducible assumption | with_reducible apply Ext.alloc | with_reducible apply Ext.drew | (with_reducible refine Ext.setCell ?_ (by (try simp) <;> omega) _))) x1
        go_wp2
        refine bodyPost_ret (v := .tuple #[.agg #[.int .i64 0, .int .i64 0], .int .i64 1]) (by simp [results, Tryz.results67, go_sem, *]) rfl ⟨?_, (by repeat (first | with_reducible exact Ext.refl _ | with_reducible assumption | with_reducible apply Ext.alloc | with_reducible apply Ext.drew | (with_reducible refine Ext.setCell ?_ (by (try simp) <;> omega) _)))⟩
        rw [HF.out] <;> rfl
    · have HF := Lib.hid (rootR_no (r := r) (by simp [rowOk]; omega))
      go_enter Tryz.func67, Tryz.ntmps67
      go_wp2_with fail
      refine (harm_yes r.h H1 H2 _ (G.ext (by repeat (first | with_reducible exact Ext.refl _ | with_reducible assumption | with_reducible apply Ext.alloc | with_reducible apply Ext.drew | (with_reducible refine Ext.setCell ?_ (by (try simp) <;> omega) _))))).mono ?_
      rintro e w1 ⟨rfl, x1⟩
      obtain ⟨hc1, hf1⟩ := x1.rules
      obtain ⟨hz1_0, hz1_1⟩ : w.heap.size < w1.heap.size ∧ w.heap.size + 1 < w1.heap.size := by have := x1.size; (try simp at this); omega
      obtain ⟨hl1_0, hl1_1, hl1_2, hl1_3, hl1_4, hl1_5, hl1_6, hl1_7⟩ : w.heap.size < w1.heap.size + 1 ∧ w.heap.size < w1.heap.size + 1 + 1 ∧ w.heap.size < w1.heap.size + 1 + 1 + 1 ∧ w.heap.size + 1 < w1.heap.size + 1 ∧ w.heap.size + 1 < w1.heap.size + 1 + 1 ∧ w.heap.size + 1 < w1.heap.size + 1 + 1 + 1 ∧ ¬ w.heap.size = w1.heap.size ∧ ¬ w.heap.size + 1 = w1.heap.size := by omega
      have X1 : Ext w w1 := Ext.trans (by repeat (first | with_reducible exact Ext.refl _ | with_reducible assumption | with_reducible apply Ext.alloc | with_reducible apply Ext.drew | (with_reducible refine Ext.setCell ?_ (by (try simp) <;> omega) _))) x1
      go_wp2
      refine bodyPost_ret (v := .tuple #[.agg #[.int .i64 0, .int .i64 0], .int .i64 1]) (by simp [results, Tryz.results67, go_sem, *]) rfl ⟨?_, (by repeat (first | with_reducible exact Ext.refl _ | with_reducible assumption | with_reducible apply Ext.alloc | with_reducible apply Ext.drew | (with_reducible refine Ext.setCell ?_ (by (try simp) <;> omega) _)))⟩
      rw [HF.out] <;> rfl
  · have HF := Lib.hid (rootR_no (r := r) (by simp [rowOk]; omega))
    go_enter Tryz.func67, Tryz.ntmps67
    go_wp2_with fail
    refine (harm_no r.h h0 _).mono ?_
    rintro e w1 ⟨rfl, x1⟩
    obtain ⟨hc1, hf1⟩ := x1.rules
    obtain ⟨hz1_0, hz1_1⟩ : w.heap.size < w1.heap.size ∧ w.heap.size + 1 < w1.heap.size := by have := x1.size; (try simp at this); omega
    obtain ⟨hl1_0, hl1_1, hl1_2, hl1_3, hl1_4, hl1_5, hl1_6, hl1_7⟩ : w.heap.size < w1.heap.size + 1 ∧ w.heap.size < w1.heap.size + 1 + 1 ∧ w.heap.size < w1.heap.size + 1 + 1 + 1 ∧ w.heap.size + 1 < w1.heap.size + 1 ∧ w.heap.size + 1 < w1.heap.size + 1 + 1 ∧ w.heap.size + 1 < w1.heap.size + 1 + 1 + 1 ∧ ¬ w.heap.size = w1.heap.size ∧ ¬ w.heap.size + 1 = w1.heap.size := by omega
    have X1 : Ext w w1 := Ext.trans (by repeat (first | with_reducible exact Ext.refl _ | with_reducible assumption | with_reducible apply Ext.alloc | with_reducible apply Ext.drew | (with_reducible refine Ext.setCell ?_ (by (try simp) <;> omega) _))) x1
    go_wp2
    refine bodyPost_ret (v := .tuple #[.agg #[.int .i64 0, .int .i64 0], .int .i64 1]) (by simp [results, Tryz.results67, go_sem, *]) rfl ⟨?_, (by repeat (first | with_reducible exact Ext.refl _ | with_reducible assumption | with_reducible apply Ext.alloc | with_reducible apply Ext.drew | (with_reducible refine Ext.setCell ?_ (by (try simp) <;> omega) _)))⟩
    rw [HF.out] <;> rfl
end Go.Proofs.YthpfalbeieloaaaGreatDoor

/-
  Walks: partial.roots, Valid.
-/
set_option linter.unusedVariables false
namespace Go.Proofs.YthpfalbeieloaaaGreatDoor
open Go.RowKit Go.Sx Go.Sx.Sz

def encR (r : Row) : List Value := [.int .i64 r.h, .int .i64 r.lo, .int .i64 r.hi]

theorem Sl.row {w : World} {a? : Option Addr} {n cap : Nat} {xs : List Row} (h : Sl w 3 encR (.slice a? n cap) xs) (k : Nat) (hk : k < xs.length) :
    ∃ b o, a? = some ⟨b, o, none⟩ ∧ w.cell? ⟨b, o + k * 3, none⟩ = some (.int .i64 xs[k].h) ∧ w.cell? ⟨b, o + k * 3 + 1, none⟩ = some (.int .i64 xs[k].lo) ∧ w.cell? ⟨b, o + k * 3 + 2, none⟩ = some (.int .i64 xs[k].hi) := by
  obtain ⟨b, o, e, hc⟩ := h.at (by omega) k hk
  exact ⟨b, o, e, hc 0 (by omega), hc 1 (by omega), hc 2 (by omega)⟩
theorem Sl.size {w : World} {a? : Option Addr} {n cap : Nat} {xs : List S2} (h : Sl w 2 encS (.slice a? n cap) xs) (k : Nat) (hk : k < xs.length) :
    ∃ b o, a? = some ⟨b, o, none⟩ ∧ w.cell? ⟨b, o + k * 2, none⟩ = some (.int .i64 xs[k].lo) ∧ w.cell? ⟨b, o + k * 2 + 1, none⟩ = some (.int .i64 xs[k].hi) := by
  obtain ⟨b, o, e, hc⟩ := h.at (by omega) k hk
  exact ⟨b, o, e, hc 0 (by omega), hc 1 (by omega)⟩

theorem take_rep_set {α : Type} (l : List α) (f : α → S2) (k : Nat) (hk : k < l.length) : ((l.take k).map f ++ List.replicate (l.length - k) zeroS).set k (f l[k]) = (l.take (k + 1)).map f ++ List.replicate (l.length - (k + 1)) zeroS := by
  have h1 : ((l.take k).map f).length = k := by simp; omega
  rw [List.set_append_right _ _ (by omega), h1, Nat.sub_self, show l.length - k = (l.length - (k + 1)) + 1 by omega, List.replicate_succ, List.set_cons_zero, List.take_succ_eq_append_getElem hk, List.map_append]
  simp

set_option maxHeartbeats 2000000 in
theorem roots_walk (v : Value) (l : List Row) (w : World) (G : Gv 0 1 w) (S : Sl w 3 encR v l) :
    Calls Tryz.prog 40 #[v] w fun e w' => ∃ v', e = .returned (.tuple #[v', .int .i64 (rootsE l)]) ∧ Sl w' 2 encS v' (rootsL l) ∧ Ext w w' := by
  obtain ⟨a?, cap, rfl, h1, h2, h3⟩ := S.len
  clear h1 h2
  by_cases hl : l.length ≤ 16
  · go_enter Tryz.func40, Tryz.ntmps40
    go_wp2_with (at_make; go_must (refine wpList_mk (e := 50) (sz := 2) (bytes := 16) (enc := encS) (z := .agg #[.int .i64 0, .int .i64 0]) zeroS Tryz.underlying36 (by kernel_rfl) rfl rfl rfl _ _ rfl l.length rfl rfl (by omega) (by omega) ?_); intro cs hbk)
    go_loopw [17] (fun i wr => ∃ k : Nat, k ≤ l.length ∧ i = .int .i64 k ∧ (l.take k).all rowOk = true ∧ Bk wr w.heap.size 50 encS ((l.take k).map rootS ++ List.replicate (l.length - k) zeroS) ∧ Ext w wr) (fun i _ => l.length - (intOf i).toNat)
    case atStart => exact ⟨0, by omega, rfl, rfl, by simpa using hbk, (by repeat (first | with_reducible exact Ext.refl _ | with_reducible assumption | with_reducible apply Ext.alloc | with_reducible apply Ext.drew | (with_reducible refine Ext.setCell ?_ (by (try simp) <;> omega) _)))⟩
    case round =>
      clear hbk
      obtain ⟨k, hk, rfl, hall, B, X⟩ := hrel
      have HA := Lib.hid hall; clear hall
      by_cases hlt : k < l.length
      · obtain ⟨b, o, rfl, q0, q1, q2⟩ := Sl.row (S.ext X) k hlt
        obtain ⟨r, hr⟩ : ∃ r, l[k] = r := ⟨_, rfl⟩
        rw [hr] at q0 q1 q2
        have hts := take_rep_set l rootS k hlt
        have hta : (l.take (k + 1)).all rowOk = ((l.take k).all rowOk && rowOk r) := by rw [List.take_succ_eq_append_getElem hlt, hr]; simp
        rw [hr] at hts
        have HR := Lib.hid hr; have HT := Lib.hid hts; have HTA := Lib.hid hta
        clear hr hts hta
        cases hro : rowOk r with
        | true =>
          have HQ : Hid (rootR r = (rootS r, 0)) := Lib.hid (by rw [rootR, if_pos hro])
          have HO := Lib.hid hro; clear hro
          go_wp2_with fail
          refine (root_walk r _ (G.ext (by repeat (first | with_reducible exact Ext.refl _ | with_reducible assumption | with_reducible apply Ext.alloc | with_reducible apply Ext.drew | (with_reducible refine Ext.setCell ?_ (by (try simp) <;> omega) _))))).mono ?_
          rw [HQ.out]
          rintro e w1 ⟨rfl, x1⟩
          have X1 : Ext w w1 := Ext.trans (by repeat (first | with_reducible exact Ext.refl _ | with_reducible assumption | with_reducible apply Ext.alloc | with_reducible apply Ext.drew | (with_reducible refine Ext.setCell ?_ (by (try simp) <;> omega) _))) x1
          have B1 := B.ext (Ext.trans (Ext.alloc' _ _) x1)
          have hc := B1
          have hll : ((l.take k).map rootS ++ List.replicate (l.length - k) zeroS).length = l.length := by simp; omega
          obtain ⟨y0, e0⟩ := hc.ex0 (sz := 2) (fun _ _ => rfl) k (by omega) (by omega)
          obtain ⟨y1, e1⟩ := hc.ex (sz := 2) (fun _ _ => rfl) k 1 (by omega) (by omega)
          have f0 := hc.free (k * 2)
          have f1 := hc.free (k * 2 + 1)
          have hput := hc.put (sz := 2) (fun _ _ => rfl) (rootS r) rfl k (by omega)
          rw [HT.out] at hput
          have HP := Lib.hid hput
          have X2 := setCells_ext X1 (g := w.heap.size) (Nat.le_refl _) (encS (rootS r)) (k * 2)
          have hlt1 := B1.lt
          clear hput hll hc B1 B
          go_wp2
          go_roundw
          case rel => exact ⟨k + 1, by omega, by go_num, by rw [HTA.out, HA.out, HO.out]; rfl, HP.out.alloc _, X2.alloc _⟩
          case measure => simp [intOf]; omega
        | false =>
          have HQ : Hid (rootR r = (zeroS, 1)) := Lib.hid (rootR_no hro)
          have hro' : rowsOk l = false := by
            cases h : rowsOk l with
            | false => rfl
            | true => rw [← HR.out, (rowsOk_iff.1 h).2 _ (List.getElem_mem _)] at hro; cases hro
          have HE := Lib.hid hro'
          clear hro hro'
          go_wp2_with fail
          refine (root_walk r _ (G.ext (by repeat (first | with_reducible exact Ext.refl _ | with_reducible assumption | with_reducible apply Ext.alloc | with_reducible apply Ext.drew | (with_reducible refine Ext.setCell ?_ (by (try simp) <;> omega) _))))).mono ?_
          rw [HQ.out]
          rintro e w1 ⟨rfl, x1⟩
          have X1 : Ext w w1 := Ext.trans (by repeat (first | with_reducible exact Ext.refl _ | with_reducible assumption | with_reducible apply Ext.alloc | with_reducible apply Ext.drew | (with_reducible refine Ext.setCell ?_ (by (try simp) <;> omega) _))) x1
          go_wp2
          go_ret2
          exact ⟨_, by rw [rootsE, HE.out]; rfl, by rw [rootsL, HE.out]; exact Sl.nil _ _ _, (by repeat (first | with_reducible exact Ext.refl _ | with_reducible assumption | with_reducible apply Ext.alloc | with_reducible apply Ext.drew | (with_reducible refine Ext.setCell ?_ (by (try simp) <;> omega) _)))⟩
      · obtain rfl : k = l.length := by omega
        have hok : rowsOk l = true := by
          have := HA.out
          rw [List.take_length] at this
          rw [rowsOk, this]; simpa using hl
        have HOK := Lib.hid hok
        clear hok
        rw [List.take_length, Nat.sub_self, List.replicate_zero, List.append_nil] at B
        have hs := B.sl (sz := 2) (fun _ _ => rfl) (n := l.length) (by simp) (by simp; omega)
        clear B
        go_wp2
        go_ret2
        exact ⟨_, by rw [rootsE, HOK.out]; rfl, by rw [rootsL_ok HOK.out]; exact hs, (by repeat (first | with_reducible exact Ext.refl _ | with_reducible assumption | with_reducible apply Ext.alloc | with_reducible apply Ext.drew | (with_reducible refine Ext.setCell ?_ (by (try simp) <;> omega) _)))⟩
  · go_enter Tryz.func40, Tryz.ntmps40
    go_wp2
    go_ret2
    have he : rowsOk l = false := by simp [rowsOk]; omega
    exact ⟨_, by rw [rootsE, he]; rfl, by rw [rootsL, he]; exact Sl.nil _ _ _, (by repeat (first | with_reducible exact Ext.refl _ | with_reducible assumption | with_reducible apply Ext.alloc | with_reducible apply Ext.drew | (with_reducible refine Ext.setCell ?_ (by (try simp) <;> omega) _)))⟩
end Go.Proofs.YthpfalbeieloaaaGreatDoor

/-
  Walks: partial.Valid, common, Tone.
-/
set_option linter.unusedVariables false
namespace Go.Proofs.YthpfalbeieloaaaGreatDoor
open Go.RowKit Go.Sx Go.Sx.Sz

set_option maxHeartbeats 1000000 in
theorem rvalid_walk (v : Value) (l : List Row) (w : World) (G : Gv 0 1 w) (S : Sl w 3 encR v l) :
    Calls Tryz.prog 18 #[v] w fun e w' => e = .returned (.bool (rowsOk l)) ∧ Ext w w' := by
  have hE : Hid (rootsE l = if rowsOk l = true then 0 else 1) := Lib.hid rfl
  cases hr : rowsOk l with
  | true =>
    have HE : Hid (rootsE l = 0) := Lib.hid (rootsE_ok hr)
    clear hr hE
    go_enter Tryz.func18, Tryz.ntmps18
    go_wp2_with fail
    refine (roots_walk v l _ G S).mono ?_
    rw [HE.out]
    rintro e w1 ⟨v1, rfl, S1, x1⟩
    go_wp2
    go_ret
    exact ⟨rfl, x1⟩
  | false =>
    have HE : Hid (rootsE l = 1) := Lib.hid (by rw [rootsE, hr]; rfl)
    clear hr hE
    go_enter Tryz.func18, Tryz.ntmps18
    go_wp2_with fail
    refine (roots_walk v l _ G S).mono ?_
    rw [HE.out]
    rintro e w1 ⟨v1, rfl, S1, x1⟩
    go_wp2
    go_ret
    exact ⟨rfl, x1⟩

set_option maxHeartbeats 2000000 in
theorem common_walk (v : Value) (l : List S2) (hl : ∀ s ∈ l, szOk s = true) (w : World) (S : Sl w 2 encS v l) :
    Calls Tryz.prog 41 #[v] w fun e w' => e = .returned (.tuple #[.agg #[.int .i64 (commonR l).1.lo, .int .i64 (commonR l).1.hi], .int .i64 (commonR l).2]) ∧ Ext w w' := by
  obtain ⟨a?, cap, rfl, h1, h2, h3⟩ := S.len
  clear h1 h2
  have hlb : l.length ≤ 140737488351232 := h3
  have HL := Lib.hid hl; clear hl
  go_enter Tryz.func41, Tryz.ntmps41
  go_wp2_with fail
  refine (every_walk _).mono ?_
  rintro e w1 ⟨rfl, x1⟩
  obtain ⟨hc1, hf1⟩ := x1.rules
  have hz1_0 : w.heap.size < w1.heap.size := by have := x1.size; (try simp at this); omega
  obtain ⟨hl1_0, hl1_1, hl1_2, hl1_3⟩ : w.heap.size < w1.heap.size + 1 ∧ w.heap.size < w1.heap.size + 1 + 1 ∧ w.heap.size < w1.heap.size + 1 + 1 + 1 ∧ ¬ w.heap.size = w1.heap.size := by omega
  have X1 : Ext w w1 := Ext.trans (by repeat (first | with_reducible exact Ext.refl _ | with_reducible assumption | with_reducible apply Ext.alloc | with_reducible apply Ext.drew | (with_reducible refine Ext.setCell ?_ (by (try simp) <;> omega) _))) x1
  have g0 : w1.heap[w.heap.size]? = some (.cells #[.int .i64 0, .int .i64 0] 50 (0, 0)) := block_ext x1 (block_new w _)
  have hN := hz1_0
  clear x1 hc1 hf1 hz1_0 hl1_0 hl1_1 hl1_2 hl1_3
  obtain ⟨N, hNN⟩ : ∃ N, w1.heap.size = N := ⟨_, rfl⟩
  have HN := Lib.hid hNN
  rw [hNN] at hN
  clear hNN
  go_wp2_with fail
  rw [HN.out]
  go_loopw [12] (fun i wr => ∃ k : Nat, k ≤ l.length ∧ i = .int .i64 k ∧ (common (l.take k)).lo ≤ (common (l.take k)).hi ∧ wr.heap[w.heap.size]? = some (.cells #[.int .i64 0, .int .i64 0] 50 (0, 0)) ∧ wr.heap[N]? = some (.cells #[.int .i64 (common (l.take k)).lo, .int .i64 (common (l.take k)).hi] 50 (0, 0)) ∧ Ext w wr) (fun i _ => l.length - (intOf i).toNat)
  case atStart => exact ⟨0, by omega, rfl, by show (-100000000000000 : Int) ≤ 100000000000000; decide, block_alloc g0 _, block_at HN.out _, (by repeat (first | with_reducible exact Ext.refl _ | with_reducible assumption | with_reducible apply Ext.alloc | with_reducible apply Ext.drew | (with_reducible refine Ext.setCell ?_ (by (try simp) <;> omega) _)))⟩
  case round =>
    obtain ⟨k, hk, rfl, hne, c0, c1, X⟩ := hrel
    obtain ⟨r0, f0⟩ := block_rules c0
    obtain ⟨r1, f1⟩ := block_rules c1
    have hb0 := block_lt c0
    have hb1 := block_lt c1
    clear g0 HN X1 w1
    by_cases hlt : k < l.length
    · obtain ⟨b, o, rfl, q0, q1⟩ := Sl.size (S.ext X) k hlt
      have hso := Lib.hid (HL.out l[k] (List.getElem_mem _))
      have hco := Lib.hid (common_ok hne)
      have hct := common_take l k hlt
      have hmono := common_mono l (k + 1)
      obtain ⟨t, ht⟩ : ∃ t, l[k] = t := ⟨_, rfl⟩
      obtain ⟨c, hc⟩ : ∃ c, common (l.take k) = c := ⟨_, rfl⟩
      rw [ht] at q0 q1 hct hso
      rw [hc] at hne r1 c1 hct hco
      rw [hct] at hmono
      have HT := Lib.hid hct
      have hn0 : ¬ w.heap.size = wr.heap.size := by omega
      have hn1 : ¬ N = wr.heap.size := by omega
      have hl0 : w.heap.size < wr.heap.size + 1 := by omega
      have hl1 : N < wr.heap.size + 1 := by omega
      clear ht hct HL
      by_cases hm : (meet c t).lo ≤ (meet c t).hi
      · have HM : Hid (meetR c t = (meet c t, 0)) := Lib.hid (by rw [meetR, if_pos ⟨hco.out, hso.out⟩, if_pos hm])
        go_wp2_with fail
        refine (meet_walk c t _).mono ?_
        rw [HM.out]
        rintro e w2 ⟨rfl, x2⟩
        have X2 : Ext wr w2 := Ext.trans (by repeat (first | with_reducible exact Ext.refl _ | with_reducible assumption | with_reducible apply Ext.alloc | with_reducible apply Ext.drew | (with_reducible refine Ext.setCell ?_ (by (try simp) <;> omega) _))) x2
        have XX := X.trans X2
        have d0 := block_ext X2 c0
        have d1 := block_ext X2 c1
        obtain ⟨p0, g0⟩ := block_rules d0
        obtain ⟨p1, g1⟩ := block_rules d1
        have e1 : ((w2.setCell ⟨N, 0, none⟩ (.int .i64 (meet c t).lo)).setCell ⟨N, 1, none⟩ (.int .i64 (meet c t).hi)).heap[N]? = some (.cells #[.int .i64 (meet c t).lo, .int .i64 (meet c t).hi] 50 (0, 0)) := block_set (block_set d1 0 _) 1 _
        have e0 := block_ne (block_ne d0 (g := N) 0 (.int .i64 (meet c t).lo) (by omega)) (g := N) 1 (.int .i64 (meet c t).hi) (by omega)
        have E0 := Lib.hid e0; have E1 := Lib.hid e1
        have hb2 := block_lt d1
        clear e0 e1 d0 d1 c0 c1 r0 r1 f0 f1 x2 X2 hmono
        go_wp2
        go_roundw
        case rel => exact ⟨k + 1, by omega, by go_num, by rw [HT.out]; exact hm, block_alloc E0.out _, by rw [HT.out]; exact block_alloc E1.out _, (by repeat (first | with_reducible exact Ext.refl _ | with_reducible assumption | with_reducible apply Ext.alloc | with_reducible apply Ext.drew | (with_reducible refine Ext.setCell ?_ (by (try simp) <;> omega) _)))⟩
        case measure => simp [intOf]; omega
      · have HM : Hid (meetR c t = (zeroS, 4)) := Lib.hid (by rw [meetR, if_pos ⟨hco.out, hso.out⟩, if_neg hm])
        have HR : Hid (commonR l = (zeroS, 23)) := Lib.hid (by rw [commonR, if_neg (by omega)])
        go_wp2_with fail
        refine (meet_walk c t _).mono ?_
        rw [HM.out]
        rintro e w2 ⟨rfl, x2⟩
        have X2 : Ext wr w2 := Ext.trans (by repeat (first | with_reducible exact Ext.refl _ | with_reducible assumption | with_reducible apply Ext.alloc | with_reducible apply Ext.drew | (with_reducible refine Ext.setCell ?_ (by (try simp) <;> omega) _))) x2
        have XX := X.trans X2
        have d0 := block_ext X2 c0
        obtain ⟨p0, g0⟩ := block_rules d0
        have hb2 := block_lt d0
        clear d0 c0 c1 r0 r1 f0 f1 x2 X2 hmono
        go_wp2
        refine bodyPost_ret (v := .tuple #[.agg #[.int .i64 0, .int .i64 0], .int .i64 23]) (by simp [results, Tryz.results41, go_sem, *]) rfl ⟨?_, (by repeat (first | with_reducible exact Ext.refl _ | with_reducible assumption | with_reducible apply Ext.alloc | with_reducible apply Ext.drew | (with_reducible refine Ext.setCell ?_ (by (try simp) <;> omega) _)))⟩
        rw [HR.out] <;> rfl
    · obtain rfl : k = l.length := by omega
      rw [List.take_length] at *
      have HR : Hid (commonR l = (common l, 0)) := Lib.hid (by rw [commonR, if_pos hne])
      clear c0 c1
      go_wp2
      refine bodyPost_ret (v := .tuple #[.agg #[.int .i64 (common l).lo, .int .i64 (common l).hi], .int .i64 0]) (by simp [results, Tryz.results41, go_sem, *]) rfl ⟨?_, (by repeat (first | with_reducible exact Ext.refl _ | with_reducible assumption | with_reducible apply Ext.alloc | with_reducible apply Ext.drew | (with_reducible refine Ext.setCell ?_ (by (try simp) <;> omega) _)))⟩
      rw [HR.out] <;> rfl
end Go.Proofs.YthpfalbeieloaaaGreatDoor

/-
  Walks: partial.Tone; the closures of Refute and Fits; slices.IndexFunc and ContainsFunc with them.
-/
set_option linter.unusedVariables false
namespace Go.Proofs.YthpfalbeieloaaaGreatDoor
open Go.RowKit Go.Sx Go.Sx.Sz

theorem roots_ok {l : List Row} (h : rowsOk l = true) : ∀ s ∈ l.map rootS, szOk s = true := fun s hs => by
  obtain ⟨r, hr, rfl⟩ := List.mem_map.1 hs
  exact rootS_ok ((rowsOk_iff.1 h).2 r hr)
set_option maxHeartbeats 1000000 in
theorem tone_walk (v : Value) (l : List Row) (w : World) (G : Gv 0 1 w) (S : Sl w 3 encR v l) :
    Calls Tryz.prog 15 #[v] w fun e w' => e = .returned (.tuple #[.agg #[.int .i64 (toneR l).1.lo, .int .i64 (toneR l).1.hi], .int .i64 (toneR l).2]) ∧ Ext w w' := by
  cases hr : rowsOk l with
  | true =>
    have HE : Hid (rootsE l = 0) := Lib.hid (rootsE_ok hr)
    have HL : Hid (rootsL l = l.map rootS) := Lib.hid (rootsL_ok hr)
    have HT : Hid (toneR l = commonR (l.map rootS)) := Lib.hid (by rw [toneR, if_pos hr])
    have hall := Lib.hid (roots_ok hr)
    clear hr
    go_enter Tryz.func15, Tryz.ntmps15
    go_wp2_with fail
    refine (roots_walk v l _ (G.ext (by repeat (first | with_reducible exact Ext.refl _ | with_reducible assumption | with_reducible apply Ext.alloc | with_reducible apply Ext.drew | (with_reducible refine Ext.setCell ?_ (by (try simp) <;> omega) _)))) (S.ext (by repeat (first | with_reducible exact Ext.refl _ | with_reducible assumption | with_reducible apply Ext.alloc | with_reducible apply Ext.drew | (with_reducible refine Ext.setCell ?_ (by (try simp) <;> omega) _))))).mono ?_
    rw [HE.out, HL.out]
    rintro e w1 ⟨v1, rfl, S1, x1⟩
    obtain ⟨hc1, hf1⟩ := x1.rules
    have hz1_0 : w.heap.size < w1.heap.size := by have := x1.size; (try simp at this); omega
    have X1 : Ext w w1 := Ext.trans (by repeat (first | with_reducible exact Ext.refl _ | with_reducible assumption | with_reducible apply Ext.alloc | with_reducible apply Ext.drew | (with_reducible refine Ext.setCell ?_ (by (try simp) <;> omega) _))) x1
    go_wp2_with fail
    obtain ⟨a?, cap, rfl, h1, h2, h3⟩ := S1.len
    refine (common_walk _ _ hall.out _ (S1.ext (by repeat (first | with_reducible exact Ext.refl _ | with_reducible assumption | with_reducible apply Ext.alloc | with_reducible apply Ext.drew | (with_reducible refine Ext.setCell ?_ (by (try simp) <;> omega) _))))).mono ?_
    obtain ⟨r, hR⟩ : ∃ r, commonR (l.map rootS) = r := ⟨_, rfl⟩
    have HR := Lib.hid hR
    rw [hR]
    clear hR h1 h2 h3
    rintro e w2 ⟨rfl, x2⟩
    obtain ⟨hc2, hf2⟩ := x2.rules
    have hz2_0 : w.heap.size < w2.heap.size := by have := x2.size; (try simp at this); omega
    have X2 : Ext w w2 := Ext.trans X1 x2
    go_wp2
    refine bodyPost_ret (v := .tuple #[.agg #[.int .i64 r.1.lo, .int .i64 r.1.hi], .int .i64 r.2]) (by simp [results, Tryz.results15, go_sem, *]) rfl ⟨?_, (by repeat (first | with_reducible exact Ext.refl _ | with_reducible assumption | with_reducible apply Ext.alloc | with_reducible apply Ext.drew | (with_reducible refine Ext.setCell ?_ (by (try simp) <;> omega) _)))⟩
    rw [HT.out, HR.out] <;> rfl
  | false =>
    have HE : Hid (rootsE l = 1) := Lib.hid (by rw [rootsE, hr]; rfl)
    have HT : Hid (toneR l = (zeroS, 1)) := Lib.hid (by rw [toneR, hr]; rfl)
    clear hr
    go_enter Tryz.func15, Tryz.ntmps15
    go_wp2_with fail
    refine (roots_walk v l _ (G.ext (by repeat (first | with_reducible exact Ext.refl _ | with_reducible assumption | with_reducible apply Ext.alloc | with_reducible apply Ext.drew | (with_reducible refine Ext.setCell ?_ (by (try simp) <;> omega) _)))) (S.ext (by repeat (first | with_reducible exact Ext.refl _ | with_reducible assumption | with_reducible apply Ext.alloc | with_reducible apply Ext.drew | (with_reducible refine Ext.setCell ?_ (by (try simp) <;> omega) _))))).mono ?_
    rw [HE.out]
    rintro e w1 ⟨v1, rfl, S1, x1⟩
    obtain ⟨hc1, hf1⟩ := x1.rules
    have hz1_0 : w.heap.size < w1.heap.size := by have := x1.size; (try simp at this); omega
    have X1 : Ext w w1 := Ext.trans (by repeat (first | with_reducible exact Ext.refl _ | with_reducible assumption | with_reducible apply Ext.alloc | with_reducible apply Ext.drew | (with_reducible refine Ext.setCell ?_ (by (try simp) <;> omega) _))) x1
    go_wp2
    refine bodyPost_ret (v := .tuple #[.agg #[.int .i64 0, .int .i64 0], .int .i64 1]) (by simp [results, Tryz.results15, go_sem, *]) rfl ⟨?_, (by repeat (first | with_reducible exact Ext.refl _ | with_reducible assumption | with_reducible apply Ext.alloc | with_reducible apply Ext.drew | (with_reducible refine Ext.setCell ?_ (by (try simp) <;> omega) _)))⟩
    rw [HT.out] <;> rfl
end Go.Proofs.YthpfalbeieloaaaGreatDoor

/-
  Walks: partial.Tone; the closures of Refute and Fits; slices.IndexFunc and ContainsFunc with them.
-/
set_option linter.unusedVariables false
namespace Go.Proofs.YthpfalbeieloaaaGreatDoor
open Go.RowKit Go.Sx Go.Sx.Sz

end Go.Proofs.YthpfalbeieloaaaGreatDoor

/-
  Walks: partial.Refute.
-/
set_option linter.unusedVariables false
namespace Go.Proofs.YthpfalbeieloaaaGreatDoor
open Go.RowKit Go.Sx Go.Sx.Sz

end Go.Proofs.YthpfalbeieloaaaGreatDoor

/-
  Walks: partial.Fits, Predict.
-/
set_option linter.unusedVariables false
namespace Go.Proofs.YthpfalbeieloaaaGreatDoor
open Go.RowKit Go.Sx Go.Sx.Sz

end Go.Proofs.YthpfalbeieloaaaGreatDoor
