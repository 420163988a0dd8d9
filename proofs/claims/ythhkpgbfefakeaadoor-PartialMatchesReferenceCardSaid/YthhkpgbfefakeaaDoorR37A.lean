/-
  Walks of the reference: schismaref37.Row, Valid, Harmonic, Root, Tone.
-/
import Derived.Test.YthhkpgbfefakeaaDoorR4B
import Derived.Test.YthhkpgbfefakeaaDoorPaD
set_option linter.unusedVariables false
namespace Go.Proofs.YthhkpgbfefakeaaDoor
open Go.RowKit Go.Sx Go.Sx.Sz

set_option maxHeartbeats 2000000 in
theorem rrow_walk (r : Row) (w : World) : Calls Tryd.prog 32 #[.agg #[.int .i64 r.h, .int .i64 r.lo, .int .i64 r.hi]] w fun e w' => e = .returned (.bool (rowOk r)) ∧ Ext w w' := by
  unfold rowOk
  by_cases h1 : 1 ≤ r.h
  · by_cases h2 : r.h ≤ 16
    · by_cases h3 : -10000000000000 ≤ r.lo
      · by_cases h4 : r.lo ≤ r.hi
        · by_cases h5 : r.hi ≤ 10000000000000
          all_goals
            go_enter Tryd.func32, Tryd.ntmps32
            go_wp2
            go_ret
            exact ⟨by simp [h1, h2, h3, h4, h5], (by repeat (first | with_reducible exact Ext.refl _ | with_reducible assumption | with_reducible apply Ext.alloc | with_reducible apply Ext.drew | (with_reducible refine Ext.setCell ?_ (by (try simp) <;> omega) _)))⟩
        · go_enter Tryd.func32, Tryd.ntmps32
          go_wp2
          go_ret
          exact ⟨by simp; omega, (by repeat (first | with_reducible exact Ext.refl _ | with_reducible assumption | with_reducible apply Ext.alloc | with_reducible apply Ext.drew | (with_reducible refine Ext.setCell ?_ (by (try simp) <;> omega) _)))⟩
      · go_enter Tryd.func32, Tryd.ntmps32
        go_wp2
        go_ret
        exact ⟨by simp; omega, (by repeat (first | with_reducible exact Ext.refl _ | with_reducible assumption | with_reducible apply Ext.alloc | with_reducible apply Ext.drew | (with_reducible refine Ext.setCell ?_ (by (try simp) <;> omega) _)))⟩
    · go_enter Tryd.func32, Tryd.ntmps32
      go_wp2
      go_ret
      exact ⟨by simp; omega, (by repeat (first | with_reducible exact Ext.refl _ | with_reducible assumption | with_reducible apply Ext.alloc | with_reducible apply Ext.drew | (with_reducible refine Ext.setCell ?_ (by (try simp) <;> omega) _)))⟩
  · go_enter Tryd.func32, Tryd.ntmps32
    go_wp2
    go_ret
    exact ⟨by simp; omega, (by repeat (first | with_reducible exact Ext.refl _ | with_reducible assumption | with_reducible apply Ext.alloc | with_reducible apply Ext.drew | (with_reducible refine Ext.setCell ?_ (by (try simp) <;> omega) _)))⟩

set_option maxHeartbeats 2000000 in
theorem rrvalid_walk (v : Value) (l : List Row) (w : World) (S : Sl w 3 encR v l) :
    Calls Tryd.prog 14 #[v] w fun e w' => e = .returned (.bool (rowsOk l)) ∧ Ext w w' := by
  obtain ⟨a?, cap, rfl, h1, h2, h3⟩ := S.len
  clear h1 h2
  by_cases hl : l.length ≤ 16
  · go_enter Tryd.func14, Tryd.ntmps14
    go_wp2
    go_loopw [3] (fun i wr => ∃ k : Nat, k ≤ l.length ∧ i = .int .i64 k ∧ (l.take k).all rowOk = true ∧ Ext w wr) (fun i _ => l.length - (intOf i).toNat)
    case atStart => exact ⟨0, by omega, rfl, rfl, (by repeat (first | with_reducible exact Ext.refl _ | with_reducible assumption | with_reducible apply Ext.alloc | with_reducible apply Ext.drew | (with_reducible refine Ext.setCell ?_ (by (try simp) <;> omega) _)))⟩
    case round =>
      obtain ⟨k, hk, rfl, hall, X⟩ := hrel
      have HA := Lib.hid hall; clear hall
      by_cases hlt : k < l.length
      · obtain ⟨b, o, rfl, q0, q1, q2⟩ := Sl.row (S.ext X) k hlt
        obtain ⟨r, hr⟩ : ∃ r, l[k] = r := ⟨_, rfl⟩
        rw [hr] at q0 q1 q2
        have hta : (l.take (k + 1)).all rowOk = ((l.take k).all rowOk && rowOk r) := by rw [List.take_succ_eq_append_getElem hlt, hr]; simp
        have HR := Lib.hid hr; have HTA := Lib.hid hta
        clear hr hta
        cases hro : rowOk r with
        | true =>
          have HO := Lib.hid hro; clear hro
          go_wp2_with fail
          refine (rrow_walk r _).mono ?_
          rw [HO.out]
          rintro e w1 ⟨rfl, x1⟩
          have X1 : Ext w w1 := X.trans x1
          go_wp2
          go_roundw
          case rel => exact ⟨k + 1, by omega, by go_num, by rw [HTA.out, HA.out, HO.out]; rfl, X1⟩
          case measure => simp [intOf]; omega
        | false =>
          have hro' : rowsOk l = false := by
            cases h : rowsOk l with
            | false => rfl
            | true => rw [← HR.out, (rowsOk_iff.1 h).2 _ (List.getElem_mem _)] at hro; cases hro
          have HE := Lib.hid hro'
          have HO := Lib.hid hro
          clear hro hro'
          go_wp2_with fail
          refine (rrow_walk r _).mono ?_
          rw [HO.out]
          rintro e w1 ⟨rfl, x1⟩
          have X1 : Ext w w1 := X.trans x1
          go_wp2
          go_ret
          exact ⟨by rw [HE.out] <;> rfl, X1⟩
      · obtain rfl : k = l.length := by omega
        have hok : rowsOk l = true := by
          have := HA.out
          rw [List.take_length] at this
          rw [rowsOk, this]; simpa using hl
        have HOK := Lib.hid hok
        clear hok
        go_wp2
        go_ret
        exact ⟨by rw [HOK.out] <;> rfl, X⟩
  · have he : Hid (rowsOk l = false) := Lib.hid (by simp [rowsOk]; omega)
    go_enter Tryd.func14, Tryd.ntmps14
    go_wp2
    go_ret
    exact ⟨by rw [he.out] <;> rfl, (by repeat (first | with_reducible exact Ext.refl _ | with_reducible assumption | with_reducible apply Ext.alloc | with_reducible apply Ext.drew | (with_reducible refine Ext.setCell ?_ (by (try simp) <;> omega) _)))⟩

theorem harmV_small {n : Int} (h1 : 1 ≤ n) (h2 : n ≤ 16) : ∀ k, k < 6 → -1000000 ≤ (harmV n).get k ∧ (harmV n).get k ≤ 1000000 := fun k hk => by
  have := Sz.within_iff.1 (harm_within h1 h2) k hk
  omega

set_option maxHeartbeats 1000000 in
theorem rharm_walk (n : Int) (h1 : 1 ≤ n) (h2 : n ≤ 16) (w : World) : Calls Tryd.prog 33 #[.int .i64 n] w fun e w' => e = .returned (.agg #[.int .i64 (harmS n).lo, .int .i64 (harmS n).hi]) ∧ Ext w w' := by
  have hw := Lib.hid (within_mono (B := 4000) (by omega) (times_within (harm_within h1 h2)))
  have hs := Lib.hid (harmV_small h1 h2)
  go_enter Tryd.func33, Tryd.ntmps33
  go_wp2_with fail
  refine (primes_walk n h1 h2 _).mono ?_
  rintro e w1 ⟨rfl, x1⟩
  obtain ⟨hc1, hf1⟩ := x1.rules
  have hz1_0 : w.heap.size < w1.heap.size := by have := x1.size; (try simp at this); omega
  obtain ⟨hl1_0, hl1_1, hl1_2, hl1_3⟩ : w.heap.size < w1.heap.size + 1 ∧ w.heap.size < w1.heap.size + 1 + 1 ∧ w.heap.size < w1.heap.size + 1 + 1 + 1 ∧ ¬ w.heap.size = w1.heap.size := by omega
  have X1 : Ext w w1 := Ext.trans (by repeat (first | with_reducible exact Ext.refl _ | with_reducible assumption | with_reducible apply Ext.alloc | with_reducible apply Ext.drew | (with_reducible refine Ext.setCell ?_ (by (try simp) <;> omega) _))) x1
  go_wp2_with fail
  refine (pure_walk (harmV n) hs.out _).mono ?_
  rintro e w2 ⟨rfl, x2⟩
  obtain ⟨hc2, hf2⟩ := x2.rules
  have hz2_0 : w.heap.size < w2.heap.size := by have := x2.size; (try simp at this); omega
  obtain ⟨hl2_0, hl2_1, hl2_2, hl2_3⟩ : w.heap.size < w2.heap.size + 1 ∧ w.heap.size < w2.heap.size + 1 + 1 ∧ w.heap.size < w2.heap.size + 1 + 1 + 1 ∧ ¬ w.heap.size = w2.heap.size := by omega
  have X2 : Ext w w2 := Ext.trans (by repeat (first | with_reducible exact Ext.refl _ | with_reducible assumption | with_reducible apply Ext.alloc | with_reducible apply Ext.drew | (with_reducible refine Ext.setCell ?_ (by (try simp) <;> omega) _))) x2
  go_wp2_with fail
  refine (rexpo_walk ((harmV n).times 12) hw.out _).mono ?_
  rintro e w3 ⟨rfl, x3⟩
  obtain ⟨hc3, hf3⟩ := x3.rules
  have hz3_0 : w.heap.size < w3.heap.size := by have := x3.size; (try simp at this); omega
  obtain ⟨hl3_0, hl3_1, hl3_2, hl3_3⟩ : w.heap.size < w3.heap.size + 1 ∧ w.heap.size < w3.heap.size + 1 + 1 ∧ w.heap.size < w3.heap.size + 1 + 1 + 1 ∧ ¬ w.heap.size = w3.heap.size := by omega
  have X3 : Ext w w3 := Ext.trans (by repeat (first | with_reducible exact Ext.refl _ | with_reducible assumption | with_reducible apply Ext.alloc | with_reducible apply Ext.drew | (with_reducible refine Ext.setCell ?_ (by (try simp) <;> omega) _))) x3
  go_wp2
  refine bodyPost_ret (v := .agg #[.int .i64 (expo ((harmV n).times 12)).lo, .int .i64 (expo ((harmV n).times 12)).hi]) (by simp [results, Tryd.results33, go_sem, *]) rfl ⟨?_, (by repeat (first | with_reducible exact Ext.refl _ | with_reducible assumption | with_reducible apply Ext.alloc | with_reducible apply Ext.drew | (with_reducible refine Ext.setCell ?_ (by (try simp) <;> omega) _)))⟩
  rfl

set_option maxHeartbeats 1000000 in
theorem rroot_walk (r : Row) (w : World) : Calls Tryd.prog 15 #[.agg #[.int .i64 r.h, .int .i64 r.lo, .int .i64 r.hi]] w fun e w' => e = .returned (.tuple #[.agg #[.int .i64 (rootR r).1.lo, .int .i64 (rootR r).1.hi], .int .i64 (rootR r).2]) ∧ Ext w w' := by
  cases hr : rowOk r with
  | false =>
    have HR := Lib.hid hr
    have HF := Lib.hid (rootR_no hr)
    clear hr
    go_enter Tryd.func15, Tryd.ntmps15
    go_wp2_with fail
    refine (rrow_walk r _).mono ?_
    rw [HR.out]
    rintro e w1 ⟨rfl, x1⟩
    obtain ⟨hc1, hf1⟩ := x1.rules
    obtain ⟨hz1_0, hz1_1⟩ : w.heap.size < w1.heap.size ∧ w.heap.size + 1 < w1.heap.size := by have := x1.size; (try simp at this); omega
    obtain ⟨hl1_0, hl1_1, hl1_2, hl1_3, hl1_4, hl1_5, hl1_6, hl1_7⟩ : w.heap.size < w1.heap.size + 1 ∧ w.heap.size < w1.heap.size + 1 + 1 ∧ w.heap.size < w1.heap.size + 1 + 1 + 1 ∧ w.heap.size + 1 < w1.heap.size + 1 ∧ w.heap.size + 1 < w1.heap.size + 1 + 1 ∧ w.heap.size + 1 < w1.heap.size + 1 + 1 + 1 ∧ ¬ w.heap.size = w1.heap.size ∧ ¬ w.heap.size + 1 = w1.heap.size := by omega
    have X1 : Ext w w1 := Ext.trans (by repeat (first | with_reducible exact Ext.refl _ | with_reducible assumption | with_reducible apply Ext.alloc | with_reducible apply Ext.drew | (with_reducible refine Ext.setCell ?_ (by (try simp) <;> omega) _))) x1
    go_wp2
    refine bodyPost_ret (v := .tuple #[.agg #[.int .i64 0, .int .i64 0], .int .i64 1]) (by simp [results, Tryd.results15, go_sem, *]) rfl ⟨?_, (by repeat (first | with_reducible exact Ext.refl _ | with_reducible assumption | with_reducible apply Ext.alloc | with_reducible apply Ext.drew | (with_reducible refine Ext.setCell ?_ (by (try simp) <;> omega) _)))⟩
    rw [HF.out] <;> rfl
  | true =>
    have HR := Lib.hid hr
    have HF : Hid (rootR r = (⟨r.lo - (harmS r.h).hi, r.hi - (harmS r.h).lo⟩, 0)) := Lib.hid (by rw [rootR, if_pos hr]; rfl)
    obtain ⟨b1, b2, b3, b4, b5⟩ := rowOk_iff.1 hr
    have hb := harmS_bd b1 b2
    obtain ⟨h, hh⟩ : ∃ h, harmS r.h = h := ⟨_, rfl⟩
    rw [hh] at HF hb
    have HH := Lib.hid hh
    clear hr hh
    go_enter Tryd.func15, Tryd.ntmps15
    go_wp2_with fail
    refine (rrow_walk r _).mono ?_
    rw [HR.out]
    rintro e w1 ⟨rfl, x1⟩
    obtain ⟨hc1, hf1⟩ := x1.rules
    obtain ⟨hz1_0, hz1_1⟩ : w.heap.size < w1.heap.size ∧ w.heap.size + 1 < w1.heap.size := by have := x1.size; (try simp at this); omega
    obtain ⟨hl1_0, hl1_1, hl1_2, hl1_3, hl1_4, hl1_5, hl1_6, hl1_7⟩ : w.heap.size < w1.heap.size + 1 ∧ w.heap.size < w1.heap.size + 1 + 1 ∧ w.heap.size < w1.heap.size + 1 + 1 + 1 ∧ w.heap.size + 1 < w1.heap.size + 1 ∧ w.heap.size + 1 < w1.heap.size + 1 + 1 ∧ w.heap.size + 1 < w1.heap.size + 1 + 1 + 1 ∧ ¬ w.heap.size = w1.heap.size ∧ ¬ w.heap.size + 1 = w1.heap.size := by omega
    have X1 : Ext w w1 := Ext.trans (by repeat (first | with_reducible exact Ext.refl _ | with_reducible assumption | with_reducible apply Ext.alloc | with_reducible apply Ext.drew | (with_reducible refine Ext.setCell ?_ (by (try simp) <;> omega) _))) x1
    go_wp2_with fail
    refine (rharm_walk r.h b1 b2 _).mono ?_
    rw [HH.out]
    rintro e w2 ⟨rfl, x2⟩
    obtain ⟨hc2, hf2⟩ := x2.rules
    obtain ⟨hz2_0, hz2_1⟩ : w.heap.size < w2.heap.size ∧ w.heap.size + 1 < w2.heap.size := by have := x2.size; (try simp at this); omega
    obtain ⟨hl2_0, hl2_1, hl2_2, hl2_3, hl2_4, hl2_5, hl2_6, hl2_7⟩ : w.heap.size < w2.heap.size + 1 ∧ w.heap.size < w2.heap.size + 1 + 1 ∧ w.heap.size < w2.heap.size + 1 + 1 + 1 ∧ w.heap.size + 1 < w2.heap.size + 1 ∧ w.heap.size + 1 < w2.heap.size + 1 + 1 ∧ w.heap.size + 1 < w2.heap.size + 1 + 1 + 1 ∧ ¬ w.heap.size = w2.heap.size ∧ ¬ w.heap.size + 1 = w2.heap.size := by omega
    have X2 : Ext w w2 := Ext.trans (by repeat (first | with_reducible exact Ext.refl _ | with_reducible assumption | with_reducible apply Ext.alloc | with_reducible apply Ext.drew | (with_reducible refine Ext.setCell ?_ (by (try simp) <;> omega) _))) x2
    go_wp2
    refine bodyPost_ret (v := .tuple #[.agg #[.int .i64 (r.lo - h.hi), .int .i64 (r.hi - h.lo)], .int .i64 0]) (by simp [results, Tryd.results15, go_sem, *]) rfl ⟨?_, (by repeat (first | with_reducible exact Ext.refl _ | with_reducible assumption | with_reducible apply Ext.alloc | with_reducible apply Ext.drew | (with_reducible refine Ext.setCell ?_ (by (try simp) <;> omega) _)))⟩
    rw [HF.out] <;> rfl

set_option maxHeartbeats 4000000 in
theorem rtone_walk (v : Value) (l : List Row) (w : World) (S : Sl w 3 encR v l) :
    Calls Tryd.prog 17 #[v] w fun e w' => e = .returned (.tuple #[.agg #[.int .i64 (toneR l).1.lo, .int .i64 (toneR l).1.hi], .int .i64 (toneR l).2]) ∧ Ext w w' := by
  cases hr : rowsOk l with
  | false =>
    have HT : Hid (toneR l = (zeroS, 1)) := Lib.hid (by rw [toneR, hr]; rfl)
    have HR := Lib.hid hr
    clear hr
    go_enter Tryd.func17, Tryd.ntmps17
    go_wp2_with fail
    refine (rrvalid_walk v l _ (S.ext (by repeat (first | with_reducible exact Ext.refl _ | with_reducible assumption | with_reducible apply Ext.alloc | with_reducible apply Ext.drew | (with_reducible refine Ext.setCell ?_ (by (try simp) <;> omega) _))))).mono ?_
    rw [HR.out]
    rintro e w1 ⟨rfl, x1⟩
    obtain ⟨hc1, hf1⟩ := x1.rules
    have hz1_0 : w.heap.size < w1.heap.size := by have := x1.size; (try simp at this); omega
    obtain ⟨hl1_0, hl1_1, hl1_2, hl1_3⟩ : w.heap.size < w1.heap.size + 1 ∧ w.heap.size < w1.heap.size + 1 + 1 ∧ w.heap.size < w1.heap.size + 1 + 1 + 1 ∧ ¬ w.heap.size = w1.heap.size := by omega
    have X1 : Ext w w1 := Ext.trans (by repeat (first | with_reducible exact Ext.refl _ | with_reducible assumption | with_reducible apply Ext.alloc | with_reducible apply Ext.drew | (with_reducible refine Ext.setCell ?_ (by (try simp) <;> omega) _))) x1
    go_wp2
    refine bodyPost_ret (v := .tuple #[.agg #[.int .i64 0, .int .i64 0], .int .i64 1]) (by simp [results, Tryd.results17, go_sem, *]) rfl ⟨?_, (by repeat (first | with_reducible exact Ext.refl _ | with_reducible assumption | with_reducible apply Ext.alloc | with_reducible apply Ext.drew | (with_reducible refine Ext.setCell ?_ (by (try simp) <;> omega) _)))⟩
    rw [HT.out] <;> rfl
  | true =>
    obtain ⟨a?, cap, rfl, g1, g2, g3⟩ := S.len
    clear g1 g2
    have HT : Hid (toneR l = commonR (l.map rootS)) := Lib.hid (by rw [toneR, if_pos hr])
    have HRT := Lib.hid (fun k (hk : k < l.length) => show rootR l[k] = (rootS l[k], 0) by rw [rootR, if_pos ((rowsOk_iff.1 hr).2 _ (List.getElem_mem _))])
    have HR := Lib.hid hr
    have hl16 := (rowsOk_iff.1 hr).1
    clear hr
    go_enter Tryd.func17, Tryd.ntmps17
    go_wp2_with fail
    refine (rrvalid_walk _ l _ (S.ext (by repeat (first | with_reducible exact Ext.refl _ | with_reducible assumption | with_reducible apply Ext.alloc | with_reducible apply Ext.drew | (with_reducible refine Ext.setCell ?_ (by (try simp) <;> omega) _))))).mono ?_
    rw [HR.out]
    rintro e w1 ⟨rfl, x1⟩
    obtain ⟨hc1, hf1⟩ := x1.rules
    have hz1_0 : w.heap.size < w1.heap.size := by have := x1.size; (try simp at this); omega
    obtain ⟨hl1_0, hl1_1, hl1_2, hl1_3⟩ : w.heap.size < w1.heap.size + 1 ∧ w.heap.size < w1.heap.size + 1 + 1 ∧ w.heap.size < w1.heap.size + 1 + 1 + 1 ∧ ¬ w.heap.size = w1.heap.size := by omega
    have X1 : Ext w w1 := Ext.trans (by repeat (first | with_reducible exact Ext.refl _ | with_reducible assumption | with_reducible apply Ext.alloc | with_reducible apply Ext.drew | (with_reducible refine Ext.setCell ?_ (by (try simp) <;> omega) _))) x1
    have g0 : w1.heap[w.heap.size]? = some (.cells #[.int .i64 0, .int .i64 0] 26 (0, 0)) := block_ext x1 (block_new w _)
    have hN := hz1_0
    clear x1 hc1 hf1 hz1_0 hl1_0 hl1_1 hl1_2 hl1_3
    obtain ⟨N, hNN⟩ : ∃ N, w1.heap.size = N := ⟨_, rfl⟩
    have HN := Lib.hid hNN
    rw [hNN] at hN
    clear hNN
    go_wp2
    rw [HN.out]
    go_loopw [5] (fun i wr => ∃ k : Nat, k ≤ l.length ∧ i = .int .i64 k ∧ wr.heap[w.heap.size]? = some (.cells #[.int .i64 0, .int .i64 0] 26 (0, 0)) ∧ wr.heap[N]? = some (.cells #[.int .i64 (common ((l.map rootS).take k)).lo, .int .i64 (common ((l.map rootS).take k)).hi] 26 (0, 0)) ∧ Ext w wr) (fun i _ => l.length - (intOf i).toNat)
    case atStart => exact ⟨0, by omega, rfl, block_alloc g0 _, block_at HN.out _, (by repeat (first | with_reducible exact Ext.refl _ | with_reducible assumption | with_reducible apply Ext.alloc | with_reducible apply Ext.drew | (with_reducible refine Ext.setCell ?_ (by (try simp) <;> omega) _)))⟩
    case round =>
      clear g0 HN X1 w1
      obtain ⟨k, hk, rfl, c0, c1, X⟩ := hrel
      by_cases hlt : k < l.length
      · obtain ⟨b, o, rfl, q0, q1, q2⟩ := Sl.row (S.ext X) k hlt
        have HRK := Lib.hid (HRT.out k hlt)
        have hct := common_take (l.map rootS) k (by simpa using hlt)
        rw [List.getElem_map] at hct
        obtain ⟨r, hrr⟩ : ∃ r, l[k] = r := ⟨_, rfl⟩
        rw [hrr] at q0 q1 q2 hct HRK
        obtain ⟨c, hc⟩ : ∃ c, common ((l.map rootS).take k) = c := ⟨_, rfl⟩
        rw [hc] at hct c1
        obtain ⟨s, hs⟩ : ∃ s, rootS r = s := ⟨_, rfl⟩
        rw [hs] at hct HRK
        have HCT := Lib.hid hct
        clear hrr hc hs hct
        go_wp2_with fail
        refine (rroot_walk r _).mono ?_
        rw [HRK.out]
        rintro e w2 ⟨rfl, x2⟩
        have d0 := block_ext x2 c0
        have d1 := block_ext x2 c1
        have X2 := X.trans x2
        obtain ⟨p1, f1⟩ := block_rules d1
        have hb1 := block_lt d1
        have hb0 := block_lt d0
        have hnn : ¬ N = w2.heap.size := by omega
        have key : ∀ a b : Int, (meet c s).lo = a → (meet c s).hi = b → ((w2.setCell ⟨N, 0, none⟩ (.int .i64 a)).setCell ⟨N, 1, none⟩ (.int .i64 b)).heap[w.heap.size]? = some (.cells #[.int .i64 0, .int .i64 0] 26 (0, 0)) ∧ ((w2.setCell ⟨N, 0, none⟩ (.int .i64 a)).setCell ⟨N, 1, none⟩ (.int .i64 b)).heap[N]? = some (.cells #[.int .i64 (common ((l.map rootS).take (k + 1))).lo, .int .i64 (common ((l.map rootS).take (k + 1))).hi] 26 (0, 0)) := fun a b ha hb => by
          refine ⟨block_ne (block_ne d0 _ _ (by omega)) _ _ (by omega), ?_⟩
          rw [HCT.out, ha, hb]
          exact block_set (block_set d1 0 _) 1 _
        have KEY := Lib.hid key
        clear key d0 d1 c0 c1 x2 X
        by_cases h1 : c.lo < s.lo <;> by_cases h2 : s.hi < c.hi
        all_goals
          have M1 := Lib.hid h1
          have M2 := Lib.hid h2
          go_wp2
          go_roundw
          case rel =>
            obtain ⟨y0, y1⟩ := KEY.out _ _ (by first | exact if_pos M1.out | exact if_neg (Int.not_lt.2 M1.out)) (by first | exact if_pos M2.out | exact if_neg (Int.not_lt.2 M2.out))
            exact ⟨k + 1, by omega, by go_num, block_alloc y0 _, block_alloc y1 _, (by repeat (first | with_reducible exact Ext.refl _ | with_reducible assumption | with_reducible apply Ext.alloc | with_reducible apply Ext.drew | (with_reducible refine Ext.setCell ?_ (by (try simp) <;> omega) _)))⟩
          case measure => simp [intOf]; omega
      · obtain rfl : k = l.length := by omega
        rw [show (l.map rootS).take l.length = l.map rootS from List.take_of_length_le (by simp)] at c1
        obtain ⟨r0, f0⟩ := block_rules c0
        obtain ⟨r1, f1⟩ := block_rules c1
        have hb0 := block_lt c0
        clear c0 c1
        obtain ⟨c, hc⟩ : ∃ c, common (l.map rootS) = c := ⟨_, rfl⟩
        have HC := Lib.hid hc
        rw [hc] at r1
        clear hc
        by_cases hle : c.lo ≤ c.hi
        · have HF : Hid (toneR l = (c, 0)) := Lib.hid (by rw [HT.out, commonR, HC.out, if_pos hle])
          go_wp2
          refine bodyPost_ret (v := .tuple #[.agg #[.int .i64 c.lo, .int .i64 c.hi], .int .i64 0]) (by simp [results, Tryd.results17, go_sem, *]) rfl ⟨?_, (by repeat (first | with_reducible exact Ext.refl _ | with_reducible assumption | with_reducible apply Ext.alloc | with_reducible apply Ext.drew | (with_reducible refine Ext.setCell ?_ (by (try simp) <;> omega) _)))⟩
          rw [HF.out] <;> rfl
        · have HF : Hid (toneR l = (zeroS, 23)) := Lib.hid (by rw [HT.out, commonR, HC.out, if_neg hle])
          go_wp2
          refine bodyPost_ret (v := .tuple #[.agg #[.int .i64 0, .int .i64 0], .int .i64 23]) (by simp [results, Tryd.results17, go_sem, *]) rfl ⟨?_, (by repeat (first | with_reducible exact Ext.refl _ | with_reducible assumption | with_reducible apply Ext.alloc | with_reducible apply Ext.drew | (with_reducible refine Ext.setCell ?_ (by (try simp) <;> omega) _)))⟩
          rw [HF.out] <;> rfl
end Go.Proofs.YthhkpgbfefakeaaDoor
