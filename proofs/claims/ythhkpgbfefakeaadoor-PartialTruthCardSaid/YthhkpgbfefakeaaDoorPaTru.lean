/-
  Proved: 'PartialTruth' returns true for every input and leaves its arguments as they were. No condition.
-/
import Derived.Test.YthhkpgbfefakeaaDoorPaL
import Derived.Deep.QuietTactic
import Derived.BigQuiet
namespace Go.Proofs.YthhkpgbfefakeaaDoor
open Go.RowKit Go.Sx Go.Sx.Sz Go.ChangeShapes Go.WideShapes Go.ChangeAt

set_option maxHeartbeats 2000000 in
theorem lharm_walk (n : Int) (h1 : 1 ≤ n) (h2 : n ≤ 16) (w : World) (G : Gv 0 1 w) : Calls Tryd.prog 24 #[.int .i64 n] w fun e w' => e = .returned (.tuple #[.agg #[.int .i64 (harmS n).lo, .int .i64 (harmS n).hi], .bool true]) ∧ Ext w w' := by
  have hw := harm_within h1 h2
  have ho := ofR_ok hw
  have hs := sizeR_ok (times_within hw)
  have HO := Lib.hid ho; have HS := Lib.hid hs
  clear hw ho hs
  go_enter Tryd.func24, Tryd.ntmps24
  go_wp2_with fail
  refine (ratio_walk n h1 h2 _ (G.ext (by repeat (first | with_reducible exact Ext.refl _ | with_reducible assumption | with_reducible apply Ext.alloc | with_reducible apply Ext.drew | (with_reducible refine Ext.setCell ?_ (by (try simp) <;> omega) _))))).mono ?_
  rintro e w1 ⟨rfl, x1⟩
  obtain ⟨hc1, hf1⟩ := x1.rules
  have hz1_0 : w.heap.size < w1.heap.size := by have := x1.size; (try simp at this); omega
  obtain ⟨hl1_0, hl1_1, hl1_2, hl1_3⟩ : w.heap.size < w1.heap.size + 1 ∧ w.heap.size < w1.heap.size + 1 + 1 ∧ w.heap.size < w1.heap.size + 1 + 1 + 1 ∧ ¬ w.heap.size = w1.heap.size := by omega
  have X1 : Ext w w1 := Ext.trans (by repeat (first | with_reducible exact Ext.refl _ | with_reducible assumption | with_reducible apply Ext.alloc | with_reducible apply Ext.drew | (with_reducible refine Ext.setCell ?_ (by (try simp) <;> omega) _))) x1
  go_wp2_with fail
  refine (of_walk (harmV n) _).mono ?_
  rw [HO.out]
  rintro e w2 ⟨rfl, x2⟩
  obtain ⟨hc2, hf2⟩ := x2.rules
  have hz2_0 : w.heap.size < w2.heap.size := by have := x2.size; (try simp at this); omega
  obtain ⟨hl2_0, hl2_1, hl2_2, hl2_3⟩ : w.heap.size < w2.heap.size + 1 ∧ w.heap.size < w2.heap.size + 1 + 1 ∧ w.heap.size < w2.heap.size + 1 + 1 + 1 ∧ ¬ w.heap.size = w2.heap.size := by omega
  have X2 : Ext w w2 := Ext.trans (by repeat (first | with_reducible exact Ext.refl _ | with_reducible assumption | with_reducible apply Ext.alloc | with_reducible apply Ext.drew | (with_reducible refine Ext.setCell ?_ (by (try simp) <;> omega) _))) x2
  go_wp2_with fail
  refine (sof_walk ((harmV n).times 12) _ (G.ext (by repeat (first | with_reducible exact Ext.refl _ | with_reducible assumption | with_reducible apply Ext.alloc | with_reducible apply Ext.drew | (with_reducible refine Ext.setCell ?_ (by (try simp) <;> omega) _))))).mono ?_
  rw [HS.out]
  rintro e w3 ⟨rfl, x3⟩
  obtain ⟨hc3, hf3⟩ := x3.rules
  have hz3_0 : w.heap.size < w3.heap.size := by have := x3.size; (try simp at this); omega
  obtain ⟨hl3_0, hl3_1, hl3_2, hl3_3⟩ : w.heap.size < w3.heap.size + 1 ∧ w.heap.size < w3.heap.size + 1 + 1 ∧ w.heap.size < w3.heap.size + 1 + 1 + 1 ∧ ¬ w.heap.size = w3.heap.size := by omega
  have X3 : Ext w w3 := Ext.trans (by repeat (first | with_reducible exact Ext.refl _ | with_reducible assumption | with_reducible apply Ext.alloc | with_reducible apply Ext.drew | (with_reducible refine Ext.setCell ?_ (by (try simp) <;> omega) _))) x3
  go_wp2
  refine bodyPost_ret (v := .tuple #[.agg #[.int .i64 (expo ((harmV n).times 12)).lo, .int .i64 (expo ((harmV n).times 12)).hi], .bool true]) (by simp [results, Tryd.results24, go_sem, *]) rfl ⟨?_, (by repeat (first | with_reducible exact Ext.refl _ | with_reducible assumption | with_reducible apply Ext.alloc | with_reducible apply Ext.drew | (with_reducible refine Ext.setCell ?_ (by (try simp) <;> omega) _)))⟩
  rfl

/-- What the law asks of a row. -/
def canB (at' : Int) (r : Row) : Bool := decide (at' + (harmS r.h).lo ≤ r.hi) && decide (r.lo ≤ at' + (harmS r.h).hi)
theorem can_iff {l : List Row} {x : Int} (h1 : -100000000000000 ≤ x) (h2 : x ≤ 100000000000000) : l.all (canB x) = true ↔ (common (l.map rootS)).lo ≤ x ∧ x ≤ (common (l.map rootS)).hi := by
  rw [common_lo, common_hi]
  simp only [List.all_eq_true, List.mem_map, forall_exists_index, and_imp, forall_apply_eq_imp_iff₂, canB, Bool.and_eq_true, decide_eq_true_eq, rootS, subS]
  constructor
  · intro h
    exact ⟨⟨h1, fun r hr => by have := h r hr; omega⟩, h2, fun r hr => by have := h r hr; omega⟩
  · rintro ⟨⟨_, a⟩, _, b⟩ r hr
    have := a r hr; have := b r hr; omega

set_option maxHeartbeats 4000000 in
theorem truth_walk (v : Value) (l : List Row) (x : Int) (w : World) (G : Gv 0 1 w) (S : Sl w 3 encR v l) :
    Calls Tryd.prog 5 #[v, .int .i64 x] w fun e w' => e = .returned (.bool true) ∧ Ext w w' := by
  cases hr : rowsOk l with
  | false =>
    have HR := Lib.hid hr
    clear hr
    go_enter Tryd.func5, Tryd.ntmps5
    go_wp2_with fail
    refine (head_walk _ (G.ext (by repeat (first | with_reducible exact Ext.refl _ | with_reducible assumption | with_reducible apply Ext.alloc | with_reducible apply Ext.drew | (with_reducible refine Ext.setCell ?_ (by (try simp) <;> omega) _))))).mono ?_
    rintro e w1 ⟨rfl, x1⟩
    obtain ⟨hc1, hf1⟩ := x1.rules
    have X1 : Ext w w1 := Ext.trans (by repeat (first | with_reducible exact Ext.refl _ | with_reducible assumption | with_reducible apply Ext.alloc | with_reducible apply Ext.drew | (with_reducible refine Ext.setCell ?_ (by (try simp) <;> omega) _))) x1
    go_wp2_with fail
    refine (rvalid_walk v l _ (G.ext (by repeat (first | with_reducible exact Ext.refl _ | with_reducible assumption | with_reducible apply Ext.alloc | with_reducible apply Ext.drew | (with_reducible refine Ext.setCell ?_ (by (try simp) <;> omega) _)))) (S.ext (by repeat (first | with_reducible exact Ext.refl _ | with_reducible assumption | with_reducible apply Ext.alloc | with_reducible apply Ext.drew | (with_reducible refine Ext.setCell ?_ (by (try simp) <;> omega) _))))).mono ?_
    rw [HR.out]
    rintro e w2 ⟨rfl, x2⟩
    obtain ⟨hc2, hf2⟩ := x2.rules
    have X2 : Ext w w2 := Ext.trans (by repeat (first | with_reducible exact Ext.refl _ | with_reducible assumption | with_reducible apply Ext.alloc | with_reducible apply Ext.drew | (with_reducible refine Ext.setCell ?_ (by (try simp) <;> omega) _))) x2
    go_wp2
    go_ret
    exact ⟨rfl, (by repeat (first | with_reducible exact Ext.refl _ | with_reducible assumption | with_reducible apply Ext.alloc | with_reducible apply Ext.drew | (with_reducible refine Ext.setCell ?_ (by (try simp) <;> omega) _)))⟩
  | true =>
  have HR := Lib.hid hr
  by_cases h1 : -100000000000000 ≤ x
  · by_cases h2 : x ≤ 100000000000000
    · have HC := Lib.hid (can_iff (l := l) h1 h2)
      have HT : Hid (toneR l = commonR (l.map rootS)) := Lib.hid (by rw [toneR, if_pos hr])
      obtain ⟨t, ht⟩ : ∃ t, toneR l = t := ⟨_, rfl⟩
      have HTT := Lib.hid ht
      have hrow := Lib.hid (fun k (hk : k < l.length) => rowOk_iff.1 ((rowsOk_iff.1 hr).2 l[k] (List.getElem_mem _)))
      have he : t.2 = 0 ∨ t.2 = 23 := by
        rw [← ht, HT.out, commonR]; split
        · exact .inl rfl
        · exact .inr rfl
      have hb : ((t.2 != 0) && (t.2 != 23)) = false := by rcases he with h | h <;> rw [h] <;> decide
      have hK : l.all (canB x) = (decide (t.2 = 0) && decide (t.1.lo ≤ x) && decide (x ≤ t.1.hi)) := by
        have hc := HC.out
        have h2 := HT.out
        rw [ht, commonR] at h2
        rw [Bool.eq_iff_iff, hc]
        split at h2
        · rw [h2]; simp
        · rw [h2]; simp; omega
      have HK := Lib.hid hK
      clear hr ht hK
      obtain ⟨a?, cap, rfl, k1, k2, k3⟩ := S.len
      clear k1 k2
      have main : ∀ (W : World), Calls Tryd.prog 5 #[.slice a? l.length cap, .int .i64 x] w fun e w' => e = .returned (.bool true) ∧ Ext w w' := by
        intro _
        have hee : ∃ e2, t.2 = e2 := ⟨_, rfl⟩
        obtain ⟨e2, hee⟩ := hee
        have HE := Lib.hid hee
        rw [hee] at he hb
        rcases he with rfl | rfl
        all_goals
          clear hee hb
          go_enter Tryd.func5, Tryd.ntmps5
          go_wp2_with fail
          refine (head_walk _ (G.ext (by repeat (first | with_reducible exact Ext.refl _ | with_reducible assumption | with_reducible apply Ext.alloc | with_reducible apply Ext.drew | (with_reducible refine Ext.setCell ?_ (by (try simp) <;> omega) _))))).mono ?_
          rintro e w1 ⟨rfl, x1⟩
          obtain ⟨hc1, hf1⟩ := x1.rules
          have X1 : Ext w w1 := Ext.trans (by repeat (first | with_reducible exact Ext.refl _ | with_reducible assumption | with_reducible apply Ext.alloc | with_reducible apply Ext.drew | (with_reducible refine Ext.setCell ?_ (by (try simp) <;> omega) _))) x1
          go_wp2_with fail
          refine (rvalid_walk _ l _ (G.ext (by repeat (first | with_reducible exact Ext.refl _ | with_reducible assumption | with_reducible apply Ext.alloc | with_reducible apply Ext.drew | (with_reducible refine Ext.setCell ?_ (by (try simp) <;> omega) _)))) (S.ext (by repeat (first | with_reducible exact Ext.refl _ | with_reducible assumption | with_reducible apply Ext.alloc | with_reducible apply Ext.drew | (with_reducible refine Ext.setCell ?_ (by (try simp) <;> omega) _))))).mono ?_
          rw [HR.out]
          rintro e w2 ⟨rfl, x2⟩
          obtain ⟨hc2, hf2⟩ := x2.rules
          have X2 : Ext w w2 := Ext.trans (by repeat (first | with_reducible exact Ext.refl _ | with_reducible assumption | with_reducible apply Ext.alloc | with_reducible apply Ext.drew | (with_reducible refine Ext.setCell ?_ (by (try simp) <;> omega) _))) x2
          go_wp2_with fail
          refine (tone_walk _ l _ (G.ext (by repeat (first | with_reducible exact Ext.refl _ | with_reducible assumption | with_reducible apply Ext.alloc | with_reducible apply Ext.drew | (with_reducible refine Ext.setCell ?_ (by (try simp) <;> omega) _)))) (S.ext (by repeat (first | with_reducible exact Ext.refl _ | with_reducible assumption | with_reducible apply Ext.alloc | with_reducible apply Ext.drew | (with_reducible refine Ext.setCell ?_ (by (try simp) <;> omega) _))))).mono ?_
          rw [HTT.out, HE.out]
          rintro e w3 ⟨rfl, x3⟩
          obtain ⟨hc3, hf3⟩ := x3.rules
          have X3 : Ext w w3 := Ext.trans (by repeat (first | with_reducible exact Ext.refl _ | with_reducible assumption | with_reducible apply Ext.alloc | with_reducible apply Ext.drew | (with_reducible refine Ext.setCell ?_ (by (try simp) <;> omega) _))) x3
          go_wp2
          have e0 := alloc_cell w3 #[.int .i64 t.1.lo, .int .i64 t.1.hi] 26 0 (.int .i64 t.1.lo) rfl
          have e1 := alloc_cell w3 #[.int .i64 t.1.lo, .int .i64 t.1.hi] 26 1 (.int .i64 t.1.hi) rfl
          have XA := X3.alloc (.cells #[.int .i64 t.1.lo, .int .i64 t.1.hi] 26)
          obtain ⟨N, hN⟩ : ∃ N, w3.heap.size = N := ⟨_, rfl⟩
          rw [hN] at e0 e1 ⊢
          clear x3 hc3 hf3 x2 hc2 hf2 X2 x1 hc1 hf1 X1 hN
          go_loopw [9, 8] (fun i c wr => ∃ k : Nat, k ≤ l.length ∧ i = .int .i64 k ∧ c = .bool ((l.take k).all (canB x)) ∧ wr.cell? ⟨N, 0, none⟩ = some (.int .i64 t.1.lo) ∧ wr.cell? ⟨N, 1, none⟩ = some (.int .i64 t.1.hi) ∧ Ext w wr) (fun i _ _ => l.length - (intOf i).toNat)
          case atStart => exact ⟨0, by omega, rfl, rfl, e0, e1, XA⟩
          case round =>
            clear e0 e1 XA X3
            obtain ⟨k, hk, rfl, rfl, e0, e1, X⟩ := hrel
            by_cases hlt : k < l.length
            · obtain ⟨b, o, rfl, q0, q1, q2⟩ := Sl.row (S.ext X) k hlt
              obtain ⟨r1, r2, r3, r4, r5⟩ := hrow.out k hlt
              have hhb := harmS_bd r1 r2
              have hts : (l.take (k + 1)).all (canB x) = ((l.take k).all (canB x) && canB x l[k]) := by
                rw [List.take_succ_eq_append_getElem hlt, List.all_append]
                simp only [List.all_cons, List.all_nil, Bool.and_true]
              have HTS := Lib.hid hts; clear hts
              obtain ⟨r, hr⟩ : ∃ r, l[k] = r := ⟨_, rfl⟩
              have HRR := Lib.hid hr
              rw [hr] at q0 q1 q2 r1 r2 r3 r4 r5 hhb
              clear hr
              go_wp2_with fail
              refine (lharm_walk r.h r1 r2 _ (G.ext (by repeat (first | with_reducible exact Ext.refl _ | with_reducible assumption | with_reducible apply Ext.alloc | with_reducible apply Ext.drew | (with_reducible refine Ext.setCell ?_ (by (try simp) <;> omega) _))))).mono ?_
              rintro e w5 ⟨rfl, x5⟩
              have X5 := X.trans x5
              replace e0 := x5.cell e0
              replace e1 := x5.cell e1
              replace q0 := x5.cell q0
              replace q1 := x5.cell q1
              replace q2 := x5.cell q2
              have hb5 := lt_of_cell e0
              have hb6 := lt_of_cell q0
              simp only at hb5 hb6
              clear x5
              obtain ⟨hs, hh⟩ : ∃ hs, harmS r.h = hs := ⟨_, rfl⟩
              have HH := Lib.hid hh
              rw [hh] at hhb ⊢
              clear hh
              go_wp2
              have z0 := alloc_cell w5 #[.int .i64 hs.lo, .int .i64 hs.hi] 26 0 (.int .i64 hs.lo) rfl
              have z1 := alloc_cell w5 #[.int .i64 hs.lo, .int .i64 hs.hi] 26 1 (.int .i64 hs.hi) rfl
              have xa := Ext.alloc' w5 (.cells #[.int .i64 hs.lo, .int .i64 hs.hi] 26)
              have X6 := X5.trans xa
              replace e0 := xa.cell e0
              replace e1 := xa.cell e1
              replace q0 := xa.cell q0
              replace q1 := xa.cell q1
              replace q2 := xa.cell q2
              obtain ⟨M, hM⟩ : ∃ M, w5.heap.size = M := ⟨_, rfl⟩
              rw [hM] at z0 z1 ⊢
              obtain ⟨W, hW⟩ : ∃ W, w5.alloc (.cells #[.int .i64 hs.lo, .int .i64 hs.hi] 26) = W := ⟨_, rfl⟩
              rw [hW] at e0 e1 q0 q1 q2 z0 z1 X6 ⊢
              have hcan : canB x r = (decide (x + hs.lo ≤ r.hi) && decide (r.lo ≤ x + hs.hi)) := by rw [← HH.out]; rfl
              have HCAN := Lib.hid hcan
              clear hM hW xa X5 X hcan hb5 hb6 w5
              cases hc : (l.take k).all (canB x) with
              | false =>
                have HCC := Lib.hid hc; clear hc
                go_quiet (fail)
                go_wp2
                go_roundw
                case rel => exact ⟨k + 1, by omega, by go_num, by rw [HTS.out, HCC.out, HRR.out, HCAN.out]; simp, ((Ext.refl W).drewN _).cell e0, ((Ext.refl W).drewN _).cell e1, X6.drewN _⟩
                case measure => simp [intOf]; omega
              | true =>
                have HCC := Lib.hid hc; clear hc
                by_cases hd : x + hs.lo ≤ r.hi
                · go_quiet (fail)
                  go_wp2
                  go_roundw
                  case rel => exact ⟨k + 1, by omega, by go_num, by rw [HTS.out, HCC.out, HRR.out, HCAN.out]; simp [hd], ((Ext.refl W).drewN _).cell e0, ((Ext.refl W).drewN _).cell e1, X6.drewN _⟩
                  case measure => simp [intOf]; omega
                · go_quiet (fail)
                  go_wp2
                  go_roundw
                  case rel => exact ⟨k + 1, by omega, by go_num, by rw [HTS.out, HCC.out, HRR.out, HCAN.out]; simp [hd], ((Ext.refl W).drewN _).cell e0, ((Ext.refl W).drewN _).cell e1, X6.drewN _⟩
                  case measure => simp [intOf]; omega
            · obtain rfl : k = l.length := by omega
              have hkk := HK.out
              rw [HE.out] at hkk
              rw [List.take_length]
              have hbn := lt_of_cell e0
              by_cases p1 : t.1.lo ≤ x
              · by_cases p2 : x ≤ t.1.hi
                · rw [hkk]
                  simp only [p1, p2, decide_true, Bool.and_true]
                  clear hkk
                  go_wp2
                  go_ret
                  exact ⟨rfl, (by repeat (first | with_reducible exact Ext.refl _ | with_reducible assumption | with_reducible apply Ext.alloc | with_reducible apply Ext.drew | (with_reducible refine Ext.setCell ?_ (by (try simp) <;> omega) _)))⟩
                · rw [show l.all (canB x) = false by rw [hkk]; simp [p2]]
                  clear hkk
                  go_wp2
                  go_ret
                  exact ⟨rfl, (by repeat (first | with_reducible exact Ext.refl _ | with_reducible assumption | with_reducible apply Ext.alloc | with_reducible apply Ext.drew | (with_reducible refine Ext.setCell ?_ (by (try simp) <;> omega) _)))⟩
              · rw [show l.all (canB x) = false by rw [hkk]; simp [p1]]
                clear hkk
                go_wp2
                go_ret
                exact ⟨rfl, (by repeat (first | with_reducible exact Ext.refl _ | with_reducible assumption | with_reducible apply Ext.alloc | with_reducible apply Ext.drew | (with_reducible refine Ext.setCell ?_ (by (try simp) <;> omega) _)))⟩
      exact main w
    · go_enter Tryd.func5, Tryd.ntmps5
      go_wp2_with fail
      refine (head_walk _ (G.ext (by repeat (first | with_reducible exact Ext.refl _ | with_reducible assumption | with_reducible apply Ext.alloc | with_reducible apply Ext.drew | (with_reducible refine Ext.setCell ?_ (by (try simp) <;> omega) _))))).mono ?_
      rintro e w1 ⟨rfl, x1⟩
      obtain ⟨hc1, hf1⟩ := x1.rules
      have X1 : Ext w w1 := Ext.trans (by repeat (first | with_reducible exact Ext.refl _ | with_reducible assumption | with_reducible apply Ext.alloc | with_reducible apply Ext.drew | (with_reducible refine Ext.setCell ?_ (by (try simp) <;> omega) _))) x1
      go_wp2_with fail
      refine (rvalid_walk v l _ (G.ext (by repeat (first | with_reducible exact Ext.refl _ | with_reducible assumption | with_reducible apply Ext.alloc | with_reducible apply Ext.drew | (with_reducible refine Ext.setCell ?_ (by (try simp) <;> omega) _)))) (S.ext (by repeat (first | with_reducible exact Ext.refl _ | with_reducible assumption | with_reducible apply Ext.alloc | with_reducible apply Ext.drew | (with_reducible refine Ext.setCell ?_ (by (try simp) <;> omega) _))))).mono ?_
      rw [HR.out]
      rintro e w2 ⟨rfl, x2⟩
      obtain ⟨hc2, hf2⟩ := x2.rules
      have X2 : Ext w w2 := Ext.trans (by repeat (first | with_reducible exact Ext.refl _ | with_reducible assumption | with_reducible apply Ext.alloc | with_reducible apply Ext.drew | (with_reducible refine Ext.setCell ?_ (by (try simp) <;> omega) _))) x2
      go_wp2
      go_ret
      exact ⟨rfl, (by repeat (first | with_reducible exact Ext.refl _ | with_reducible assumption | with_reducible apply Ext.alloc | with_reducible apply Ext.drew | (with_reducible refine Ext.setCell ?_ (by (try simp) <;> omega) _)))⟩
  · go_enter Tryd.func5, Tryd.ntmps5
    go_wp2_with fail
    refine (head_walk _ (G.ext (by repeat (first | with_reducible exact Ext.refl _ | with_reducible assumption | with_reducible apply Ext.alloc | with_reducible apply Ext.drew | (with_reducible refine Ext.setCell ?_ (by (try simp) <;> omega) _))))).mono ?_
    rintro e w1 ⟨rfl, x1⟩
    obtain ⟨hc1, hf1⟩ := x1.rules
    have X1 : Ext w w1 := Ext.trans (by repeat (first | with_reducible exact Ext.refl _ | with_reducible assumption | with_reducible apply Ext.alloc | with_reducible apply Ext.drew | (with_reducible refine Ext.setCell ?_ (by (try simp) <;> omega) _))) x1
    go_wp2_with fail
    refine (rvalid_walk v l _ (G.ext (by repeat (first | with_reducible exact Ext.refl _ | with_reducible assumption | with_reducible apply Ext.alloc | with_reducible apply Ext.drew | (with_reducible refine Ext.setCell ?_ (by (try simp) <;> omega) _)))) (S.ext (by repeat (first | with_reducible exact Ext.refl _ | with_reducible assumption | with_reducible apply Ext.alloc | with_reducible apply Ext.drew | (with_reducible refine Ext.setCell ?_ (by (try simp) <;> omega) _))))).mono ?_
    rw [HR.out]
    rintro e w2 ⟨rfl, x2⟩
    obtain ⟨hc2, hf2⟩ := x2.rules
    have X2 : Ext w w2 := Ext.trans (by repeat (first | with_reducible exact Ext.refl _ | with_reducible assumption | with_reducible apply Ext.alloc | with_reducible apply Ext.drew | (with_reducible refine Ext.setCell ?_ (by (try simp) <;> omega) _))) x2
    go_wp2
    go_ret
    exact ⟨rfl, (by repeat (first | with_reducible exact Ext.refl _ | with_reducible assumption | with_reducible apply Ext.alloc | with_reducible apply Ext.drew | (with_reducible refine Ext.setCell ?_ (by (try simp) <;> omega) _)))⟩

theorem partialTruth_args (H : Type) (enc : TypeId × Value → H) (W : World) (base : Nat) (vs : List Value) (ds : List (DataW H)) (_ : ∀ k, (OpenSpec.ofChange Rows.partialTruthSpec).cond = some k → k H ds = true) (hL : laidMetH Tryd.prog Rows.partialTruthRow.laid W) (hA : Args enc Tryd.prog W base Tryd.f5.params.toList vs ds) :
    Calls Tryd.prog 5 vs.toArray W fun e W' => e = .returned (.bool true) ∧ Ext W W' := by
  rw [Tryd.params5] at hA
  obtain ⟨v0, _, d0, _, rfl, rfl, h0, hA⟩ := hA.cons
  obtain ⟨v1, _, d1, _, rfl, rfl, h1, hA⟩ := hA.cons
  obtain ⟨rfl, rfl⟩ := hA.nil
  obtain ⟨l, S, _, _⟩ := arg_rows h0
  obtain ⟨x, rfl, _⟩ := h1.int Tryd.underlying3
  exact truth_walk v0 l x W (gv_of hL) S

theorem partialTruth_met (os : Os) : laidMet Tryd.prog Rows.partialTruthRow.laid ((laidWorld os).forCall (fun _ _ => 0) ⟨#[], #[.slice none 0 0, .int .i64 0], []⟩).memory := laidMet_of_run' 8 (by kernel_rfl) (by kernel_rfl)
theorem partialTruth_reads (os : Os) {H : Type} (enc : TypeId × Value → H) : ∃ places, DataW.whole enc Tryd.prog ((laidWorld os).forCall (fun _ _ => 0) ⟨#[], #[.slice none 0 0, .int .i64 0], []⟩).memory Tryd.f5.params.toList Rows.partialTruthSpec.vars false #[.slice none 0 0, .int .i64 0].toList 8 = some ([.nil, .lit (.int .i64 0)], [], places) := ⟨[], by kernel_rfl⟩
set_option maxRecDepth 100000 in
theorem partialTruth_lifted (os : Os) (started : os.Started) (H : Type) (enc : TypeId × Value → H) (F : Stop.Interp) :
    ReturnsInHanded {} Tryd.checked os 5 .any ((OpenSpec.ofChange Rows.partialTruthSpec).preRow enc Tryd.prog Tryd.f5 Rows.partialTruthRow.domain false Rows.partialTruthRow.laid) (((OpenSpec.ofChange Rows.partialTruthSpec).at F).post enc Tryd.prog Tryd.f5 false true false false) := by
  obtain ⟨places, hx⟩ := partialTruth_reads os enc
  exact law_row (C := Tryd.checked) (s := (OpenSpec.ofChange Rows.partialTruthSpec)) (by kernel_rfl) started (by kernel_rfl) Tryd.func5
    (witness_row_at (enc := enc) (C := Tryd.checked) false (laidWorld os) #[.slice none 0 0, .int .i64 0] rfl (by kernel_rfl) (by kernel_rfl) (by kernel_rfl) (OpenSpec.preRow_of_cond 8 hx (by kernel_rfl) (fun k hk => by cases hk) (by kernel_rfl) (partialTruth_met os)))
    (by kernel_rfl) (by kernel_rfl) (by kernel_rfl) rfl (fun ds h => by match ds, h with | [_, _], _ => rfl) (partialTruth_args H enc)
theorem partialTruth_said : Rows.PartialTruthSaid :=
  OpenClaim.holds_of_cond 5 Tryd.f5 rfl rfl rfl rfl rfl rfl rfl ⟨rfl, rfl, rfl, rfl, rfl⟩ rfl rfl rfl rfl rfl (by kernel_rfl) Tryd.func5 (by kernel_rfl)
    (of_decide_eq_true (by kernel_rfl)) (by unfold Func.isWrapper; first | (rw [if_pos (by decide +kernel)]; kernel_rfl) | (rw [if_neg (by decide +kernel)]; exact ⟨rfl, rfl⟩))
    (fun os started H enc _ F => by rw [OpenClaim.pre_eq_preRow]; exact partialTruth_lifted os started H enc F)
theorem partialTruth_plain (f : FuncId) (fn : Func) (hf : Tryd.pinned.checked.prog.funcNamed "schisma/schismalaw37.PartialTruth" = some f) (hfn : Tryd.pinned.checked.prog.funcs[f]? = some fn) :
    false = Tryd.pinned.checked.prog.looks [] ∧ ∀ (j : Nat) t, fn.params[j]? = some t → Tryd.pinned.checked.prog.wantsStandIn t = false := by
  obtain rfl : f = 5 := Option.some.inj ((show Tryd.prog.funcNamed "schisma/schismalaw37.PartialTruth" = some 5 by kernel_rfl).symm.trans hf) |>.symm
  obtain rfl : fn = Tryd.f5 := (Option.some.inj (Tryd.func5.symm.trans hfn)).symm
  refine ⟨by kernel_rfl, fun j t ht => ?_⟩
  have hall : Tryd.f5.params.all (fun t => !Tryd.prog.wantsStandIn t) = true := by kernel_rfl
  have := (Array.all_eq_true'.1 hall) t (Array.mem_of_getElem? ht)
  have e : Tryd.prog.wantsStandIn t = false := by simpa using this
  exact e
/-- The card. -/
theorem partialTruth_holds : Rows.PartialTruthCardSaid :=
  Claim7.holds_tied_plain_at .later [] _ _ _ _ partialTruth_said (fun _ h => by cases h) (by kernel_rfl) (fun _ h => by cases h) partialTruth_row_tie rfl ⟨rfl, rfl⟩ (by kernel_rfl) rfl partialTruth_plain (by kernel_rfl)
end Go.Proofs.YthhkpgbfefakeaaDoor
