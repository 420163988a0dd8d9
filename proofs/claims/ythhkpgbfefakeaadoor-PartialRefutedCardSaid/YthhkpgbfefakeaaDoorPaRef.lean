/-
  Proved: 'PartialRefuted' returns true for every input and leaves its arguments as they were. No condition.
-/
import Derived.Test.YthhkpgbfefakeaaDoorPaL
import Derived.Test.YthhkpgbfefakeaaDoorPaRefM
import Derived.Deep.RegionHeld3
import Derived.Deep.DrawnRows
namespace Go.Proofs.YthhkpgbfefakeaaDoor
open Go.RowKit Go.Sx Go.Sx.Sz Go.ChangeShapes Go.WideShapes Go.ChangeAt
attribute [local go_sem ↓] Go.wp_at_zero Go.wp_at_succ

theorem pair_sl {w : World} {g : Nat} {r s : Row} (h : w.heap[g]? = some (.cells #[.int .i64 r.h, .int .i64 r.lo, .int .i64 r.hi, .int .i64 s.h, .int .i64 s.lo, .int .i64 s.hi] 23 (0, 0))) : Sl w 3 encR (.slice (some ⟨g, 0, none⟩) 2 2) [r, s] :=
  Bk.sl (sz := 3) ⟨_, h, rfl⟩ (fun _ _ => rfl) rfl (by simp)

set_option maxHeartbeats 4000000 in
theorem refuted_some (a? : Option Addr) (cap : Nat) (l : List Row) (i k : Nat) (w : World) (G : Gv 0 1 w) (S : Sl w 3 encR (.slice a? l.length cap) l) (hr : rowsOk l = true) (hf : refF (l.map rootS) 0 = some (i, k)) :
    Calls Tryd.prog 6 #[.slice a? l.length cap] w fun e w' => e = .returned (.bool true) ∧ Ext w w' := by
  obtain ⟨_, hik, hk0, hd, hno⟩ := (refF_spec (l.map rootS) 0 (roots_ok hr)).2 i k hf
  simp only [Nat.sub_zero, List.length_map, List.getElem_map] at hk0 hd hno
  have hlie := apart_lie (l := l.map rootS) (i := i) (k := k) (by simp; omega) (by simpa using hk0) (by simpa using hd)
  have hl16 := (rowsOk_iff.1 hr).1
  have HR := Lib.hid hr
  have HT : Hid (toneR l = (zeroS, 23)) := Lib.hid (by rw [toneR, if_pos hr, commonR, if_neg hlie])
  have HF : Hid (refuteR l = ((i : Int), (k : Int), 0)) := Lib.hid (by rw [refuteR, if_pos hr, hf]; rfl)
  have HN : Hid (∀ (a b : Nat) (hab : a < b) (hb : b < l.length), (a < i ∨ (a = i ∧ b < k)) → (toneR [l[a]'(by omega), l[b]]).2 = 0) := Lib.hid (fun a b hab hb hc => by
    rw [tone_two ((rowsOk_iff.1 hr).2 _ (List.getElem_mem _)) ((rowsOk_iff.1 hr).2 _ (List.getElem_mem _)), if_neg (by rw [hno a b hab hb hc]; decide)])
  have HD : Hid ((toneR [l[i]'(by omega), l[k]]).2 = 23) := Lib.hid (by
    rw [tone_two ((rowsOk_iff.1 hr).2 _ (List.getElem_mem _)) ((rowsOk_iff.1 hr).2 _ (List.getElem_mem _)), if_pos hd])
  clear hno hd hlie hr hf
  have d1 : decide ((i : Int) < 0) = false := decide_eq_false (by omega)
  have d2 : decide (k ≤ i) = false := decide_eq_false (by omega)
  have d3 : decide (l.length ≤ k) = false := decide_eq_false (by omega)
  go_enter Tryd.func6, Tryd.ntmps6
  go_wp2_with fail
  refine (head_walk _ (G.ext (by repeat (first | with_reducible exact Ext.refl _ | with_reducible assumption | with_reducible apply Ext.alloc | with_reducible apply Ext.drew | (with_reducible refine Ext.setCell ?_ (by (try simp) <;> omega) _))))).mono ?_
  rintro e w1 ⟨rfl, x1⟩
  obtain ⟨hc1, hf1⟩ := x1.rules
  have X1 : Ext w w1 := Ext.trans (by repeat (first | with_reducible exact Ext.refl _ | with_reducible assumption | with_reducible apply Ext.alloc | with_reducible apply Ext.drew | (with_reducible refine Ext.setCell ?_ (by (try simp) <;> omega) _))) x1
  go_wp2_with fail
  refine (rvalid_walk _ l _ (G.ext (by repeat (first | with_reducible exact Ext.refl _ | with_reducible assumption | with_reducible apply Ext.alloc | with_reducible apply Ext.drew | (with_reducible refine Ext.setCell ?_ (by (try simp) <;> omega) _)))) (S.ext (by repeat (first | with_reducible exact Ext.refl _ | with_reducible assumption | with_reducible apply Ext.alloc | with_reducible apply Ext.drew | (with_reducible refine Ext.setCell ?_ (by (try simp) <;> omega) _))))).mono ?_
  rw [HR.out]
  rintro e w2 ⟨rfl, x2⟩
  obtain ⟨hc2, hf2⟩ := x2.rules
  have X2 : Ext w w2 := Ext.trans (by repeat (first | with_reducible exact Ext.refl _ | with_reducible assumption | with_reducible apply Ext.alloc | with_reducible apply Ext.drew | (with_reducible refine Ext.setCell ?_ (by (try simp) <;> omega) _))) x2
  go_wp2_with fail
  refine (tone_walk _ l _ (G.ext (by repeat (first | with_reducible exact Ext.refl _ | with_reducible assumption | with_reducible apply Ext.alloc | with_reducible apply Ext.drew | (with_reducible refine Ext.setCell ?_ (by (try simp) <;> omega) _)))) (S.ext (by repeat (first | with_reducible exact Ext.refl _ | with_reducible assumption | with_reducible apply Ext.alloc | with_reducible apply Ext.drew | (with_reducible refine Ext.setCell ?_ (by (try simp) <;> omega) _))))).mono ?_
  rw [HT.out]
  rintro e w3 ⟨rfl, x3⟩
  obtain ⟨hc3, hf3⟩ := x3.rules
  have X3 : Ext w w3 := Ext.trans (by repeat (first | with_reducible exact Ext.refl _ | with_reducible assumption | with_reducible apply Ext.alloc | with_reducible apply Ext.drew | (with_reducible refine Ext.setCell ?_ (by (try simp) <;> omega) _))) x3
  go_wp2_with fail
  refine (refute_walk _ l _ (G.ext (by repeat (first | with_reducible exact Ext.refl _ | with_reducible assumption | with_reducible apply Ext.alloc | with_reducible apply Ext.drew | (with_reducible refine Ext.setCell ?_ (by (try simp) <;> omega) _)))) (S.ext (by repeat (first | with_reducible exact Ext.refl _ | with_reducible assumption | with_reducible apply Ext.alloc | with_reducible apply Ext.drew | (with_reducible refine Ext.setCell ?_ (by (try simp) <;> omega) _))))).mono ?_
  rw [HF.out]
  rintro e w4 ⟨rfl, x4⟩
  obtain ⟨hc4, hf4⟩ := x4.rules
  have X4 : Ext w w4 := Ext.trans (by repeat (first | with_reducible exact Ext.refl _ | with_reducible assumption | with_reducible apply Ext.alloc | with_reducible apply Ext.drew | (with_reducible refine Ext.setCell ?_ (by (try simp) <;> omega) _))) x4
  clear x1 x2 x3 x4 hc1 hf1 hc2 hf2 hc3 hf3 hc4 hf4
  go_wp2
  go_loopw [9] (fun v wr => ∃ a : Nat, a ≤ i ∧ v = .int .i64 a ∧ Ext w wr) (fun v _ => i + 1 - (intOf v).toNat)
  case atStart => exact ⟨0, by omega, rfl, X4⟩
  case round =>
    clear X1 X2 X3 X4
    obtain ⟨a, ha, rfl, X⟩ := hrel
    obtain ⟨wo, rfl⟩ : ∃ wo : World, wo = wr := ⟨_, rfl⟩
    go_wp2
    go_loopw [10] (fun v wr => ∃ b : Nat, a < b ∧ b ≤ l.length ∧ (a = i → b ≤ k) ∧ v = .int .i64 b ∧ Ext w wr) (fun v _ => l.length - (intOf v).toNat)
    case atStart => exact ⟨a + 1, by omega, by omega, by omega, by go_num, X⟩
    case round =>
      clear X wo
      obtain ⟨b, hab, hbl, hbk, rfl, X⟩ := hrel
      by_cases hlt : b < l.length
      · obtain ⟨b0, o, rfl, q0, q1, q2⟩ := Sl.row (S.ext X) a (by omega)
        obtain ⟨b1, o1, e1, p0, p1, p2⟩ := Sl.row (S.ext X) b hlt
        cases e1
        have hn := Lib.hid (HN.out a b hab hlt)
        obtain ⟨ra, hra⟩ : ∃ r, l[a] = r := ⟨_, rfl⟩
        obtain ⟨rb, hrb⟩ : ∃ r, l[b] = r := ⟨_, rfl⟩
        have HA := Lib.hid hra; have HB := Lib.hid hrb
        rw [hra] at q0 q1 q2
        rw [hrb] at p0 p1 p2
        clear hra hrb
        have z0 := lt_of_cell q0
        have hws : w.heap.size ≤ wr.heap.size := X.size
        simp only at z0
        have z1 : ¬ b0 = wr.heap.size := by omega
        have z2 : ¬ b0 = wr.heap.size + 1 := by omega
        have z4 : ¬ wr.heap.size = b0 := by omega
        have z5 : ¬ wr.heap.size + 1 = b0 := by omega
        have z6 : ¬ wr.heap.size + 1 + 1 = b0 := by omega
        have z3 : ¬ b0 = wr.heap.size + 1 + 1 := by omega
        have i1 : (0 : Int) ≤ (a : Int) := by omega
        have i2 : (a : Int) < (l.length : Int) := by omega
        have i3 : (0 : Int) ≤ (b : Int) := by omega
        have i4 : (b : Int) < (l.length : Int) := by omega
        obtain ⟨tv, htv⟩ : ∃ tv, toneR [ra, rb] = tv := ⟨_, rfl⟩
        have HTV := Lib.hid htv
        clear htv
        by_cases hend : a = i ∧ b = k
        · obtain ⟨rfl, rfl⟩ := hend
          have t23 : tv.2 = 23 := by have := HD.out; rw [HA.out, HB.out, HTV.out] at this; exact this
          clear hn
          go_wp2
          go_region_held3 (fun w' => w'.cell? ⟨b0, o + a * 3, none⟩ = some (.int .i64 ra.h) ∧ w'.cell? ⟨b0, o + a * 3 + 1, none⟩ = some (.int .i64 ra.lo) ∧ w'.cell? ⟨b0, o + a * 3 + 2, none⟩ = some (.int .i64 ra.hi) ∧ w'.cell? ⟨b0, o + b * 3, none⟩ = some (.int .i64 rb.h) ∧ w'.cell? ⟨b0, o + b * 3 + 1, none⟩ = some (.int .i64 rb.lo) ∧ w'.cell? ⟨b0, o + b * 3 + 2, none⟩ = some (.int .i64 rb.hi)) (go_keep)
            ((go_at_call 16; refine (tone_walk _ [ra, rb] _ (G.ext (by repeat (first | with_reducible exact Ext.refl _ | with_reducible assumption | with_reducible apply Ext.alloc | with_reducible apply Ext.drew | (with_reducible refine Ext.setCell ?_ (by (try simp) <;> omega) _)))) (pair_sl (by first | exact block_new _ _ | exact block_alloc (block_new _ _) _ | exact block_at (by simp) _))).mono ?_; rw [HTV.out]; rintro e w6 ⟨rfl, x6⟩; have y6 : Ext wr w6 := Ext.trans (by repeat (first | with_reducible exact Ext.refl _ | with_reducible assumption | with_reducible apply Ext.alloc | with_reducible apply Ext.drew | (with_reducible refine Ext.setCell ?_ (by (try simp) <;> omega) _))) x6; obtain ⟨hc6, hf6⟩ := x6.rules; have z60 : wr.heap.size < w6.heap.size := Nat.lt_of_lt_of_le (by (try simp) <;> omega) x6.size; have z61 : ¬ b0 = w6.heap.size := (by omega); have z62 : ¬ w6.heap.size = b0 := (by omega); have X6 := X.trans y6; have q0 := y6.cell q0; have q1 := y6.cell q1; have q2 := y6.cell q2; have p0 := y6.cell p0; have p1 := y6.cell p1; have p2 := y6.cell p2))
          all_goals go_wp2
          all_goals go_ret
          all_goals exact ⟨rfl, (by repeat (first | with_reducible exact Ext.refl _ | with_reducible assumption | with_reducible apply Ext.alloc | with_reducible apply Ext.drew | (with_reducible refine Ext.setCell ?_ (by (try simp) <;> omega) _)))⟩
        · have t0 : tv.2 = 0 := by have := hn.out (by omega); rw [HA.out, HB.out, HTV.out] at this; exact this
          clear hn
          go_wp2
          go_region_held3 (fun w' => w'.cell? ⟨b0, o + a * 3, none⟩ = some (.int .i64 ra.h) ∧ w'.cell? ⟨b0, o + a * 3 + 1, none⟩ = some (.int .i64 ra.lo) ∧ w'.cell? ⟨b0, o + a * 3 + 2, none⟩ = some (.int .i64 ra.hi) ∧ w'.cell? ⟨b0, o + b * 3, none⟩ = some (.int .i64 rb.h) ∧ w'.cell? ⟨b0, o + b * 3 + 1, none⟩ = some (.int .i64 rb.lo) ∧ w'.cell? ⟨b0, o + b * 3 + 2, none⟩ = some (.int .i64 rb.hi)) (go_keep)
            ((go_at_call 16; refine (tone_walk _ [ra, rb] _ (G.ext (by repeat (first | with_reducible exact Ext.refl _ | with_reducible assumption | with_reducible apply Ext.alloc | with_reducible apply Ext.drew | (with_reducible refine Ext.setCell ?_ (by (try simp) <;> omega) _)))) (pair_sl (by first | exact block_new _ _ | exact block_alloc (block_new _ _) _ | exact block_at (by simp) _))).mono ?_; rw [HTV.out]; rintro e w6 ⟨rfl, x6⟩; have y6 : Ext wr w6 := Ext.trans (by repeat (first | with_reducible exact Ext.refl _ | with_reducible assumption | with_reducible apply Ext.alloc | with_reducible apply Ext.drew | (with_reducible refine Ext.setCell ?_ (by (try simp) <;> omega) _))) x6; obtain ⟨hc6, hf6⟩ := x6.rules; have z60 : wr.heap.size < w6.heap.size := Nat.lt_of_lt_of_le (by (try simp) <;> omega) x6.size; have z61 : ¬ b0 = w6.heap.size := (by omega); have z62 : ¬ w6.heap.size = b0 := (by omega); have X6 := X.trans y6; have q0 := y6.cell q0; have q1 := y6.cell q1; have q2 := y6.cell q2; have p0 := y6.cell p0; have p1 := y6.cell p1; have p2 := y6.cell p2))
          all_goals
            by_cases h : a = i
            · have g1 : ((a : Int) == (i : Int)) = true := by simp; omega
              have g2 : ((b : Int) == (k : Int)) = false := by simp; omega
              go_wp2
              go_roundw
              case rel => exact ⟨b + 1, by omega, by omega, by omega, by go_num, (by repeat (first | with_reducible exact Ext.refl _ | with_reducible assumption | with_reducible apply Ext.alloc | with_reducible apply Ext.drew | (with_reducible refine Ext.setCell ?_ (by (try simp) <;> omega) _)))⟩
              case measure => simp [intOf]; omega
            · have g1 : ((a : Int) == (i : Int)) = false := by simp; omega
              go_wp2
              go_roundw
              case rel => exact ⟨b + 1, by omega, by omega, by omega, by go_num, (by repeat (first | with_reducible exact Ext.refl _ | with_reducible assumption | with_reducible apply Ext.alloc | with_reducible apply Ext.drew | (with_reducible refine Ext.setCell ?_ (by (try simp) <;> omega) _)))⟩
              case measure => simp [intOf]; omega
      · obtain rfl : b = l.length := by omega
        have hai : a < i := by omega
        go_wp2
        go_roundw
        case rel => exact ⟨a + 1, by omega, by go_num, X⟩
        case measure => simp [intOf]; omega

set_option maxHeartbeats 2000000 in
theorem refuted_walk (v : Value) (l : List Row) (w : World) (G : Gv 0 1 w) (S : Sl w 3 encR v l) :
    Calls Tryd.prog 6 #[v] w fun e w' => e = .returned (.bool true) ∧ Ext w w' := by
  cases hr : rowsOk l with
  | false =>
    have HR := Lib.hid hr
    clear hr
    go_enter Tryd.func6, Tryd.ntmps6
    go_wp2_with fail
    refine (head_walk _ (G.ext (by repeat (first | with_reducible exact Ext.refl _ | with_reducible assumption | with_reducible apply Ext.alloc | with_reducible apply Ext.drew | (with_reducible refine Ext.setCell ?_ (by (try simp) <;> omega) _))))).mono ?_
    rintro e w1 ⟨rfl, x1⟩
    obtain ⟨hc1, hf1⟩ := x1.rules
    have X1 : Ext w w1 := Ext.trans (by repeat (first | with_reducible exact Ext.refl _ | with_reducible assumption | with_reducible apply Ext.alloc | with_reducible apply Ext.drew | (with_reducible refine Ext.setCell ?_ (by (try simp) <;> omega) _))) x1
    go_wp2_with fail
    refine (rvalid_walk v l _ (G.ext (by repeat (first | with_reducible exact Ext.refl _ | with_reducible assumption | with_reducible apply Ext.alloc | with_reducible apply Ext.drew | (with_reducible refine Ext.setCell ?_ (by (try simp) <;> omega) _)))) (S.ext (by repeat (first | with_reducible exact Ext.refl _ | with_reducible assumption | with_reducible apply Ext.alloc | with_reducible apply Ext.drew | (with_reducible refine Ext.setCell ?_ (by (try simp) <;> omega) _))))).mono ?_
    rw [HR.out]
    rintro e w2 ⟨rfl, x2⟩
    obtain ⟨hc2, hf2⟩ := x2.rules
    have X2 : Ext w w2 := Ext.trans (by repeat (first | with_reducible exact Ext.refl _ | with_reducible assumption | with_reducible apply Ext.alloc | with_reducible apply Ext.drew | (with_reducible refine Ext.setCell ?_ (by (try simp) <;> omega) _))) x2
    go_wp2
    go_ret
    exact ⟨rfl, (by repeat (first | with_reducible exact Ext.refl _ | with_reducible assumption | with_reducible apply Ext.alloc | with_reducible apply Ext.drew | (with_reducible refine Ext.setCell ?_ (by (try simp) <;> omega) _)))⟩
  | true =>
    cases hf : refF (l.map rootS) 0 with
    | some p =>
      obtain ⟨i, k⟩ := p
      obtain ⟨a?, cap, rfl, k1, k2, k3⟩ := S.len
      exact refuted_some a? cap l i k w G S hr hf
    | none =>
      have hall := (refF_spec (l.map rootS) 0 (roots_ok hr)).1 hf
      have hne := helly (roots_ok hr) hall
      have HR := Lib.hid hr
      have HT : Hid (toneR l = (common (l.map rootS), 0)) := Lib.hid (by rw [toneR, if_pos hr, commonR, if_pos hne])
      have HF : Hid (refuteR l = (0, 0, 4)) := Lib.hid (by rw [refuteR, if_pos hr, hf]; rfl)
      clear hr hf hall hne
      go_enter Tryd.func6, Tryd.ntmps6
      go_wp2_with fail
      refine (head_walk _ (G.ext (by repeat (first | with_reducible exact Ext.refl _ | with_reducible assumption | with_reducible apply Ext.alloc | with_reducible apply Ext.drew | (with_reducible refine Ext.setCell ?_ (by (try simp) <;> omega) _))))).mono ?_
      rintro e w1 ⟨rfl, x1⟩
      obtain ⟨hc1, hf1⟩ := x1.rules
      have X1 : Ext w w1 := Ext.trans (by repeat (first | with_reducible exact Ext.refl _ | with_reducible assumption | with_reducible apply Ext.alloc | with_reducible apply Ext.drew | (with_reducible refine Ext.setCell ?_ (by (try simp) <;> omega) _))) x1
      go_wp2_with fail
      refine (rvalid_walk v l _ (G.ext (by repeat (first | with_reducible exact Ext.refl _ | with_reducible assumption | with_reducible apply Ext.alloc | with_reducible apply Ext.drew | (with_reducible refine Ext.setCell ?_ (by (try simp) <;> omega) _)))) (S.ext (by repeat (first | with_reducible exact Ext.refl _ | with_reducible assumption | with_reducible apply Ext.alloc | with_reducible apply Ext.drew | (with_reducible refine Ext.setCell ?_ (by (try simp) <;> omega) _))))).mono ?_
      rw [HR.out]
      rintro e w2 ⟨rfl, x2⟩
      obtain ⟨hc2, hf2⟩ := x2.rules
      have X2 : Ext w w2 := Ext.trans (by repeat (first | with_reducible exact Ext.refl _ | with_reducible assumption | with_reducible apply Ext.alloc | with_reducible apply Ext.drew | (with_reducible refine Ext.setCell ?_ (by (try simp) <;> omega) _))) x2
      go_wp2_with fail
      refine (tone_walk v l _ (G.ext (by repeat (first | with_reducible exact Ext.refl _ | with_reducible assumption | with_reducible apply Ext.alloc | with_reducible apply Ext.drew | (with_reducible refine Ext.setCell ?_ (by (try simp) <;> omega) _)))) (S.ext (by repeat (first | with_reducible exact Ext.refl _ | with_reducible assumption | with_reducible apply Ext.alloc | with_reducible apply Ext.drew | (with_reducible refine Ext.setCell ?_ (by (try simp) <;> omega) _))))).mono ?_
      rw [HT.out]
      rintro e w3 ⟨rfl, x3⟩
      obtain ⟨hc3, hf3⟩ := x3.rules
      have X3 : Ext w w3 := Ext.trans (by repeat (first | with_reducible exact Ext.refl _ | with_reducible assumption | with_reducible apply Ext.alloc | with_reducible apply Ext.drew | (with_reducible refine Ext.setCell ?_ (by (try simp) <;> omega) _))) x3
      go_wp2_with fail
      refine (refute_walk v l _ (G.ext (by repeat (first | with_reducible exact Ext.refl _ | with_reducible assumption | with_reducible apply Ext.alloc | with_reducible apply Ext.drew | (with_reducible refine Ext.setCell ?_ (by (try simp) <;> omega) _)))) (S.ext (by repeat (first | with_reducible exact Ext.refl _ | with_reducible assumption | with_reducible apply Ext.alloc | with_reducible apply Ext.drew | (with_reducible refine Ext.setCell ?_ (by (try simp) <;> omega) _))))).mono ?_
      rw [HF.out]
      rintro e w4 ⟨rfl, x4⟩
      obtain ⟨hc4, hf4⟩ := x4.rules
      have X4 : Ext w w4 := Ext.trans (by repeat (first | with_reducible exact Ext.refl _ | with_reducible assumption | with_reducible apply Ext.alloc | with_reducible apply Ext.drew | (with_reducible refine Ext.setCell ?_ (by (try simp) <;> omega) _))) x4
      go_wp2
      go_ret
      exact ⟨rfl, (by repeat (first | with_reducible exact Ext.refl _ | with_reducible assumption | with_reducible apply Ext.alloc | with_reducible apply Ext.drew | (with_reducible refine Ext.setCell ?_ (by (try simp) <;> omega) _)))⟩

theorem partialRefuted_args (H : Type) (enc : TypeId × Value → H) (W : World) (base : Nat) (vs : List Value) (ds : List (DataW H)) (_ : ∀ k, (OpenSpec.ofChange Rows.partialRefutedSpec).cond = some k → k H ds = true) (hL : laidMetH Tryd.prog Rows.partialRefutedRow.laid W) (hA : Args enc Tryd.prog W base Tryd.f6.params.toList vs ds) :
    Calls Tryd.prog 6 vs.toArray W fun e W' => e = .returned (.bool true) ∧ Ext W W' := by
  rw [Tryd.params6] at hA
  obtain ⟨v0, _, d0, _, rfl, rfl, h0, hA⟩ := hA.cons
  obtain ⟨rfl, rfl⟩ := hA.nil
  obtain ⟨l, S, _, _⟩ := arg_rows h0
  exact refuted_walk v0 l W (gv_of hL) S

theorem partialRefuted_met (os : Os) : laidMet Tryd.prog Rows.partialRefutedRow.laid ((laidWorld os).forCall (fun _ _ => 0) ⟨#[], #[.slice none 0 0], []⟩).memory := laidMet_of_run' 8 (by kernel_rfl) (by kernel_rfl)
theorem partialRefuted_reads (os : Os) {H : Type} (enc : TypeId × Value → H) : ∃ places, DataW.whole enc Tryd.prog ((laidWorld os).forCall (fun _ _ => 0) ⟨#[], #[.slice none 0 0], []⟩).memory Tryd.f6.params.toList Rows.partialRefutedSpec.vars false #[.slice none 0 0].toList 8 = some ([.nil], [], places) := ⟨[], by kernel_rfl⟩
set_option maxRecDepth 100000 in
theorem partialRefuted_lifted (os : Os) (started : os.Started) (H : Type) (enc : TypeId × Value → H) (F : Stop.Interp) :
    ReturnsInHanded {} Tryd.checked os 6 .any ((OpenSpec.ofChange Rows.partialRefutedSpec).preRow enc Tryd.prog Tryd.f6 Rows.partialRefutedRow.domain false Rows.partialRefutedRow.laid) (((OpenSpec.ofChange Rows.partialRefutedSpec).at F).post enc Tryd.prog Tryd.f6 false true false false) := by
  obtain ⟨places, hx⟩ := partialRefuted_reads os enc
  exact law_row (C := Tryd.checked) (s := (OpenSpec.ofChange Rows.partialRefutedSpec)) (by kernel_rfl) started (by kernel_rfl) Tryd.func6
    (witness_row_at (enc := enc) (C := Tryd.checked) false (laidWorld os) #[.slice none 0 0] rfl (by kernel_rfl) (by kernel_rfl) (by kernel_rfl) (OpenSpec.preRow_of_cond 8 hx (by kernel_rfl) (fun k hk => by cases hk) (by kernel_rfl) (partialRefuted_met os)))
    (by kernel_rfl) (by kernel_rfl) (by kernel_rfl) rfl (fun ds h => by match ds, h with | [_], _ => rfl) (partialRefuted_args H enc)
theorem partialRefuted_said : Rows.PartialRefutedSaid :=
  OpenClaim.holds_of_cond 6 Tryd.f6 rfl rfl rfl rfl rfl rfl rfl ⟨rfl, rfl, rfl, rfl, rfl⟩ rfl rfl rfl rfl rfl (by kernel_rfl) Tryd.func6 (by kernel_rfl)
    (of_decide_eq_true (by kernel_rfl)) (by unfold Func.isWrapper; first | (rw [if_pos (by decide +kernel)]; kernel_rfl) | (rw [if_neg (by decide +kernel)]; exact ⟨rfl, rfl⟩))
    (fun os started H enc _ F => by rw [OpenClaim.pre_eq_preRow]; exact partialRefuted_lifted os started H enc F)
theorem partialRefuted_plain (f : FuncId) (fn : Func) (hf : Tryd.pinned.checked.prog.funcNamed "schisma/schismalaw37.PartialRefuted" = some f) (hfn : Tryd.pinned.checked.prog.funcs[f]? = some fn) :
    false = Tryd.pinned.checked.prog.looks [] ∧ ∀ (j : Nat) t, fn.params[j]? = some t → Tryd.pinned.checked.prog.wantsStandIn t = false := by
  obtain rfl : f = 6 := Option.some.inj ((show Tryd.prog.funcNamed "schisma/schismalaw37.PartialRefuted" = some 6 by kernel_rfl).symm.trans hf) |>.symm
  obtain rfl : fn = Tryd.f6 := (Option.some.inj (Tryd.func6.symm.trans hfn)).symm
  refine ⟨by kernel_rfl, fun j t ht => ?_⟩
  have hall : Tryd.f6.params.all (fun t => !Tryd.prog.wantsStandIn t) = true := by kernel_rfl
  have := (Array.all_eq_true'.1 hall) t (Array.mem_of_getElem? ht)
  have e : Tryd.prog.wantsStandIn t = false := by simpa using this
  exact e
/-- The card. -/
theorem partialRefuted_holds : Rows.PartialRefutedCardSaid :=
  Claim7.holds_tied_plain_at .later [] _ _ _ _ partialRefuted_said (fun _ h => by cases h) (by kernel_rfl) (fun _ h => by cases h) partialRefuted_row_tie rfl ⟨rfl, rfl⟩ (by kernel_rfl) rfl partialRefuted_plain (by kernel_rfl)
end Go.Proofs.YthhkpgbfefakeaaDoor
