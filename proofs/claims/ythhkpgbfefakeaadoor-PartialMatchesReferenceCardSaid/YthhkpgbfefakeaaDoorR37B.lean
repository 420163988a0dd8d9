/-
  Walks of the reference: schismaref37.Refute, Fits, Predict.
-/
import Derived.Test.YthhkpgbfefakeaaDoorR37A
import Derived.Test.YthhkpgbfefakeaaDoorPaRefM
import Derived.Test.YthhkpgbfefakeaaDoorPaF
import Derived.Test.YthhkpgbfefakeaaDoorDy
set_option linter.unusedVariables false
namespace Go.Proofs.YthhkpgbfefakeaaDoor
open Go.RowKit Go.Sx Go.Sx.Sz

theorem disj_iff' {a b : S2} : disj a b = true ↔ a.hi < b.lo ∨ b.hi < a.lo := by simp [disj]

set_option maxHeartbeats 4000000 in
theorem rrefute_some (a? : Option Addr) (cap : Nat) (l : List Row) (i k : Nat) (w : World) (S : Sl w 3 encR (.slice a? l.length cap) l) (hr : rowsOk l = true) (hf : refF (l.map rootS) 0 = some (i, k)) :
    Calls Tryd.prog 21 #[.slice a? l.length cap] w fun e w' => e = .returned (.tuple #[.int .i64 (refuteR l).1, .int .i64 (refuteR l).2.1, .int .i64 (refuteR l).2.2]) ∧ Ext w w' := by
  obtain ⟨_, hik, hk0, hd, hno⟩ := (refF_spec (l.map rootS) 0 (roots_ok hr)).2 i k hf
  simp only [Nat.sub_zero, List.length_map, List.getElem_map] at hk0 hd hno
  have hl16 := (rowsOk_iff.1 hr).1
  have HR := Lib.hid hr
  have HF : Hid (refuteR l = ((i : Int), (k : Int), 0)) := Lib.hid (by rw [refuteR, if_pos hr, hf]; rfl)
  have HN : Hid (∀ (a b : Nat) (hab : a < b) (hb : b < l.length), ((a < i ∨ (a = i ∧ b < k)) → disj (rootS (l[a]'(by omega))) (rootS l[b]) = false) ∧ (a = i → b = k → disj (rootS (l[a]'(by omega))) (rootS l[b]) = true)) := Lib.hid (fun a b hab hb => ⟨fun hc => hno a b hab hb hc, fun ha hb' => by subst ha; subst hb'; exact hd⟩)
  have HRT := Lib.hid (fun k (hk : k < l.length) => show rootR l[k] = (rootS l[k], 0) by rw [rootR, if_pos ((rowsOk_iff.1 hr).2 _ (List.getElem_mem _))])
  clear hno hd hr hf
  go_enter Tryd.func21, Tryd.ntmps21
  go_wp2_with fail
  refine (rrvalid_walk _ l _ (S.ext (by repeat (first | with_reducible exact Ext.refl _ | with_reducible assumption | with_reducible apply Ext.alloc | with_reducible apply Ext.drew | (with_reducible refine Ext.setCell ?_ (by (try simp) <;> omega) _))))).mono ?_
  rw [HR.out]
  rintro e w1 ⟨rfl, x1⟩
  obtain ⟨hc1, hf1⟩ := x1.rules
  have X1 : Ext w w1 := Ext.trans (by repeat (first | with_reducible exact Ext.refl _ | with_reducible assumption | with_reducible apply Ext.alloc | with_reducible apply Ext.drew | (with_reducible refine Ext.setCell ?_ (by (try simp) <;> omega) _))) x1
  clear x1 hc1 hf1
  go_wp2
  go_loopw [5] (fun v wr => ∃ a : Nat, a ≤ i ∧ v = .int .i64 a ∧ Ext w wr) (fun v _ => i + 1 - (intOf v).toNat)
  case atStart => exact ⟨0, by omega, rfl, X1⟩
  case round =>
    clear X1
    obtain ⟨a, ha, rfl, X⟩ := hrel
    obtain ⟨wo, rfl⟩ : ∃ wo : World, wo = wr := ⟨_, rfl⟩
    have hal : (a : Int) < (l.length : Int) := by omega
    go_wp2
    go_loopw [6] (fun v wr => ∃ b : Nat, a < b ∧ b ≤ l.length ∧ (a = i → b ≤ k) ∧ v = .int .i64 b ∧ Ext w wr) (fun v _ => l.length - (intOf v).toNat)
    case atStart => exact ⟨a + 1, by omega, by omega, by omega, by go_num, X⟩
    case round =>
      clear X wo
      obtain ⟨b, hab, hbl, hbk, rfl, X⟩ := hrel
      by_cases hlt : b < l.length
      · obtain ⟨b0, o, rfl, q0, q1, q2⟩ := Sl.row (S.ext X) a (by omega)
        obtain ⟨b1, o1, e1, p0, p1, p2⟩ := Sl.row (S.ext X) b hlt
        cases e1
        have HRA := Lib.hid (HRT.out a (by omega))
        have HRB := Lib.hid (HRT.out b hlt)
        have hdj := HN.out a b hab hlt
        obtain ⟨ra, hra⟩ : ∃ r, l[a] = r := ⟨_, rfl⟩
        obtain ⟨rb, hrb⟩ : ∃ r, l[b] = r := ⟨_, rfl⟩
        rw [hra] at q0 q1 q2 HRA hdj
        rw [hrb] at p0 p1 p2 HRB hdj
        obtain ⟨sa, hsa⟩ : ∃ s, rootS ra = s := ⟨_, rfl⟩
        obtain ⟨sb, hsb⟩ : ∃ s, rootS rb = s := ⟨_, rfl⟩
        rw [hsa] at HRA hdj
        rw [hsb] at HRB hdj
        clear hra hrb hsa hsb
        go_wp2_with fail
        refine (rroot_walk ra _).mono ?_
        rw [HRA.out]
        rintro e w6 ⟨rfl, x6⟩
        replace p0 := x6.cell p0
        replace p1 := x6.cell p1
        replace p2 := x6.cell p2
        have X6 := X.trans x6
        have z0 := lt_of_cell p0
        simp only at z0
        clear x6
        go_wp2_with fail
        refine (rroot_walk rb _).mono ?_
        rw [HRB.out]
        rintro e w7 ⟨rfl, x7⟩
        have k0 := x7.cell (alloc_cell w6 _ 26 0 _ rfl)
        have k1 := x7.cell (alloc_cell w6 _ 26 1 _ rfl)
        have X7 : Ext w w7 := Ext.trans (by repeat (first | with_reducible exact Ext.refl _ | with_reducible assumption | with_reducible apply Ext.alloc | with_reducible apply Ext.drew | (with_reducible refine Ext.setCell ?_ (by (try simp) <;> omega) _))) x7
        have z1 := lt_of_cell k0
        simp only at z1
        clear x7 X6 X
        by_cases hend : a = i ∧ b = k
        · obtain ⟨rfl, rfl⟩ := hend
          have hd := disj_iff'.1 (hdj.2 rfl rfl)
          clear hdj
          by_cases h1 : sa.hi < sb.lo
          · go_wp2
            go_ret3
            exact ⟨by rw [HF.out] <;> rfl, (by repeat (first | with_reducible exact Ext.refl _ | with_reducible assumption | with_reducible apply Ext.alloc | with_reducible apply Ext.drew | (with_reducible refine Ext.setCell ?_ (by (try simp) <;> omega) _)))⟩
          · have h2 : sb.hi < sa.lo := by omega
            go_wp2
            go_ret3
            exact ⟨by rw [HF.out] <;> rfl, (by repeat (first | with_reducible exact Ext.refl _ | with_reducible assumption | with_reducible apply Ext.alloc | with_reducible apply Ext.drew | (with_reducible refine Ext.setCell ?_ (by (try simp) <;> omega) _)))⟩
        · have hd := hdj.1 (by omega)
          have hd1 : ¬ sa.hi < sb.lo := fun h => by rw [disj_iff'.2 (.inl h)] at hd; cases hd
          have hd2 : ¬ sb.hi < sa.lo := fun h => by rw [disj_iff'.2 (.inr h)] at hd; cases hd
          clear hdj hd
          go_wp2
          go_roundw
          case rel => exact ⟨b + 1, by omega, by omega, by omega, by go_num, (by repeat (first | with_reducible exact Ext.refl _ | with_reducible assumption | with_reducible apply Ext.alloc | with_reducible apply Ext.drew | (with_reducible refine Ext.setCell ?_ (by (try simp) <;> omega) _)))⟩
          case measure => simp [intOf]; omega
      · obtain rfl : b = l.length := by omega
        have hai : a < i := by omega
        go_wp2
        go_roundw
        case rel => exact ⟨a + 1, by omega, by go_num, X⟩
        case measure => simp [intOf]; omega

set_option maxHeartbeats 4000000 in
theorem rrefute_none (a? : Option Addr) (cap : Nat) (l : List Row) (w : World) (S : Sl w 3 encR (.slice a? l.length cap) l) (hr : rowsOk l = true) (hf : refF (l.map rootS) 0 = none) :
    Calls Tryd.prog 21 #[.slice a? l.length cap] w fun e w' => e = .returned (.tuple #[.int .i64 (refuteR l).1, .int .i64 (refuteR l).2.1, .int .i64 (refuteR l).2.2]) ∧ Ext w w' := by
  have hno := (refF_spec (l.map rootS) 0 (roots_ok hr)).1 hf
  simp only [List.length_map, List.getElem_map] at hno
  have hl16 := (rowsOk_iff.1 hr).1
  have HR := Lib.hid hr
  have HF : Hid (refuteR l = (0, 0, 4)) := Lib.hid (by rw [refuteR, if_pos hr, hf]; rfl)
  have HN : Hid (∀ (a b : Nat) (hab : a < b) (hb : b < l.length), disj (rootS (l[a]'(by omega))) (rootS l[b]) = false) := Lib.hid (fun a b hab hb => hno a b hab hb)
  have HRT := Lib.hid (fun k (hk : k < l.length) => show rootR l[k] = (rootS l[k], 0) by rw [rootR, if_pos ((rowsOk_iff.1 hr).2 _ (List.getElem_mem _))])
  clear hno hr hf
  go_enter Tryd.func21, Tryd.ntmps21
  go_wp2_with fail
  refine (rrvalid_walk _ l _ (S.ext (by repeat (first | with_reducible exact Ext.refl _ | with_reducible assumption | with_reducible apply Ext.alloc | with_reducible apply Ext.drew | (with_reducible refine Ext.setCell ?_ (by (try simp) <;> omega) _))))).mono ?_
  rw [HR.out]
  rintro e w1 ⟨rfl, x1⟩
  obtain ⟨hc1, hf1⟩ := x1.rules
  have X1 : Ext w w1 := Ext.trans (by repeat (first | with_reducible exact Ext.refl _ | with_reducible assumption | with_reducible apply Ext.alloc | with_reducible apply Ext.drew | (with_reducible refine Ext.setCell ?_ (by (try simp) <;> omega) _))) x1
  clear x1 hc1 hf1
  go_wp2
  go_loopw [5] (fun v wr => ∃ a : Nat, a ≤ l.length ∧ v = .int .i64 a ∧ Ext w wr) (fun v _ => l.length - (intOf v).toNat)
  case atStart => exact ⟨0, by omega, rfl, X1⟩
  case round =>
    clear X1
    obtain ⟨a, ha, rfl, X⟩ := hrel
    obtain ⟨wo, rfl⟩ : ∃ wo : World, wo = wr := ⟨_, rfl⟩
    by_cases hal : a < l.length
    · go_wp2
      go_loopw [6] (fun v wr => ∃ b : Nat, a < b ∧ b ≤ l.length ∧ v = .int .i64 b ∧ Ext w wr) (fun v _ => l.length - (intOf v).toNat)
      case atStart => exact ⟨a + 1, by omega, by omega, by go_num, X⟩
      case round =>
        clear X wo
        obtain ⟨b, hab, hbl, rfl, X⟩ := hrel
        by_cases hlt : b < l.length
        · obtain ⟨b0, o, rfl, q0, q1, q2⟩ := Sl.row (S.ext X) a (by omega)
          obtain ⟨b1, o1, e1, p0, p1, p2⟩ := Sl.row (S.ext X) b hlt
          cases e1
          have HRA := Lib.hid (HRT.out a (by omega))
          have HRB := Lib.hid (HRT.out b hlt)
          have hdj := HN.out a b hab hlt
          obtain ⟨ra, hra⟩ : ∃ r, l[a] = r := ⟨_, rfl⟩
          obtain ⟨rb, hrb⟩ : ∃ r, l[b] = r := ⟨_, rfl⟩
          rw [hra] at q0 q1 q2 HRA hdj
          rw [hrb] at p0 p1 p2 HRB hdj
          obtain ⟨sa, hsa⟩ : ∃ s, rootS ra = s := ⟨_, rfl⟩
          obtain ⟨sb, hsb⟩ : ∃ s, rootS rb = s := ⟨_, rfl⟩
          rw [hsa] at HRA hdj
          rw [hsb] at HRB hdj
          clear hra hrb hsa hsb
          go_wp2_with fail
          refine (rroot_walk ra _).mono ?_
          rw [HRA.out]
          rintro e w6 ⟨rfl, x6⟩
          replace p0 := x6.cell p0
          replace p1 := x6.cell p1
          replace p2 := x6.cell p2
          have X6 := X.trans x6
          have z0 := lt_of_cell p0
          simp only at z0
          clear x6
          go_wp2_with fail
          refine (rroot_walk rb _).mono ?_
          rw [HRB.out]
          rintro e w7 ⟨rfl, x7⟩
          have k0 := x7.cell (alloc_cell w6 _ 26 0 _ rfl)
          have k1 := x7.cell (alloc_cell w6 _ 26 1 _ rfl)
          have X7 : Ext w w7 := Ext.trans (by repeat (first | with_reducible exact Ext.refl _ | with_reducible assumption | with_reducible apply Ext.alloc | with_reducible apply Ext.drew | (with_reducible refine Ext.setCell ?_ (by (try simp) <;> omega) _))) x7
          have z1 := lt_of_cell k0
          simp only at z1
          clear x7 X6 X
          have hd1 : ¬ sa.hi < sb.lo := fun h => by rw [disj_iff'.2 (.inl h)] at hdj; cases hdj
          have hd2 : ¬ sb.hi < sa.lo := fun h => by rw [disj_iff'.2 (.inr h)] at hdj; cases hdj
          clear hdj
          go_wp2
          go_roundw
          case rel => exact ⟨b + 1, by omega, by omega, by go_num, (by repeat (first | with_reducible exact Ext.refl _ | with_reducible assumption | with_reducible apply Ext.alloc | with_reducible apply Ext.drew | (with_reducible refine Ext.setCell ?_ (by (try simp) <;> omega) _)))⟩
          case measure => simp [intOf]; omega
        · obtain rfl : b = l.length := by omega
          go_wp2
          go_roundw
          case rel => exact ⟨a + 1, by omega, by go_num, X⟩
          case measure => simp [intOf]; omega
    · obtain rfl : a = l.length := by omega
      go_wp2
      go_ret3
      exact ⟨by rw [HF.out] <;> rfl, X⟩

theorem rrefute_walk (v : Value) (l : List Row) (w : World) (S : Sl w 3 encR v l) :
    Calls Tryd.prog 21 #[v] w fun e w' => e = .returned (.tuple #[.int .i64 (refuteR l).1, .int .i64 (refuteR l).2.1, .int .i64 (refuteR l).2.2]) ∧ Ext w w' := by
  cases hr : rowsOk l with
  | true =>
    obtain ⟨a?, cap, rfl, _, _, _⟩ := S.len
    cases hf : refF (l.map rootS) 0 with
    | some p => exact rrefute_some a? cap l p.1 p.2 w S hr hf
    | none => exact rrefute_none a? cap l w S hr hf
  | false =>
    have HR := Lib.hid hr
    have HT : Hid (refuteR l = (0, 0, 1)) := Lib.hid (by rw [refuteR, hr]; rfl)
    clear hr
    go_enter Tryd.func21, Tryd.ntmps21
    go_wp2_with fail
    refine (rrvalid_walk v l _ (S.ext (by repeat (first | with_reducible exact Ext.refl _ | with_reducible assumption | with_reducible apply Ext.alloc | with_reducible apply Ext.drew | (with_reducible refine Ext.setCell ?_ (by (try simp) <;> omega) _))))).mono ?_
    rw [HR.out]
    rintro e w1 ⟨rfl, x1⟩
    obtain ⟨hc1, hf1⟩ := x1.rules
    have X1 : Ext w w1 := Ext.trans (by repeat (first | with_reducible exact Ext.refl _ | with_reducible assumption | with_reducible apply Ext.alloc | with_reducible apply Ext.drew | (with_reducible refine Ext.setCell ?_ (by (try simp) <;> omega) _))) x1
    go_wp2
    go_ret3
    exact ⟨by rw [HT.out] <;> rfl, X1⟩

theorem vec_small {x : V6} (h : within x 48 = true) : ∀ k, k < 6 → -1000000 ≤ x.get k ∧ x.get k ≤ 1000000 := fun k hk => by
  have := Sz.within_iff.1 h k hk
  omega

set_option maxHeartbeats 4000000 in
theorem rfits_walk (v : Value) (l : List Row) (x : V6) (w : World) (S : Sl w 3 encR v l) :
    Calls Tryd.prog 23 #[v, .agg #[.int .i64 x.a, .int .i64 x.b, .int .i64 x.c, .int .i64 x.d, .int .i64 x.e, .int .i64 x.f]] w fun e w' => e = .returned (.tuple #[.bool (fitsR l x).1, .int .i64 (fitsR l x).2]) ∧ Ext w w' := by
  cases hr : rowsOk l with
  | false =>
    have HR := Lib.hid hr
    have HT : Hid (fitsR l x = (false, 1)) := Lib.hid (by rw [fitsR, if_neg (by rw [hr]; simp)])
    clear hr
    go_enter Tryd.func23, Tryd.ntmps23
    go_wp2_with fail
    refine (rrvalid_walk v l _ (S.ext (by repeat (first | with_reducible exact Ext.refl _ | with_reducible assumption | with_reducible apply Ext.alloc | with_reducible apply Ext.drew | (with_reducible refine Ext.setCell ?_ (by (try simp) <;> omega) _))))).mono ?_
    rw [HR.out]
    rintro e w1 ⟨rfl, x1⟩
    obtain ⟨hc1, hf1⟩ := x1.rules
    have hz1_0 : w.heap.size < w1.heap.size := by have := x1.size; (try simp at this); omega
    obtain ⟨hl1_0, hl1_1, hl1_2, hl1_3⟩ : w.heap.size < w1.heap.size + 1 ∧ w.heap.size < w1.heap.size + 1 + 1 ∧ w.heap.size < w1.heap.size + 1 + 1 + 1 ∧ ¬ w.heap.size = w1.heap.size := by omega
    have X1 : Ext w w1 := Ext.trans (by repeat (first | with_reducible exact Ext.refl _ | with_reducible assumption | with_reducible apply Ext.alloc | with_reducible apply Ext.drew | (with_reducible refine Ext.setCell ?_ (by (try simp) <;> omega) _))) x1
    go_wp2
    go_ret2
    exact ⟨by rw [HT.out] <;> rfl, (by repeat (first | with_reducible exact Ext.refl _ | with_reducible assumption | with_reducible apply Ext.alloc | with_reducible apply Ext.drew | (with_reducible refine Ext.setCell ?_ (by (try simp) <;> omega) _)))⟩
  | true =>
  have HR := Lib.hid hr
  cases hx : within x 48 with
  | false =>
    have HX := Lib.hid hx
    have HT : Hid (fitsR l x = (false, 1)) := Lib.hid (by rw [fitsR, if_neg (by rw [hx]; simp)])
    clear hr hx
    go_enter Tryd.func23, Tryd.ntmps23
    go_wp2_with fail
    refine (rrvalid_walk v l _ (S.ext (by repeat (first | with_reducible exact Ext.refl _ | with_reducible assumption | with_reducible apply Ext.alloc | with_reducible apply Ext.drew | (with_reducible refine Ext.setCell ?_ (by (try simp) <;> omega) _))))).mono ?_
    rw [HR.out]
    rintro e w1 ⟨rfl, x1⟩
    obtain ⟨hc1, hf1⟩ := x1.rules
    have hz1_0 : w.heap.size < w1.heap.size := by have := x1.size; (try simp at this); omega
    obtain ⟨hl1_0, hl1_1, hl1_2, hl1_3⟩ : w.heap.size < w1.heap.size + 1 ∧ w.heap.size < w1.heap.size + 1 + 1 ∧ w.heap.size < w1.heap.size + 1 + 1 + 1 ∧ ¬ w.heap.size = w1.heap.size := by omega
    have X1 : Ext w w1 := Ext.trans (by repeat (first | with_reducible exact Ext.refl _ | with_reducible assumption | with_reducible apply Ext.alloc | with_reducible apply Ext.drew | (with_reducible refine Ext.setCell ?_ (by (try simp) <;> omega) _))) x1
    go_wp2_with fail
    refine (rinterval_walk x _).mono ?_
    rw [HX.out]
    rintro e w2 ⟨rfl, x2⟩
    obtain ⟨hc2, hf2⟩ := x2.rules
    have hz2_0 : w.heap.size < w2.heap.size := by have := x2.size; (try simp at this); omega
    obtain ⟨hl2_0, hl2_1, hl2_2, hl2_3⟩ : w.heap.size < w2.heap.size + 1 ∧ w.heap.size < w2.heap.size + 1 + 1 ∧ w.heap.size < w2.heap.size + 1 + 1 + 1 ∧ ¬ w.heap.size = w2.heap.size := by omega
    have X2 : Ext w w2 := Ext.trans (by repeat (first | with_reducible exact Ext.refl _ | with_reducible assumption | with_reducible apply Ext.alloc | with_reducible apply Ext.drew | (with_reducible refine Ext.setCell ?_ (by (try simp) <;> omega) _))) x2
    go_wp2
    go_ret2
    exact ⟨by rw [HT.out] <;> rfl, (by repeat (first | with_reducible exact Ext.refl _ | with_reducible assumption | with_reducible apply Ext.alloc | with_reducible apply Ext.drew | (with_reducible refine Ext.setCell ?_ (by (try simp) <;> omega) _)))⟩
  | true =>
    obtain ⟨a?, cap, rfl, g1, g2, g3⟩ := S.len
    clear g1 g2
    have HX := Lib.hid hx
    have HS := Lib.hid (vec_small hx)
    have HW := Lib.hid (within_mono (B := 4000) (by omega) (times_within hx))
    have HT : Hid (fitsR l x = (!(l.map rootS).any (fun r => disj r (expo (x.times 12))), 0)) := Lib.hid (by rw [fitsR, if_pos ⟨hr, hx⟩])
    have HRT := Lib.hid (fun k (hk : k < l.length) => show rootR l[k] = (rootS l[k], 0) by rw [rootR, if_pos ((rowsOk_iff.1 hr).2 _ (List.getElem_mem _))])
    have hl16 := (rowsOk_iff.1 hr).1
    clear hr hx
    obtain ⟨s, hs⟩ : ∃ s, expo (x.times 12) = s := ⟨_, rfl⟩
    have HE := Lib.hid hs
    rw [hs] at HT
    clear hs
    go_enter Tryd.func23, Tryd.ntmps23
    go_wp2_with fail
    refine (rrvalid_walk _ l _ (S.ext (by repeat (first | with_reducible exact Ext.refl _ | with_reducible assumption | with_reducible apply Ext.alloc | with_reducible apply Ext.drew | (with_reducible refine Ext.setCell ?_ (by (try simp) <;> omega) _))))).mono ?_
    rw [HR.out]
    rintro e w1 ⟨rfl, x1⟩
    obtain ⟨hc1, hf1⟩ := x1.rules
    have hz1_0 : w.heap.size < w1.heap.size := by have := x1.size; (try simp at this); omega
    obtain ⟨hl1_0, hl1_1, hl1_2, hl1_3⟩ : w.heap.size < w1.heap.size + 1 ∧ w.heap.size < w1.heap.size + 1 + 1 ∧ w.heap.size < w1.heap.size + 1 + 1 + 1 ∧ ¬ w.heap.size = w1.heap.size := by omega
    have X1 : Ext w w1 := Ext.trans (by repeat (first | with_reducible exact Ext.refl _ | with_reducible assumption | with_reducible apply Ext.alloc | with_reducible apply Ext.drew | (with_reducible refine Ext.setCell ?_ (by (try simp) <;> omega) _))) x1
    go_wp2_with fail
    refine (rinterval_walk x _).mono ?_
    rw [HX.out]
    rintro e w2 ⟨rfl, x2⟩
    obtain ⟨hc2, hf2⟩ := x2.rules
    have hz2_0 : w.heap.size < w2.heap.size := by have := x2.size; (try simp at this); omega
    obtain ⟨hl2_0, hl2_1, hl2_2, hl2_3⟩ : w.heap.size < w2.heap.size + 1 ∧ w.heap.size < w2.heap.size + 1 + 1 ∧ w.heap.size < w2.heap.size + 1 + 1 + 1 ∧ ¬ w.heap.size = w2.heap.size := by omega
    have X2 : Ext w w2 := Ext.trans (by repeat (first | with_reducible exact Ext.refl _ | with_reducible assumption | with_reducible apply Ext.alloc | with_reducible apply Ext.drew | (with_reducible refine Ext.setCell ?_ (by (try simp) <;> omega) _))) x2
    go_wp2_with fail
    refine (pure_walk x HS.out _).mono ?_
    rintro e w3 ⟨rfl, x3⟩
    obtain ⟨hc3, hf3⟩ := x3.rules
    have hz3_0 : w.heap.size < w3.heap.size := by have := x3.size; (try simp at this); omega
    obtain ⟨hl3_0, hl3_1, hl3_2, hl3_3⟩ : w.heap.size < w3.heap.size + 1 ∧ w.heap.size < w3.heap.size + 1 + 1 ∧ w.heap.size < w3.heap.size + 1 + 1 + 1 ∧ ¬ w.heap.size = w3.heap.size := by omega
    have X3 : Ext w w3 := Ext.trans (by repeat (first | with_reducible exact Ext.refl _ | with_reducible assumption | with_reducible apply Ext.alloc | with_reducible apply Ext.drew | (with_reducible refine Ext.setCell ?_ (by (try simp) <;> omega) _))) x3
    go_wp2_with fail
    refine (rexpo_walk (x.times 12) HW.out _).mono ?_
    rw [HE.out]
    rintro e w4 ⟨rfl, x4⟩
    obtain ⟨hc4, hf4⟩ := x4.rules
    have hz4_0 : w.heap.size < w4.heap.size := by have := x4.size; (try simp at this); omega
    obtain ⟨hl4_0, hl4_1, hl4_2, hl4_3⟩ : w.heap.size < w4.heap.size + 1 ∧ w.heap.size < w4.heap.size + 1 + 1 ∧ w.heap.size < w4.heap.size + 1 + 1 + 1 ∧ ¬ w.heap.size = w4.heap.size := by omega
    have X4 : Ext w w4 := Ext.trans (by repeat (first | with_reducible exact Ext.refl _ | with_reducible assumption | with_reducible apply Ext.alloc | with_reducible apply Ext.drew | (with_reducible refine Ext.setCell ?_ (by (try simp) <;> omega) _))) x4
    have e0 := alloc_cell w4 #[.int .i64 s.lo, .int .i64 s.hi] 26 0 (.int .i64 s.lo) rfl
    have e1 := alloc_cell w4 #[.int .i64 s.lo, .int .i64 s.hi] 26 1 (.int .i64 s.hi) rfl
    have XA := X4.alloc (.cells #[.int .i64 s.lo, .int .i64 s.hi] 26)
    obtain ⟨N, hN⟩ : ∃ N, w4.heap.size = N := ⟨_, rfl⟩
    have HN := Lib.hid hN
    rw [hN] at e0 e1
    clear x1 hc1 hf1 x2 hc2 hf2 x3 hc3 hf3 x4 hc4 hf4 X1 X2 X3 X4 hN
    go_wp2
    rw [HN.out]
    go_loopw [7] (fun i wr => ∃ k : Nat, k ≤ l.length ∧ i = .int .i64 k ∧ ((l.map rootS).take k).any (fun r => disj r s) = false ∧ wr.cell? ⟨N, 0, none⟩ = some (.int .i64 s.lo) ∧ wr.cell? ⟨N, 1, none⟩ = some (.int .i64 s.hi) ∧ Ext w wr) (fun i _ => l.length - (intOf i).toNat)
    case atStart => exact ⟨0, by omega, rfl, rfl, e0, e1, XA⟩
    case round =>
      clear e0 e1 XA HN
      obtain ⟨k, hk, rfl, hno, e0, e1, X⟩ := hrel
      have HNO := Lib.hid hno
      clear hno
      by_cases hlt : k < l.length
      · obtain ⟨b, o, rfl, q0, q1, q2⟩ := Sl.row (S.ext X) k hlt
        have HRK := Lib.hid (HRT.out k hlt)
        have hts : ((l.map rootS).take (k + 1)).any (fun r => disj r s) = (((l.map rootS).take k).any (fun r => disj r s) || disj (rootS l[k]) s) := by
          rw [List.take_succ_eq_append_getElem (by simpa using hlt), List.any_append]
          simp
        have hmem : rootS l[k] ∈ l.map rootS := List.mem_map_of_mem (List.getElem_mem _)
        obtain ⟨r, hrr⟩ : ∃ r, l[k] = r := ⟨_, rfl⟩
        rw [hrr] at q0 q1 q2 HRK hts hmem
        obtain ⟨c, hc⟩ : ∃ c, rootS r = c := ⟨_, rfl⟩
        rw [hc] at HRK hts hmem
        have HTS := Lib.hid hts
        have HM := Lib.hid hmem
        clear hrr hc hts hmem
        go_wp2_with fail
        refine (rroot_walk r _).mono ?_
        rw [HRK.out]
        rintro e w6 ⟨rfl, x6⟩
        replace e0 := x6.cell e0
        replace e1 := x6.cell e1
        have X6 := X.trans x6
        have z0 := lt_of_cell e0
        simp only at z0
        clear x6 X
        by_cases h1 : c.hi < s.lo
        · have hd : Hid ((l.map rootS).any (fun r => disj r s) = true) := Lib.hid (List.any_eq_true.2 ⟨c, HM.out, disj_iff'.2 (.inl h1)⟩)
          go_wp2
          go_ret2
          exact ⟨by rw [HT.out, hd.out] <;> rfl, (by repeat (first | with_reducible exact Ext.refl _ | with_reducible assumption | with_reducible apply Ext.alloc | with_reducible apply Ext.drew | (with_reducible refine Ext.setCell ?_ (by (try simp) <;> omega) _)))⟩
        · by_cases h2 : s.hi < c.lo
          · have hd : Hid ((l.map rootS).any (fun r => disj r s) = true) := Lib.hid (List.any_eq_true.2 ⟨c, HM.out, disj_iff'.2 (.inr h2)⟩)
            go_wp2
            go_ret2
            exact ⟨by rw [HT.out, hd.out] <;> rfl, (by repeat (first | with_reducible exact Ext.refl _ | with_reducible assumption | with_reducible apply Ext.alloc | with_reducible apply Ext.drew | (with_reducible refine Ext.setCell ?_ (by (try simp) <;> omega) _)))⟩
          · have hd : Hid (disj c s = false) := Lib.hid (by rw [Bool.eq_false_iff, Ne, disj_iff']; omega)
            have E0 := Lib.hid ((Ext.alloc' w6 (.cells #[.int .i64 c.lo, .int .i64 c.hi] 26)).cell e0)
            have E1 := Lib.hid ((Ext.alloc' w6 (.cells #[.int .i64 c.lo, .int .i64 c.hi] 26)).cell e1)
            go_wp2
            go_roundw
            case rel => exact ⟨k + 1, by omega, by go_num, by rw [HTS.out, HNO.out, hd.out]; rfl, E0.out, E1.out, (by repeat (first | with_reducible exact Ext.refl _ | with_reducible assumption | with_reducible apply Ext.alloc | with_reducible apply Ext.drew | (with_reducible refine Ext.setCell ?_ (by (try simp) <;> omega) _)))⟩
            case measure => simp [intOf]; omega
      · obtain rfl : k = l.length := by omega
        have hno := HNO.out
        rw [show (l.map rootS).take l.length = l.map rootS from List.take_of_length_le (by simp)] at hno
        have H2 := Lib.hid hno
        clear hno
        go_wp2
        go_ret2
        exact ⟨by rw [HT.out, H2.out] <;> rfl, X⟩
end Go.Proofs.YthhkpgbfefakeaaDoor
