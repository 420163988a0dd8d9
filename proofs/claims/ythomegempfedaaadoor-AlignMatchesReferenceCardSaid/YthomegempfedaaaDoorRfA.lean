/-
  Walks of the reference: schismaref38.Valid, Match.
-/
import Derived.Test.YthomegempfedaaaDoorAlK
import Derived.Test.YthomegempfedaaaDoorR3A
import Derived.BigQuiet
set_option linter.unusedVariables false
namespace Go.Proofs.YthomegempfedaaaDoor
open Go.RowKit Go.Sx Go.Sx.Sz Go.Sx.Al

def goodD (ds : List Due) (i : Nat) (h : i < ds.length) : Prop := within ds[i].x 48 = true ∧ 0 ≤ ds[i].t ∧ ds[i].t ≤ 100000 ∧ ∀ j (e : j + 1 = i), ds[j].t ≤ ds[i].t
def goodH (hs : List Hrd) (i : Nat) (h : i < hs.length) : Prop := szOk hs[i].s = true ∧ 0 ≤ hs[i].t ∧ hs[i].t ≤ 100000 ∧ ∀ j (e : j + 1 = i), hs[j].t ≤ hs[i].t
theorem alOk_good {ds : List Due} {hs : List Hrd} {p : Prc} : alOk ds hs p = true ↔ prOk p = true ∧ (ds.length ≤ 100 ∧ hs.length ≤ 100) ∧ (∀ i h, goodD ds i h) ∧ ∀ i h, goodH hs i h := by
  constructor
  · intro h
    have hv := alOk_iff.1 h
    refine ⟨prOk_iff.2 ⟨hv.skip, hv.off⟩, ⟨hv.dn, hv.hn⟩, fun i h => ⟨hv.dx _ (List.getElem_mem _), (hv.dt _ (List.getElem_mem _)).1, (hv.dt _ (List.getElem_mem _)).2, fun j e => ?_⟩, fun i h => ⟨hv.hx _ (List.getElem_mem _), (hv.ht _ (List.getElem_mem _)).1, (hv.ht _ (List.getElem_mem _)).2, fun j e => ?_⟩⟩
    · subst e
      have := rise_iff.1 hv.dr j (by simpa using h)
      simpa using this
    · subst e
      have := rise_iff.1 hv.hr j (by simpa using h)
      simpa using this
  · rintro ⟨h1, ⟨h2, h3⟩, h4, h5⟩
    obtain ⟨p1, p2⟩ := prOk_iff.1 h1
    refine alOk_iff.2 ⟨?_, ?_, h2, h3, ?_, ?_, ?_, ?_, p1, p2⟩
    · intro d hd; obtain ⟨i, hi, rfl⟩ := List.getElem_of_mem hd; exact (h4 i hi).1
    · intro d hd; obtain ⟨i, hi, rfl⟩ := List.getElem_of_mem hd; exact (h5 i hi).1
    · rw [rise_iff]; intro i hi; simpa using (h4 (i + 1) (by simpa using hi)).2.2.2 i rfl
    · intro d hd; obtain ⟨i, hi, rfl⟩ := List.getElem_of_mem hd; exact ⟨(h4 i hi).2.1, (h4 i hi).2.2.1⟩
    · rw [rise_iff]; intro i hi; simpa using (h5 (i + 1) (by simpa using hi)).2.2.2 i rfl
    · intro d hd; obtain ⟨i, hi, rfl⟩ := List.getElem_of_mem hd; exact ⟨(h5 i hi).2.1, (h5 i hi).2.2.1⟩
theorem alOk_badD {ds : List Due} {hs : List Hrd} {p : Prc} {i : Nat} (hi : i < ds.length) (h : ¬ goodD ds i hi) : alOk ds hs p = false := by
  cases hh : alOk ds hs p with
  | false => rfl
  | true => exact absurd ((alOk_good.1 hh).2.2.1 i hi) h
theorem alOk_badH {ds : List Due} {hs : List Hrd} {p : Prc} {i : Nat} (hi : i < hs.length) (h : ¬ goodH hs i hi) : alOk ds hs p = false := by
  cases hh : alOk ds hs p with
  | false => rfl
  | true => exact absurd ((alOk_good.1 hh).2.2.2 i hi) h
theorem alOk_badP {ds : List Due} {hs : List Hrd} {p : Prc} (h : ¬ (prOk p = true ∧ (ds.length ≤ 100 ∧ hs.length ≤ 100))) : alOk ds hs p = false := by
  cases hh : alOk ds hs p with
  | false => rfl
  | true => exact absurd ⟨(alOk_good.1 hh).1, (alOk_good.1 hh).2.1⟩ h

set_option maxRecDepth 100000 in
set_option maxHeartbeats 4000000 in
theorem rvalid_walk (vd vh : Value) (ds : List Due) (hs : List Hrd) (p : Prc) (w : World) (Sd : Sl w 7 encD vd ds) (Sh : Sl w 3 encH vh hs) :
    Calls Tryd.prog 13 #[vd, vh, .agg #[.int .i64 p.skip, .int .i64 p.off]] w fun e w' => e = .returned (.bool (alOk ds hs p)) ∧ Ext w w' := by
  obtain ⟨a?, cap, rfl, -, -, h3⟩ := Sd.len
  obtain ⟨ah, ch, rfl, -, -, h4⟩ := Sh.len
  by_cases hP : prOk p = true ∧ (ds.length ≤ 100 ∧ hs.length ≤ 100)
  · obtain ⟨hp, hdn, hhn⟩ := hP
    obtain ⟨⟨p1, p2⟩, p3, p4⟩ := prOk_iff.1 hp
    have HPP := Lib.hid hp
    clear hp h3 h4
    go_enter Tryd.func13, Tryd.ntmps13
    go_wp2
    obtain ⟨W, hW⟩ : ∃ W, w.alloc (.cells #[.int .i64 p.skip, .int .i64 p.off] 25) = W := ⟨_, rfl⟩
    have XW := Ext.alloc' w (.cells #[.int .i64 p.skip, .int .i64 p.off] 25)
    rw [hW] at XW
    rw [hW]
    clear hW p1 p2 p3 p4
    replace Sd := Sd.ext XW
    replace Sh := Sh.ext XW
    go_loopw [7] (fun i wr => ∃ k : Nat, k ≤ ds.length ∧ i = .int .i64 k ∧ (∀ i h, i < k → goodD ds i h) ∧ Ext W wr) (fun i _ => ds.length - (intOf i).toNat)
    case atStart => exact ⟨0, by omega, rfl, fun i h hi => by omega, Ext.refl _⟩
    case round =>
      obtain ⟨k, hk, rfl, hall, X⟩ := hrel
      have HA := Lib.hid hall
      clear hall
      by_cases hlt : k < ds.length
      · obtain ⟨b, o, rfl, q0, q1, q2, q3, q4, q5, q6⟩ := Sl.due (Sd.ext X) k hlt
        have hprev : ∀ j, j + 1 = k → wr.cell? ⟨b, o + j * 7, none⟩ = some (.int .i64 (ds.getD j default).t) := fun j e => by
          obtain ⟨b', o', e', q0', _⟩ := Sl.due (Sd.ext X) j (by omega)
          cases e'
          rw [q0', List.getD_eq_getElem?_getD, List.getElem?_eq_getElem (by omega)]; rfl
        obtain ⟨d, hd⟩ : ∃ d, ds[k] = d := ⟨_, rfl⟩
        rw [hd] at q0 q1 q2 q3 q4 q5 q6
        have HD := Lib.hid hd
        clear hd
        have hgood : goodD ds k hlt ↔ within d.x 48 = true ∧ 0 ≤ d.t ∧ d.t ≤ 100000 ∧ ∀ j (e : j + 1 = k), (ds.getD j default).t ≤ d.t := by
          unfold goodD
          rw [HD.out]
          refine and_congr Iff.rfl (and_congr Iff.rfl (and_congr Iff.rfl ⟨fun h j e => ?_, fun h j e => ?_⟩))
          · have := h j e
            rw [List.getD_eq_getElem?_getD, List.getElem?_eq_getElem (by omega)]; exact this
          · have := h j e
            rw [List.getD_eq_getElem?_getD, List.getElem?_eq_getElem (by omega)] at this; exact this
        have HG := Lib.hid hgood
        clear hgood
        obtain ⟨c, hc⟩ : ∃ c, within d.x 48 = c := ⟨_, rfl⟩
        have HC := Lib.hid hc
        clear hc
        obtain ⟨wo, rfl⟩ : ∃ wo : World, wo = wr := ⟨_, rfl⟩
        go_wp2_with fail
        refine (rinterval_walk d.x _).mono ?_
        rw [HC.out]
        rintro e w1 ⟨rfl, x1⟩
        have XX := XW.trans (X.trans x1)
        have X1 := X.trans x1
        replace q0 := x1.cell q0
        have hprev' := fun j e => x1.cell (hprev j e)
        clear x1 q1 q2 q3 q4 q5 q6 hprev
        go_wp2
        by_cases t1 : d.t < 0
        · have e1 : decide (d.t < 0) = true := decide_eq_true t1
          go_quiet (fail)
          go_wp2
          go_ret
          exact ⟨by rw [alOk_badD hlt (fun h => by have := (HG.out.1 h).2.1; omega)] <;> rfl, XX.drewN _⟩
        · have e1 : decide (d.t < 0) = false := decide_eq_false t1
          by_cases t2 : 100000 < d.t
          · have e2 : decide (100000 < d.t) = true := decide_eq_true t2
            go_quiet (fail)
            go_wp2
            go_ret
            exact ⟨by rw [alOk_badD hlt (fun h => by have := (HG.out.1 h).2.2.1; omega)] <;> rfl, XX.drewN _⟩
          · have e2 : decide (100000 < d.t) = false := decide_eq_false t2
            cases c with
            | false =>
              go_quiet (fail)
              go_wp2
              go_ret
              exact ⟨by rw [alOk_badD hlt (fun h => by have := (HG.out.1 h).1; rw [HC.out] at this; cases this)] <;> rfl, XX.drewN _⟩
            | true =>
              cases k with
              | zero =>
                rw [Nat.zero_mul, Nat.add_zero] at q0
                go_quiet (fail)
                go_wp2
                go_roundw
                case rel => exact ⟨1, by omega, by go_num, fun i h hi => by
                  obtain rfl : i = 0 := by omega
                  exact HG.out.2 ⟨HC.out, by omega, by omega, fun j e => by omega⟩, X1.drewN _⟩
                case measure => simp [intOf]; omega
              | succ j =>
                have qp := hprev' j rfl
                clear hprev'
                obtain ⟨pt, hpt⟩ : ∃ pt, (ds.getD j default).t = pt := ⟨_, rfl⟩
                rw [hpt] at qp
                have HPT := Lib.hid hpt
                clear hpt
                by_cases t3 : d.t < pt
                · have e3 : decide (d.t < pt) = true := decide_eq_true t3
                  go_quiet (fail)
                  go_wp2
                  go_ret
                  exact ⟨by rw [alOk_badD hlt (fun h => by have := (HG.out.1 h).2.2.2 j rfl; rw [HPT.out] at this; omega)] <;> rfl, XX.drewN _⟩
                · have e3 : decide (d.t < pt) = false := decide_eq_false t3
                  go_quiet (fail)
                  go_wp2
                  go_roundw
                  case rel => exact ⟨j + 1 + 1, by omega, by go_num, fun i h hi => by
                    rcases Nat.lt_or_ge i (j + 1) with h1 | h1
                    · exact HA.out i h h1
                    · obtain rfl : i = j + 1 := by omega
                      exact HG.out.2 ⟨HC.out, by omega, by omega, fun j' e => by obtain rfl : j' = j := by omega
                                                                                 rw [HPT.out]; omega⟩, X1.drewN _⟩
                  case measure => simp [intOf]; omega
      · obtain rfl : k = ds.length := by omega
        replace Sh := Sh.ext X
        have XA := XW.trans X
        clear Sd X XW
        obtain ⟨wo, rfl⟩ : ∃ wo : World, wo = wr := ⟨_, rfl⟩
        go_wp2
        go_loopw [9] (fun i wr => ∃ k : Nat, k ≤ hs.length ∧ i = .int .i64 k ∧ (∀ i h, i < k → goodH hs i h) ∧ Ext wo wr) (fun i _ => hs.length - (intOf i).toNat)
        case atStart => exact ⟨0, by omega, rfl, fun i h hi => by omega, Ext.refl _⟩
        case round =>
          obtain ⟨k, hk, rfl, hall, X⟩ := hrel
          have HB := Lib.hid hall
          clear hall
          by_cases hlt : k < hs.length
          · obtain ⟨b, o, rfl, q0, q1, q2⟩ := Sl.hrd (Sh.ext X) k hlt
            have hprev : ∀ j, j + 1 = k → wr.cell? ⟨b, o + j * 3, none⟩ = some (.int .i64 (hs.getD j default).t) := fun j e => by
              obtain ⟨b', o', e', q0', _⟩ := Sl.hrd (Sh.ext X) j (by omega)
              cases e'
              rw [q0', List.getD_eq_getElem?_getD, List.getElem?_eq_getElem (by omega)]; rfl
            obtain ⟨d, hd⟩ : ∃ d, hs[k] = d := ⟨_, rfl⟩
            rw [hd] at q0 q1 q2
            have HD := Lib.hid hd
            clear hd
            have hgood : goodH hs k hlt ↔ szOk d.s = true ∧ 0 ≤ d.t ∧ d.t ≤ 100000 ∧ ∀ j (e : j + 1 = k), (hs.getD j default).t ≤ d.t := by
              unfold goodH
              rw [HD.out]
              refine and_congr Iff.rfl (and_congr Iff.rfl (and_congr Iff.rfl ⟨fun h j e => ?_, fun h j e => ?_⟩))
              · have := h j e
                rw [List.getD_eq_getElem?_getD, List.getElem?_eq_getElem (by omega)]; exact this
              · have := h j e
                rw [List.getD_eq_getElem?_getD, List.getElem?_eq_getElem (by omega)] at this; exact this
            have HG := Lib.hid hgood
            clear hgood
            obtain ⟨c, hc⟩ : ∃ c, szOk d.s = c := ⟨_, rfl⟩
            have HC := Lib.hid hc
            clear hc
            obtain ⟨wb, rfl⟩ : ∃ wb : World, wb = wr := ⟨_, rfl⟩
            go_wp2_with fail
            refine (rszvalid_walk d.s _).mono ?_
            rw [HC.out]
            rintro e w1 ⟨rfl, x1⟩
            have XX := XA.trans (X.trans x1)
            have X1 := X.trans x1
            replace q0 := x1.cell q0
            have hprev' := fun j e => x1.cell (hprev j e)
            clear x1 q1 q2 hprev
            go_wp2
            by_cases t1 : d.t < 0
            · have e1 : decide (d.t < 0) = true := decide_eq_true t1
              go_quiet (fail)
              go_wp2
              go_ret
              exact ⟨by rw [alOk_badH hlt (fun h => by have := (HG.out.1 h).2.1; omega)] <;> rfl, XX.drewN _⟩
            · have e1 : decide (d.t < 0) = false := decide_eq_false t1
              by_cases t2 : 100000 < d.t
              · have e2 : decide (100000 < d.t) = true := decide_eq_true t2
                go_quiet (fail)
                go_wp2
                go_ret
                exact ⟨by rw [alOk_badH hlt (fun h => by have := (HG.out.1 h).2.2.1; omega)] <;> rfl, XX.drewN _⟩
              · have e2 : decide (100000 < d.t) = false := decide_eq_false t2
                cases c with
                | false =>
                  go_quiet (fail)
                  go_wp2
                  go_ret
                  exact ⟨by rw [alOk_badH hlt (fun h => by have := (HG.out.1 h).1; rw [HC.out] at this; cases this)] <;> rfl, XX.drewN _⟩
                | true =>
                  cases k with
                  | zero =>
                    rw [Nat.zero_mul, Nat.add_zero] at q0
                    go_quiet (fail)
                    go_wp2
                    go_roundw
                    case rel => exact ⟨1, by omega, by go_num, fun i h hi => by
                      obtain rfl : i = 0 := by omega
                      exact HG.out.2 ⟨HC.out, by omega, by omega, fun j e => by omega⟩, X1.drewN _⟩
                    case measure => simp [intOf]; omega
                  | succ j =>
                    have qp := hprev' j rfl
                    clear hprev'
                    obtain ⟨pt, hpt⟩ : ∃ pt, (hs.getD j default).t = pt := ⟨_, rfl⟩
                    rw [hpt] at qp
                    have HPT := Lib.hid hpt
                    clear hpt
                    by_cases t3 : d.t < pt
                    · have e3 : decide (d.t < pt) = true := decide_eq_true t3
                      go_quiet (fail)
                      go_wp2
                      go_ret
                      exact ⟨by rw [alOk_badH hlt (fun h => by have := (HG.out.1 h).2.2.2 j rfl; rw [HPT.out] at this; omega)] <;> rfl, XX.drewN _⟩
                    · have e3 : decide (d.t < pt) = false := decide_eq_false t3
                      go_quiet (fail)
                      go_wp2
                      go_roundw
                      case rel => exact ⟨j + 1 + 1, by omega, by go_num, fun i h hi => by
                        rcases Nat.lt_or_ge i (j + 1) with h1 | h1
                        · exact HB.out i h h1
                        · obtain rfl : i = j + 1 := by omega
                          exact HG.out.2 ⟨HC.out, by omega, by omega, fun j' e => by obtain rfl : j' = j := by omega
                                                                                     rw [HPT.out]; omega⟩, X1.drewN _⟩
                      case measure => simp [intOf]; omega
          · obtain rfl : k = hs.length := by omega
            have hok : alOk ds hs p = true := alOk_good.2 ⟨HPP.out, ⟨hdn, hhn⟩, fun i h => HA.out i h h, fun i h => HB.out i h h⟩
            have HO := Lib.hid hok
            clear hok Sh
            go_wp2
            go_ret
            exact ⟨by rw [HO.out] <;> rfl, XA.trans X⟩
  · have hok : alOk ds hs p = false := alOk_badP hP
    have HO := Lib.hid hok
    have hP' : ¬ ((0 ≤ p.skip ∧ p.skip ≤ 1000000) ∧ 0 ≤ p.off ∧ p.off ≤ 1000000) ∨ 100 < ds.length ∨ 100 < hs.length := by
      by_cases h : prOk p = true
      · right
        have : ¬ (ds.length ≤ 100 ∧ hs.length ≤ 100) := fun k => hP ⟨h, k⟩
        omega
      · left
        exact fun k => h (prOk_iff.2 k)
    clear hok hP Sd Sh
    by_cases h1 : 100 < ds.length
    · go_enter Tryd.func13, Tryd.ntmps13
      go_wp2
      go_ret
      exact ⟨by rw [HO.out] <;> rfl, (by repeat (first | with_reducible exact Ext.refl _ | with_reducible assumption | with_reducible apply Ext.alloc | with_reducible apply Ext.drew | (with_reducible refine Ext.setCell ?_ (by (try simp) <;> omega) _)))⟩
    · by_cases h2 : 100 < hs.length
      · go_enter Tryd.func13, Tryd.ntmps13
        go_wp2
        go_ret
        exact ⟨by rw [HO.out] <;> rfl, (by repeat (first | with_reducible exact Ext.refl _ | with_reducible assumption | with_reducible apply Ext.alloc | with_reducible apply Ext.drew | (with_reducible refine Ext.setCell ?_ (by (try simp) <;> omega) _)))⟩
      · have hq : ¬ ((0 ≤ p.skip ∧ p.skip ≤ 1000000) ∧ 0 ≤ p.off ∧ p.off ≤ 1000000) := by omega
        clear hP'
        by_cases k1 : 0 ≤ p.skip
        · by_cases k2 : p.skip ≤ 1000000
          · by_cases k3 : 0 ≤ p.off
            · have k4 : ¬ p.off ≤ 1000000 := fun h => hq ⟨⟨k1, k2⟩, k3, h⟩
              clear hq
              go_enter Tryd.func13, Tryd.ntmps13
              go_wp2
              go_ret
              exact ⟨by rw [HO.out] <;> rfl, (by repeat (first | with_reducible exact Ext.refl _ | with_reducible assumption | with_reducible apply Ext.alloc | with_reducible apply Ext.drew | (with_reducible refine Ext.setCell ?_ (by (try simp) <;> omega) _)))⟩
            · clear hq
              go_enter Tryd.func13, Tryd.ntmps13
              go_wp2
              go_ret
              exact ⟨by rw [HO.out] <;> rfl, (by repeat (first | with_reducible exact Ext.refl _ | with_reducible assumption | with_reducible apply Ext.alloc | with_reducible apply Ext.drew | (with_reducible refine Ext.setCell ?_ (by (try simp) <;> omega) _)))⟩
          · clear hq
            go_enter Tryd.func13, Tryd.ntmps13
            go_wp2
            go_ret
            exact ⟨by rw [HO.out] <;> rfl, (by repeat (first | with_reducible exact Ext.refl _ | with_reducible assumption | with_reducible apply Ext.alloc | with_reducible apply Ext.drew | (with_reducible refine Ext.setCell ?_ (by (try simp) <;> omega) _)))⟩
        · clear hq
          go_enter Tryd.func13, Tryd.ntmps13
          go_wp2
          go_ret
          exact ⟨by rw [HO.out] <;> rfl, (by repeat (first | with_reducible exact Ext.refl _ | with_reducible assumption | with_reducible apply Ext.alloc | with_reducible apply Ext.drew | (with_reducible refine Ext.setCell ?_ (by (try simp) <;> omega) _)))⟩

set_option maxHeartbeats 2000000 in
theorem rmatch_walk (d : Due) (h : Hrd) (p : Prc) (h1 : 0 ≤ d.t ∧ d.t ≤ 100000) (h2 : 0 ≤ h.t ∧ h.t ≤ 100000) (h3 : 0 ≤ p.off ∧ p.off ≤ 1000000) (w : World) :
    Calls Tryd.prog 31 #[.agg #[.int .i64 d.t, .int .i64 d.x.a, .int .i64 d.x.b, .int .i64 d.x.c, .int .i64 d.x.d, .int .i64 d.x.e, .int .i64 d.x.f], .agg #[.int .i64 h.t, .int .i64 h.s.lo, .int .i64 h.s.hi], .agg #[.int .i64 p.skip, .int .i64 p.off]] w fun e w' => e = .returned (.int .i64 (mc p d h)) ∧ Ext w w' := by
  have hm : mc p d h = if (cmpR (sizeR (ofR d.x).1).1 h.s).1 = 0 then absd d.t h.t else absd d.t h.t + p.off := rfl
  obtain ⟨o, ho⟩ : ∃ o, ofR d.x = o := ⟨_, rfl⟩
  obtain ⟨s, hs⟩ : ∃ s, sizeR o.1 = s := ⟨_, rfl⟩
  obtain ⟨c, hc⟩ : ∃ c, cmpR s.1 h.s = c := ⟨_, rfl⟩
  rw [ho, hs, hc] at hm
  have HM := Lib.hid hm; have HO := Lib.hid ho; have HS := Lib.hid hs; have HC := Lib.hid hc
  clear hm ho hs hc
  obtain ⟨a1, a2⟩ := h1; obtain ⟨b1, b2⟩ := h2; obtain ⟨c1, c2⟩ := h3
  by_cases hn : d.t < h.t
  · have ha : absd d.t h.t = h.t - d.t := by unfold absd; split <;> omega
    have HA := Lib.hid ha
    have hn2 : ¬ h.t < d.t := by omega
    have hn3 : d.t - h.t < h.t - d.t := by omega
    clear ha
    by_cases hz : c.1 = 0
    · have hz' : (c.1 != 0) = false := by rw [hz]; rfl
      have HZ := Lib.hid hz
      clear hz
      go_enter Tryd.func31, Tryd.ntmps31
      go_wp2_with fail
      refine (rof_walk d.x _).mono ?_
      rw [HO.out]
      rintro e w1 ⟨rfl, x1⟩
      obtain ⟨hc1, hf1⟩ := x1.rules
      obtain ⟨hz1_0, hz1_1, hz1_2⟩ : w.heap.size < w1.heap.size ∧ w.heap.size + 1 < w1.heap.size ∧ w.heap.size + 1 + 1 < w1.heap.size := by have := x1.size; (try simp at this); omega
      obtain ⟨hl1_0, hl1_1, hl1_2, hl1_3, hl1_4, hl1_5, hl1_6, hl1_7, hl1_8, hl1_9, hl1_10, hl1_11⟩ : w.heap.size < w1.heap.size + 1 ∧ w.heap.size < w1.heap.size + 1 + 1 ∧ w.heap.size < w1.heap.size + 1 + 1 + 1 ∧ w.heap.size + 1 < w1.heap.size + 1 ∧ w.heap.size + 1 < w1.heap.size + 1 + 1 ∧ w.heap.size + 1 < w1.heap.size + 1 + 1 + 1 ∧ w.heap.size + 1 + 1 < w1.heap.size + 1 ∧ w.heap.size + 1 + 1 < w1.heap.size + 1 + 1 ∧ w.heap.size + 1 + 1 < w1.heap.size + 1 + 1 + 1 ∧ ¬ w.heap.size = w1.heap.size ∧ ¬ w.heap.size + 1 = w1.heap.size ∧ ¬ w.heap.size + 1 + 1 = w1.heap.size := by omega
      have X1 : Ext w w1 := Ext.trans (by repeat (first | with_reducible exact Ext.refl _ | with_reducible assumption | with_reducible apply Ext.alloc | with_reducible apply Ext.drew | (with_reducible refine Ext.setCell ?_ (by (try simp) <;> omega) _))) x1
      go_wp2_with fail
      refine (rsof_walk o.1 _).mono ?_
      rw [HS.out]
      rintro e w2 ⟨rfl, x2⟩
      obtain ⟨hc2, hf2⟩ := x2.rules
      obtain ⟨hz2_0, hz2_1, hz2_2, hz2_3⟩ : w.heap.size < w2.heap.size ∧ w.heap.size + 1 < w2.heap.size ∧ w.heap.size + 1 + 1 < w2.heap.size ∧ w.heap.size + 1 + 1 + 1 < w2.heap.size := by have := x2.size; (try simp at this); omega
      obtain ⟨hl2_0, hl2_1, hl2_2, hl2_3, hl2_4, hl2_5, hl2_6, hl2_7, hl2_8, hl2_9, hl2_10, hl2_11, hl2_12, hl2_13, hl2_14, hl2_15⟩ : w.heap.size < w2.heap.size + 1 ∧ w.heap.size < w2.heap.size + 1 + 1 ∧ w.heap.size < w2.heap.size + 1 + 1 + 1 ∧ w.heap.size + 1 < w2.heap.size + 1 ∧ w.heap.size + 1 < w2.heap.size + 1 + 1 ∧ w.heap.size + 1 < w2.heap.size + 1 + 1 + 1 ∧ w.heap.size + 1 + 1 < w2.heap.size + 1 ∧ w.heap.size + 1 + 1 < w2.heap.size + 1 + 1 ∧ w.heap.size + 1 + 1 < w2.heap.size + 1 + 1 + 1 ∧ w.heap.size + 1 + 1 + 1 < w2.heap.size + 1 ∧ w.heap.size + 1 + 1 + 1 < w2.heap.size + 1 + 1 ∧ w.heap.size + 1 + 1 + 1 < w2.heap.size + 1 + 1 + 1 ∧ ¬ w.heap.size = w2.heap.size ∧ ¬ w.heap.size + 1 = w2.heap.size ∧ ¬ w.heap.size + 1 + 1 = w2.heap.size ∧ ¬ w.heap.size + 1 + 1 + 1 = w2.heap.size := by omega
      have X2 : Ext w w2 := Ext.trans (by repeat (first | with_reducible exact Ext.refl _ | with_reducible assumption | with_reducible apply Ext.alloc | with_reducible apply Ext.drew | (with_reducible refine Ext.setCell ?_ (by (try simp) <;> omega) _))) x2
      go_wp2_with fail
      refine (rcmp_walk s.1 h.s _).mono ?_
      rw [HC.out]
      rintro e w3 ⟨rfl, x3⟩
      obtain ⟨hc3, hf3⟩ := x3.rules
      obtain ⟨hz3_0, hz3_1, hz3_2, hz3_3, hz3_4⟩ : w.heap.size < w3.heap.size ∧ w.heap.size + 1 < w3.heap.size ∧ w.heap.size + 1 + 1 < w3.heap.size ∧ w.heap.size + 1 + 1 + 1 < w3.heap.size ∧ w.heap.size + 1 + 1 + 1 + 1 < w3.heap.size := by have := x3.size; (try simp at this); omega
      obtain ⟨hl3_0, hl3_1, hl3_2, hl3_3, hl3_4, hl3_5, hl3_6, hl3_7, hl3_8, hl3_9, hl3_10, hl3_11, hl3_12, hl3_13, hl3_14, hl3_15, hl3_16, hl3_17, hl3_18, hl3_19⟩ : w.heap.size < w3.heap.size + 1 ∧ w.heap.size < w3.heap.size + 1 + 1 ∧ w.heap.size < w3.heap.size + 1 + 1 + 1 ∧ w.heap.size + 1 < w3.heap.size + 1 ∧ w.heap.size + 1 < w3.heap.size + 1 + 1 ∧ w.heap.size + 1 < w3.heap.size + 1 + 1 + 1 ∧ w.heap.size + 1 + 1 < w3.heap.size + 1 ∧ w.heap.size + 1 + 1 < w3.heap.size + 1 + 1 ∧ w.heap.size + 1 + 1 < w3.heap.size + 1 + 1 + 1 ∧ w.heap.size + 1 + 1 + 1 < w3.heap.size + 1 ∧ w.heap.size + 1 + 1 + 1 < w3.heap.size + 1 + 1 ∧ w.heap.size + 1 + 1 + 1 < w3.heap.size + 1 + 1 + 1 ∧ w.heap.size + 1 + 1 + 1 + 1 < w3.heap.size + 1 ∧ w.heap.size + 1 + 1 + 1 + 1 < w3.heap.size + 1 + 1 ∧ w.heap.size + 1 + 1 + 1 + 1 < w3.heap.size + 1 + 1 + 1 ∧ ¬ w.heap.size = w3.heap.size ∧ ¬ w.heap.size + 1 = w3.heap.size ∧ ¬ w.heap.size + 1 + 1 = w3.heap.size ∧ ¬ w.heap.size + 1 + 1 + 1 = w3.heap.size ∧ ¬ w.heap.size + 1 + 1 + 1 + 1 = w3.heap.size := by omega
      have X3 : Ext w w3 := Ext.trans (by repeat (first | with_reducible exact Ext.refl _ | with_reducible assumption | with_reducible apply Ext.alloc | with_reducible apply Ext.drew | (with_reducible refine Ext.setCell ?_ (by (try simp) <;> omega) _))) x3
      go_wp2
      go_ret
      exact ⟨by rw [HM.out, if_pos HZ.out, HA.out] <;> rfl, (by repeat (first | with_reducible exact Ext.refl _ | with_reducible assumption | with_reducible apply Ext.alloc | with_reducible apply Ext.drew | (with_reducible refine Ext.setCell ?_ (by (try simp) <;> omega) _)))⟩
    · have hz' : (c.1 != 0) = true := by rw [bne_iff_ne]; exact hz
      have HZ := Lib.hid hz
      clear hz
      go_enter Tryd.func31, Tryd.ntmps31
      go_wp2_with fail
      refine (rof_walk d.x _).mono ?_
      rw [HO.out]
      rintro e w1 ⟨rfl, x1⟩
      obtain ⟨hc1, hf1⟩ := x1.rules
      obtain ⟨hz1_0, hz1_1, hz1_2⟩ : w.heap.size < w1.heap.size ∧ w.heap.size + 1 < w1.heap.size ∧ w.heap.size + 1 + 1 < w1.heap.size := by have := x1.size; (try simp at this); omega
      obtain ⟨hl1_0, hl1_1, hl1_2, hl1_3, hl1_4, hl1_5, hl1_6, hl1_7, hl1_8, hl1_9, hl1_10, hl1_11⟩ : w.heap.size < w1.heap.size + 1 ∧ w.heap.size < w1.heap.size + 1 + 1 ∧ w.heap.size < w1.heap.size + 1 + 1 + 1 ∧ w.heap.size + 1 < w1.heap.size + 1 ∧ w.heap.size + 1 < w1.heap.size + 1 + 1 ∧ w.heap.size + 1 < w1.heap.size + 1 + 1 + 1 ∧ w.heap.size + 1 + 1 < w1.heap.size + 1 ∧ w.heap.size + 1 + 1 < w1.heap.size + 1 + 1 ∧ w.heap.size + 1 + 1 < w1.heap.size + 1 + 1 + 1 ∧ ¬ w.heap.size = w1.heap.size ∧ ¬ w.heap.size + 1 = w1.heap.size ∧ ¬ w.heap.size + 1 + 1 = w1.heap.size := by omega
      have X1 : Ext w w1 := Ext.trans (by repeat (first | with_reducible exact Ext.refl _ | with_reducible assumption | with_reducible apply Ext.alloc | with_reducible apply Ext.drew | (with_reducible refine Ext.setCell ?_ (by (try simp) <;> omega) _))) x1
      go_wp2_with fail
      refine (rsof_walk o.1 _).mono ?_
      rw [HS.out]
      rintro e w2 ⟨rfl, x2⟩
      obtain ⟨hc2, hf2⟩ := x2.rules
      obtain ⟨hz2_0, hz2_1, hz2_2, hz2_3⟩ : w.heap.size < w2.heap.size ∧ w.heap.size + 1 < w2.heap.size ∧ w.heap.size + 1 + 1 < w2.heap.size ∧ w.heap.size + 1 + 1 + 1 < w2.heap.size := by have := x2.size; (try simp at this); omega
      obtain ⟨hl2_0, hl2_1, hl2_2, hl2_3, hl2_4, hl2_5, hl2_6, hl2_7, hl2_8, hl2_9, hl2_10, hl2_11, hl2_12, hl2_13, hl2_14, hl2_15⟩ : w.heap.size < w2.heap.size + 1 ∧ w.heap.size < w2.heap.size + 1 + 1 ∧ w.heap.size < w2.heap.size + 1 + 1 + 1 ∧ w.heap.size + 1 < w2.heap.size + 1 ∧ w.heap.size + 1 < w2.heap.size + 1 + 1 ∧ w.heap.size + 1 < w2.heap.size + 1 + 1 + 1 ∧ w.heap.size + 1 + 1 < w2.heap.size + 1 ∧ w.heap.size + 1 + 1 < w2.heap.size + 1 + 1 ∧ w.heap.size + 1 + 1 < w2.heap.size + 1 + 1 + 1 ∧ w.heap.size + 1 + 1 + 1 < w2.heap.size + 1 ∧ w.heap.size + 1 + 1 + 1 < w2.heap.size + 1 + 1 ∧ w.heap.size + 1 + 1 + 1 < w2.heap.size + 1 + 1 + 1 ∧ ¬ w.heap.size = w2.heap.size ∧ ¬ w.heap.size + 1 = w2.heap.size ∧ ¬ w.heap.size + 1 + 1 = w2.heap.size ∧ ¬ w.heap.size + 1 + 1 + 1 = w2.heap.size := by omega
      have X2 : Ext w w2 := Ext.trans (by repeat (first | with_reducible exact Ext.refl _ | with_reducible assumption | with_reducible apply Ext.alloc | with_reducible apply Ext.drew | (with_reducible refine Ext.setCell ?_ (by (try simp) <;> omega) _))) x2
      go_wp2_with fail
      refine (rcmp_walk s.1 h.s _).mono ?_
      rw [HC.out]
      rintro e w3 ⟨rfl, x3⟩
      obtain ⟨hc3, hf3⟩ := x3.rules
      obtain ⟨hz3_0, hz3_1, hz3_2, hz3_3, hz3_4⟩ : w.heap.size < w3.heap.size ∧ w.heap.size + 1 < w3.heap.size ∧ w.heap.size + 1 + 1 < w3.heap.size ∧ w.heap.size + 1 + 1 + 1 < w3.heap.size ∧ w.heap.size + 1 + 1 + 1 + 1 < w3.heap.size := by have := x3.size; (try simp at this); omega
      obtain ⟨hl3_0, hl3_1, hl3_2, hl3_3, hl3_4, hl3_5, hl3_6, hl3_7, hl3_8, hl3_9, hl3_10, hl3_11, hl3_12, hl3_13, hl3_14, hl3_15, hl3_16, hl3_17, hl3_18, hl3_19⟩ : w.heap.size < w3.heap.size + 1 ∧ w.heap.size < w3.heap.size + 1 + 1 ∧ w.heap.size < w3.heap.size + 1 + 1 + 1 ∧ w.heap.size + 1 < w3.heap.size + 1 ∧ w.heap.size + 1 < w3.heap.size + 1 + 1 ∧ w.heap.size + 1 < w3.heap.size + 1 + 1 + 1 ∧ w.heap.size + 1 + 1 < w3.heap.size + 1 ∧ w.heap.size + 1 + 1 < w3.heap.size + 1 + 1 ∧ w.heap.size + 1 + 1 < w3.heap.size + 1 + 1 + 1 ∧ w.heap.size + 1 + 1 + 1 < w3.heap.size + 1 ∧ w.heap.size + 1 + 1 + 1 < w3.heap.size + 1 + 1 ∧ w.heap.size + 1 + 1 + 1 < w3.heap.size + 1 + 1 + 1 ∧ w.heap.size + 1 + 1 + 1 + 1 < w3.heap.size + 1 ∧ w.heap.size + 1 + 1 + 1 + 1 < w3.heap.size + 1 + 1 ∧ w.heap.size + 1 + 1 + 1 + 1 < w3.heap.size + 1 + 1 + 1 ∧ ¬ w.heap.size = w3.heap.size ∧ ¬ w.heap.size + 1 = w3.heap.size ∧ ¬ w.heap.size + 1 + 1 = w3.heap.size ∧ ¬ w.heap.size + 1 + 1 + 1 = w3.heap.size ∧ ¬ w.heap.size + 1 + 1 + 1 + 1 = w3.heap.size := by omega
      have X3 : Ext w w3 := Ext.trans (by repeat (first | with_reducible exact Ext.refl _ | with_reducible assumption | with_reducible apply Ext.alloc | with_reducible apply Ext.drew | (with_reducible refine Ext.setCell ?_ (by (try simp) <;> omega) _))) x3
      go_wp2
      go_ret
      exact ⟨by rw [HM.out, if_neg HZ.out, HA.out] <;> rfl, (by repeat (first | with_reducible exact Ext.refl _ | with_reducible assumption | with_reducible apply Ext.alloc | with_reducible apply Ext.drew | (with_reducible refine Ext.setCell ?_ (by (try simp) <;> omega) _)))⟩
  · have ha : absd d.t h.t = d.t - h.t := by unfold absd; split <;> omega
    have HA := Lib.hid ha
    clear ha
    by_cases hz : c.1 = 0
    · have hz' : (c.1 != 0) = false := by rw [hz]; rfl
      have HZ := Lib.hid hz
      clear hz
      go_enter Tryd.func31, Tryd.ntmps31
      go_wp2_with fail
      refine (rof_walk d.x _).mono ?_
      rw [HO.out]
      rintro e w1 ⟨rfl, x1⟩
      obtain ⟨hc1, hf1⟩ := x1.rules
      obtain ⟨hz1_0, hz1_1, hz1_2⟩ : w.heap.size < w1.heap.size ∧ w.heap.size + 1 < w1.heap.size ∧ w.heap.size + 1 + 1 < w1.heap.size := by have := x1.size; (try simp at this); omega
      obtain ⟨hl1_0, hl1_1, hl1_2, hl1_3, hl1_4, hl1_5, hl1_6, hl1_7, hl1_8, hl1_9, hl1_10, hl1_11⟩ : w.heap.size < w1.heap.size + 1 ∧ w.heap.size < w1.heap.size + 1 + 1 ∧ w.heap.size < w1.heap.size + 1 + 1 + 1 ∧ w.heap.size + 1 < w1.heap.size + 1 ∧ w.heap.size + 1 < w1.heap.size + 1 + 1 ∧ w.heap.size + 1 < w1.heap.size + 1 + 1 + 1 ∧ w.heap.size + 1 + 1 < w1.heap.size + 1 ∧ w.heap.size + 1 + 1 < w1.heap.size + 1 + 1 ∧ w.heap.size + 1 + 1 < w1.heap.size + 1 + 1 + 1 ∧ ¬ w.heap.size = w1.heap.size ∧ ¬ w.heap.size + 1 = w1.heap.size ∧ ¬ w.heap.size + 1 + 1 = w1.heap.size := by omega
      have X1 : Ext w w1 := Ext.trans (by repeat (first | with_reducible exact Ext.refl _ | with_reducible assumption | with_reducible apply Ext.alloc | with_reducible apply Ext.drew | (with_reducible refine Ext.setCell ?_ (by (try simp) <;> omega) _))) x1
      go_wp2_with fail
      refine (rsof_walk o.1 _).mono ?_
      rw [HS.out]
      rintro e w2 ⟨rfl, x2⟩
      obtain ⟨hc2, hf2⟩ := x2.rules
      obtain ⟨hz2_0, hz2_1, hz2_2, hz2_3⟩ : w.heap.size < w2.heap.size ∧ w.heap.size + 1 < w2.heap.size ∧ w.heap.size + 1 + 1 < w2.heap.size ∧ w.heap.size + 1 + 1 + 1 < w2.heap.size := by have := x2.size; (try simp at this); omega
      obtain ⟨hl2_0, hl2_1, hl2_2, hl2_3, hl2_4, hl2_5, hl2_6, hl2_7, hl2_8, hl2_9, hl2_10, hl2_11, hl2_12, hl2_13, hl2_14, hl2_15⟩ : w.heap.size < w2.heap.size + 1 ∧ w.heap.size < w2.heap.size + 1 + 1 ∧ w.heap.size < w2.heap.size + 1 + 1 + 1 ∧ w.heap.size + 1 < w2.heap.size + 1 ∧ w.heap.size + 1 < w2.heap.size + 1 + 1 ∧ w.heap.size + 1 < w2.heap.size + 1 + 1 + 1 ∧ w.heap.size + 1 + 1 < w2.heap.size + 1 ∧ w.heap.size + 1 + 1 < w2.heap.size + 1 + 1 ∧ w.heap.size + 1 + 1 < w2.heap.size + 1 + 1 + 1 ∧ w.heap.size + 1 + 1 + 1 < w2.heap.size + 1 ∧ w.heap.size + 1 + 1 + 1 < w2.heap.size + 1 + 1 ∧ w.heap.size + 1 + 1 + 1 < w2.heap.size + 1 + 1 + 1 ∧ ¬ w.heap.size = w2.heap.size ∧ ¬ w.heap.size + 1 = w2.heap.size ∧ ¬ w.heap.size + 1 + 1 = w2.heap.size ∧ ¬ w.heap.size + 1 + 1 + 1 = w2.heap.size := by omega
      have X2 : Ext w w2 := Ext.trans (by repeat (first | with_reducible exact Ext.refl _ | with_reducible assumption | with_reducible apply Ext.alloc | with_reducible apply Ext.drew | (with_reducible refine Ext.setCell ?_ (by (try simp) <;> omega) _))) x2
      go_wp2_with fail
      refine (rcmp_walk s.1 h.s _).mono ?_
      rw [HC.out]
      rintro e w3 ⟨rfl, x3⟩
      obtain ⟨hc3, hf3⟩ := x3.rules
      obtain ⟨hz3_0, hz3_1, hz3_2, hz3_3, hz3_4⟩ : w.heap.size < w3.heap.size ∧ w.heap.size + 1 < w3.heap.size ∧ w.heap.size + 1 + 1 < w3.heap.size ∧ w.heap.size + 1 + 1 + 1 < w3.heap.size ∧ w.heap.size + 1 + 1 + 1 + 1 < w3.heap.size := by have := x3.size; (try simp at this); omega
      obtain ⟨hl3_0, hl3_1, hl3_2, hl3_3, hl3_4, hl3_5, hl3_6, hl3_7, hl3_8, hl3_9, hl3_10, hl3_11, hl3_12, hl3_13, hl3_14, hl3_15, hl3_16, hl3_17, hl3_18, hl3_19⟩ : w.heap.size < w3.heap.size + 1 ∧ w.heap.size < w3.heap.size + 1 + 1 ∧ w.heap.size < w3.heap.size + 1 + 1 + 1 ∧ w.heap.size + 1 < w3.heap.size + 1 ∧ w.heap.size + 1 < w3.heap.size + 1 + 1 ∧ w.heap.size + 1 < w3.heap.size + 1 + 1 + 1 ∧ w.heap.size + 1 + 1 < w3.heap.size + 1 ∧ w.heap.size + 1 + 1 < w3.heap.size + 1 + 1 ∧ w.heap.size + 1 + 1 < w3.heap.size + 1 + 1 + 1 ∧ w.heap.size + 1 + 1 + 1 < w3.heap.size + 1 ∧ w.heap.size + 1 + 1 + 1 < w3.heap.size + 1 + 1 ∧ w.heap.size + 1 + 1 + 1 < w3.heap.size + 1 + 1 + 1 ∧ w.heap.size + 1 + 1 + 1 + 1 < w3.heap.size + 1 ∧ w.heap.size + 1 + 1 + 1 + 1 < w3.heap.size + 1 + 1 ∧ w.heap.size + 1 + 1 + 1 + 1 < w3.heap.size + 1 + 1 + 1 ∧ ¬ w.heap.size = w3.heap.size ∧ ¬ w.heap.size + 1 = w3.heap.size ∧ ¬ w.heap.size + 1 + 1 = w3.heap.size ∧ ¬ w.heap.size + 1 + 1 + 1 = w3.heap.size ∧ ¬ w.heap.size + 1 + 1 + 1 + 1 = w3.heap.size := by omega
      have X3 : Ext w w3 := Ext.trans (by repeat (first | with_reducible exact Ext.refl _ | with_reducible assumption | with_reducible apply Ext.alloc | with_reducible apply Ext.drew | (with_reducible refine Ext.setCell ?_ (by (try simp) <;> omega) _))) x3
      go_wp2
      go_ret
      exact ⟨by rw [HM.out, if_pos HZ.out, HA.out] <;> rfl, (by repeat (first | with_reducible exact Ext.refl _ | with_reducible assumption | with_reducible apply Ext.alloc | with_reducible apply Ext.drew | (with_reducible refine Ext.setCell ?_ (by (try simp) <;> omega) _)))⟩
    · have hz' : (c.1 != 0) = true := by rw [bne_iff_ne]; exact hz
      have HZ := Lib.hid hz
      clear hz
      go_enter Tryd.func31, Tryd.ntmps31
      go_wp2_with fail
      refine (rof_walk d.x _).mono ?_
      rw [HO.out]
      rintro e w1 ⟨rfl, x1⟩
      obtain ⟨hc1, hf1⟩ := x1.rules
      obtain ⟨hz1_0, hz1_1, hz1_2⟩ : w.heap.size < w1.heap.size ∧ w.heap.size + 1 < w1.heap.size ∧ w.heap.size + 1 + 1 < w1.heap.size := by have := x1.size; (try simp at this); omega
      obtain ⟨hl1_0, hl1_1, hl1_2, hl1_3, hl1_4, hl1_5, hl1_6, hl1_7, hl1_8, hl1_9, hl1_10, hl1_11⟩ : w.heap.size < w1.heap.size + 1 ∧ w.heap.size < w1.heap.size + 1 + 1 ∧ w.heap.size < w1.heap.size + 1 + 1 + 1 ∧ w.heap.size + 1 < w1.heap.size + 1 ∧ w.heap.size + 1 < w1.heap.size + 1 + 1 ∧ w.heap.size + 1 < w1.heap.size + 1 + 1 + 1 ∧ w.heap.size + 1 + 1 < w1.heap.size + 1 ∧ w.heap.size + 1 + 1 < w1.heap.size + 1 + 1 ∧ w.heap.size + 1 + 1 < w1.heap.size + 1 + 1 + 1 ∧ ¬ w.heap.size = w1.heap.size ∧ ¬ w.heap.size + 1 = w1.heap.size ∧ ¬ w.heap.size + 1 + 1 = w1.heap.size := by omega
      have X1 : Ext w w1 := Ext.trans (by repeat (first | with_reducible exact Ext.refl _ | with_reducible assumption | with_reducible apply Ext.alloc | with_reducible apply Ext.drew | (with_reducible refine Ext.setCell ?_ (by (try simp) <;> omega) _))) x1
      go_wp2_with fail
      refine (rsof_walk o.1 _).mono ?_
      rw [HS.out]
      rintro e w2 ⟨rfl, x2⟩
      obtain ⟨hc2, hf2⟩ := x2.rules
      obtain ⟨hz2_0, hz2_1, hz2_2, hz2_3⟩ : w.heap.size < w2.heap.size ∧ w.heap.size + 1 < w2.heap.size ∧ w.heap.size + 1 + 1 < w2.heap.size ∧ w.heap.size + 1 + 1 + 1 < w2.heap.size := by have := x2.size; (try simp at this); omega
      obtain ⟨hl2_0, hl2_1, hl2_2, hl2_3, hl2_4, hl2_5, hl2_6, hl2_7, hl2_8, hl2_9, hl2_10, hl2_11, hl2_12, hl2_13, hl2_14, hl2_15⟩ : w.heap.size < w2.heap.size + 1 ∧ w.heap.size < w2.heap.size + 1 + 1 ∧ w.heap.size < w2.heap.size + 1 + 1 + 1 ∧ w.heap.size + 1 < w2.heap.size + 1 ∧ w.heap.size + 1 < w2.heap.size + 1 + 1 ∧ w.heap.size + 1 < w2.heap.size + 1 + 1 + 1 ∧ w.heap.size + 1 + 1 < w2.heap.size + 1 ∧ w.heap.size + 1 + 1 < w2.heap.size + 1 + 1 ∧ w.heap.size + 1 + 1 < w2.heap.size + 1 + 1 + 1 ∧ w.heap.size + 1 + 1 + 1 < w2.heap.size + 1 ∧ w.heap.size + 1 + 1 + 1 < w2.heap.size + 1 + 1 ∧ w.heap.size + 1 + 1 + 1 < w2.heap.size + 1 + 1 + 1 ∧ ¬ w.heap.size = w2.heap.size ∧ ¬ w.heap.size + 1 = w2.heap.size ∧ ¬ w.heap.size + 1 + 1 = w2.heap.size ∧ ¬ w.heap.size + 1 + 1 + 1 = w2.heap.size := by omega
      have X2 : Ext w w2 := Ext.trans (by repeat (first | with_reducible exact Ext.refl _ | with_reducible assumption | with_reducible apply Ext.alloc | with_reducible apply Ext.drew | (with_reducible refine Ext.setCell ?_ (by (try simp) <;> omega) _))) x2
      go_wp2_with fail
      refine (rcmp_walk s.1 h.s _).mono ?_
      rw [HC.out]
      rintro e w3 ⟨rfl, x3⟩
      obtain ⟨hc3, hf3⟩ := x3.rules
      obtain ⟨hz3_0, hz3_1, hz3_2, hz3_3, hz3_4⟩ : w.heap.size < w3.heap.size ∧ w.heap.size + 1 < w3.heap.size ∧ w.heap.size + 1 + 1 < w3.heap.size ∧ w.heap.size + 1 + 1 + 1 < w3.heap.size ∧ w.heap.size + 1 + 1 + 1 + 1 < w3.heap.size := by have := x3.size; (try simp at this); omega
      obtain ⟨hl3_0, hl3_1, hl3_2, hl3_3, hl3_4, hl3_5, hl3_6, hl3_7, hl3_8, hl3_9, hl3_10, hl3_11, hl3_12, hl3_13, hl3_14, hl3_15, hl3_16, hl3_17, hl3_18, hl3_19⟩ : w.heap.size < w3.heap.size + 1 ∧ w.heap.size < w3.heap.size + 1 + 1 ∧ w.heap.size < w3.heap.size + 1 + 1 + 1 ∧ w.heap.size + 1 < w3.heap.size + 1 ∧ w.heap.size + 1 < w3.heap.size + 1 + 1 ∧ w.heap.size + 1 < w3.heap.size + 1 + 1 + 1 ∧ w.heap.size + 1 + 1 < w3.heap.size + 1 ∧ w.heap.size + 1 + 1 < w3.heap.size + 1 + 1 ∧ w.heap.size + 1 + 1 < w3.heap.size + 1 + 1 + 1 ∧ w.heap.size + 1 + 1 + 1 < w3.heap.size + 1 ∧ w.heap.size + 1 + 1 + 1 < w3.heap.size + 1 + 1 ∧ w.heap.size + 1 + 1 + 1 < w3.heap.size + 1 + 1 + 1 ∧ w.heap.size + 1 + 1 + 1 + 1 < w3.heap.size + 1 ∧ w.heap.size + 1 + 1 + 1 + 1 < w3.heap.size + 1 + 1 ∧ w.heap.size + 1 + 1 + 1 + 1 < w3.heap.size + 1 + 1 + 1 ∧ ¬ w.heap.size = w3.heap.size ∧ ¬ w.heap.size + 1 = w3.heap.size ∧ ¬ w.heap.size + 1 + 1 = w3.heap.size ∧ ¬ w.heap.size + 1 + 1 + 1 = w3.heap.size ∧ ¬ w.heap.size + 1 + 1 + 1 + 1 = w3.heap.size := by omega
      have X3 : Ext w w3 := Ext.trans (by repeat (first | with_reducible exact Ext.refl _ | with_reducible assumption | with_reducible apply Ext.alloc | with_reducible apply Ext.drew | (with_reducible refine Ext.setCell ?_ (by (try simp) <;> omega) _))) x3
      go_wp2
      go_ret
      exact ⟨by rw [HM.out, if_neg HZ.out, HA.out] <;> rfl, (by repeat (first | with_reducible exact Ext.refl _ | with_reducible assumption | with_reducible apply Ext.alloc | with_reducible apply Ext.drew | (with_reducible refine Ext.setCell ?_ (by (try simp) <;> omega) _)))⟩
end Go.Proofs.YthomegempfedaaaDoor
