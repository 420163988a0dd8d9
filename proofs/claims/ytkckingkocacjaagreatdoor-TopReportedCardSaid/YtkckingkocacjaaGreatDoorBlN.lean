/-
  Plain: what the laws of chapter 40 ask of charges and deviants.
-/
import Derived.Test.YtkckingkocacjaaGreatDoorLibP
set_option linter.unusedVariables false
set_option linter.unusedSectionVars false
namespace Go.Sx.Bl
open Go.Sx.Sz Go.Sx.Sc Go.Sx.Au Go.Sx.Po

theorem brk_any {s : Sc} {xs : List V6} {i : Nat} (hi : i < s.pairs.length) : ((brkL s xs).any fun c => decide (c.pair = (i : Int))) = brkT s xs i := by
  cases hb : brkT s xs i with
  | true =>
    rw [List.any_eq_true]
    exact ⟨cnF s xs i, mem_brkL.2 ⟨i, hi, hb, rfl⟩, decide_eq_true rfl⟩
  | false =>
    rw [List.any_eq_false]
    intro c hc
    obtain ⟨j, hj, hbj, rfl⟩ := mem_brkL.1 hc
    rw [decide_eq_true_eq]
    intro h
    have h : ((j : Nat) : Int) = (i : Int) := h
    obtain rfl : j = i := by omega
    rw [hb] at hbj; cases hbj
theorem dev_mem {xs : List V6} {l : List S2} {i : Nat} (hi : i < xs.length) : i ∈ devL xs l ↔ devT xs l i = true := by
  unfold devL
  rw [List.mem_filter, List.mem_range]
  exact ⟨fun h => h.2, fun h => ⟨hi, h⟩⟩
theorem dev_memZ {xs : List V6} {l : List S2} {i : Nat} (hi : i < xs.length) : decide ((i : Int) ∈ (devL xs l).map fun j : Nat => (j : Int)) = devT xs l i := by
  have h : ((i : Int) ∈ (devL xs l).map fun j : Nat => (j : Int)) ↔ devT xs l i = true := by
    rw [← dev_mem hi, List.mem_map]
    constructor
    · rintro ⟨j, hj, e⟩
      obtain rfl : j = i := by omega
      exact hj
    · exact fun h => ⟨i, h, rfl⟩
  cases hd : devT xs l i with
  | true => exact decide_eq_true (h.2 hd)
  | false => exact decide_eq_false fun h2 => by rw [h.1 h2] at hd; cases hd
theorem dev_none {xs : List V6} {l : List S2} {i : Nat} (hi : i < xs.length) (h : devL xs l = []) : devT xs l i = false := by
  cases hd : devT xs l i with
  | false => rfl
  | true => rw [← dev_mem hi, h] at hd; cases hd
/-- What lies at a place of the charges. -/
theorem chg_get {s : Sc} (hs : ScOk s) {xs : List V6} {l : List S2} {k : Nat} (hk : k < (chgL s xs l).length) : ∃ i : Nat, i < s.pairs.length ∧ (chgL s xs l)[k] = chgF s xs l i ∧ (fdOf s l i).verdict = 2 ∧ 0 ≤ (s.P i).a ∧ (s.P i).a < (s.P i).b ∧ (s.P i).b < xs.length := by
  have hm : (chgL s xs l)[k] ∈ chgL s xs l := List.getElem_mem hk
  obtain ⟨i, hi, e⟩ := List.mem_map.1 hm
  obtain ⟨h1, h2⟩ := List.mem_filter.1 hi
  have h1 := List.mem_range.1 h1
  have hp := hs.pr.1 i h1
  unfold pairOk at hp
  unfold chgB at h2
  rw [Bool.and_eq_true, decide_eq_true_eq, decide_eq_true_eq] at h2
  exact ⟨i, h1, e.symm, h2.1, by omega, by omega, h2.2⟩
/-- Without deviants a charge names a chain or nothing. -/
theorem chg_free {s : Sc} {xs : List V6} {l : List S2} (hd : devL xs l = []) {i : Nat} (h0 : 0 ≤ (s.P i).a) (h1 : (s.P i).a < (s.P i).b) (h2 : (s.P i).b < xs.length) : chgF s xs l i = ⟨i, if brkT s xs i = true then 2 else 3, -1⟩ := by
  unfold chgF
  rw [dev_none (by omega) hd, dev_none (by omega) hd, if_neg (by decide), if_neg (by decide)]
  split <;> rfl
theorem xAt_get {xs : List V6} {i : Nat} (h : i < xs.length) : xAt xs i = xs[i] := by
  unfold xAt; rw [List.getD_eq_getElem?_getD, List.getElem?_eq_getElem h]; rfl
theorem pAt_xAt {xs : List V6} {p : Int} (h : 0 ≤ p) : pAt xs p = xAt xs p.toNat := by
  unfold pAt xAt; rw [if_neg (by omega)]
theorem all_at {xs : List V6} (h : allB xs = true) {i : Nat} (hi : i < xs.length) : within (xAt xs i) 32 = true := by
  rw [xAt_get hi]; exact List.all_eq_true.1 h _ (List.getElem_mem hi)
/-- A charge that names nothing: the pair is denied with its own bound. -/
theorem chg_named {s : Sc} (hs : ScOk s) {xs : List V6} {l : List S2} (ha : allB xs = true) {i : Nat} (hi : i < s.pairs.length) (hv : (fdOf s l i).verdict = 2) (hb : (s.P i).b < xs.length) (hc : (chgF s xs l i).kind = 3) : (fdOf s l i).bound = (s.P i).bound := by
  have hp := hs.pr.1 i hi
  unfold pairOk at hp
  unfold chgF at hc
  by_cases h1 : devT xs l (s.P i).a.toNat = true
  · rw [if_pos h1] at hc; exact absurd (show (1 : Int) = 3 from hc) (by decide)
  by_cases h2 : devT xs l (s.P i).b.toNat = true
  · rw [if_neg h1, if_pos h2] at hc; exact absurd (show (1 : Int) = 3 from hc) (by decide)
  by_cases h3 : brkT s xs i = true
  · rw [if_neg h1, if_neg h2, if_pos h3] at hc; exact absurd (show (2 : Int) = 3 from hc) (by decide)
  rw [Bool.not_eq_true] at h1 h2 h3
  unfold brkT at h3
  rw [decide_eq_true hb, Bool.true_and] at h3
  unfold brkB gapP excF at h3
  rw [pAt_xAt (p := (s.P i).a) (by omega), pAt_xAt (p := (s.P i).b) (by omega)] at h3
  refine chg_bound (xa := xAt xs (s.P i).a.toNat) (xb := xAt xs (s.P i).b.toNat) (by omega) (all_at ha (by omega)) (all_at ha (by omega)) h1 h2 ?_ hv
  by_cases h0 : (s.P i).bound = 0
  · left
    rw [if_pos h0, decide_eq_false_iff_not, Decidable.not_not] at h3
    refine V6.ext' fun j hj => ?_
    have h4 := congrArg (fun v => V6.get v j) h3
    simp only [V6.add_get _ _ _ hj, zero_get hj] at h4
    rw [V6.add_get _ _ _ hj]
    omega
  · right
    rw [if_neg h0, Bool.not_eq_false', decide_eq_true_eq] at h3
    exact h3
theorem cmp_dev2 {z : S2} {x : V6} (hz : szOk z = true) (hx : szOk (wantS x) = true) : ∃ c, cmpR (wantS x) z = (c, 0) ∧ (c != 0) = devB z x := by
  rw [cmpR, if_pos ⟨hx, hz⟩]
  by_cases h1 : (wantS x).hi < z.lo
  · have : devB z x = true := devB_true.2 (.inl h1)
    rw [if_pos h1, this]; exact ⟨_, rfl, rfl⟩
  · by_cases h2 : z.hi < (wantS x).lo
    · have : devB z x = true := devB_true.2 (.inr h2)
      rw [if_neg h1, if_pos h2, this]; exact ⟨_, rfl, rfl⟩
    · have : devB z x = false := devB_false.2 (by omega)
      rw [if_neg h1, if_neg h2, this]; exact ⟨_, rfl, rfl⟩
/-- The sizes of the pitches deviate from none. -/
theorem ideal_none {xs : List V6} : devL xs (xs.map wantS) = [] := by
  unfold devL
  rw [List.filter_eq_nil_iff]
  intro i hi
  have hi := List.mem_range.1 hi
  have : devT xs (xs.map wantS) i = false := by
    unfold devT
    have e : T (xs.map wantS) i = wantS (xAt xs i) := by
      unfold T xAt
      rw [List.getD_eq_getElem?_getD, List.getD_eq_getElem?_getD, List.getElem?_map, List.getElem?_eq_getElem hi]; rfl
    rw [e]
    exact dev_holds (Int.le_refl _) (Int.le_refl _)
  rw [this]; decide
theorem devL_sorted {xs : List V6} {l : List S2} {k : Nat} (hk : k + 1 < (devL xs l).length) : (devL xs l)[k] < (devL xs l)[k + 1] := by
  have h : (devL xs l).Pairwise (· < ·) := (List.pairwise_lt_range (n := xs.length)).filter _
  exact List.pairwise_iff_getElem.1 h k (k + 1) (by omega) hk (by omega)
theorem devL_lt {xs : List V6} {l : List S2} {k : Nat} (hk : k < (devL xs l).length) : (devL xs l)[k] < xs.length :=
  List.mem_range.1 (List.mem_filter.1 (List.getElem_mem hk)).1
end Go.Sx.Bl
