/-
  Plain: rows that are honest, their tones, and what these deny (TopHonest).
-/
import Derived.Test.YtkckingkocacjaaGreatDoorTpM
import Derived.Test.YtkckingkocacjaaGreatDoorBlN
set_option linter.unusedVariables false
set_option linter.unusedSectionVars false
namespace Go.Sx.Tp
open Go.Sx.Sz Go.Sx.Sc Go.Sx.Au Go.Sx.Po Go.Sx.Bl Go.Sx.Al

def honB (r : Row) (x : V6) : Bool := decide (r.lo ≤ (wantS x).lo + (harmS r.h).lo) && decide ((wantS x).hi + (harmS r.h).hi ≤ r.hi)
theorem honB_iff {r : Row} {x : V6} : honB r x = true ↔ honest r x := by
  unfold honB honest; rw [Bool.and_eq_true, decide_eq_true_eq, decide_eq_true_eq]
def trueB (l : List Row) (x : V6) : Bool := rowsOk l && within x 48 && l.all fun r => honB r x
theorem trueB_iff {l : List Row} {x : V6} : trueB l x = true ↔ rowsOk l = true ∧ within x 48 = true ∧ ∀ r ∈ l, honest r x := by
  unfold trueB
  rw [Bool.and_eq_true, Bool.and_eq_true, List.all_eq_true, and_assoc]
  simp only [honB_iff]
theorem want_le (x : V6) : (wantS x).lo ≤ (wantS x).hi := by
  have := lin_in (x.times 12) 6
  simp only [wantS, expo]; omega
theorem fits_true {l : List Row} {x : V6} (h : trueB l x = true) : fitsR l x = (true, 0) := by
  obtain ⟨h1, h2, h3⟩ := trueB_iff.1 h
  unfold fitsR
  rw [if_pos ⟨h1, h2⟩]
  have : (l.map rootS).any (fun r => disj r (expo (x.times 12))) = false := by
    rw [List.any_eq_false]
    intro r hr
    obtain ⟨q, hq, rfl⟩ := List.mem_map.1 hr
    have a := root_has (h3 q hq)
    have b := want_le x
    unfold wantS at a b
    unfold disj
    rw [decide_eq_false (by omega), decide_eq_false (by omega)]; decide
  rw [this]; rfl
theorem tone_true {l : List Row} {x : V6} (h : trueB l x = true) : (toneR l).2 = 0 ∧ szOk (toneR l).1 = true ∧ (toneR l).1.lo ≤ (wantS x).lo ∧ (wantS x).hi ≤ (toneR l).1.hi := by
  obtain ⟨h1, h2, h3⟩ := trueB_iff.1 h
  obtain ⟨z, e, a, b⟩ := tone_has h2 h1 h3
  refine ⟨by rw [e], ?_, by rw [e]; exact a, by rw [e]; exact b⟩
  unfold toneR at e ⊢
  rw [if_pos h1] at e ⊢
  unfold commonR at e ⊢
  split at e
  · next h4 => rw [if_pos h4]; exact common_ok h4
  · next h4 =>
    have := (Prod.mk.inj e).2
    exact absurd this (by decide)
/-- The tones of rows of partials, as far as all have one. -/
def tonR (ls : List (List Row)) : List S2 × Bool := if ls.all (fun l => decide ((toneR l).2 = 0)) = true then (ls.map fun l => (toneR l).1, true) else ([], false)
theorem tonR_yes {ls : List (List Row)} (h : ∀ l ∈ ls, (toneR l).2 = 0) : tonR ls = (ls.map fun l => (toneR l).1, true) := by
  unfold tonR; rw [if_pos (List.all_eq_true.2 fun l hl => decide_eq_true (h l hl))]
theorem tonR_no {ls : List (List Row)} {k : Nat} (hk : k < ls.length) (h : (toneR ls[k]).2 ≠ 0) : tonR ls = ([], false) := by
  unfold tonR
  have hn : ¬ (ls.all fun l => decide ((toneR l).2 = 0)) = true := fun h2 => h (of_decide_eq_true (List.all_eq_true.1 h2 _ (List.getElem_mem hk)))
  rw [if_neg hn]

/-- All of it: the rows of a score whose notes are all tuned are true. -/
theorem hon_facts {s : Sc} {h : List V6} {ls : List (List Row)} (h0 : (tuneR s h).2 = 0) (h1 : (tuneR s h).1.length = ls.length) (h2 : ls.length = s.notes.length)
    (ht : ∀ k (hk : k < ls.length) (hx : k < (tuneR s h).1.length), trueB ls[k] (tuneR s h).1[k] = true) :
    hearE s h (ls.map fun l => (toneR l).1) = 0 ∧ devL (tuneR s h).1 (ls.map fun l => (toneR l).1) = [] ∧
    chgL s (tuneR s h).1 (ls.map fun l => (toneR l).1) = ((List.range s.pairs.length).filter fun i => decide ((fdOf s (ls.map fun l => (toneR l).1) i).verdict = 2)).map (fun i => (⟨(i : Nat), 2, -1⟩ : Chg)) ∧
    ∀ i, i < s.pairs.length → (fdOf s (ls.map fun l => (toneR l).1) i).verdict = 2 → brkT s (tuneR s h).1 i = true := by
  obtain ⟨hok, hx, ha⟩ := tune_ok h0
  rw [← hx] at ha
  obtain ⟨xs, hxs⟩ : ∃ z, (tuneR s h).1 = z := ⟨_, rfl⟩
  rw [hxs] at h1 ha ht ⊢
  have hT : ∀ k (hk : k < xs.length), T (ls.map fun l => (toneR l).1) k = (toneR (ls[k]'(by omega))).1 := fun k hk => by
    unfold T
    rw [List.getD_eq_getElem?_getD, List.getElem?_map, List.getElem?_eq_getElem (by omega)]; rfl
  have hdT : ∀ k, k < xs.length → devT xs (ls.map fun l => (toneR l).1) k = false := fun k hk => by
    unfold devT
    rw [hT k hk, xAt_get hk]
    have := tone_true (ht k (by omega) hk)
    exact dev_holds this.2.2.1 this.2.2.2
  have hdl : devL xs (ls.map fun l => (toneR l).1) = [] := by
    unfold devL
    rw [List.filter_eq_nil_iff]
    intro i hi
    rw [hdT i (List.mem_range.1 hi)]; decide
  have htn : tonesOk s (ls.map fun l => (toneR l).1) := ⟨hok, by rw [List.length_map]; exact h2, fun z hz => by
    obtain ⟨l, hl, rfl⟩ := List.mem_map.1 hz
    obtain ⟨k, hk, rfl⟩ := List.getElem_of_mem hl
    exact (tone_true (ht k hk (by omega))).2.1⟩
  have hb : ∀ i, i < s.pairs.length → (fdOf s (ls.map fun l => (toneR l).1) i).verdict = 2 → brkT s xs i = true := fun i hi hv => by
    have hp := hok.pr.1 i hi
    unfold pairOk at hp
    have ka : (s.P i).a.toNat < xs.length := by omega
    have kb : (s.P i).b.toNat < xs.length := by omega
    have ta := tone_true (ht _ (by omega) ka); have tb := tone_true (ht _ (by omega) kb)
    cases hbr : brkT s xs i with
    | true => rfl
    | false =>
      exfalso
      unfold brkT at hbr
      rw [decide_eq_true (show (s.P i).b < (xs.length : Int) by omega), Bool.true_and] at hbr
      unfold brkB gapP excF at hbr
      rw [pAt_xAt (p := (s.P i).a) (by omega), pAt_xAt (p := (s.P i).b) (by omega)] at hbr
      have hn : xAt xs (s.P i).b.toNat = (xAt xs (s.P i).a.toNat).add (s.P i).want 1 ∨ (-10000 * (s.P i).bound ≤ (expo (((xAt xs (s.P i).b.toNat).times 12).sub (((xAt xs (s.P i).a.toNat).add (s.P i).want 1).times 12))).lo ∧ (expo (((xAt xs (s.P i).b.toNat).times 12).sub (((xAt xs (s.P i).a.toNat).add (s.P i).want 1).times 12))).hi ≤ 10000 * (s.P i).bound) := by
        by_cases hz : (s.P i).bound = 0
        · left
          rw [if_pos hz, decide_eq_false_iff_not, Decidable.not_not] at hbr
          refine V6.ext' fun j hj => ?_
          have h4 := congrArg (fun v => V6.get v j) hbr
          simp only [V6.add_get _ _ _ hj, zero_get hj] at h4
          rw [V6.add_get _ _ _ hj]
          omega
        · right
          rw [if_neg hz, Bool.not_eq_false', decide_eq_true_eq] at hbr
          exact hbr
      have hv' : verdZ (diffS (T (ls.map fun l => (toneR l).1) (s.P i).a.toNat) (T (ls.map fun l => (toneR l).1) (s.P i).b.toNat) (wantS (s.P i).want)) (s.P i).bound = 2 := hv
      rw [hT _ ka, hT _ kb] at hv'
      rw [← xAt_get ka] at ta; rw [← xAt_get kb] at tb
      exact den_broken (by omega) ta.2.2.1 ta.2.2.2 tb.2.2.1 tb.2.2.2 hn hv'
  refine ⟨hear_ok.2 ⟨h0, htn⟩, hdl, ?_, hb⟩
  unfold chgL
  have e1 : (List.range s.pairs.length).filter (chgB s xs (ls.map fun l => (toneR l).1)) = (List.range s.pairs.length).filter fun i => decide ((fdOf s (ls.map fun l => (toneR l).1) i).verdict = 2) := by
    refine List.filter_congr fun i hi => ?_
    have hi := List.mem_range.1 hi
    have hp := hok.pr.1 i hi
    unfold pairOk at hp
    unfold chgB
    rw [decide_eq_true (show (s.P i).b < (xs.length : Int) by omega), Bool.and_true]
  rw [e1]
  refine List.map_congr_left fun i hi => ?_
  obtain ⟨hi1, hi2⟩ := List.mem_filter.1 hi
  have hi1 := List.mem_range.1 hi1
  have hp := hok.pr.1 i hi1
  unfold pairOk at hp
  rw [chg_free hdl (by omega) (by omega) (by omega), if_pos (hb i hi1 (of_decide_eq_true hi2))]
end Go.Sx.Tp
