/-
  Plain: rows that are honest, their tones, and what these deny (TopHonest).
-/
import Derived.Test.YthpfalbeieloaaaGreatDoorTpM
import Derived.Test.YthpfalbeieloaaaGreatDoorBlN
set_option linter.unusedVariables false
set_option linter.unusedSectionVars false
namespace Go.Sx.Tp
open Go.Sx.Sz Go.Sx.Sc Go.Sx.Au Go.Sx.Po Go.Sx.Bl Go.Sx.Al

def honB (r : Row) (x : V6) : Bool := decide (r.lo ≤ (wantS x).lo + (harmS r.h).lo) && decide ((wantS x).hi + (harmS r.h).hi ≤ r.hi)
theorem honB_iff {r : Row} {x : V6} : honB r x = true ↔ honest r x := by
  unfold honB honest; rw [Bool.and_eq_true, decide_eq_true_eq, decide_eq_true_eq]
def trueB (l : List Row) (x : V6) : Bool := rowsOk l && within x 48 && l.all fun r => honB r x
theorem trueB_iff {l : List Row} {x : V6} : trueB l x = true ↔ rowsOk l = true ∧ within x 48 = true ∧ ∀ r ∈ l, honest r x := by
  unfold trueB
  rw [Bool.and_eq_true, Bool.and_eq_true, List.all_eq_true, and_assoc]
  simp only [honB_iff]
theorem tone_true {l : List Row} {x : V6} (h : trueB l x = true) : (toneR l).2 = 0 ∧ szOk (toneR l).1 = true ∧ (toneR l).1.lo ≤ (wantS x).lo ∧ (wantS x).hi ≤ (toneR l).1.hi := by
  obtain ⟨h1, h2, h3⟩ := trueB_iff.1 h
  obtain ⟨z, e, a, b⟩ := tone_has h2 h1 h3
  refine ⟨by rw [e], ?_, by rw [e]; exact a, by rw [e]; exact b⟩
  unfold toneR at e ⊢
  rw [if_pos h1] at e ⊢
  unfold commonR at e ⊢
  split at e
  · next h4 => rw [if_pos h4]; exact common_ok h4
  · next h4 =>
    have := (Prod.mk.inj e).2
    exact absurd this (by decide)
/-- The tones of rows of partials, as far as all have one. -/
def tonR (ls : List (List Row)) : List S2 × Bool := if ls.all (fun l => decide ((toneR l).2 = 0)) = true then (ls.map fun l => (toneR l).1, true) else ([], false)
theorem tonR_yes {ls : List (List Row)} (h : ∀ l ∈ ls, (toneR l).2 = 0) : tonR ls = (ls.map fun l => (toneR l).1, true) := by
  unfold tonR; rw [if_pos (List.all_eq_true.2 fun l hl => decide_eq_true (h l hl))]
theorem tonR_no {ls : List (List Row)} {k : Nat} (hk : k < ls.length) (h : (toneR ls[k]).2 ≠ 0) : tonR ls = ([], false) := by
  unfold tonR
  have hn : ¬ (ls.all fun l => decide ((toneR l).2 = 0)) = true := fun h2 => h (of_decide_eq_true (List.all_eq_true.1 h2 _ (List.getElem_mem hk)))
  rw [if_neg hn]
end Go.Sx.Tp
