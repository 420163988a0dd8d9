/-
  Plain: the findings of a score with the first ones of its pairs (TopReported).
-/
import Derived.Test.YtkckingkocacjaaGreatDoorLibP
set_option linter.unusedVariables false
namespace Go.Sx.Tp
open Go.Sx.Sz Go.Sx.Sc Go.Sx.Au

def partS (s : Sc) (k : Nat) : Sc := ⟨s.voices, s.notes, s.pairs.take k, s.cads⟩
theorem part_ok {s : Sc} (h : ScOk s) (k : Nat) : ScOk (partS s k) := by
  have hs : (partS s k).pairs.Sublist s.pairs := List.take_sublist _ _
  have hl := hs.length_le
  refine ⟨?_, h.nt, h.vc, prs_sub h.pr hs (fun p _ hp => hp), h.cd⟩
  have := h.sz
  unfold szOk' at *
  exact ⟨this.1, this.2.1, by omega, this.2.2.2⟩
theorem part_P {s : Sc} {k i : Nat} (h : i < k) : (partS s k).P i = s.P i := by
  unfold Sc.P
  show (s.pairs.take k).getD i default = _
  rw [List.getD_eq_getElem?_getD, List.getElem?_take_of_lt h, ← List.getD_eq_getElem?_getD]
theorem part_fd {s : Sc} {l : List S2} {k i : Nat} (h : i < k) : fdOf (partS s k) l i = fdOf s l i := by
  unfold fdOf pairD
  rw [part_P h]
theorem part_tones {s : Sc} {l : List S2} (h : tonesB s l = true) (k : Nat) : tonesB (partS s k) l = true := by
  obtain ⟨a, b, c⟩ := tonesB_iff.1 h
  exact tonesB_iff.2 ⟨part_ok a k, b, c⟩
theorem part_audit {s : Sc} {l : List S2} {k : Nat} (hk : k ≤ s.pairs.length) (h : tonesB s l = true) : auditR (partS s k) l = ((auditR s l).1.take k, 0) := by
  unfold auditR
  rw [if_pos h, if_pos (part_tones h k)]
  have hl : (partS s k).pairs.length = k := by show (s.pairs.take k).length = k; rw [List.length_take]; omega
  rw [hl, ← List.map_take]
  have : (List.range s.pairs.length).take k = List.range k := by
    obtain ⟨m, hm⟩ : ∃ m, s.pairs.length = k + m := ⟨s.pairs.length - k, by omega⟩
    rw [hm, List.range_add, List.take_left' (by simp)]
  rw [this]
  simp only [Prod.mk.injEq, and_true]
  exact List.map_congr_left fun i hi => part_fd (List.mem_range.1 hi)
end Go.Sx.Tp
