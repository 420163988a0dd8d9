/-
  What From may return.
-/
import Derived.Test.YtigigcbondhmmaaDoorSgK
import Derived.Test.YtigigcbondhmmaaDoorArgL
import Derived.Test.YtigigcbondhmmaaDoorLdB
set_option linter.unusedVariables false
namespace Go.Proofs.YtigigcbondhmmaaDoor
open Go.RowKit Go.Sx Go.Sx.Sz Go.Sx.Sc Go.Sx.Sg

theorem from_ok {s : Sc} {xs : List V6} {n st : Int} (h : (fromR s xs n st).2 ≠ 1) : hallB s xs = true ∧ entryB s n = true ∧ 0 ≤ st ∧ st ≤ 2400000 := by
  apply Classical.byContradiction
  intro hc
  exact h (by rw [from_bad hc])
theorem from_eq {s : Sc} {xs : List V6} {n st : Int} (h1 : hallB s xs = true) (h2 : entryB s n = true) (h3 : 0 ≤ st ∧ st ≤ 2400000) : fromR s xs n st = findR s xs n.toNat st := by
  unfold fromR; rw [if_pos ⟨h1, h2, h3⟩]
theorem from_errs (s : Sc) (xs : List V6) (n st : Int) : fromR s xs n st = (0, 1) ∨ fromR s xs n st = (0, 4) ∨ ∃ a, fromR s xs n st = (a, 0) := by
  by_cases h : hallB s xs = true ∧ entryB s n = true ∧ 0 ≤ st ∧ st ≤ 2400000
  · rw [from_eq h.1 h.2.1 h.2.2]
    rcases find_cases s xs n.toNat st with ⟨i, h⟩ | h
    · exact .inr (.inr ⟨i, h⟩)
    · exact .inr (.inl h)
  · exact .inl (from_bad h)

theorem mem_pickL {q : Nat → Bool} {k : Nat} {x : Int} : x ∈ pickL q k ↔ ∃ i : Nat, x = (i : Int) ∧ i < k ∧ q i = true := by
  unfold pickL
  rw [List.mem_map]
  constructor
  · rintro ⟨i, hi, rfl⟩
    rw [List.mem_filter, List.mem_range] at hi
    exact ⟨i, rfl, hi.1, hi.2⟩
  · rintro ⟨i, rfl, h1, h2⟩
    exact ⟨i, by rw [List.mem_filter, List.mem_range]; exact ⟨h1, h2⟩, rfl⟩
theorem pickL_sorted (q : Nat → Bool) (k : Nat) : (pickL q k).Pairwise (· < ·) := by
  unfold pickL
  rw [List.pairwise_map]
  exact (List.pairwise_lt_range.filter _).imp fun h => by omega
theorem pickL_lt (q : Nat → Bool) (k : Nat) {i : Nat} (hi : i + 1 < (pickL q k).length) : (pickL q k)[i] < (pickL q k)[i + 1] :=
  List.pairwise_iff_getElem.1 (pickL_sorted q k) i (i + 1) (by omega) hi (by omega)
theorem pickL_at {q : Nat → Bool} {k i : Nat} (hi : i < (pickL q k).length) : ∃ m : Nat, (pickL q k)[i] = (m : Int) ∧ m < k ∧ q m = true := mem_pickL.1 (List.getElem_mem hi)
end Go.Proofs.YtigigcbondhmmaaDoor
