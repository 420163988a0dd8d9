/-
  Libraries of these proofs, laid as one text: R4A, R4B, R3A, R19A, R19B, R19C, R19D.
-/
import Derived.Test.YtkckingkocacjaaGreatDoorLibM
import Derived.Test.YtkckingkocacjaaGreatDoorLibB
import Derived.Test.YtkckingkocacjaaGreatDoorLibC
import Derived.Deep.DeepCutAuto
/-
  Walks of the reference: schismaref04.Valid, Lower, Upper, Exponents, Pure; schismaref03.Interval.
-/
set_option linter.unusedVariables false
namespace Go.Proofs.YtkckingkocacjaaGreatDoor
open Go.RowKit Go.Sx Go.Sx.Sz

set_option maxRecDepth 100000 in
theorem t_order (x : Int) (k : Nat) : (x * logLo k < x * logHi k → tLo x k = x * logLo k ∧ tHi x k = x * logHi k) ∧ (x * logHi k < x * logLo k → tLo x k = x * logHi k ∧ tHi x k = x * logLo k) ∧ (x * logLo k = x * logHi k → tLo x k = x * logLo k ∧ tHi x k = x * logLo k) := by
  have h := tLo_le x k
  unfold tLo tHi at *
  by_cases hx : x < 0
  · simp only [if_pos hx] at *
    exact ⟨fun hlt => by omega, fun _ => by simp, fun e => by simp [e]⟩
  · simp only [if_neg hx] at *
    exact ⟨fun _ => by simp, fun hlt => by omega, fun e => by simp [e]⟩

end Go.Proofs.YtkckingkocacjaaGreatDoor

/-
  Walks of the reference: schismaref13.Primes; schismaref04.Both, Bounded, Add.
-/
set_option linter.unusedVariables false
namespace Go.Proofs.YtkckingkocacjaaGreatDoor
open Go.RowKit Go.Sx Go.Sx.Sz

set_option maxRecDepth 100000 in
theorem primeCells_at {k : Nat} (h : k < 6) : primeCells.toArray[k]? = some (.int .i64 (prime k)) := by
  rcases lt6 h with rfl | rfl | rfl | rfl | rfl | rfl <;> rfl

end Go.Proofs.YtkckingkocacjaaGreatDoor

/-
  Walks of the reference: schismaref03.Valid, Of; schismaref04.Of, Cmp.
-/
set_option linter.unusedVariables false
namespace Go.Proofs.YtkckingkocacjaaGreatDoor
open Go.RowKit Go.Sx Go.Sx.Sz

end Go.Proofs.YtkckingkocacjaaGreatDoor

/-
  Walks: schismaref19.Bounded, Note, Ahead, Of, Sounds.
-/
set_option linter.unusedVariables false
namespace Go.Proofs.YtkckingkocacjaaGreatDoor
open Go.RowKit Go.Sx Go.Sx.Sz Go.Sx.Sc

set_option maxRecDepth 100000 in
theorem findL_first {p : Nt → Bool} {l : List Nt} {k : Nat} (hk : k < l.length) (h : p (l.getD k default) = true) (hn : ∀ j, j < k → p (l.getD j default) = false) : findL l p 0 = k := by
  rcases findL_spec (p := p) (l := l) (k := 0) with ⟨h1, h2⟩ | ⟨i, h1, h2, h3, h4⟩
  · have := h2 (l.getD k default) (by rw [List.getD_eq_getElem?_getD, List.getElem?_eq_getElem hk]; exact List.getElem_mem hk)
    rw [h] at this; cases this
  · rw [h2]
    rcases Nat.lt_trichotomy i k with e | e | e
    · rw [hn i e] at h3; cases h3
    · subst e; simp
    · rw [h4 k e] at h; cases h
set_option maxRecDepth 100000 in
theorem findL_none {p : Nt → Bool} {l : List Nt} (hn : ∀ j, j < l.length → p (l.getD j default) = false) : findL l p 0 = -1 := by
  rcases findL_spec (p := p) (l := l) (k := 0) with ⟨h1, h2⟩ | ⟨i, h1, h2, h3, h4⟩
  · exact h1
  · rw [hn i h1] at h3; cases h3

end Go.Proofs.YtkckingkocacjaaGreatDoor

/-
  Walk: schismaref19.Notes.
-/
set_option linter.unusedVariables false
namespace Go.Sx.Sc
open Go.Sx.Sz
section
variable {s : Sc}
def rlA (s : Sc) (i : Nat) : Prop := noteOk s.voices (s.N i) ∧ (0 < i → lexN (s.N (i - 1)) (s.N i)) ∧ ∀ k, k < i → (s.N k).v = (s.N i).v → (s.N k).u ≤ (s.N i).f
def rlB (s : Sc) (i : Nat) : Prop := (s.N i).tied = true → ∃ k : Nat, findL s.notes (endP (s.N i).v (s.N i).f) 0 = (k : Int) ∧ (s.N k).x = (s.N i).x
def rnB (s : Sc) : Bool := decide (ntOk s) && decide (vcOk s)
set_option maxRecDepth 100000 in
theorem rnB_iff : rnB s = true ↔ ntOk s ∧ vcOk s := by unfold rnB; rw [Bool.and_eq_true, decide_eq_true_eq, decide_eq_true_eq]
set_option maxRecDepth 100000 in
theorem rnB_false (h : ¬ (ntOk s ∧ vcOk s)) : rnB s = false := by
  cases hh : rnB s with
  | false => rfl
  | true => exact absurd (rnB_iff.1 hh) h
set_option maxRecDepth 100000 in
theorem rl_a (h1 : ntOk s) (h2 : vcOk s) {i : Nat} (hi : i < s.notes.length) : rlA s i :=
  ⟨h1.1 i hi, fun h0 => by have := h1.2 (i - 1) (by omega); rwa [Nat.sub_add_cancel h0] at this, fun k hk hv => (h2 i hi).1 k hk hv⟩
set_option maxRecDepth 100000 in
theorem rl_nt (h : ∀ i, i < s.notes.length → rlA s i) : ntOk s := ⟨fun i hi => (h i hi).1, fun i hi => (h (i + 1) (by omega)).2.1 (by omega)⟩
set_option maxRecDepth 100000 in
theorem ends_of (h1 : ntOk s) (h : ∀ i, i < s.notes.length → rlA s i) {i k : Nat} (hi : i < s.notes.length) (hk : k < s.notes.length) (hv : (s.N k).v = (s.N i).v) (hu : (s.N k).u = (s.N i).u) : i = k := by
  have n1 := (h1.note hi).2.1
  have n2 := (h1.note hk).2.1
  rcases Nat.lt_trichotomy i k with e | e | e
  · have := (h k hk).2.2 i e hv.symm; omega
  · exact e
  · have := (h i hi).2.2 k e hv; omega
set_option maxRecDepth 100000 in
theorem find_tie (h : ∀ i, i < s.notes.length → rlA s i) {i : Nat} (hi : i < s.notes.length) :
    (findL s.notes (endP (s.N i).v (s.N i).f) 0 = -1 ∧ ∀ k, k < s.notes.length → ¬ ((s.N k).v = (s.N i).v ∧ (s.N k).u = (s.N i).f)) ∨
    ∃ k : Nat, k < i ∧ findL s.notes (endP (s.N i).v (s.N i).f) 0 = (k : Int) ∧ ((s.N k).v = (s.N i).v ∧ (s.N k).u = (s.N i).f) ∧ ∀ j, j < s.notes.length → (s.N j).v = (s.N i).v ∧ (s.N j).u = (s.N i).f → j = k := by
  have h1 := rl_nt h
  have key : ∀ j, endP (s.N i).v (s.N i).f (s.notes.getD j default) = true ↔ (s.N j).v = (s.N i).v ∧ (s.N j).u = (s.N i).f := fun j => by
    show endP _ _ (s.N j) = true ↔ _
    unfold endP; rw [Bool.and_eq_true, decide_eq_true_eq, decide_eq_true_eq]
  rcases findL_spec (p := endP (s.N i).v (s.N i).f) (l := s.notes) (k := 0) with ⟨e, hn⟩ | ⟨k, hk, e, hp, hq⟩
  · refine .inl ⟨e, fun k hk hh => ?_⟩
    have := hn (s.N k) (by unfold Sc.N; rw [List.getD_eq_getElem?_getD, List.getElem?_eq_getElem hk]; exact List.getElem_mem hk)
    have h2 := (key k).2 hh
    unfold Sc.N at this
    rw [show endP (s.N i).v (s.N i).f (s.notes.getD k default) = false from this] at h2
    cases h2
  · have hh := (key k).1 hp
    have n1 := (h1.note hk).2.1
    have hki : k < i := by
      rcases Nat.lt_or_ge k i with h9 | h9
      · exact h9
      · have := h1.from_le h9 hk; omega
    refine .inr ⟨k, hki, by rw [e]; simp, hh, fun j hj hjj => ?_⟩
    exact ends_of h1 h hj hk (by rw [hh.1, hjj.1]) (by rw [hh.2, hjj.2])
set_option maxRecDepth 100000 in
theorem rl_b (h1 : ntOk s) (h2 : vcOk s) {i : Nat} (hi : i < s.notes.length) : rlB s i := fun ht => by
  have ha : ∀ i, i < s.notes.length → rlA s i := fun i hi => rl_a h1 h2 hi
  have hx : ∃ k, k < i ∧ tieOf s i k := Classical.byContradiction fun hc => (h2 i hi).2 ht fun k hk ht => hc ⟨k, hk, ht⟩
  obtain ⟨k, hk, a, b, c⟩ := hx
  rcases find_tie ha hi with ⟨-, hn⟩ | ⟨m, hm, e, -, hu⟩
  · exact absurd ⟨a, b⟩ (hn k (by omega))
  · obtain rfl := hu k (by omega) ⟨a, b⟩
    exact ⟨k, e, c⟩
set_option maxRecDepth 100000 in
theorem rl_vc (h : ∀ i, i < s.notes.length → rlA s i) (hb : ∀ i, i < s.notes.length → rlB s i) : vcOk s := fun i hi => ⟨fun k hk hv => (h i hi).2.2 k hk hv, fun ht hn => by
  obtain ⟨k, e, hx⟩ := hb i hi ht
  rcases find_tie h hi with ⟨e', -⟩ | ⟨m, hm, e', hh, -⟩
  · rw [e] at e'; omega
  · rw [e] at e'
    obtain rfl : k = m := by omega
    exact hn k hm ⟨hh.1, hh.2, hx⟩⟩
end
end Go.Sx.Sc
namespace Go.Proofs.YtkckingkocacjaaGreatDoor
open Go.RowKit Go.Sx Go.Sx.Sz Go.Sx.Sc

end Go.Proofs.YtkckingkocacjaaGreatDoor

/-
  Walk: schismaref19.Pairs.
-/
set_option linter.unusedVariables false
namespace Go.Sx.Sc
open Go.Sx.Sz
section
variable {s : Sc}
def rpA (s : Sc) (i : Nat) : Prop := pairOk s (s.P i) ∧ (0 < i → lexP (s.P (i - 1)) (s.P i))
set_option maxRecDepth 100000 in
theorem rp_a (h : prsOk s) {i : Nat} (hi : i < s.pairs.length) : rpA s i :=
  ⟨h.1 i hi, fun h0 => by have := h.2 (i - 1) (by omega); rwa [Nat.sub_add_cancel h0] at this⟩
set_option maxRecDepth 100000 in
theorem rp_ok (h : ∀ i, i < s.pairs.length → rpA s i) : prsOk s := ⟨fun i hi => (h i hi).1, fun i hi => (h (i + 1) (by omega)).2 (by omega)⟩
end
end Go.Sx.Sc
namespace Go.Proofs.YtkckingkocacjaaGreatDoor
open Go.RowKit Go.Sx Go.Sx.Sz Go.Sx.Sc

end Go.Proofs.YtkckingkocacjaaGreatDoor

/-
  Walk: schismaref19.Valid.
-/
set_option linter.unusedVariables false
namespace Go.Sx.Sc
open Go.Sx.Sz
section
variable {s : Sc}
def rcA (s : Sc) (i : Nat) : Prop := (1 ≤ s.C i ∧ s.C i ≤ 99999) ∧ (0 < i → s.C (i - 1) < s.C i)
set_option maxRecDepth 100000 in
theorem rc_a (h : cadOk s) {i : Nat} (hi : i < s.cads.length) : rcA s i :=
  ⟨h.1 i hi, fun h0 => by have := h.2 (i - 1) (by omega); rwa [Nat.sub_add_cancel h0] at this⟩
set_option maxRecDepth 100000 in
theorem rc_ok (h : ∀ i, i < s.cads.length → rcA s i) : cadOk s := ⟨fun i hi => (h i hi).1, fun i hi => (h (i + 1) (by omega)).2 (by omega)⟩
end
end Go.Sx.Sc
namespace Go.Proofs.YtkckingkocacjaaGreatDoor
open Go.RowKit Go.Sx Go.Sx.Sz Go.Sx.Sc

end Go.Proofs.YtkckingkocacjaaGreatDoor
