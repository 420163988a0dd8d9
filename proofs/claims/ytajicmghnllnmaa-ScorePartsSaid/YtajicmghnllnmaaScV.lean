/-
  Plain: the note of a voice that sounded last.
-/
import Derived.Test.YtajicmghnllnmaaScM
namespace Go.Sx.Sc
open Go.Sx.Sz

def lastV (l : List Nt) (v : Int) : Nt := l.foldl (fun a n => if n.v = v then n else a) default
theorem lastV_snoc (l : List Nt) (n : Nt) (v : Int) : lastV (l ++ [n]) v = if n.v = v then n else lastV l v := by
  unfold lastV; rw [List.foldl_append]; rfl
theorem take_N {s : Sc} {k : Nat} (h : k < s.notes.length) : s.notes.take (k + 1) = s.notes.take k ++ [s.N k] := by
  rw [List.take_succ_eq_append_getElem h, Sc.N_eq h]
theorem lastV_spec (s : Sc) (v : Int) : ∀ k, k ≤ s.notes.length → (lastV (s.notes.take k) v = default ∧ ∀ j, j < k → (s.N j).v ≠ v) ∨ ∃ j, j < k ∧ (s.N j).v = v ∧ lastV (s.notes.take k) v = s.N j ∧ ∀ i, j < i → i < k → (s.N i).v ≠ v
  | 0, _ => .inl ⟨rfl, fun j h => by omega⟩
  | k + 1, hk => by
    rw [take_N (by omega), lastV_snoc]
    by_cases h : (s.N k).v = v
    · rw [if_pos h]
      exact .inr ⟨k, by omega, h, rfl, fun i h1 h2 => by omega⟩
    · rw [if_neg h]
      rcases lastV_spec s v k (by omega) with ⟨h1, h2⟩ | ⟨j, h1, h2, h3, h4⟩
      · refine .inl ⟨h1, fun j hj => ?_⟩
        rcases Nat.lt_or_ge j k with h5 | h5
        · exact h2 j h5
        · obtain rfl : j = k := by omega
          exact h
      · refine .inr ⟨j, by omega, h2, h3, fun i h5 h6 => ?_⟩
        rcases Nat.lt_or_ge i k with h7 | h7
        · exact h4 i h5 h7
        · obtain rfl : i = k := by omega
          exact h
section
variable {s : Sc} {k : Nat}
theorem vcAt_iff (hn : ntOk s) (hk : k < s.notes.length) (hb : ∀ i, i < k → vcAt s i) :
    vcAt s k ↔ (lastV (s.notes.take k) (s.N k).v).u ≤ (s.N k).f ∧ ((s.N k).tied = true → (lastV (s.notes.take k) (s.N k).v).u = (s.N k).f ∧ (lastV (s.notes.take k) (s.N k).v).u ≠ 0 ∧ (lastV (s.notes.take k) (s.N k).v).x = (s.N k).x) := by
  have h0 := (hn.note hk).2.1
  have hchain : ∀ i j, i < j → j < k → (s.N i).v = (s.N j).v → (s.N i).u < (s.N j).u := fun i j h1 h2 h3 => by
    have := (hb j h2).1 i h1 h3
    have := (hn.note (show j < s.notes.length by omega)).2.1
    omega
  rcases lastV_spec s (s.N k).v k (by omega) with ⟨h1, h2⟩ | ⟨j, h1, h2, h3, h4⟩
  · rw [h1]
    constructor
    · rintro ⟨-, b⟩
      refine ⟨by show (0 : Int) ≤ _; omega, fun ht => absurd (fun i hi hc => h2 i hi hc.1) (b ht)⟩
    · rintro ⟨-, b⟩
      refine ⟨fun i hi hv => absurd hv (h2 i hi), fun ht => absurd rfl (b ht).2.1⟩
  · rw [h3]
    have hj := (hn.note (show j < s.notes.length by omega)).2.1
    constructor
    · rintro ⟨a, b⟩
      have hu := a j h1 h2
      refine ⟨hu, fun ht => ?_⟩
      have hb' := b ht
      obtain ⟨i, hi, hc⟩ : ∃ i, i < k ∧ tieOf s k i := Classical.byContradiction fun hc => hb' fun i hi ht => hc ⟨i, hi, ht⟩
      obtain ⟨c1, c2, c3⟩ := hc
      have : i = j := by
        rcases Nat.lt_trichotomy i j with h | h | h
        · have := hchain i j h h1 (by rw [c1, h2]); omega
        · exact h
        · exact absurd c1 (h4 i h hi)
      subst this
      exact ⟨c2, by omega, c3⟩
    · rintro ⟨a, b⟩
      refine ⟨fun i hi hv => ?_, fun ht hc => ?_⟩
      · rcases Nat.lt_trichotomy i j with h | h | h
        · have := hchain i j h h1 (by rw [hv, h2]); omega
        · subst h; exact a
        · exact absurd hv (h4 i h hi)
      · obtain ⟨b1, b2, b3⟩ := b ht
        exact hc j h1 ⟨h2, b1, b3⟩
theorem vc_bad (hk : k < s.notes.length) (h : ¬ vcAt s k) : decide (vcOk s) = false := decide_eq_false fun hh => h (hh k hk)
/-- The notes that sounded last, of each voice. -/
def lasts (l : List Nt) : List Nt := (List.range 8).map fun j => lastV l (j : Nat)
theorem lasts_len (l : List Nt) : (lasts l).length = 8 := by simp [lasts]
theorem lasts_get (l : List Nt) (j : Nat) (h : j < (lasts l).length) : (lasts l)[j] = lastV l (j : Nat) := by simp [lasts]
theorem lasts_snoc (l : List Nt) (n : Nt) (v : Nat) (hv : n.v = v) (_ : v < 8) : lasts (l ++ [n]) = (lasts l).set v n := by
  apply List.ext_getElem (by simp [lasts])
  intro j h1 h2
  rw [lasts_get, lastV_snoc, List.getElem_set, lasts_get]
  by_cases h : v = j
  · subst h; rw [if_pos hv, if_pos rfl]
  · rw [if_neg (by omega), if_neg h]
end
end Go.Sx.Sc
