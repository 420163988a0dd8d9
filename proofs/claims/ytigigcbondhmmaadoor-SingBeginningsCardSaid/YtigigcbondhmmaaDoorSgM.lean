/-
  Plain: entries of a score, and from which heard note they are found.
-/
import Derived.Test.YtigigcbondhmmaaDoorAuM
set_option linter.unusedVariables false
namespace Go.Sx.Sg
open Go.Sx.Sz Go.Sx.Sc Go.Sx.Au

def hallB (s : Sc) (xs : List V6) : Bool := scB s && decide (xs.length = s.notes.length) && xs.all (fun x => within x 48)
def X (xs : List V6) (n : Nat) : V6 := xs.getD n V6.zero
theorem X_eq {xs : List V6} {k : Nat} (h : k < xs.length) : X xs k = xs[k] := by
  unfold X; rw [List.getD_eq_getElem?_getD, List.getElem?_eq_getElem h]; rfl
/-- Note i sounds just before note n begins. -/
def sndB (s : Sc) (n i : Nat) : Bool := decide ((s.N i).f ≤ (s.N n).f - 1) && decide ((s.N n).f - 1 < (s.N i).u)
def sndL (s : Sc) (n : Nat) : List Nat := (List.range n).filter (sndB s n)
def entryN (s : Sc) (n : Nat) : Bool := !(s.N n).tied && (sndL s n).all fun i => decide ((s.N i).v ≠ (s.N n).v)
def entryB (s : Sc) (n : Int) : Bool := decide (0 ≤ n ∧ n < s.notes.length) && entryN s n.toNat
def othL (s : Sc) (n : Nat) : List Nat := (sndL s n).filter fun i => decide ((s.N i).v ≠ (s.N n).v)
def heardL (s : Sc) (n : Nat) : List Int := if othL s n = [] then [-1] else (othL s n).map fun i : Nat => (i : Int)
def atX (xs : List V6) (i : Int) : V6 := if i = -1 then V6.zero else X xs i.toNat
def gapF (xs : List V6) (n : Nat) (i : Int) : S2 := expo (((X xs n).times 12).sub ((atX xs i).times 12))
def needF (xs : List V6) (n : Nat) (i : Int) : Int := (farZ (gapF xs n i) + 9999) / 10000
def findR (s : Sc) (xs : List V6) (n : Nat) (step : Int) : Int × Int :=
  match (heardL s n).find? (fun i => decide (needF xs n i ≤ step)) with
  | some i => (i, 0)
  | none => (0, 4)
def fromR (s : Sc) (xs : List V6) (n step : Int) : Int × Int := if hallB s xs = true ∧ entryB s n = true ∧ 0 ≤ step ∧ step ≤ 2400000 then findR s xs n.toNat step else (0, 1)
/-- The least step so far, and from where. -/
def lstF (xs : List V6) (n : Nat) : List Int → Int × Int → Int × Int
  | [], p => p
  | i :: l, p => lstF xs n l (if needF xs n i < p.1 then (needF xs n i, i) else p)
def leastN (s : Sc) (xs : List V6) (n : Nat) : Int × Int × Int :=
  let p := lstF xs n (heardL s n) (2400001, 0)
  if 2400000 < p.1 then (0, 0, 3) else (p.1, p.2, 0)
def leastR (s : Sc) (xs : List V6) (n : Int) : Int × Int × Int := if hallB s xs = true ∧ entryB s n = true then leastN s xs n.toNat else (0, 0, 1)
def entriesR (s : Sc) : List Int × Int := if scB s = true then (((List.range s.notes.length).filter (entryN s)).map fun i : Nat => (i : Int), 0) else ([], 1)
def stepsB (steps : List Int) : Bool := steps.all fun x => decide (0 ≤ x ∧ x ≤ 2400000)
def missN (s : Sc) (xs : List V6) (steps : List Int) (i : Nat) : Bool := entryN s i && decide ((findR s xs i (steps.getD (s.N i).v.toNat 0)).2 ≠ 0)
def missingR (s : Sc) (xs : List V6) (steps : List Int) : List Int × Int :=
  if hallB s xs = true ∧ steps.length = s.voices ∧ stepsB steps = true then (((List.range s.notes.length).filter (missN s xs steps)).map fun i : Nat => (i : Int), 0) else ([], 1)

theorem sLo_le (e : V6) : ∀ k, sLo e k ≤ sHi e k
  | 0 => Int.le_refl _
  | k + 1 => by
    have h1 := sLo_le e k
    have h2 := tLo_le (e.get k) k
    simp only [sLo, sHi]
    omega
theorem expo_le (e : V6) : (expo e).lo ≤ (expo e).hi := sLo_le e 6
theorem hallB_iff {s : Sc} {xs : List V6} : hallB s xs = true ↔ ScOk s ∧ xs.length = s.notes.length ∧ ∀ x ∈ xs, within x 48 = true := by
  unfold hallB
  rw [Bool.and_eq_true, Bool.and_eq_true, scB_iff, decide_eq_true_eq, List.all_eq_true, and_assoc]
theorem hallB_false {s : Sc} {xs : List V6} (h : ¬ (ScOk s ∧ xs.length = s.notes.length ∧ ∀ x ∈ xs, within x 48 = true)) : hallB s xs = false := by
  cases hh : hallB s xs with
  | false => rfl
  | true => exact absurd (hallB_iff.1 hh) h
theorem mem_sndL {s : Sc} {n i : Nat} : i ∈ sndL s n ↔ i < n ∧ (s.N i).f ≤ (s.N n).f - 1 ∧ (s.N n).f - 1 < (s.N i).u := by
  unfold sndL sndB
  rw [List.mem_filter, List.mem_range, Bool.and_eq_true, decide_eq_true_eq, decide_eq_true_eq]
theorem mem_othL {s : Sc} {n i : Nat} : i ∈ othL s n ↔ i ∈ sndL s n ∧ (s.N i).v ≠ (s.N n).v := by
  unfold othL; rw [List.mem_filter, decide_eq_true_eq]
/-- What sounds before a note begins stands ahead of it. -/
theorem snd_lt {s : Sc} (h : ntOk s) {i n : Nat} (hi : i < s.notes.length) (hn : n < s.notes.length) (h1 : (s.N i).f ≤ (s.N n).f - 1) : i < n := by
  rcases Nat.lt_trichotomy i n with h2 | h2 | h2
  · exact h2
  · subst h2; omega
  · have := h.lex h2 hi; unfold lexN at this; omega
theorem heard_mem {s : Sc} {n : Nat} {i : Int} (h : i ∈ heardL s n) : (i = -1 ∧ othL s n = []) ∨ ∃ k : Nat, i = (k : Int) ∧ k ∈ othL s n := by
  unfold heardL at h
  split at h
  · next he => exact .inl ⟨by simpa using h, he⟩
  · obtain ⟨k, hk, rfl⟩ := List.mem_map.1 h
    exact .inr ⟨k, rfl, hk⟩
theorem heard_ne {s : Sc} {n : Nat} : heardL s n ≠ [] := by
  unfold heardL; split
  · simp
  · next h => simpa using h
/-- The heard ones rise. -/
theorem heard_sorted (s : Sc) (n : Nat) : (heardL s n).Pairwise (· < ·) := by
  unfold heardL
  split
  · simp
  · rw [List.pairwise_map]
    have h : (othL s n).Pairwise (· < ·) := by
      unfold othL sndL
      exact (List.pairwise_lt_range.filter _).filter _
    exact h.imp fun h => by omega
theorem farZ_nonneg {d : S2} (h : d.lo ≤ d.hi) : 0 ≤ farZ d := by unfold farZ; split <;> omega
theorem need_nonneg (xs : List V6) (n : Nat) (i : Int) : 0 ≤ needF xs n i := by
  have h : (gapF xs n i).lo ≤ (gapF xs n i).hi := expo_le _
  have := farZ_nonneg h
  unfold needF; omega

/-! ### From -/
theorem find_some {s : Sc} {xs : List V6} {n : Nat} {step i : Int} (h : findR s xs n step = (i, 0)) : i ∈ heardL s n ∧ needF xs n i ≤ step ∧ ∀ j ∈ heardL s n, j < i → ¬ needF xs n j ≤ step := by
  unfold findR at h
  cases hf : (heardL s n).find? (fun i => decide (needF xs n i ≤ step)) with
  | none => rw [hf] at h; simp at h
  | some k =>
    rw [hf] at h
    obtain rfl : k = i := by simpa using h
    have h1 := List.find?_some hf
    rw [decide_eq_true_eq] at h1
    refine ⟨List.mem_of_find?_eq_some hf, h1, fun j hj hji hn => ?_⟩
    obtain ⟨l1, l2, he, hall⟩ := List.find?_eq_some_iff_append.1 hf |>.2
    have hs := heard_sorted s n
    rw [he] at hj hs
    rcases List.mem_append.1 hj with hj | hj
    · have := hall j hj
      simp at this
      omega
    · rcases List.mem_cons.1 hj with rfl | hj
      · omega
      · have := (List.pairwise_append.1 hs).2.1
        have := (List.pairwise_cons.1 this).1 j hj
        omega
theorem find_none {s : Sc} {xs : List V6} {n : Nat} {step : Int} : (findR s xs n step).2 ≠ 0 ↔ ∀ j ∈ heardL s n, ¬ needF xs n j ≤ step := by
  unfold findR
  cases hf : (heardL s n).find? (fun i => decide (needF xs n i ≤ step)) with
  | none =>
    refine ⟨fun _ j hj hn => ?_, fun _ => by simp⟩
    have := List.find?_eq_none.1 hf j hj
    simp at this; omega
  | some k =>
    refine ⟨fun h => absurd rfl h, fun h => ?_⟩
    have h1 := List.find?_some hf
    rw [decide_eq_true_eq] at h1
    exact absurd h1 (h k (List.mem_of_find?_eq_some hf))
theorem find_cases (s : Sc) (xs : List V6) (n : Nat) (step : Int) : (∃ i, findR s xs n step = (i, 0)) ∨ findR s xs n step = (0, 4) := by
  unfold findR
  cases (heardL s n).find? (fun i => decide (needF xs n i ≤ step)) with
  | none => exact .inr rfl
  | some k => exact .inl ⟨k, rfl⟩
theorem find_iff {s : Sc} {xs : List V6} {n : Nat} {step i : Int} (h1 : i ∈ heardL s n) (h2 : needF xs n i ≤ step) (h3 : ∀ j ∈ heardL s n, j < i → ¬ needF xs n j ≤ step) : findR s xs n step = (i, 0) := by
  rcases find_cases s xs n step with ⟨k, hk⟩ | hk
  · obtain ⟨a, b, c⟩ := find_some hk
    rcases Int.lt_trichotomy i k with h | h | h
    · exact absurd h2 (c i h1 h)
    · rw [hk, h]
    · exact absurd b (h3 k a h)
  · have := find_none.1 (show (findR s xs n step).2 ≠ 0 by rw [hk]; decide) i h1
    exact absurd h2 this
/-- A greater step. -/
theorem find_more {s : Sc} {xs : List V6} {n : Nat} {step more i : Int} (h : findR s xs n step = (i, 0)) (hm : step ≤ more) : ∃ j, findR s xs n more = (j, 0) ∧ j ≤ i := by
  obtain ⟨a, b, c⟩ := find_some h
  rcases find_cases s xs n more with ⟨k, hk⟩ | hk
  · refine ⟨k, hk, ?_⟩
    obtain ⟨a', b', c'⟩ := find_some hk
    rcases (show i < k ∨ k ≤ i by omega) with h | h
    · exact absurd (show needF xs n i ≤ more by omega) (c' i a h)
    · exact h
  · have := find_none.1 (show (findR s xs n more).2 ≠ 0 by rw [hk]; decide) i a
    omega

/-! ### Least -/
theorem lst_spec (xs : List V6) (n : Nat) : ∀ (l : List Int) (p : Int × Int), l.Pairwise (· < ·) →
    ((lstF xs n l p = p ∧ ∀ i ∈ l, p.1 ≤ needF xs n i) ∨
     ∃ i ∈ l, lstF xs n l p = (needF xs n i, i) ∧ needF xs n i < p.1 ∧ (∀ j ∈ l, needF xs n i ≤ needF xs n j) ∧ ∀ j ∈ l, j < i → needF xs n i < needF xs n j)
  | [], p, _ => .inl ⟨rfl, fun i hi => by cases hi⟩
  | i :: l, p, hp => by
    obtain ⟨h1, h2⟩ := List.pairwise_cons.1 hp
    rw [lstF]
    by_cases hc : needF xs n i < p.1
    · rw [if_pos hc]
      rcases lst_spec xs n l (needF xs n i, i) h2 with ⟨e, ha⟩ | ⟨k, hk, e, hl, ha, hb⟩
      · refine .inr ⟨i, by simp, e, hc, fun j hj => ?_, fun j hj hji => ?_⟩
        · rcases List.mem_cons.1 hj with rfl | hj
          · omega
          · exact ha j hj
        · rcases List.mem_cons.1 hj with rfl | hj
          · omega
          · have := h1 j hj; omega
      · refine .inr ⟨k, by simp [hk], e, by simp only at hl; omega, fun j hj => ?_, fun j hj hjk => ?_⟩
        · rcases List.mem_cons.1 hj with rfl | hj
          · simp only at hl; omega
          · exact ha j hj
        · rcases List.mem_cons.1 hj with rfl | hj
          · exact hl
          · exact hb j hj hjk
    · rw [if_neg hc]
      rcases lst_spec xs n l p h2 with ⟨e, ha⟩ | ⟨k, hk, e, hl, ha, hb⟩
      · refine .inl ⟨e, fun j hj => ?_⟩
        rcases List.mem_cons.1 hj with rfl | hj
        · omega
        · exact ha j hj
      · refine .inr ⟨k, by simp [hk], e, hl, fun j hj => ?_, fun j hj hjk => ?_⟩
        · rcases List.mem_cons.1 hj with rfl | hj
          · omega
          · exact ha j hj
        · rcases List.mem_cons.1 hj with rfl | hj
          · omega
          · exact hb j hj hjk
/-- Least's result. -/
theorem least_ok {s : Sc} {xs : List V6} {n : Nat} {a b : Int} (h : leastN s xs n = (a, b, 0)) : b ∈ heardL s n ∧ a = needF xs n b ∧ (0 ≤ a ∧ a ≤ 2400000) ∧ (∀ j ∈ heardL s n, a ≤ needF xs n j) ∧ ∀ j ∈ heardL s n, j < b → a < needF xs n j := by
  unfold leastN at h
  simp only at h
  split at h
  · simp at h
  · next hc =>
    rcases lst_spec xs n (heardL s n) (2400001, 0) (heard_sorted s n) with ⟨e, ha⟩ | ⟨k, hk, e, hl, ha, hb⟩
    · rw [e] at hc; simp at hc
    · rw [e] at h hc
      obtain ⟨rfl, rfl⟩ : needF xs n k = a ∧ k = b := by simpa using h
      exact ⟨hk, rfl, ⟨need_nonneg _ _ _, by simpa using hc⟩, ha, hb⟩
theorem least_none {s : Sc} {xs : List V6} {n : Nat} (h : (leastN s xs n).2.2 ≠ 0) : leastN s xs n = (0, 0, 3) ∧ ∀ j ∈ heardL s n, ¬ needF xs n j ≤ 2400000 := by
  unfold leastN at h ⊢
  simp only at h ⊢
  split at h
  · next hc =>
    rw [if_pos hc]
    refine ⟨rfl, ?_⟩
    rcases lst_spec xs n (heardL s n) (2400001, 0) (heard_sorted s n) with ⟨e, ha⟩ | ⟨k, hk, e, hl, ha, hb⟩
    · intro j hj; have := ha j hj; simp only at this; omega
    · rw [e] at hc; simp only at hc hl; omega
  · simp at h
theorem least_cases (s : Sc) (xs : List V6) (n : Nat) : (∃ a b, leastN s xs n = (a, b, 0)) ∨ leastN s xs n = (0, 0, 3) := by
  unfold leastN
  simp only
  split
  · exact .inr rfl
  · exact .inl ⟨_, _, rfl⟩
theorem least_find {s : Sc} {xs : List V6} {n : Nat} {a b : Int} (h : leastN s xs n = (a, b, 0)) : findR s xs n a = (b, 0) := by
  obtain ⟨h1, h2, h3, h4, h5⟩ := least_ok h
  exact find_iff h1 (by omega) (fun j hj hjb => by have := h5 j hj hjb; omega)
theorem least_less {s : Sc} {xs : List V6} {n : Nat} {a b : Int} (h : leastN s xs n = (a, b, 0)) : findR s xs n (a - 1) = (0, 4) := by
  obtain ⟨h1, h2, h3, h4, h5⟩ := least_ok h
  rcases find_cases s xs n (a - 1) with ⟨k, hk⟩ | hk
  · obtain ⟨c, d, -⟩ := find_some hk
    have := h4 k c; omega
  · exact hk
end Go.Sx.Sg
