/-
  Plain: pairs without anything in common.
-/
import Derived.Test.YthhkpgbfefakeaaDoorPaM
namespace Go.Sx.Sz

theorem refF_spec : ∀ (l : List S2) (n : Nat), (∀ s ∈ l, szOk s = true) →
    (refF l n = none → ∀ (a b : Nat) (hab : a < b) (hb : b < l.length), disj (l[a]'(by omega)) l[b] = false) ∧
    (∀ i k, refF l n = some (i, k) → ∃ (hni : n ≤ i) (hik : i < k) (hk : k - n < l.length), disj (l[i - n]'(by omega)) l[k - n] = true ∧ ∀ (a b : Nat) (hab : a < b) (hb : b < l.length), (a < i - n ∨ (a = i - n ∧ b < k - n)) → disj (l[a]'(by omega)) l[b] = false)
  | [], n, _ => ⟨fun _ a b _ hb => absurd hb (by simp), fun i k h => by simp [refF] at h⟩
  | x :: l, n, hok => by
    have hx : szOk x = true := hok x (by simp)
    have hself : disj x x = false := by rw [szOk_iff] at hx; simp [disj]; omega
    obtain ⟨ih1, ih2⟩ := refF_spec l (n + 1) (fun s hs => hok s (by simp [hs]))
    have hu : refF (x :: l) n = match (x :: l).findIdx? (disj x) with
      | some j => some (n, n + j)
      | none => refF l (n + 1) := rfl
    cases hf : (x :: l).findIdx? (disj x) with
    | none =>
      rw [hf] at hu
      have hno := List.findIdx?_eq_none_iff.1 hf
      refine ⟨fun h a b hab hb => ?_, fun i k h => ?_⟩
      · cases a with
        | zero => exact hno _ (List.getElem_mem _)
        | succ a =>
          cases b with
          | zero => omega
          | succ b => exact ih1 (hu.symm.trans h) a b (by omega) (by simpa using hb)
      · obtain ⟨h1, h2, h3, h5, h6⟩ := ih2 i k (hu.symm.trans h)
        refine ⟨by omega, h2, by simp; omega, ?_, fun a b hab hb hc => ?_⟩
        · have e1 : i - n = (i - (n + 1)) + 1 := by omega
          have e2 : k - n = (k - (n + 1)) + 1 := by omega
          simp only [e1, e2, List.getElem_cons_succ]
          exact h5
        · cases a with
          | zero => exact hno _ (List.getElem_mem _)
          | succ a =>
            cases b with
            | zero => omega
            | succ b => exact h6 a b (by omega) (by simpa using hb) (by omega)
    | some j =>
      rw [hf] at hu
      obtain ⟨hj, hp, hb⟩ := List.findIdx?_eq_some_iff_getElem.1 hf
      refine ⟨fun h => (by rw [hu] at h; cases h), fun i k h => ?_⟩
      rw [hu] at h
      simp only [Option.some.injEq, Prod.mk.injEq] at h
      obtain ⟨rfl, rfl⟩ := h
      have hj0 : 0 < j := by
        rcases Nat.eq_zero_or_pos j with h | h
        · subst h; simp only [List.getElem_cons_zero] at hp; rw [hself] at hp; cases hp
        · exact h
      refine ⟨Nat.le_refl _, by omega, by omega, ?_, fun a b hab hb' hc => ?_⟩
      · have e1 : n - n = 0 := by omega
        have e2 : n + j - n = j := by omega
        simp only [e1, e2, List.getElem_cons_zero]
        exact hp
      · have ha : a = 0 := by omega
        subst ha
        have := hb b (by omega)
        simpa using this

theorem helly {l : List S2} (hok : ∀ s ∈ l, szOk s = true) (h : ∀ (a b : Nat) (hab : a < b) (hb : b < l.length), disj (l[a]'(by omega)) l[b] = false) : (common l).lo ≤ (common l).hi := by
  have hd : ∀ s ∈ l, ∀ t ∈ l, s.lo ≤ t.hi := fun s hs t ht => by
    obtain ⟨i, hi, rfl⟩ := List.getElem_of_mem hs
    obtain ⟨j, hj, rfl⟩ := List.getElem_of_mem ht
    rcases Nat.lt_trichotomy i j with hij | hij | hij
    · have := h i j hij hj
      simp [disj] at this; omega
    · subst hij
      have := szOk_iff.1 (hok _ (List.getElem_mem hi)); omega
    · have := h j i hij hi
      simp [disj] at this; omega
  rw [common_lo]
  refine ⟨common_hi.2 ⟨by omega, fun t ht => ?_⟩, fun s hs => common_hi.2 ⟨?_, fun t ht => hd s hs t ht⟩⟩
  · have := szOk_iff.1 (hok t ht); omega
  · have := szOk_iff.1 (hok s hs); omega
theorem apart_lie {l : List S2} {i k : Nat} (hi : i < l.length) (hk : k < l.length) (h : disj l[i] l[k] = true) : ¬ (common l).lo ≤ (common l).hi := by
  intro hc
  have h1 := common_lo.1 hc
  have h2 := (@common_hi l (common l).hi).1 (Int.le_refl _)
  have a1 := h1.2 _ (List.getElem_mem hi); have a2 := h1.2 _ (List.getElem_mem hk)
  have b1 := h2.2 _ (List.getElem_mem hi); have b2 := h2.2 _ (List.getElem_mem hk)
  simp [disj] at h; omega
theorem tone_two {r s : Row} (hr : rowOk r = true) (hs : rowOk s = true) : (toneR [r, s]).2 = if disj (rootS r) (rootS s) = true then 23 else 0 := by
  rw [toneR, if_pos (by rw [rowsOk_iff]; exact ⟨by simp, by simp [hr, hs]⟩)]
  exact common_two (rootS_ok hr) (rootS_ok hs)
end Go.Sx.Sz
