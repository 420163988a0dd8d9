/-
  Plain: what two measurements have in common shows and denies what each of them does.
-/
import Derived.Test.YtglngmfnoganpaaDoorAuL
set_option linter.unusedVariables false
namespace Go.Proofs.YtglngmfnoganpaaDoor
open Go.RowKit Go.Sx Go.Sx.Sz Go.Sx.Sc Go.Sx.Au

theorem worst_zero (a b : List S2) : ∀ k, worstM a b k = 0 → ∀ i, i < k → (meetR (T a i) (T b i)).2 = 0
  | 0, _, i, hi => absurd hi (Nat.not_lt_zero _)
  | k + 1, h, i, hi => by
    have hb := worst_bd a b k
    have hm := meetR_err (T a k) (T b k)
    unfold worstM at h
    split at h
    · omega
    · next hn =>
      by_cases e : i = k
      · subst e; omega
      · exact worst_zero a b k h i (by omega)
theorem meet_ok {x y : S2} (h : (meetR x y).2 = 0) : szOk (meetR x y).1 = true ∧ (x.lo ≤ (meetR x y).1.lo ∧ (meetR x y).1.hi ≤ x.hi) ∧ y.lo ≤ (meetR x y).1.lo ∧ (meetR x y).1.hi ≤ y.hi := by
  unfold meetR at h ⊢
  split at h
  · next h1 =>
    rw [if_pos h1]
    split at h
    · next h2 =>
      rw [if_pos h2]
      obtain ⟨ha, hb⟩ := h1
      rw [szOk_iff] at ha hb
      unfold meet at h2 ⊢
      dsimp only at h2 ⊢
      rw [szOk_iff]
      dsimp only
      (repeat' split at h2) <;> (repeat' split) <;> omega
    · simp at h
  · simp at h
theorem zipM_len (a b : List S2) (k : Nat) : (zipM a b k).length = k := by unfold zipM; simp
theorem zipM_T {a b : List S2} {k i : Nat} (h : i < k) : T (zipM a b k) i = (meetR (T a i) (T b i)).1 := by
  rw [T_eq (by rw [zipM_len]; exact h)]; simp [zipM]
theorem nar_bad {a b : List S2} (ha : ∀ z ∈ a, szOk z = true) (hb : ∀ z ∈ b, szOk z = true) (hl : a.length = b.length) : ¬ badM a b a.length := by
  rintro ⟨i, hi, he⟩
  have h1 := ha _ (List.getElem_mem hi)
  have h2 := hb _ (List.getElem_mem (show i < b.length by omega))
  rw [← T_eq] at h1 h2
  unfold meetR at he
  rw [if_pos ⟨h1, h2⟩] at he
  split at he <;> simp at he
theorem nar_res {s : Sc} {a b : List S2} (ha : tonesOk s a) (hb : tonesOk s b) : narrowQ a b = if worstM a b a.length = 0 then (zipM a b a.length, 0) else ([], 23) := by
  have hl : a.length = b.length := by rw [ha.2.1, hb.2.1]
  unfold narrowQ
  rw [if_neg (by rw [hl]; simp), if_neg (nar_bad ha.2.2 hb.2.2 hl)]
theorem nar_tones {s : Sc} {a b : List S2} (ha : tonesOk s a) (hb : tonesOk s b) (h : worstM a b a.length = 0) : tonesOk s (zipM a b a.length) := by
  refine ⟨ha.1, by rw [zipM_len]; exact ha.2.1, fun z hz => ?_⟩
  obtain ⟨i, hi, rfl⟩ := List.getElem_of_mem hz
  rw [zipM_len] at hi
  rw [← T_eq, zipM_T hi]
  exact (meet_ok (worst_zero a b _ h i hi)).1
theorem nar_diff {x y x' y' w : S2} (h1 : x.lo ≤ x'.lo ∧ x'.hi ≤ x.hi) (h2 : y.lo ≤ y'.lo ∧ y'.hi ≤ y.hi) : (diffS x y w).lo ≤ (diffS x' y' w).lo ∧ (diffS x' y' w).hi ≤ (diffS x y w).hi := by
  simp only [diffS]; omega
theorem nar_verd {s : Sc} {a b : List S2} (ha : tonesOk s a) (hb : tonesOk s b) (h : worstM a b a.length = 0) {k : Nat} (hk : k < s.pairs.length) :
    ((fdOf s a k).verdict = 3 ∨ (fdOf s (zipM a b a.length) k).verdict = (fdOf s a k).verdict) ∧ ((fdOf s b k).verdict = 3 ∨ (fdOf s (zipM a b a.length) k).verdict = (fdOf s b k).verdict) := by
  have hn := nar_tones ha hb h
  obtain ⟨-, -, ⟨A, C, hA, hC, hA', hC'⟩, hbd, -⟩ := pairD_ok ha hk
  obtain ⟨-, -, -, -, hlh⟩ := pairD_ok hn hk
  have mA := (meet_ok (worst_zero a b _ h A hA')).2
  have mC := (meet_ok (worst_zero a b _ h C hC')).2
  unfold pairD at hlh
  rw [hA, hC, Int.toNat_natCast, Int.toNat_natCast, zipM_T hA', zipM_T hC'] at hlh
  unfold fdOf findZ pairD
  rw [hA, hC, Int.toNat_natCast, Int.toNat_natCast, zipM_T hA', zipM_T hC']
  dsimp only
  refine ⟨?_, ?_⟩
  · by_cases h3 : verdZ (diffS (T a A) (T a C) (wantS (s.P k).want)) (s.P k).bound = 3
    · exact .inl h3
    · have := nar_diff (w := wantS (s.P k).want) mA.1 mC.1
      exact .inr (verd_narrow hbd.1 this.1 this.2 hlh h3)
  · by_cases h3 : verdZ (diffS (T b A) (T b C) (wantS (s.P k).want)) (s.P k).bound = 3
    · exact .inl h3
    · have := nar_diff (w := wantS (s.P k).want) mA.2 mC.2
      exact .inr (verd_narrow hbd.1 this.1 this.2 hlh h3)
end Go.Proofs.YtglngmfnoganpaaDoor
