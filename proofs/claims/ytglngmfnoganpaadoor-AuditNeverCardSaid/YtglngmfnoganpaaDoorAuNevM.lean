/-
  Plain: what the tones of assigned pitches never say.
-/
import Derived.Test.YtglngmfnoganpaaDoorAuL
import Derived.Test.YtglngmfnoganpaaDoorSzG
set_option linter.unusedVariables false
namespace Go.Proofs.YtglngmfnoganpaaDoor
open Go.RowKit Go.Sx Go.Sx.Sz Go.Sx.Sc Go.Sx.Au

/-- A number in the size of exponents: by the lower logarithms. -/
def cLo (e : V6) : Nat → Int
  | 0 => 0
  | k + 1 => cLo e k + e.get k * logLo k
theorem t_mid (x : Int) (k : Nat) : tLo x k ≤ x * logLo k ∧ x * logLo k ≤ tHi x k := by
  have h := log_le k
  unfold tLo tHi
  split
  · exact ⟨Int.mul_le_mul_of_nonpos_left (by omega) (by omega), Int.le_refl _⟩
  · exact ⟨Int.le_refl _, Int.mul_le_mul_of_nonneg_left (by omega) (by omega)⟩
theorem s_mid (e : V6) : ∀ k, sLo e k ≤ cLo e k ∧ cLo e k ≤ sHi e k
  | 0 => ⟨Int.le_refl _, Int.le_refl _⟩
  | k + 1 => by
    have h1 := s_mid e k
    have h2 := t_mid (e.get k) k
    simp only [sLo, sHi, cLo]
    omega
theorem expo_mid (e : V6) : (expo e).lo ≤ cLo e 6 ∧ cLo e 6 ≤ (expo e).hi := s_mid e 6
theorem cLo_sub (a b : V6) : ∀ k, k ≤ 6 → cLo (a.sub b) k = cLo a k - cLo b k
  | 0, _ => rfl
  | k + 1, h => by
    have := cLo_sub a b k (by omega)
    simp only [cLo]
    rw [this, V6.sub, V6.get_of _ (show k < 6 by omega), Int.sub_mul]
    omega
def addV (a b : V6) : V6 := V6.of fun k => a.get k + b.get k
theorem cLo_add (a b : V6) (n : Int) : ∀ k, k ≤ 6 → cLo ((addV a b).times n) k = cLo (a.times n) k + cLo (b.times n) k
  | 0, _ => rfl
  | k + 1, h => by
    have := cLo_add a b n k (by omega)
    simp only [cLo]
    rw [this]
    unfold V6.times addV
    rw [V6.get_of _ (show k < 6 by omega), V6.get_of _ (show k < 6 by omega), V6.get_of _ (show k < 6 by omega), V6.get_of _ (show k < 6 by omega), Int.add_mul, Int.add_mul]
    omega

/-- Tones that hold the sizes of pitches. -/
theorem never_law {x y p : V6} {t u : S2} {b : Int} (hb : 0 ≤ b) (ht : t.lo ≤ (wantS x).lo ∧ (wantS x).hi ≤ t.hi) (hu : u.lo ≤ (wantS y).lo ∧ (wantS y).hi ≤ u.hi) :
    let n := surelyF (expo ((y.times 12).sub ((addV x p).times 12))) (-10000 * b) (10000 * b)
    (n = 1 → verdZ (diffS t u (wantS p)) b ≠ 2) ∧ (n = -1 → verdZ (diffS t u (wantS p)) b ≠ 1) ∧ (n ≠ 1 → addV x p ≠ y) ∧ (n = 1 ∨ n = 0 ∨ n = -1) := by
  intro n
  have hg := expo_mid ((y.times 12).sub ((addV x p).times 12))
  have hc : cLo ((y.times 12).sub ((addV x p).times 12)) 6 = cLo (y.times 12) 6 - cLo (x.times 12) 6 - cLo (p.times 12) 6 := by
    rw [cLo_sub _ _ 6 (by omega), cLo_add _ _ _ 6 (by omega)]; omega
  have hx := expo_mid (x.times 12)
  have hy := expo_mid (y.times 12)
  have hp := expo_mid (p.times 12)
  rw [hc] at hg
  have hd1 : (diffS t u (wantS p)).lo ≤ cLo (y.times 12) 6 - cLo (x.times 12) 6 - cLo (p.times 12) 6 := by
    unfold wantS at *; simp only [diffS]; omega
  have hd2 : cLo (y.times 12) 6 - cLo (x.times 12) 6 - cLo (p.times 12) 6 ≤ (diffS t u (wantS p)).hi := by
    unfold wantS at *; simp only [diffS]; omega
  obtain ⟨c, hcc⟩ : ∃ c, cLo (y.times 12) 6 - cLo (x.times 12) 6 - cLo (p.times 12) 6 = c := ⟨_, rfl⟩
  rw [hcc] at hg hd1 hd2
  have hn : n = if -10000 * b ≤ (expo ((y.times 12).sub ((addV x p).times 12))).lo ∧ (expo ((y.times 12).sub ((addV x p).times 12))).hi ≤ 10000 * b then 1 else if (expo ((y.times 12).sub ((addV x p).times 12))).hi < -10000 * b ∨ 10000 * b < (expo ((y.times 12).sub ((addV x p).times 12))).lo then -1 else 0 := rfl
  refine ⟨fun h h2 => ?_, fun h h2 => ?_, fun h he => ?_, ?_⟩
  · have hde := (denied_iff hb (by omega)).1 h2
    rw [h] at hn
    split at hn
    · omega
    · split at hn <;> simp at hn
  · have hsh := shown_iff.1 h2
    rw [h] at hn
    split at hn
    · simp at hn
    · split at hn
      · omega
      · simp at hn
  · rw [he] at hn
    have h0 : expo ((y.times 12).sub (y.times 12)) = ⟨0, 0⟩ := by
      have : (y.times 12).sub (y.times 12) = V6.zero := V6.ext' fun k hk => by
        rw [V6.sub, V6.get_of _ hk, Int.sub_self]
        rcases lt6 hk with rfl | rfl | rfl | rfl | rfl | rfl <;> rfl
      rw [this]; rfl
    rw [h0] at hn
    dsimp only at hn
    rw [if_pos (by omega)] at hn
    exact h hn
  · rw [hn]
    split
    · exact .inl rfl
    · split
      · exact .inr (.inr rfl)
      · exact .inr (.inl rfl)
end Go.Proofs.YtglngmfnoganpaaDoor
