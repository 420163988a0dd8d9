/-
  Plain: the exponents of an integer from 1 to 16; sizes of harmonics.
-/
import Derived.Test.YthomegempfedaaaDoorSzM
namespace Go.Sx.Sz

/-- A number without a prime, and how often this divides it. -/
def stripF : Nat → Int → Int → Int × Int
  | 0, _, n => (n, 0)
  | f + 1, p, n => if n % p = 0 then ((stripF f p (n / p)).1, (stripF f p (n / p)).2 + 1) else (n, 0)
def V6.put' (v : V6) (k : Nat) (x : Int) : V6 := V6.of fun j => if j = k then x else v.get j
def ratS (n : Int) : Nat → Int × V6
  | 0 => (n, V6.zero)
  | k + 1 => ((stripF 20 (prime k) (ratS n k).1).1, (ratS n k).2.put' k (stripF 20 (prime k) (ratS n k).1).2)
/-- The exponents of an integer. -/
def harmV (n : Int) : V6 := (ratS n 6).2
theorem int16 {n : Int} (h1 : 1 ≤ n) (h2 : n ≤ 16) : n = 1 ∨ n = 2 ∨ n = 3 ∨ n = 4 ∨ n = 5 ∨ n = 6 ∨ n = 7 ∨ n = 8 ∨ n = 9 ∨ n = 10 ∨ n = 11 ∨ n = 12 ∨ n = 13 ∨ n = 14 ∨ n = 15 ∨ n = 16 := by omega
theorem ratS_one {n : Int} (h1 : 1 ≤ n) (h2 : n ≤ 16) : (ratS n 6).1 = 1 := by
  rcases int16 h1 h2 with rfl | rfl | rfl | rfl | rfl | rfl | rfl | rfl | rfl | rfl | rfl | rfl | rfl | rfl | rfl | rfl <;> decide
theorem prime_bd (k : Nat) : 2 ≤ prime k ∧ prime k ≤ 13 := by
  match k with
  | 0 | 1 | 2 | 3 | 4 | n + 5 => exact ⟨by show (2 : Int) ≤ _; simp only [prime]; omega, by simp only [prime]; omega⟩
theorem stripF_bd (p : Int) (hp : 2 ≤ p) : ∀ (f : Nat) (n : Int), 1 ≤ n → 1 ≤ (stripF f p n).1 ∧ (stripF f p n).1 ≤ n ∧ 0 ≤ (stripF f p n).2
  | 0, n, h => ⟨h, Int.le_refl _, Int.le_refl _⟩
  | f + 1, n, h => by
    unfold stripF
    split
    · rename_i hd
      have hpos : 1 ≤ n / p := by
        have h1 : p ≤ n := Int.le_of_dvd (by omega) (Int.dvd_of_emod_eq_zero hd)
        exact (Int.le_ediv_iff_mul_le (by omega)).2 (by omega)
      have hle : n / p ≤ n := Int.ediv_le_self _ (by omega)
      have ih := stripF_bd p hp f (n / p) hpos
      exact ⟨ih.1, by simp only; omega, by simp only; omega⟩
    · exact ⟨h, Int.le_refl _, Int.le_refl _⟩
theorem ratS_bd {n : Int} (h1 : 1 ≤ n) : ∀ k, 1 ≤ (ratS n k).1 ∧ (ratS n k).1 ≤ n
  | 0 => ⟨h1, Int.le_refl _⟩
  | k + 1 => by
    have ih := ratS_bd h1 k
    have hs := stripF_bd (prime k) (prime_bd k).1 20 (ratS n k).1 ih.1
    exact ⟨hs.1, by simp only [ratS]; omega⟩
theorem ratS_get (n : Int) : ∀ k j, k ≤ j → j < 6 → (ratS n k).2.get j = 0
  | 0, j, _, hj => by rcases lt6 hj with rfl | rfl | rfl | rfl | rfl | rfl <;> rfl
  | k + 1, j, h, hj => by
    simp only [ratS, V6.put']
    rw [V6.get_of _ hj, if_neg (by omega)]
    exact ratS_get n k j (by omega) hj
/-- A step of the division. -/
theorem strip_step {p m : Int} {f : Nat} (hp : 2 ≤ p) (hm : 1 ≤ m) (hd : m % p = 0) : stripF (f + 1) p m = ((stripF f p (m / p)).1, (stripF f p (m / p)).2 + 1) ∧ 1 ≤ m / p ∧ 2 * (m / p) ≤ m := by
  refine ⟨by rw [stripF, if_pos hd], ?_, ?_⟩
  · have h1 : p ≤ m := Int.le_of_dvd (by omega) (Int.dvd_of_emod_eq_zero hd)
    exact (Int.le_ediv_iff_mul_le (by omega)).2 (by omega)
  · have := Int.ediv_mul_cancel (Int.dvd_of_emod_eq_zero hd)
    have h2 : m / p * 2 ≤ m / p * p := Int.mul_le_mul_of_nonneg_left hp (Int.ediv_nonneg (by omega) (by omega))
    omega
theorem strip_stop {p m : Int} {f : Nat} (hd : ¬ m % p = 0) : stripF (f + 1) p m = (m, 0) := by rw [stripF, if_neg hd]

/-- The size of a harmonic. -/
def harmS (n : Int) : S2 := expo ((harmV n).times 12)
theorem harm_within {n : Int} (h1 : 1 ≤ n) (h2 : n ≤ 16) : within (harmV n) 48 = true := by
  rcases int16 h1 h2 with rfl | rfl | rfl | rfl | rfl | rfl | rfl | rfl | rfl | rfl | rfl | rfl | rfl | rfl | rfl | rfl <;> decide
theorem times_within {v : V6} (h : within v 48 = true) : within (v.times 12) 576 = true := by
  have e : (576 : Int) = 48 * 12 := by decide
  rw [e]
  exact within_times (by omega) h
theorem ofR_ok {v : V6} (h : within v 48 = true) : ofR v = (v.times 12, 0) := by rw [ofR, if_pos h]
theorem sizeR_ok {v : V6} (h : within v 576 = true) : sizeR v = (expo v, 0) := by rw [sizeR, if_pos h]
/-- Bounds of a harmonic's size. -/
theorem harmS_bd {n : Int} (h1 : 1 ≤ n) (h2 : n ≤ 16) : 0 ≤ (harmS n).lo ∧ (harmS n).lo ≤ (harmS n).hi ∧ (harmS n).hi ≤ 48000000000 := by
  rcases int16 h1 h2 with rfl | rfl | rfl | rfl | rfl | rfl | rfl | rfl | rfl | rfl | rfl | rfl | rfl | rfl | rfl | rfl <;> decide
theorem harmS_ok {n : Int} (h1 : 1 ≤ n) (h2 : n ≤ 16) : szOk (harmS n) = true := by
  have := harmS_bd h1 h2
  rw [szOk_iff]; omega
/-- Twice the harmonic: an octave more. -/
theorem harmS_two {n : Int} (h1 : 1 ≤ n) (h2 : n ≤ 8) : (harmS (2 * n)).lo = (harmS n).lo + 12000000000 ∧ (harmS (2 * n)).hi = (harmS n).hi + 12000000000 := by
  have : n = 1 ∨ n = 2 ∨ n = 3 ∨ n = 4 ∨ n = 5 ∨ n = 6 ∨ n = 7 ∨ n = 8 := by omega
  rcases this with rfl | rfl | rfl | rfl | rfl | rfl | rfl | rfl <;> decide
theorem harmS_one : harmS 1 = ⟨0, 0⟩ := by decide
end Go.Sx.Sz
