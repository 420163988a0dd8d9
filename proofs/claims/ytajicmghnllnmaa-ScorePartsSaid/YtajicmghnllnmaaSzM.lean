/-
  Plain definitions on pitches and sizes (no program in sight).
-/
import Derived.WalkKit
namespace Go.Sx.Sz

/-- Six exponents. -/
structure V6 where
  a : Int
  b : Int
  c : Int
  d : Int
  e : Int
  f : Int
deriving Inhabited, DecidableEq

def V6.get (v : V6) : Nat → Int
  | 0 => v.a
  | 1 => v.b
  | 2 => v.c
  | 3 => v.d
  | 4 => v.e
  | _ => v.f
def V6.of (g : Nat → Int) : V6 := ⟨g 0, g 1, g 2, g 3, g 4, g 5⟩
theorem lt6 {k : Nat} (h : k < 6) : k = 0 ∨ k = 1 ∨ k = 2 ∨ k = 3 ∨ k = 4 ∨ k = 5 := by omega
theorem V6.get_of (g : Nat → Int) {k : Nat} (h : k < 6) : (V6.of g).get k = g k := by
  rcases lt6 h with rfl | rfl | rfl | rfl | rfl | rfl <;> rfl
theorem V6.of_get (v : V6) : V6.of v.get = v := rfl
theorem V6.ext' {u v : V6} (h : ∀ k, k < 6 → u.get k = v.get k) : u = v := by
  rw [← V6.of_get u, ← V6.of_get v]
  simp only [V6.of, h 0 (by omega), h 1 (by omega), h 2 (by omega), h 3 (by omega), h 4 (by omega), h 5 (by omega)]

/-- The first k exponents are within a bound. -/
def withinK (v : V6) (B : Int) : Nat → Bool
  | 0 => true
  | k + 1 => withinK v B k && (decide (-B ≤ v.get k) && decide (v.get k ≤ B))
def within (v : V6) (B : Int) : Bool := withinK v B 6
theorem withinK_le {v : V6} {B : Int} : ∀ {k j : Nat}, withinK v B k = true → j < k → -B ≤ v.get j ∧ v.get j ≤ B
  | k + 1, j, h, hj => by
    simp only [withinK, Bool.and_eq_true, decide_eq_true_eq] at h
    rcases Nat.lt_or_ge j k with h' | h'
    · exact withinK_le h.1 h'
    · obtain rfl : j = k := by omega
      exact h.2
theorem withinK_mono {v : V6} {B : Int} : ∀ {k j : Nat}, j ≤ k → withinK v B k = true → withinK v B j = true
  | k, j, hj, h => by
    induction k with
    | zero => obtain rfl : j = 0 := by omega
              exact h
    | succ k ih =>
      rcases Nat.lt_or_ge j (k + 1) with h' | h'
      · simp only [withinK, Bool.and_eq_true] at h
        exact ih (by omega) h.1
      · obtain rfl : j = k + 1 := by omega
        exact h
theorem withinK_false {v : V6} {B : Int} {k : Nat} (hk : k < 6) (h : ¬ (-B ≤ v.get k ∧ v.get k ≤ B)) : within v B = false := by
  cases hw : within v B with
  | false => rfl
  | true => exact absurd (withinK_le hw hk) h
theorem within_iff {v : V6} {B : Int} : within v B = true ↔ ∀ k, k < 6 → -B ≤ v.get k ∧ v.get k ≤ B := by
  refine ⟨fun h k hk => withinK_le h hk, fun h => ?_⟩
  simp [within, withinK, h 0, h 1, h 2, h 3, h 4, h 5]

/-- Each exponent times n. -/
def V6.times (v : V6) (n : Int) : V6 := V6.of fun k => v.get k * n
def V6.sub (u v : V6) : V6 := V6.of fun k => u.get k - v.get k
/-- u plus n times v. -/
def V6.add (u v : V6) (n : Int) : V6 := V6.of fun k => u.get k + n * v.get k
def V6.zero : V6 := ⟨0, 0, 0, 0, 0, 0⟩

def prime : Nat → Int
  | 0 => 2
  | 1 => 3
  | 2 => 5
  | 3 => 7
  | 4 => 11
  | _ => 13
def logLo : Nat → Int
  | 0 => 1000000000
  | 1 => 1584962500
  | 2 => 2321928094
  | 3 => 2807354922
  | 4 => 3459431618
  | _ => 3700439718
def logHi : Nat → Int
  | 0 => 1000000000
  | 1 => 1584962501
  | 2 => 2321928095
  | 3 => 2807354923
  | 4 => 3459431619
  | _ => 3700439719
theorem log_le (k : Nat) : 1000000000 ≤ logLo k ∧ logLo k ≤ logHi k ∧ logHi k ≤ 3700439719 ∧ logHi k ≤ logLo k + 1 := by
  match k with
  | 0 | 1 | 2 | 3 | 4 | n + 5 => refine ⟨?_, ?_, ?_, ?_⟩ <;> (show _ ≤ _; simp only [logLo, logHi]; omega)

/-- A size. -/
structure S2 where
  lo : Int
  hi : Int
deriving Inhabited, DecidableEq
def maxS : Int := 100000000000000
def szOk (s : S2) : Bool := decide (-100000000000000 ≤ s.lo) && decide (s.lo ≤ s.hi) && decide (s.hi ≤ 100000000000000)
theorem szOk_iff {s : S2} : szOk s = true ↔ -100000000000000 ≤ s.lo ∧ s.lo ≤ s.hi ∧ s.hi ≤ 100000000000000 := by
  simp [szOk, and_assoc]

def tLo (x : Int) (k : Nat) : Int := if x < 0 then x * logHi k else x * logLo k
def tHi (x : Int) (k : Nat) : Int := if x < 0 then x * logLo k else x * logHi k
theorem tLo_le (x : Int) (k : Nat) : tLo x k ≤ tHi x k := by
  have h := log_le k
  unfold tLo tHi
  split
  · exact Int.mul_le_mul_of_nonpos_left (by omega) (by omega)
  · exact Int.mul_le_mul_of_nonneg_left (by omega) (by omega)
theorem t_bd {x : Int} {B : Int} (k : Nat) (h1 : -B ≤ x) (h2 : x ≤ B) : -(B * 3700439719) ≤ tLo x k ∧ tHi x k ≤ B * 3700439719 := by
  have h := log_le k
  unfold tLo tHi
  split
  · have e1 : -(x * logHi k) ≤ B * 3700439719 := by
      rw [← Int.neg_mul]
      exact Int.mul_le_mul (by omega) (by omega) (by omega) (by omega)
    have e2 : x * logLo k ≤ 0 := Int.mul_nonpos_of_nonpos_of_nonneg (by omega) (by omega)
    have e3 : 0 ≤ B * 3700439719 := by omega
    omega
  · have e1 : x * logHi k ≤ B * 3700439719 := Int.mul_le_mul (by omega) (by omega) (by omega) (by omega)
    have e2 : 0 ≤ x * logLo k := Int.mul_nonneg (by omega) (by omega)
    have e3 : 0 ≤ B * 3700439719 := by omega
    omega
def sLo (e : V6) : Nat → Int
  | 0 => 0
  | k + 1 => sLo e k + tLo (e.get k) k
def sHi (e : V6) : Nat → Int
  | 0 => 0
  | k + 1 => sHi e k + tHi (e.get k) k
/-- The size of exponents. -/
def expo (e : V6) : S2 := ⟨sLo e 6, sHi e 6⟩
theorem s_bd {e : V6} {B : Int} (h : within e B = true) : ∀ {k : Nat}, k ≤ 6 → -(B * 3700439719 * k) ≤ sLo e k ∧ sLo e k ≤ sHi e k ∧ sHi e k ≤ B * 3700439719 * k
  | 0, _ => by simp [sLo, sHi]
  | k + 1, hk => by
    have ih := s_bd h (k := k) (by omega)
    have hb := withinK_le h (show k < 6 by omega)
    have ht := t_bd k hb.1 hb.2
    have hl := tLo_le (e.get k) k
    simp only [sLo, sHi]
    have : (B * 3700439719 * ((k + 1 : Nat) : Int)) = B * 3700439719 * k + B * 3700439719 := by rw [Int.natCast_add, Int.mul_add]; simp
    omega
theorem expo_bd {e : V6} {B : Int} (h : within e B = true) : -(B * 22202638314) ≤ (expo e).lo ∧ (expo e).lo ≤ (expo e).hi ∧ (expo e).hi ≤ B * 22202638314 := by
  have := s_bd h (k := 6) (by omega)
  simp only [expo]
  omega
/-- .. of a pitch: a valid size. -/
theorem expo_ok {e : V6} (h : within e 4000 = true) : szOk (expo e) = true := by
  have := expo_bd h
  rw [szOk_iff]
  omega
theorem within_mono {v : V6} {A B : Int} (h : A ≤ B) (hw : within v A = true) : within v B = true := by
  rw [within_iff] at hw ⊢
  intro k hk
  have := hw k hk
  omega
theorem within_times {v : V6} {B n : Int} (hn : 0 ≤ n) (hw : within v B = true) : within (v.times n) (B * n) = true := by
  rw [within_iff] at hw ⊢
  intro k hk
  have := hw k hk
  rw [V6.times, V6.get_of _ hk, ← Int.neg_mul]
  exact ⟨Int.mul_le_mul_of_nonneg_right this.1 hn, Int.mul_le_mul_of_nonneg_right this.2 hn⟩

/-- Common parts. -/
def meet (a b : S2) : S2 := ⟨if a.lo < b.lo then b.lo else a.lo, if b.hi < a.hi then b.hi else a.hi⟩
def addS (a b : S2) : S2 := ⟨a.lo + b.lo, a.hi + b.hi⟩
def subS (a b : S2) : S2 := ⟨a.lo - b.hi, a.hi - b.lo⟩
def zeroS : S2 := ⟨0, 0⟩
/-- A result with its error: an operation on two sizes. -/
def combR (c : S2) (a b : S2) : S2 × Int := if szOk a = true ∧ szOk b = true then (if szOk c = true then (c, 0) else (zeroS, 3)) else (zeroS, 1)
def addR (a b : S2) : S2 × Int := combR (addS a b) a b
def subR (a b : S2) : S2 × Int := combR (subS a b) a b
def meetR (a b : S2) : S2 × Int := if szOk a = true ∧ szOk b = true then (if (meet a b).lo ≤ (meet a b).hi then (meet a b, 0) else (zeroS, 4)) else (zeroS, 1)
def cmpR (a b : S2) : Int × Int := if szOk a = true ∧ szOk b = true then (if a.hi < b.lo then (-1, 0) else if b.hi < a.lo then (1, 0) else (0, 0)) else (0, 1)
def ofR (v : V6) : V6 × Int := if within v 48 = true then (v.times 12, 0) else (V6.zero, 1)
def sizeR (p : V6) : S2 × Int := if within p 576 = true then (expo p, 0) else (zeroS, 1)
end Go.Sx.Sz
