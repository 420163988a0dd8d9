/-
  Plain laws: a byte, and what stood before it, can be told from the digest.
-/
import Derived.Test.YteelklpppfahcaaRepM
import Derived.Lib.EndianBits
namespace Go.Sx.Rep

def W64 (h : Int) : Prop := 0 ≤ h ∧ h < 18446744073709551616

theorem step_bv (h x : Int) : step h x = (((BitVec.ofInt 64 h ^^^ BitVec.ofInt 64 (IntKind.u64.wrap x)) * 1099511628211#64).toNat : Int) := by
  unfold step bits
  show IntKind.u64.wrap (IntKind.u64.wrap (BitVec.ofInt 64 h ^^^ BitVec.ofInt 64 (IntKind.u64.wrap x)).toNat * 1099511628211) = _
  generalize BitVec.ofInt 64 h ^^^ BitVec.ofInt 64 (IntKind.u64.wrap x) = z
  rw [BitVec.toNat_mul, IntKind.wrap_u64, IntKind.wrap_u64]
  have h2 := z.isLt
  have h3 : (z.toNat : Int) % 18446744073709551616 = z.toNat := Int.emod_eq_of_lt (by omega) (by omega)
  rw [h3]
  rw [show (1099511628211#64).toNat = 1099511628211 from rfl]
  omega

theorem step_w (h x : Int) : W64 (step h x) := by
  rw [step_bv]
  generalize (BitVec.ofInt 64 h ^^^ BitVec.ofInt 64 (IntKind.u64.wrap x)) * 1099511628211#64 = z
  have := z.isLt
  exact ⟨by omega, by omega⟩

theorem mul_prime {a b : BitVec 64} (h : a * 1099511628211#64 = b * 1099511628211#64) : a = b := by
  have h2 : a * 1099511628211#64 * 14886173955864302971#64 = b * 1099511628211#64 * 14886173955864302971#64 := by rw [h]
  rw [BitVec.mul_assoc, BitVec.mul_assoc, show (1099511628211#64 * 14886173955864302971#64 : BitVec 64) = 1#64 from rfl, BitVec.mul_one, BitVec.mul_one] at h2
  exact h2

theorem ofInt_inj {a b : Int} (ha : W64 a) (hb : W64 b) (h : BitVec.ofInt 64 a = BitVec.ofInt 64 b) : a = b := by
  have h2 := congrArg BitVec.toNat h
  rw [BitVec.toNat_ofInt, BitVec.toNat_ofInt] at h2
  obtain ⟨a1, a2⟩ := ha
  obtain ⟨b1, b2⟩ := hb
  omega

theorem step_left {h k x : Int} (hh : W64 h) (hk : W64 k) (e : step h x = step k x) : h = k := by
  rw [step_bv, step_bv] at e
  have e2 := mul_prime (BitVec.eq_of_toNat_eq (Int.ofNat_inj.1 e))
  exact ofInt_inj hh hk (by
    have := congrArg (· ^^^ BitVec.ofInt 64 (IntKind.u64.wrap x)) e2
    simpa [BitVec.xor_assoc] using this)
theorem step_right {h x y : Int} (hx : 0 ≤ x ∧ x ≤ 255) (hy : 0 ≤ y ∧ y ≤ 255) (e : step h x = step h y) : x = y := by
  rw [step_bv, step_bv] at e
  have e2 := mul_prime (BitVec.eq_of_toNat_eq (Int.ofNat_inj.1 e))
  rw [IntKind.wrap_u64, IntKind.wrap_u64, Int.emod_eq_of_lt (by omega) (by omega), Int.emod_eq_of_lt (by omega) (by omega)] at e2
  exact ofInt_inj ⟨by omega, by omega⟩ ⟨by omega, by omega⟩ (by
    have := congrArg (BitVec.ofInt 64 h ^^^ ·) e2
    simpa [← BitVec.xor_assoc] using this)

theorem fold_left : ∀ (l : List Int) {h k : Int}, W64 h → W64 k → l.foldl step h = l.foldl step k → h = k
  | [], _, _, _, _, e => e
  | x :: l, h, k, hh, hk, e => step_left hh hk (fold_left l (step_w h x) (step_w k x) e)

/-- Bytes that differ in one byte alone. -/
theorem fnv_byte (a b : List Int) (x y : Int) (hx : 0 ≤ x ∧ x ≤ 255) (hy : 0 ≤ y ∧ y ≤ 255) : (fnv ((a ++ [x]) ++ b) == fnv ((a ++ [y]) ++ b)) = (x == y) := by
  by_cases h : x = y
  · subst h; simp
  · have h1 : (x == y) = false := beq_eq_false_iff_ne.2 h
    rw [h1, beq_eq_false_iff_ne]
    intro e
    unfold fnv at e
    rw [List.foldl_append, List.foldl_append, List.foldl_append, List.foldl_append] at e
    exact h (step_right hx hy (fold_left b (step_w _ _) (step_w _ _) e))
end Go.Sx.Rep
