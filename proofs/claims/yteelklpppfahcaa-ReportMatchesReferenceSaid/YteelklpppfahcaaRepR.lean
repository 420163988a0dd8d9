/-
  Plain: the reference's way and proof of growth are those of the trees that contain a leaf (no program in sight).
-/
import Derived.Test.YteelklpppfahcaaRepP
set_option linter.unusedVariables false
namespace Go.Sx.Rep

def wayF : Nat → List Int → Nat → List Int
  | 0, _, _ => []
  | f + 1, l, i => if l.length ≤ 1 then [] else if i < split l.length then wayF f (l.take (split l.length)) i ++ [root (l.drop (split l.length))] else wayF f (l.drop (split l.length)) (i - split l.length) ++ [root (l.take (split l.length))]

theorem seg_take2 (xs : List Int) {lo hi k : Nat} (h : lo + k ≤ hi) : (seg xs lo hi).take k = seg xs lo (lo + k) := by
  have := seg_take xs (lo := lo) (m := lo + k) (hi := hi) (by omega) h
  simpa using this
theorem seg_drop2 (xs : List Int) {lo hi k : Nat} : (seg xs lo hi).drop k = seg xs (lo + k) hi := by
  have := seg_drop xs (lo := lo) (m := lo + k) (hi := hi) (by omega)
  simpa using this

theorem besF_cons (xs : List Int) (i : Nat) (c : Nat × Nat × Nat) (l : List (Nat × Nat × Nat)) : besF xs i (c :: l) = besF xs i l ++ [bes xs i c] := by
  unfold besF; rw [List.reverse_cons, List.map_append]; rfl

theorem wayF_bes (xs : List Int) (i : Nat) : ∀ f lo hi, lo ≤ i → i < hi → hi ≤ xs.length → hi - lo ≤ f → wayF f (seg xs lo hi) (i - lo) = besF xs i (cutsF onep i f lo hi).1
  | 0, lo, hi, h1, h2, _, h3 => by omega
  | f + 1, lo, hi, h1, h2, hN, h3 => by
    have hl := seg_len xs (lo := lo) hN
    unfold wayF cutsF
    rw [hl]
    by_cases hp : onep lo hi = true
    · rw [if_pos hp]
      simp only [onep, decide_eq_true_eq] at hp
      rw [if_pos (by omega)]
      rfl
    · rw [if_neg hp]
      have h5 := onep_ok i lo hi h1 h2 (by simpa using hp)
      rw [if_neg (by omega)]
      have h6 := split_lt (n := hi - lo) (by omega)
      have h7 := split_pos (hi - lo)
      rw [seg_take2 xs (by omega), seg_drop2 xs]
      simp only []
      rw [besF_cons]
      by_cases hm : i < lo + split (hi - lo)
      · rw [if_pos (by omega), if_pos hm, wayF_bes xs i f lo _ h1 hm (by omega) (by omega)]
        unfold bes
        rw [if_pos hm]
      · rw [if_neg (by omega), if_neg hm, show i - lo - split (hi - lo) = i - (lo + split (hi - lo)) by omega, wayF_bes xs i f _ hi (by omega) h2 hN (by omega)]
        unfold bes
        rw [if_neg hm]

theorem wayF_all (xs : List Int) (i : Nat) (hi : i < xs.length) : wayF xs.length xs i = pathG xs i := by
  have := wayF_bes xs i xs.length 0 xs.length (Nat.zero_le _) hi (Nat.le_refl _) (by omega)
  rw [seg_all] at this
  exact this

def grownF : Nat → List Int → Nat → Bool → List Int
  | 0, _, _, _ => []
  | f + 1, l, m, whole => if m = l.length then (if whole then [] else [root l]) else
    if m ≤ split l.length then grownF f (l.take (split l.length)) m whole ++ [root (l.drop (split l.length))] else grownF f (l.drop (split l.length)) (m - split l.length) false ++ [root (l.take (split l.length))]

theorem grownF_bes (xs : List Int) (m : Nat) (h0 : 1 ≤ m) : ∀ f lo hi, lo < m → m ≤ hi → hi ≤ xs.length → hi - lo ≤ f →
    grownF f (seg xs lo hi) (m - lo) (decide (lo = 0)) = (if 0 < (cutsF (endp m) (m - 1) f lo hi).2.1 then [root (seg xs (cutsF (endp m) (m - 1) f lo hi).2.1 (cutsF (endp m) (m - 1) f lo hi).2.2)] else []) ++ besF xs (m - 1) (cutsF (endp m) (m - 1) f lo hi).1
  | 0, lo, hi, h1, h2, _, h3 => by omega
  | f + 1, lo, hi, h1, h2, hN, h3 => by
    have hl := seg_len xs (lo := lo) hN
    unfold grownF cutsF
    rw [hl]
    by_cases hp : endp m lo hi = true
    · rw [if_pos hp]
      simp only [endp, decide_eq_true_eq] at hp
      subst hp
      rw [if_pos rfl]
      by_cases h : lo = 0
      · subst h; simp [besF]
      · rw [decide_eq_false h, if_pos (show 0 < lo by omega)]
        simp [besF]
    · rw [if_neg hp]
      have h5 : m < hi := by simp only [endp, decide_eq_true_eq] at hp; omega
      rw [if_neg (by omega)]
      have h6 := split_lt (n := hi - lo) (by omega)
      have h7 := split_pos (hi - lo)
      rw [seg_take2 xs (by omega), seg_drop2 xs]
      simp only []
      rw [besF_cons]
      by_cases hm : m - 1 < lo + split (hi - lo)
      · rw [if_pos (by omega), if_pos hm, grownF_bes xs m h0 f lo _ h1 (by omega) (by omega) (by omega), List.append_assoc]
        unfold bes
        rw [if_pos hm]
      · rw [if_neg (by omega), if_neg hm, show m - lo - split (hi - lo) = m - (lo + split (hi - lo)) by omega]
        have ih := grownF_bes xs m h0 f (lo + split (hi - lo)) hi (by omega) h2 hN (by omega)
        rw [decide_eq_false (by omega)] at ih
        rw [ih, List.append_assoc]
        unfold bes
        rw [if_neg hm]

theorem grownF_all (xs : List Int) (m : Nat) (h1 : 1 ≤ m) (h2 : m ≤ xs.length) : grownF xs.length xs m true = growG xs m := by
  have := grownF_bes xs m h1 xs.length 0 xs.length h1 h2 (Nat.le_refl _) (by omega)
  rw [seg_all] at this
  exact this
end Go.Sx.Rep
