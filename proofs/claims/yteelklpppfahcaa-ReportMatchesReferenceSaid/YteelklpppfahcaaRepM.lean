/-
  Plain definitions on digests and trees of digests (no program in sight).
-/
import Derived.WalkKit
namespace Go.Sx.Rep

/-- One byte more. -/
def step (h x : Int) : Int := IntKind.u64.wrap (bits .xor .u64 h (IntKind.u64.wrap x) * 1099511628211)
def fnv (l : List Int) : Int := l.foldl step 14695981039346656037
theorem fnv_take (l : List Int) (k : Nat) (h : k < l.length) : fnv (l.take (k + 1)) = step (fnv (l.take k)) l[k] := by
  unfold fnv; rw [List.take_succ_eq_append_getElem h, List.foldl_append]; rfl

/-- The byte of n at a shift. -/
def byteAt (n : Int) (s : Nat) : Int := n / 2 ^ s % 256
def be8 (n : Int) : List Int := [byteAt n 56, byteAt n 48, byteAt n 40, byteAt n 32, byteAt n 24, byteAt n 16, byteAt n 8, byteAt n 0]
theorem be8_len (n : Int) : (be8 n).length = 8 := rfl
theorem be8_take (n : Int) (m : Nat) (h : m < 8) : (be8 n).take (m + 1) = (be8 n).take m ++ [byteAt n (56 - 8 * m)] := by
  have : m = 0 ∨ m = 1 ∨ m = 2 ∨ m = 3 ∨ m = 4 ∨ m = 5 ∨ m = 6 ∨ m = 7 := by omega
  rcases this with rfl | rfl | rfl | rfl | rfl | rfl | rfl | rfl <;> rfl
theorem flatMap_take (l : List Int) (k : Nat) (h : k < l.length) : (l.take (k + 1)).flatMap be8 = (l.take k).flatMap be8 ++ be8 l[k] := by
  rw [List.take_succ_eq_append_getElem h, List.flatMap_append]; simp
theorem flatMap_len (l : List Int) : (l.flatMap be8).length = 8 * l.length := by
  induction l with
  | nil => rfl
  | cons x l ih => rw [List.flatMap_cons, List.length_append, ih, be8_len, List.length_cons]; omega
def node (a b : Int) : Int := fnv (1 :: (be8 a ++ be8 b))

def intsF (l : List Int) : Int := fnv (l.flatMap fun n => be8 (IntKind.u64.wrap n))
theorem intsF_len (l : List Int) : (l.flatMap fun n => be8 (IntKind.u64.wrap n)).length = 8 * l.length := by
  induction l with
  | nil => rfl
  | cons x l ih => rw [List.flatMap_cons, List.length_append, ih, be8_len, List.length_cons]; omega
theorem ints_take (l : List Int) (k : Nat) (h : k < l.length) : ((l.take (k + 1)).flatMap fun n => be8 (IntKind.u64.wrap n)) = ((l.take k).flatMap fun n => be8 (IntKind.u64.wrap n)) ++ be8 (IntKind.u64.wrap l[k]) := by
  rw [List.take_succ_eq_append_getElem h, List.flatMap_append]; simp
def leafF (p v b : Int) : Int := intsF [0, p, v, b]

def splitF : Nat → Nat → Nat → Nat
  | 0, k, _ => k
  | f + 1, k, n => if 2 * k < n then splitF f (2 * k) n else k
/-- The greatest power of two below n. -/
def split (n : Nat) : Nat := splitF n 1 n

theorem splitF_le : ∀ f k n, k < n → splitF f k n < n
  | 0, k, n, h => h
  | f + 1, k, n, h => by
    unfold splitF
    split
    · exact splitF_le f _ n ‹_›
    · exact h
theorem splitF_ge : ∀ f k n, k ≤ splitF f k n
  | 0, k, n => Nat.le_refl _
  | f + 1, k, n => by
    unfold splitF
    split
    · exact Nat.le_trans (by omega) (splitF_ge f (2 * k) n)
    · exact Nat.le_refl _
theorem split_lt {n : Nat} (h : 1 < n) : split n < n := splitF_le _ _ _ h
theorem split_pos (n : Nat) : 1 ≤ split n := splitF_ge _ _ _
/-- Fuel enough is enough. -/
theorem splitF_fuel : ∀ f g k n, 0 < k → n ≤ f + k → n ≤ g + k → splitF f k n = splitF g k n
  | 0, 0, _, _, _, _, _ => rfl
  | 0, g + 1, k, n, hk, h1, h2 => by simp [splitF]; omega
  | f + 1, 0, k, n, hk, h1, h2 => by simp [splitF]; omega
  | f + 1, g + 1, k, n, hk, h1, h2 => by
    unfold splitF
    split
    · exact splitF_fuel f g (2 * k) n (by omega) (by omega) (by omega)
    · rfl
theorem splitF_step (k n : Nat) (hk : 0 < k) (h : 2 * k < n) : splitF n k n = splitF n (2 * k) n := by
  rw [splitF_fuel n (n + 1) k n hk (by omega) (by omega)]
  show (if 2 * k < n then splitF n (2 * k) n else k) = _
  rw [if_pos h]
theorem splitF_stop (k n : Nat) (hk : 0 < k) (h : ¬ 2 * k < n) : splitF n k n = k := by
  rw [splitF_fuel n (n + 1) k n hk (by omega) (by omega)]
  show (if 2 * k < n then splitF n (2 * k) n else k) = _
  rw [if_neg h]

def rootF : Nat → List Int → Int
  | 0, l => l.headD 0
  | f + 1, l => if l.length ≤ 1 then l.headD 0 else node (rootF f (l.take (split l.length))) (rootF f (l.drop (split l.length)))
/-- The root of a tree (of at least one leaf). -/
def root (l : List Int) : Int := rootF l.length l
theorem rootF_fuel : ∀ f g l, l.length ≤ f → l.length ≤ g → rootF f l = rootF g l
  | 0, 0, _, _, _ => rfl
  | 0, g + 1, l, h1, _ => by simp [rootF]; intro h; omega
  | f + 1, 0, l, _, h2 => by simp [rootF]; intro h; omega
  | f + 1, g + 1, l, h1, h2 => by
    unfold rootF
    split
    · rfl
    · rename_i h
      have hs := split_lt (n := l.length) (by omega)
      have hp := split_pos l.length
      rw [rootF_fuel f g (l.take _) (by simp; omega) (by simp; omega), rootF_fuel f g (l.drop _) (by simp; omega) (by simp; omega)]
theorem root_one (x : Int) : root [x] = x := rfl
theorem root_split (l : List Int) (h : 1 < l.length) : root l = node (root (l.take (split l.length))) (root (l.drop (split l.length))) := by
  have hs := split_lt h
  have hp := split_pos l.length
  unfold root
  rw [rootF_fuel l.length (l.length + 1) l (by omega) (by omega)]
  show (if _ then _ else _) = _
  rw [if_neg (by omega)]
  rw [rootF_fuel l.length (l.take (split l.length)).length _ (by simp; omega) (by omega), rootF_fuel l.length (l.drop (split l.length)).length _ (by simp) (by omega)]

/-- The leaves from lo to before hi. -/
def seg (l : List Int) (lo hi : Nat) : List Int := (l.take hi).drop lo
theorem seg_len (l : List Int) {lo hi : Nat} (h : hi ≤ l.length) : (seg l lo hi).length = hi - lo := by simp [seg]; omega
theorem seg_take (l : List Int) {lo m hi : Nat} (h1 : lo ≤ m) (h2 : m ≤ hi) : (seg l lo hi).take (m - lo) = seg l lo m := by
  unfold seg; rw [List.take_drop, List.take_take]; congr 2; omega
theorem seg_drop (l : List Int) {lo m hi : Nat} (h1 : lo ≤ m) : (seg l lo hi).drop (m - lo) = seg l m hi := by
  unfold seg; rw [List.drop_drop]; congr 1; omega
theorem root_seg (l : List Int) {lo hi : Nat} (h1 : lo + 1 < hi) (h2 : hi ≤ l.length) :
    root (seg l lo hi) = node (root (seg l lo (lo + split (hi - lo)))) (root (seg l (lo + split (hi - lo)) hi)) := by
  have hl := seg_len l (lo := lo) h2
  have hs := split_lt (n := hi - lo) (by omega)
  rw [root_split _ (by omega), hl]
  rw [← seg_take l (lo := lo) (m := lo + split (hi - lo)) (hi := hi) (by omega) (by omega), ← seg_drop l (lo := lo) (m := lo + split (hi - lo)) (hi := hi) (by omega)]
  simp
theorem seg_one (l : List Int) {lo : Nat} (h : lo < l.length) : root (seg l lo (lo + 1)) = l[lo] := by
  have : seg l lo (lo + 1) = [l[lo]] := by
    unfold seg
    rw [List.take_succ_eq_append_getElem h, List.drop_append_of_le_length (by simp; omega), List.drop_of_length_le (by simp; omega)]
    rfl
  rw [this]; rfl
theorem seg_all (l : List Int) : seg l 0 l.length = l := by simp [seg]
/-- What stands beside the way of leaf i, from the leaf up. -/
def bes (xs : List Int) (i : Nat) (c : Nat × Nat × Nat) : Int := if i < c.2.1 then root (seg xs c.2.1 c.2.2) else root (seg xs c.1 c.2.1)
def besF (xs : List Int) (i : Nat) (l : List (Nat × Nat × Nat)) : List Int := l.reverse.map (bes xs i)
theorem besF_len (xs : List Int) (i : Nat) (l : List (Nat × Nat × Nat)) : (besF xs i l).length = l.length := by simp [besF]
theorem besF_take (xs : List Int) (i : Nat) (l : List (Nat × Nat × Nat)) (k m : Nat) (hm : m = l.length - 1 - k) (hk : k < l.length) (hml : m < l.length) : (besF xs i l).take (k + 1) = (besF xs i l).take k ++ [bes xs i l[m]] := by
  rw [List.take_succ_eq_append_getElem (by simpa [besF_len] using hk)]
  subst hm
  simp [besF, List.getElem_reverse]
end Go.Sx.Rep
