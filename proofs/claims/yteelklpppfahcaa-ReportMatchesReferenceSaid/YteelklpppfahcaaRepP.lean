/-
  Plain laws on paths and proofs of growth (no program in sight).
-/
import Derived.Test.YteelklpppfahcaaRepN
set_option linter.unusedVariables false
namespace Go.Sx.Rep

theorem splitF_dbl : ∀ f k n, n ≤ f + k → 0 < k → n ≤ 2 * splitF f k n
  | 0, k, n, h, hk => by unfold splitF; omega
  | f + 1, k, n, h, hk => by
    unfold splitF
    split
    · exact splitF_dbl f (2 * k) n (by omega) (by omega)
    · omega
theorem split_dbl {n : Nat} : n ≤ 2 * split n := splitF_dbl n 1 n (by omega) (by omega)
theorem splitF_pow : ∀ f j n, ∃ j', splitF f (2 ^ j) n = 2 ^ j'
  | 0, j, n => ⟨j, rfl⟩
  | f + 1, j, n => by
    unfold splitF
    split
    · rw [← Nat.pow_succ']
      exact splitF_pow f (j + 1) n
    · exact ⟨j, rfl⟩
theorem split_pow (n : Nat) : ∃ j, split n = 2 ^ j := splitF_pow n 0 n
theorem split_le_pow {n k : Nat} (h1 : 1 < n) (h : n ≤ 2 ^ (k + 1)) : split n ≤ 2 ^ k := by
  obtain ⟨j, hj⟩ := split_pow n
  have := split_lt h1
  rw [hj] at this ⊢
  have h2 : 2 ^ j < 2 ^ (k + 1) := by omega
  exact Nat.pow_le_pow_right (by omega) (Nat.lt_succ_iff.1 ((Nat.pow_lt_pow_iff_right (by omega)).1 h2))

/-- As many trees as the tree is deep. -/
theorem cutsF_deep (p : Nat → Nat → Bool) (i : Nat) (hp : ∀ lo hi, lo ≤ i → i < hi → p lo hi = false → lo + 2 ≤ hi) : ∀ f k lo hi, lo ≤ i → i < hi → hi - lo ≤ f → hi - lo ≤ 2 ^ k → (cutsF p i f lo hi).1.length ≤ k
  | 0, _, _, _, h1, h2, h3, _ => by omega
  | f + 1, k, lo, hi, h1, h2, h3, h4 => by
    unfold cutsF
    by_cases hpt : p lo hi = true
    · rw [if_pos hpt]; simp
    · rw [if_neg hpt]
      have h5 := hp lo hi h1 h2 (by simpa using hpt)
      have h6 := split_lt (n := hi - lo) (by omega)
      have h7 := split_pos (hi - lo)
      have h9 := split_dbl (n := hi - lo)
      cases k with
      | zero => simp at h4; omega
      | succ k =>
        have h8 := split_le_pow (k := k) (n := hi - lo) (by omega) h4
        simp only [List.length_cons]
        apply Nat.succ_le_succ
        by_cases hm : i < lo + split (hi - lo)
        · rw [if_pos hm]; exact cutsF_deep p i hp f k lo _ h1 hm (by omega) (by omega)
        · rw [if_neg hm]; exact cutsF_deep p i hp f k _ hi (by omega) h2 (by omega) (by omega)

theorem cutsAll_deep (p : Nat → Nat → Bool) (i n : Nat) (hp : ∀ lo hi, lo ≤ i → i < hi → p lo hi = false → lo + 2 ≤ hi) (hi : i < n) (hn : n ≤ 1024) : (cutsAll p i n).1.length ≤ 10 :=
  cutsF_deep p i hp n 10 0 n (Nat.zero_le _) hi (by omega) (by simpa using hn)

/-- Up along trees by what stands beside: as a fold from the right. -/
theorem foldF_bes (q : Nat × Nat × Nat → Bool) (b : Nat × Nat × Nat → Int) (d : Int) (l : List (Nat × Nat × Nat)) :
    foldF q d l (l.reverse.map b) = l.foldr (fun c d => if q c then node d (b c) else node (b c) d) d := by
  unfold foldF
  rw [← List.foldl_reverse]
  generalize l.reverse = r
  induction r generalizing d with
  | nil => rfl
  | cons c r ih => simp only [List.map_cons, List.zip_cons_cons, List.foldl_cons]; exact ih _

theorem cutsF_root (xs : List Int) (p : Nat → Nat → Bool) (i : Nat) (hp : ∀ lo hi, lo ≤ i → i < hi → p lo hi = false → lo + 2 ≤ hi) : ∀ f lo hi, lo ≤ i → i < hi → hi ≤ xs.length → hi - lo ≤ f →
    (cutsF p i f lo hi).1.foldr (fun c d => if decide (i < c.2.1) then node d (bes xs i c) else node (bes xs i c) d) (root (seg xs (cutsF p i f lo hi).2.1 (cutsF p i f lo hi).2.2)) = root (seg xs lo hi)
  | 0, lo, hi, h1, h2, _, h3 => by omega
  | f + 1, lo, hi, h1, h2, hN, h3 => by
    unfold cutsF
    by_cases hpt : p lo hi = true
    · rw [if_pos hpt]; rfl
    · rw [if_neg hpt]
      have h5 := hp lo hi h1 h2 (by simpa using hpt)
      have h6 := split_lt (n := hi - lo) (by omega)
      have h7 := split_pos (hi - lo)
      simp only [List.foldr_cons]
      rw [root_seg xs (lo := lo) (hi := hi) (by omega) hN]
      by_cases hm : i < lo + split (hi - lo)
      · rw [if_pos hm, cutsF_root xs p i hp f lo _ h1 hm (by omega) (by omega)]
        simp [hm, bes]
      · rw [if_neg hm, cutsF_root xs p i hp f _ hi (by omega) h2 hN (by omega)]
        simp [hm, bes]

theorem cutsAll_one (i n : Nat) (hi : i < n) : (cutsAll onep i n).2 = (i, i + 1) := by
  obtain ⟨_, h1, h2, _, h3, _⟩ := cutsF_ok onep i (onep_ok i) n n 0 n (Nat.zero_le _) hi (Nat.le_refl _) (by omega)
  simp only [onep, decide_eq_true_eq] at h3
  unfold cutsAll
  refine Prod.ext ?_ ?_ <;> simp only [] <;> omega

theorem pathG_leads (xs : List Int) (i : Nat) (hi : i < xs.length) : foldF (fun c => decide (i < c.2.1)) xs[i] (cutsAll onep i xs.length).1 (pathG xs i) = root xs := by
  unfold pathG besF
  rw [foldF_bes]
  have h := cutsF_root xs onep i (onep_ok i) xs.length 0 xs.length (Nat.zero_le _) hi (Nat.le_refl _) (by omega)
  have h2 := cutsAll_one i xs.length hi
  unfold cutsAll at h2 ⊢
  rw [h2, seg_one xs hi, seg_all] at h
  exact h

theorem pathG_len (xs : List Int) (i : Nat) : (pathG xs i).length = (cutsAll onep i xs.length).1.length := by unfold pathG; rw [besF_len]
theorem path_check (xs : List Int) (i : Nat) (hi : i < xs.length) (hn : xs.length ≤ 1024) : checkF (root xs) xs[i] i xs.length (pathG xs i) = true := by
  unfold checkF
  rw [if_neg (by omega)]
  simp only [Int.toNat_natCast, pathG_len, pathG_leads xs i hi]
  simp
theorem check_len (xs : List Int) (i : Nat) (rt leaf : Int) (ps : List Int) (h : checkF rt leaf i xs.length ps = true) : ps.length = (pathG xs i).length := by
  unfold checkF at h
  split at h
  · cases h
  · rw [pathG_len]
    simp at h
    exact h.1
theorem pathG_deep (xs : List Int) (i : Nat) (hi : i < xs.length) (hn : xs.length ≤ 1024) : (pathG xs i).length ≤ 10 := by
  rw [pathG_len]
  exact cutsAll_deep onep i xs.length (onep_ok i) hi hn
theorem pathErr_zero {xs : List Int} {i : Int} : pathErr xs i = 0 ↔ (0 < xs.length ∧ xs.length ≤ 1024) ∧ 0 ≤ i ∧ i < xs.length := by
  unfold pathErr
  by_cases h : rootErr xs = 0
  · rw [if_pos h]
    have h' := rootErr_zero.1 h
    by_cases h2 : i < 0 ∨ (xs.length : Int) ≤ i
    · rw [if_pos h2]; omega
    · rw [if_neg h2]; omega
  · rw [if_neg h]
    have h' := fun k => h (rootErr_zero.2 k)
    constructor
    · intro k; exact absurd k h
    · intro k; exact absurd k.1 h'
theorem growErr_zero {xs : List Int} {m : Int} : growErr xs m = 0 ↔ (0 < xs.length ∧ xs.length ≤ 1024) ∧ 1 ≤ m ∧ m ≤ xs.length := by
  unfold growErr
  by_cases h : rootErr xs = 0
  · rw [if_pos h]
    have h' := rootErr_zero.1 h
    by_cases h2 : m < 1 ∨ (xs.length : Int) < m
    · rw [if_pos h2]; omega
    · rw [if_neg h2]; omega
  · rw [if_neg h]
    have h' := fun k => h (rootErr_zero.2 k)
    constructor
    · intro k; exact absurd k h
    · intro k; exact absurd k.1 h'

/-! ### Growth -/
theorem endsAll_hi (m n : Nat) (h1 : 1 ≤ m) (h2 : m ≤ n) : (endsAll m n).2.2 = m := by
  obtain ⟨_, _, _, _, h3, _⟩ := cutsF_ok (endp m) (m - 1) (endp_ok m h1) n n 0 n (Nat.zero_le _) (by omega) (Nat.le_refl _) (by omega)
  exact of_decide_eq_true h3

/-- Both roots out of a proof of growth. -/
theorem ends_fold (xs : List Int) (m : Nat) (h1 : 1 ≤ m) (h2 : m ≤ xs.length) :
    foldF (fun c => decide (m ≤ c.2.1)) (root (seg xs (endsAll m xs.length).2.1 m)) (endsAll m xs.length).1 (besF xs (m - 1) (endsAll m xs.length).1) = root xs := by
  unfold besF
  rw [foldF_bes]
  have h := cutsF_root xs (endp m) (m - 1) (endp_ok m h1) xs.length 0 xs.length (Nat.zero_le _) (by omega) (Nat.le_refl _) (by omega)
  have h3 := endsAll_hi m xs.length h1 h2
  unfold endsAll cutsAll at h3 ⊢
  rw [h3, seg_all] at h
  rw [← h]
  congr 1
  funext c d
  have : decide (m ≤ c.2.1) = decide (m - 1 < c.2.1) := by
    by_cases hc : m ≤ c.2.1
    · rw [decide_eq_true hc, decide_eq_true (by omega)]
    · rw [decide_eq_false hc, decide_eq_false (by omega)]
  rw [this]

theorem oldF_bes (m : Nat) (b : Nat × Nat × Nat → Int) (d : Int) (l : List (Nat × Nat × Nat)) :
    oldF m d l (l.reverse.map b) = l.foldr (fun c d => if c.2.1 < m then node (b c) d else d) d := by
  unfold oldF
  rw [← List.foldl_reverse]
  generalize l.reverse = r
  induction r generalizing d with
  | nil => rfl
  | cons c r ih => simp only [List.map_cons, List.zip_cons_cons, List.foldl_cons]; exact ih _

theorem splitF_cut : ∀ f k n m, k < m → m < n → n ≤ f + k → 0 < k → (splitF f k n < m → splitF f k n = splitF f k m)
  | 0, k, n, m, h1, h2, h3, hk, h => by omega
  | f + 1, k, n, m, h1, h2, h3, hk, h => by
    unfold splitF at h ⊢
    by_cases hn : 2 * k < n
    · rw [if_pos hn] at h ⊢
      have h5 := splitF_ge f (2 * k) n
      rw [if_pos (by omega)]
      exact splitF_cut f (2 * k) n m (by omega) h2 (by omega) (by omega) h
    · rw [if_neg hn] at h ⊢
      rw [if_neg (by omega)]
/-- Where m leaves end behind the cut of n, m leaves are cut at the same place. -/
theorem split_cut {n m : Nat} (h2 : m < n) (h1 : 1 < m) (h : split n < m) : split m = split n := by
  have e := splitF_cut n 1 n m h1 h2 (by omega) (by omega) h
  show splitF m 1 m = splitF n 1 n
  rw [splitF_fuel m n 1 m (by omega) (by omega) (by omega)]
  exact e.symm

theorem cutsF_old (xs : List Int) (m : Nat) (h1 : 1 ≤ m) : ∀ f lo hi, lo < m → m ≤ hi → hi ≤ xs.length → hi - lo ≤ f →
    (cutsF (endp m) (m - 1) f lo hi).1.foldr (fun c d => if c.2.1 < m then node (bes xs (m - 1) c) d else d) (root (seg xs (cutsF (endp m) (m - 1) f lo hi).2.1 m)) = root (seg xs lo m)
  | 0, lo, hi, h2, h3, _, h4 => by omega
  | f + 1, lo, hi, h2, h3, hN, h4 => by
    unfold cutsF
    by_cases hpt : endp m lo hi = true
    · rw [if_pos hpt]; rfl
    · rw [if_neg hpt]
      have h5 : m < hi := by simp only [endp, decide_eq_true_eq] at hpt; omega
      have h6 := split_lt (n := hi - lo) (by omega)
      have h7 := split_pos (hi - lo)
      simp only [List.foldr_cons]
      by_cases hm : m - 1 < lo + split (hi - lo)
      · rw [if_pos hm, cutsF_old xs m h1 f lo _ h2 (by omega) (by omega) (by omega), if_neg (by omega)]
      · rw [if_neg hm, cutsF_old xs m h1 f _ hi (by omega) (by omega) hN (by omega), if_pos (by omega)]
        rw [root_seg xs (lo := lo) (hi := m) (by omega) (by omega), split_cut (n := hi - lo) (m := m - lo) (by omega) (by omega) (by omega)]
        unfold bes
        rw [if_neg hm]

theorem seg_zero (xs : List Int) (m : Nat) : seg xs 0 m = xs.take m := by unfold seg; rw [List.drop_zero]

theorem ends_old (xs : List Int) (m : Nat) (h1 : 1 ≤ m) (h2 : m ≤ xs.length) :
    oldF m (root (seg xs (endsAll m xs.length).2.1 m)) (endsAll m xs.length).1 (besF xs (m - 1) (endsAll m xs.length).1) = root (xs.take m) := by
  unfold besF
  rw [oldF_bes, ← seg_zero]
  exact cutsF_old xs m h1 xs.length 0 xs.length h1 h2 (Nat.le_refl _) (by omega)

theorem grow_follows (xs : List Int) (m : Nat) (h1 : 1 ≤ m) (h2 : m ≤ xs.length) (hn : xs.length ≤ 1024) : followsF (root (xs.take m)) (root xs) m xs.length (growG xs m) = true := by
  have e1 := ends_old xs m h1 h2
  have e2 := ends_fold xs m h1 h2
  have e3 := endsAll_hi m xs.length h1 h2
  unfold followsF growG
  rw [if_neg (by omega)]
  simp only [Int.toNat_natCast]
  rw [e3]
  by_cases h0 : 0 < (endsAll m xs.length).2.1
  · simp only [h0, if_true, true_and]
    simp only [List.singleton_append, List.length_cons, List.headD_cons, List.tail_cons, besF_len]
    rw [if_neg (by omega), if_neg (by simp)]
    rw [e1, e2]
    simp
  · have h00 : (endsAll m xs.length).2.1 = 0 := by omega
    simp only [h0, if_false, false_and, List.nil_append, besF_len]
    rw [h00, seg_zero] at e1 e2
    rw [if_neg (by simp), e1, e2]
    simp

theorem ends_full (n : Nat) (h : 0 < n) : endsAll n n = ([], 0, n) := by
  unfold endsAll cutsAll
  exact cutsF_stop _ _ _ _ _ (by simp [endp])
theorem grow_full (xs : List Int) (h : 0 < xs.length) : growG xs xs.length = [] := by
  have e := ends_full _ h
  unfold growG
  rw [e]
  rfl
theorem ends_some (m n : Nat) (h1 : 1 ≤ m) (h2 : m < n) : 0 < (endsAll m n).1.length := by
  unfold endsAll cutsAll
  cases n with
  | zero => omega
  | succ n =>
    unfold cutsF
    rw [if_neg (by simp only [endp, decide_eq_true_eq]; omega)]
    simp
theorem grow_some (xs : List Int) (m : Nat) (h1 : 1 ≤ m) (h2 : m < xs.length) : 0 < (growG xs m).length := by
  unfold growG
  rw [List.length_append, besF_len]
  have := ends_some m xs.length h1 h2
  omega
theorem growG_deep (xs : List Int) (m : Nat) (h1 : 1 ≤ m) (h2 : m ≤ xs.length) (hn : xs.length ≤ 1024) : (growG xs m).length ≤ 11 := by
  unfold growG
  rw [List.length_append, besF_len]
  have := cutsAll_deep (endp m) (m - 1) xs.length (endp_ok m h1) (by omega) hn
  unfold endsAll
  split <;> simp <;> omega
theorem follows_full (old rt : Int) (n : Nat) (h : 0 < n) (hn : n ≤ 1024) : followsF old rt n n [] = (old == rt) := by
  unfold followsF
  rw [if_neg (by omega)]
  simp only [Int.toNat_natCast, ends_full n h]
  simp [oldF, foldF]
theorem rootErr_take (xs : List Int) (m : Nat) (h1 : 1 ≤ m) (h2 : m ≤ xs.length) (hn : xs.length ≤ 1024) : rootErr (xs.take m) = 0 := by
  rw [rootErr_zero]; simp; omega
end Go.Sx.Rep
