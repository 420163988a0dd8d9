/-
  Libraries of these proofs, laid as one text: RepM, RepN, RepP, RepA, RepB, RepC, RepD, RepE, RepF, RepG, RepH, RepI.
-/
import Derived.WalkKit
import Derived.Test.YtkckingkocacjaaGreatDoorProg
import Derived.Test.YtkckingkocacjaaGreatDoorLibA
import Derived.Test.YtkckingkocacjaaGreatDoorLibB
/-
  Plain definitions on digests and trees of digests (no program in sight).
-/
namespace Go.Sx.Rep

/-- One byte more. -/
def step (h x : Int) : Int := IntKind.u64.wrap (bits .xor .u64 h (IntKind.u64.wrap x) * 1099511628211)
def fnv (l : List Int) : Int := l.foldl step 14695981039346656037
theorem fnv_take (l : List Int) (k : Nat) (h : k < l.length) : fnv (l.take (k + 1)) = step (fnv (l.take k)) l[k] := by
  unfold fnv; rw [List.take_succ_eq_append_getElem h, List.foldl_append]; rfl

/-- The byte of n at a shift. -/
def byteAt (n : Int) (s : Nat) : Int := n / 2 ^ s % 256
def be8 (n : Int) : List Int := [byteAt n 56, byteAt n 48, byteAt n 40, byteAt n 32, byteAt n 24, byteAt n 16, byteAt n 8, byteAt n 0]
theorem be8_len (n : Int) : (be8 n).length = 8 := rfl
theorem be8_take (n : Int) (m : Nat) (h : m < 8) : (be8 n).take (m + 1) = (be8 n).take m ++ [byteAt n (56 - 8 * m)] := by
  have : m = 0 ∨ m = 1 ∨ m = 2 ∨ m = 3 ∨ m = 4 ∨ m = 5 ∨ m = 6 ∨ m = 7 := by omega
  rcases this with rfl | rfl | rfl | rfl | rfl | rfl | rfl | rfl <;> rfl
theorem flatMap_take (l : List Int) (k : Nat) (h : k < l.length) : (l.take (k + 1)).flatMap be8 = (l.take k).flatMap be8 ++ be8 l[k] := by
  rw [List.take_succ_eq_append_getElem h, List.flatMap_append]; simp
theorem flatMap_len (l : List Int) : (l.flatMap be8).length = 8 * l.length := by
  induction l with
  | nil => rfl
  | cons x l ih => rw [List.flatMap_cons, List.length_append, ih, be8_len, List.length_cons]; omega
def node (a b : Int) : Int := fnv (1 :: (be8 a ++ be8 b))

def intsF (l : List Int) : Int := fnv (l.flatMap fun n => be8 (IntKind.u64.wrap n))
theorem intsF_len (l : List Int) : (l.flatMap fun n => be8 (IntKind.u64.wrap n)).length = 8 * l.length := by
  induction l with
  | nil => rfl
  | cons x l ih => rw [List.flatMap_cons, List.length_append, ih, be8_len, List.length_cons]; omega
theorem ints_take (l : List Int) (k : Nat) (h : k < l.length) : ((l.take (k + 1)).flatMap fun n => be8 (IntKind.u64.wrap n)) = ((l.take k).flatMap fun n => be8 (IntKind.u64.wrap n)) ++ be8 (IntKind.u64.wrap l[k]) := by
  rw [List.take_succ_eq_append_getElem h, List.flatMap_append]; simp
def leafF (p v b : Int) : Int := intsF [0, p, v, b]

def splitF : Nat → Nat → Nat → Nat
  | 0, k, _ => k
  | f + 1, k, n => if 2 * k < n then splitF f (2 * k) n else k
/-- The greatest power of two below n. -/
def split (n : Nat) : Nat := splitF n 1 n

theorem splitF_le : ∀ f k n, k < n → splitF f k n < n
  | 0, k, n, h => h
  | f + 1, k, n, h => by
    unfold splitF
    split
    · exact splitF_le f _ n ‹_›
    · exact h
theorem splitF_ge : ∀ f k n, k ≤ splitF f k n
  | 0, k, n => Nat.le_refl _
  | f + 1, k, n => by
    unfold splitF
    split
    · exact Nat.le_trans (by omega) (splitF_ge f (2 * k) n)
    · exact Nat.le_refl _
theorem split_lt {n : Nat} (h : 1 < n) : split n < n := splitF_le _ _ _ h
theorem split_pos (n : Nat) : 1 ≤ split n := splitF_ge _ _ _
/-- Fuel enough is enough. -/
theorem splitF_fuel : ∀ f g k n, 0 < k → n ≤ f + k → n ≤ g + k → splitF f k n = splitF g k n
  | 0, 0, _, _, _, _, _ => rfl
  | 0, g + 1, k, n, hk, h1, h2 => by simp [splitF]; omega
  | f + 1, 0, k, n, hk, h1, h2 => by simp [splitF]; omega
  | f + 1, g + 1, k, n, hk, h1, h2 => by
    unfold splitF
    split
    · exact splitF_fuel f g (2 * k) n (by omega) (by omega) (by omega)
    · rfl
theorem splitF_step (k n : Nat) (hk : 0 < k) (h : 2 * k < n) : splitF n k n = splitF n (2 * k) n := by
  rw [splitF_fuel n (n + 1) k n hk (by omega) (by omega)]
  show (if 2 * k < n then splitF n (2 * k) n else k) = _
  rw [if_pos h]
theorem splitF_stop (k n : Nat) (hk : 0 < k) (h : ¬ 2 * k < n) : splitF n k n = k := by
  rw [splitF_fuel n (n + 1) k n hk (by omega) (by omega)]
  show (if 2 * k < n then splitF n (2 * k) n else k) = _
  rw [if_neg h]

def rootF : Nat → List Int → Int
  | 0, l => l.headD 0
  | f + 1, l => if l.length ≤ 1 then l.headD 0 else node (rootF f (l.take (split l.length))) (rootF f (l.drop (split l.length)))
/-- The root of a tree (of at least one leaf). -/
def root (l : List Int) : Int := rootF l.length l
theorem rootF_fuel : ∀ f g l, l.length ≤ f → l.length ≤ g → rootF f l = rootF g l
  | 0, 0, _, _, _ => rfl
  | 0, g + 1, l, h1, _ => by simp [rootF]; intro h; omega
  | f + 1, 0, l, _, h2 => by simp [rootF]; intro h; omega
  | f + 1, g + 1, l, h1, h2 => by
    unfold rootF
    split
    · rfl
    · rename_i h
      have hs := split_lt (n := l.length) (by omega)
      have hp := split_pos l.length
      rw [rootF_fuel f g (l.take _) (by simp; omega) (by simp; omega), rootF_fuel f g (l.drop _) (by simp; omega) (by simp; omega)]
theorem root_one (x : Int) : root [x] = x := rfl
theorem root_split (l : List Int) (h : 1 < l.length) : root l = node (root (l.take (split l.length))) (root (l.drop (split l.length))) := by
  have hs := split_lt h
  have hp := split_pos l.length
  unfold root
  rw [rootF_fuel l.length (l.length + 1) l (by omega) (by omega)]
  show (if _ then _ else _) = _
  rw [if_neg (by omega)]
  rw [rootF_fuel l.length (l.take (split l.length)).length _ (by simp; omega) (by omega), rootF_fuel l.length (l.drop (split l.length)).length _ (by simp) (by omega)]

/-- The leaves from lo to before hi. -/
def seg (l : List Int) (lo hi : Nat) : List Int := (l.take hi).drop lo
theorem seg_len (l : List Int) {lo hi : Nat} (h : hi ≤ l.length) : (seg l lo hi).length = hi - lo := by simp [seg]; omega
theorem seg_take (l : List Int) {lo m hi : Nat} (h1 : lo ≤ m) (h2 : m ≤ hi) : (seg l lo hi).take (m - lo) = seg l lo m := by
  unfold seg; rw [List.take_drop, List.take_take]; congr 2; omega
theorem seg_drop (l : List Int) {lo m hi : Nat} (h1 : lo ≤ m) : (seg l lo hi).drop (m - lo) = seg l m hi := by
  unfold seg; rw [List.drop_drop]; congr 1; omega
theorem root_seg (l : List Int) {lo hi : Nat} (h1 : lo + 1 < hi) (h2 : hi ≤ l.length) :
    root (seg l lo hi) = node (root (seg l lo (lo + split (hi - lo)))) (root (seg l (lo + split (hi - lo)) hi)) := by
  have hl := seg_len l (lo := lo) h2
  have hs := split_lt (n := hi - lo) (by omega)
  rw [root_split _ (by omega), hl]
  rw [← seg_take l (lo := lo) (m := lo + split (hi - lo)) (hi := hi) (by omega) (by omega), ← seg_drop l (lo := lo) (m := lo + split (hi - lo)) (hi := hi) (by omega)]
  simp
theorem seg_one (l : List Int) {lo : Nat} (h : lo < l.length) : root (seg l lo (lo + 1)) = l[lo] := by
  have : seg l lo (lo + 1) = [l[lo]] := by
    unfold seg
    rw [List.take_succ_eq_append_getElem h, List.drop_append_of_le_length (by simp; omega), List.drop_of_length_le (by simp; omega)]
    rfl
  rw [this]; rfl
theorem seg_all (l : List Int) : seg l 0 l.length = l := by simp [seg]
/-- What stands beside the way of leaf i, from the leaf up. -/
def bes (xs : List Int) (i : Nat) (c : Nat × Nat × Nat) : Int := if i < c.2.1 then root (seg xs c.2.1 c.2.2) else root (seg xs c.1 c.2.1)
def besF (xs : List Int) (i : Nat) (l : List (Nat × Nat × Nat)) : List Int := l.reverse.map (bes xs i)
theorem besF_len (xs : List Int) (i : Nat) (l : List (Nat × Nat × Nat)) : (besF xs i l).length = l.length := by simp [besF]
theorem besF_take (xs : List Int) (i : Nat) (l : List (Nat × Nat × Nat)) (k m : Nat) (hm : m = l.length - 1 - k) (hk : k < l.length) (hml : m < l.length) : (besF xs i l).take (k + 1) = (besF xs i l).take k ++ [bes xs i l[m]] := by
  rw [List.take_succ_eq_append_getElem (by simpa [besF_len] using hk)]
  subst hm
  simp [besF, List.getElem_reverse]
end Go.Sx.Rep

/-
  Plain definitions on the trees that contain a leaf (no program in sight).
-/
set_option linter.unusedVariables false
namespace Go.Sx.Rep

/-- The trees that contain leaf i, from the whole one down, until p holds; then the last one's ends. -/
def cutsF (p : Nat → Nat → Bool) (i : Nat) : Nat → Nat → Nat → List (Nat × Nat × Nat) × Nat × Nat
  | 0, lo, hi => ([], lo, hi)
  | f + 1, lo, hi => if p lo hi then ([], lo, hi) else
    let m := lo + split (hi - lo)
    let r := if i < m then cutsF p i f lo m else cutsF p i f m hi
    ((lo, m, hi) :: r.1, r.2)
def cutsAll (p : Nat → Nat → Bool) (i n : Nat) : List (Nat × Nat × Nat) × Nat × Nat := cutsF p i n 0 n

theorem cutsF_fuel (p : Nat → Nat → Bool) (i : Nat) (hp : ∀ lo hi, lo ≤ i → i < hi → p lo hi = false → lo + 2 ≤ hi) : ∀ f g lo hi, lo ≤ i → i < hi → hi - lo ≤ f → hi - lo ≤ g → cutsF p i f lo hi = cutsF p i g lo hi
  | 0, _, _, _, h1, h2, h3, _ => by omega
  | _ + 1, 0, _, _, h1, h2, _, h4 => by omega
  | f + 1, g + 1, lo, hi, h1, h2, h3, h4 => by
    unfold cutsF
    split
    · rfl
    · rename_i hpf
      have h5 := hp lo hi h1 h2 (by simpa using hpf)
      have h6 := split_lt (n := hi - lo) (by omega)
      have h7 := split_pos (hi - lo)
      simp only []
      by_cases hm : i < lo + split (hi - lo)
      · rw [if_pos hm, if_pos hm, cutsF_fuel p i hp f g lo _ h1 hm (by omega) (by omega)]
      · rw [if_neg hm, if_neg hm, cutsF_fuel p i hp f g _ hi (by omega) h2 (by omega) (by omega)]

theorem cutsF_stop (p : Nat → Nat → Bool) (i n lo hi : Nat) (h : p lo hi = true) : cutsF p i n lo hi = ([], lo, hi) := by
  cases n with
  | zero => rfl
  | succ n => unfold cutsF; rw [if_pos h]
/-- One step down. -/
theorem cutsF_go (p : Nat → Nat → Bool) (i : Nat) (hp : ∀ lo hi, lo ≤ i → i < hi → p lo hi = false → lo + 2 ≤ hi) (n lo hi : Nat) (h1 : lo ≤ i) (h2 : i < hi) (hn : hi ≤ n) (h : p lo hi = false) :
    cutsF p i n lo hi = ((lo, lo + split (hi - lo), hi) :: (if i < lo + split (hi - lo) then cutsF p i n lo (lo + split (hi - lo)) else cutsF p i n (lo + split (hi - lo)) hi).1,
      (if i < lo + split (hi - lo) then cutsF p i n lo (lo + split (hi - lo)) else cutsF p i n (lo + split (hi - lo)) hi).2) := by
  have h5 := hp lo hi h1 h2 h
  have h6 := split_lt (n := hi - lo) (by omega)
  have h7 := split_pos (hi - lo)
  rw [cutsF_fuel p i hp n (n + 1) lo hi h1 h2 (by omega) (by omega)]
  show (if p lo hi = true then _ else _) = _
  rw [if_neg (by simp [h])]

theorem cutsF_ok (p : Nat → Nat → Bool) (i : Nat) (hp : ∀ lo hi, lo ≤ i → i < hi → p lo hi = false → lo + 2 ≤ hi) (N : Nat) : ∀ f lo hi, lo ≤ i → i < hi → hi ≤ N → hi - lo ≤ f →
    (∀ c ∈ (cutsF p i f lo hi).1, c.1 < c.2.1 ∧ c.2.1 < c.2.2 ∧ c.2.2 ≤ N) ∧ (cutsF p i f lo hi).2.1 ≤ i ∧ i < (cutsF p i f lo hi).2.2 ∧ (cutsF p i f lo hi).2.2 ≤ N ∧ p (cutsF p i f lo hi).2.1 (cutsF p i f lo hi).2.2 = true ∧ lo ≤ (cutsF p i f lo hi).2.1
  | 0, lo, hi, h1, h2, _, h3 => by omega
  | f + 1, lo, hi, h1, h2, hN, h3 => by
    unfold cutsF
    by_cases hpt : p lo hi = true
    · rw [if_pos hpt]; simp only [List.not_mem_nil, false_implies, implies_true, true_and]; exact ⟨h1, h2, hN, hpt, Nat.le_refl _⟩
    · rw [if_neg hpt]
      have h5 := hp lo hi h1 h2 (by simpa using hpt)
      have h6 := split_lt (n := hi - lo) (by omega)
      have h7 := split_pos (hi - lo)
      simp only []
      by_cases hm : i < lo + split (hi - lo)
      · rw [if_pos hm]
        have ih := cutsF_ok p i hp N f lo _ h1 hm (by omega) (by omega)
        refine ⟨fun c hc => ?_, ih.2⟩
        rcases List.mem_cons.1 hc with rfl | hc
        · simp only []; omega
        · exact ih.1 c hc
      · rw [if_neg hm]
        have ih := cutsF_ok p i hp N f (lo + split (hi - lo)) hi (by omega) h2 hN (by omega)
        refine ⟨fun c hc => ?_, ih.2.1, ih.2.2.1, ih.2.2.2.1, ih.2.2.2.2.1, by have := ih.2.2.2.2.2; omega⟩
        rcases List.mem_cons.1 hc with rfl | hc
        · simp only []; omega
        · exact ih.1 c hc

theorem cutsF_len (p : Nat → Nat → Bool) (i : Nat) : ∀ f lo hi, (cutsF p i f lo hi).1.length ≤ f
  | 0, _, _ => Nat.le_refl _
  | f + 1, lo, hi => by
    unfold cutsF
    split
    · simp
    · simp only [List.length_cons]
      split
      · exact Nat.succ_le_succ (cutsF_len p i f _ _)
      · exact Nat.succ_le_succ (cutsF_len p i f _ _)

def rootErr (xs : List Int) : Int := if xs.length = 0 then 4 else if 1024 < xs.length then 2 else 0
theorem rootErr_zero {xs : List Int} : rootErr xs = 0 ↔ 0 < xs.length ∧ xs.length ≤ 1024 := by
  unfold rootErr
  by_cases h0 : xs.length = 0
  · rw [if_pos h0]; omega
  · rw [if_neg h0]
    by_cases h1 : 1024 < xs.length
    · rw [if_pos h1]; omega
    · rw [if_neg h1]; omega
def rootV (xs : List Int) : Int := if rootErr xs = 0 then root xs else 0
def onep (lo hi : Nat) : Bool := decide (hi - lo = 1)
theorem onep_ok (i : Nat) : ∀ lo hi, lo ≤ i → i < hi → onep lo hi = false → lo + 2 ≤ hi := by
  intro lo hi h1 h2 h; simp only [onep, decide_eq_false_iff_not] at h; omega
def pathErr (xs : List Int) (i : Int) : Int := if rootErr xs = 0 then (if i < 0 ∨ (xs.length : Int) ≤ i then 1 else 0) else rootErr xs
/-- The path of leaf i. -/
def pathG (xs : List Int) (i : Nat) : List Int := besF xs i (cutsAll onep i xs.length).1
def pathL (xs : List Int) (i : Int) : List Int := if pathErr xs i = 0 then pathG xs i.toNat else []

/-- Up along a list of trees. -/
def foldF (q : Nat × Nat × Nat → Bool) (d : Int) (l : List (Nat × Nat × Nat)) (ps : List Int) : Int :=
  (l.reverse.zip ps).foldl (fun d x => if q x.1 then node d x.2 else node x.2 d) d
def foldK (q : Nat × Nat × Nat → Bool) (d : Int) (l : List (Nat × Nat × Nat)) (ps : List Int) (k : Nat) : Int :=
  ((l.reverse.zip ps).take k).foldl (fun d x => if q x.1 then node d x.2 else node x.2 d) d
theorem foldK_zero (q : Nat × Nat × Nat → Bool) (d : Int) (l : List (Nat × Nat × Nat)) (ps : List Int) : foldK q d l ps 0 = d := rfl
theorem foldK_all (q : Nat × Nat × Nat → Bool) (d : Int) (l : List (Nat × Nat × Nat)) (ps : List Int) (h : l.length ≤ ps.length) : foldK q d l ps l.length = foldF q d l ps := by
  unfold foldK foldF; rw [List.take_of_length_le (by simp; omega)]
theorem foldK_succ (q : Nat × Nat × Nat → Bool) (d : Int) (l : List (Nat × Nat × Nat)) (ps : List Int) (k m : Nat) (hm : m = l.length - 1 - k) (hk : k < l.length) (hml : m < l.length) (hp : k < ps.length) :
    foldK q d l ps (k + 1) = if q l[m] then node (foldK q d l ps k) ps[k] else node ps[k] (foldK q d l ps k) := by
  unfold foldK
  rw [List.take_succ_eq_append_getElem (by simp; omega), List.foldl_append]
  subst hm
  simp [List.getElem_zip, List.getElem_reverse]

def checkF (rt leaf i n : Int) (ps : List Int) : Bool :=
  if n < 1 ∨ 1024 < n ∨ i < 0 ∨ n ≤ i then false else
  (ps.length == (cutsAll onep i.toNat n.toNat).1.length) && foldF (fun c => decide (i.toNat < c.2.1)) leaf (cutsAll onep i.toNat n.toNat).1 ps == rt

/-- The trees in which the first m leaves end. -/
def endp (m lo hi : Nat) : Bool := decide (hi = m)
theorem endp_ok (m : Nat) (hm : 1 ≤ m) : ∀ lo hi, lo ≤ m - 1 → m - 1 < hi → endp m lo hi = false → lo + 2 ≤ hi := by
  intro lo hi h1 h2 h; simp only [endp, decide_eq_false_iff_not] at h; omega
def endsAll (m n : Nat) : List (Nat × Nat × Nat) × Nat × Nat := cutsAll (endp m) (m - 1) n
def growErr (xs : List Int) (m : Int) : Int := if rootErr xs = 0 then (if m < 1 ∨ (xs.length : Int) < m then 1 else 0) else rootErr xs
def growG (xs : List Int) (m : Nat) : List Int :=
  (if 0 < (endsAll m xs.length).2.1 then [root (seg xs (endsAll m xs.length).2.1 (endsAll m xs.length).2.2)] else []) ++ besF xs (m - 1) (endsAll m xs.length).1
def growL (xs : List Int) (m : Int) : List Int := if growErr xs m = 0 then growG xs m.toNat else []

/-- The earlier root out of a proof. -/
def oldF (m : Nat) (d : Int) (l : List (Nat × Nat × Nat)) (ps : List Int) : Int :=
  (l.reverse.zip ps).foldl (fun d x => if x.1.2.1 < m then node x.2 d else d) d
def oldK (m : Nat) (d : Int) (l : List (Nat × Nat × Nat)) (ps : List Int) (k : Nat) : Int :=
  ((l.reverse.zip ps).take k).foldl (fun d x => if x.1.2.1 < m then node x.2 d else d) d
theorem oldK_zero (m : Nat) (d : Int) (l : List (Nat × Nat × Nat)) (ps : List Int) : oldK m d l ps 0 = d := rfl
theorem oldK_all (m : Nat) (d : Int) (l : List (Nat × Nat × Nat)) (ps : List Int) (h : l.length ≤ ps.length) : oldK m d l ps l.length = oldF m d l ps := by
  unfold oldK oldF; rw [List.take_of_length_le (by simp; omega)]
theorem oldK_succ (q : Nat) (d : Int) (l : List (Nat × Nat × Nat)) (ps : List Int) (k m : Nat) (hm : m = l.length - 1 - k) (hk : k < l.length) (hml : m < l.length) (hp : k < ps.length) :
    oldK q d l ps (k + 1) = if l[m].2.1 < q then node ps[k] (oldK q d l ps k) else oldK q d l ps k := by
  unfold oldK
  rw [List.take_succ_eq_append_getElem (by simp; omega), List.foldl_append]
  subst hm
  simp [List.getElem_zip, List.getElem_reverse]

def followsF (old rt m n : Int) (ps : List Int) : Bool :=
  if n < 1 ∨ 1024 < n ∨ m < 1 ∨ n < m then false else
  let r := endsAll m.toNat n.toNat
  if 0 < r.2.1 ∧ ps.length = 0 then false else
  let first := if 0 < r.2.1 then ps.headD 0 else old
  let rest := if 0 < r.2.1 then ps.tail else ps
  if rest.length ≠ r.1.length then false else
  (oldF m.toNat first r.1 rest == old) && (foldF (fun c => decide (m.toNat ≤ c.2.1)) first r.1 rest == rt)
end Go.Sx.Rep

/-
  Plain laws on paths and proofs of growth (no program in sight).
-/
set_option linter.unusedVariables false
namespace Go.Sx.Rep

theorem splitF_dbl : ∀ f k n, n ≤ f + k → 0 < k → n ≤ 2 * splitF f k n
  | 0, k, n, h, hk => by unfold splitF; omega
  | f + 1, k, n, h, hk => by
    unfold splitF
    split
    · exact splitF_dbl f (2 * k) n (by omega) (by omega)
    · omega
theorem split_dbl {n : Nat} : n ≤ 2 * split n := splitF_dbl n 1 n (by omega) (by omega)
theorem splitF_pow : ∀ f j n, ∃ j', splitF f (2 ^ j) n = 2 ^ j'
  | 0, j, n => ⟨j, rfl⟩
  | f + 1, j, n => by
    unfold splitF
    split
    · rw [← Nat.pow_succ']
      exact splitF_pow f (j + 1) n
    · exact ⟨j, rfl⟩
theorem split_pow (n : Nat) : ∃ j, split n = 2 ^ j := splitF_pow n 0 n
theorem split_le_pow {n k : Nat} (h1 : 1 < n) (h : n ≤ 2 ^ (k + 1)) : split n ≤ 2 ^ k := by
  obtain ⟨j, hj⟩ := split_pow n
  have := split_lt h1
  rw [hj] at this ⊢
  have h2 : 2 ^ j < 2 ^ (k + 1) := by omega
  exact Nat.pow_le_pow_right (by omega) (Nat.lt_succ_iff.1 ((Nat.pow_lt_pow_iff_right (by omega)).1 h2))

/-- As many trees as the tree is deep. -/
theorem cutsF_deep (p : Nat → Nat → Bool) (i : Nat) (hp : ∀ lo hi, lo ≤ i → i < hi → p lo hi = false → lo + 2 ≤ hi) : ∀ f k lo hi, lo ≤ i → i < hi → hi - lo ≤ f → hi - lo ≤ 2 ^ k → (cutsF p i f lo hi).1.length ≤ k
  | 0, _, _, _, h1, h2, h3, _ => by omega
  | f + 1, k, lo, hi, h1, h2, h3, h4 => by
    unfold cutsF
    by_cases hpt : p lo hi = true
    · rw [if_pos hpt]; simp
    · rw [if_neg hpt]
      have h5 := hp lo hi h1 h2 (by simpa using hpt)
      have h6 := split_lt (n := hi - lo) (by omega)
      have h7 := split_pos (hi - lo)
      have h9 := split_dbl (n := hi - lo)
      cases k with
      | zero => simp at h4; omega
      | succ k =>
        have h8 := split_le_pow (k := k) (n := hi - lo) (by omega) h4
        simp only [List.length_cons]
        apply Nat.succ_le_succ
        by_cases hm : i < lo + split (hi - lo)
        · rw [if_pos hm]; exact cutsF_deep p i hp f k lo _ h1 hm (by omega) (by omega)
        · rw [if_neg hm]; exact cutsF_deep p i hp f k _ hi (by omega) h2 (by omega) (by omega)

theorem cutsAll_deep (p : Nat → Nat → Bool) (i n : Nat) (hp : ∀ lo hi, lo ≤ i → i < hi → p lo hi = false → lo + 2 ≤ hi) (hi : i < n) (hn : n ≤ 1024) : (cutsAll p i n).1.length ≤ 10 :=
  cutsF_deep p i hp n 10 0 n (Nat.zero_le _) hi (by omega) (by simpa using hn)

/-- Up along trees by what stands beside: as a fold from the right. -/
theorem foldF_bes (q : Nat × Nat × Nat → Bool) (b : Nat × Nat × Nat → Int) (d : Int) (l : List (Nat × Nat × Nat)) :
    foldF q d l (l.reverse.map b) = l.foldr (fun c d => if q c then node d (b c) else node (b c) d) d := by
  unfold foldF
  rw [← List.foldl_reverse]
  generalize l.reverse = r
  induction r generalizing d with
  | nil => rfl
  | cons c r ih => simp only [List.map_cons, List.zip_cons_cons, List.foldl_cons]; exact ih _

theorem cutsF_root (xs : List Int) (p : Nat → Nat → Bool) (i : Nat) (hp : ∀ lo hi, lo ≤ i → i < hi → p lo hi = false → lo + 2 ≤ hi) : ∀ f lo hi, lo ≤ i → i < hi → hi ≤ xs.length → hi - lo ≤ f →
    (cutsF p i f lo hi).1.foldr (fun c d => if decide (i < c.2.1) then node d (bes xs i c) else node (bes xs i c) d) (root (seg xs (cutsF p i f lo hi).2.1 (cutsF p i f lo hi).2.2)) = root (seg xs lo hi)
  | 0, lo, hi, h1, h2, _, h3 => by omega
  | f + 1, lo, hi, h1, h2, hN, h3 => by
    unfold cutsF
    by_cases hpt : p lo hi = true
    · rw [if_pos hpt]; rfl
    · rw [if_neg hpt]
      have h5 := hp lo hi h1 h2 (by simpa using hpt)
      have h6 := split_lt (n := hi - lo) (by omega)
      have h7 := split_pos (hi - lo)
      simp only [List.foldr_cons]
      rw [root_seg xs (lo := lo) (hi := hi) (by omega) hN]
      by_cases hm : i < lo + split (hi - lo)
      · rw [if_pos hm, cutsF_root xs p i hp f lo _ h1 hm (by omega) (by omega)]
        simp [hm, bes]
      · rw [if_neg hm, cutsF_root xs p i hp f _ hi (by omega) h2 hN (by omega)]
        simp [hm, bes]

theorem cutsAll_one (i n : Nat) (hi : i < n) : (cutsAll onep i n).2 = (i, i + 1) := by
  obtain ⟨_, h1, h2, _, h3, _⟩ := cutsF_ok onep i (onep_ok i) n n 0 n (Nat.zero_le _) hi (Nat.le_refl _) (by omega)
  simp only [onep, decide_eq_true_eq] at h3
  unfold cutsAll
  refine Prod.ext ?_ ?_ <;> simp only [] <;> omega

theorem pathG_leads (xs : List Int) (i : Nat) (hi : i < xs.length) : foldF (fun c => decide (i < c.2.1)) xs[i] (cutsAll onep i xs.length).1 (pathG xs i) = root xs := by
  unfold pathG besF
  rw [foldF_bes]
  have h := cutsF_root xs onep i (onep_ok i) xs.length 0 xs.length (Nat.zero_le _) hi (Nat.le_refl _) (by omega)
  have h2 := cutsAll_one i xs.length hi
  unfold cutsAll at h2 ⊢
  rw [h2, seg_one xs hi, seg_all] at h
  exact h

theorem pathG_len (xs : List Int) (i : Nat) : (pathG xs i).length = (cutsAll onep i xs.length).1.length := by unfold pathG; rw [besF_len]
theorem path_check (xs : List Int) (i : Nat) (hi : i < xs.length) (hn : xs.length ≤ 1024) : checkF (root xs) xs[i] i xs.length (pathG xs i) = true := by
  unfold checkF
  rw [if_neg (by omega)]
  simp only [Int.toNat_natCast, pathG_len, pathG_leads xs i hi]
  simp
theorem check_len (xs : List Int) (i : Nat) (rt leaf : Int) (ps : List Int) (h : checkF rt leaf i xs.length ps = true) : ps.length = (pathG xs i).length := by
  unfold checkF at h
  split at h
  · cases h
  · rw [pathG_len]
    simp at h
    exact h.1
theorem pathG_deep (xs : List Int) (i : Nat) (hi : i < xs.length) (hn : xs.length ≤ 1024) : (pathG xs i).length ≤ 10 := by
  rw [pathG_len]
  exact cutsAll_deep onep i xs.length (onep_ok i) hi hn
theorem pathErr_zero {xs : List Int} {i : Int} : pathErr xs i = 0 ↔ (0 < xs.length ∧ xs.length ≤ 1024) ∧ 0 ≤ i ∧ i < xs.length := by
  unfold pathErr
  by_cases h : rootErr xs = 0
  · rw [if_pos h]
    have h' := rootErr_zero.1 h
    by_cases h2 : i < 0 ∨ (xs.length : Int) ≤ i
    · rw [if_pos h2]; omega
    · rw [if_neg h2]; omega
  · rw [if_neg h]
    have h' := fun k => h (rootErr_zero.2 k)
    constructor
    · intro k; exact absurd k h
    · intro k; exact absurd k.1 h'
theorem growErr_zero {xs : List Int} {m : Int} : growErr xs m = 0 ↔ (0 < xs.length ∧ xs.length ≤ 1024) ∧ 1 ≤ m ∧ m ≤ xs.length := by
  unfold growErr
  by_cases h : rootErr xs = 0
  · rw [if_pos h]
    have h' := rootErr_zero.1 h
    by_cases h2 : m < 1 ∨ (xs.length : Int) < m
    · rw [if_pos h2]; omega
    · rw [if_neg h2]; omega
  · rw [if_neg h]
    have h' := fun k => h (rootErr_zero.2 k)
    constructor
    · intro k; exact absurd k h
    · intro k; exact absurd k.1 h'

/-! ### Growth -/
theorem endsAll_hi (m n : Nat) (h1 : 1 ≤ m) (h2 : m ≤ n) : (endsAll m n).2.2 = m := by
  obtain ⟨_, _, _, _, h3, _⟩ := cutsF_ok (endp m) (m - 1) (endp_ok m h1) n n 0 n (Nat.zero_le _) (by omega) (Nat.le_refl _) (by omega)
  exact of_decide_eq_true h3

/-- Both roots out of a proof of growth. -/
theorem ends_fold (xs : List Int) (m : Nat) (h1 : 1 ≤ m) (h2 : m ≤ xs.length) :
    foldF (fun c => decide (m ≤ c.2.1)) (root (seg xs (endsAll m xs.length).2.1 m)) (endsAll m xs.length).1 (besF xs (m - 1) (endsAll m xs.length).1) = root xs := by
  unfold besF
  rw [foldF_bes]
  have h := cutsF_root xs (endp m) (m - 1) (endp_ok m h1) xs.length 0 xs.length (Nat.zero_le _) (by omega) (Nat.le_refl _) (by omega)
  have h3 := endsAll_hi m xs.length h1 h2
  unfold endsAll cutsAll at h3 ⊢
  rw [h3, seg_all] at h
  rw [← h]
  congr 1
  funext c d
  have : decide (m ≤ c.2.1) = decide (m - 1 < c.2.1) := by
    by_cases hc : m ≤ c.2.1
    · rw [decide_eq_true hc, decide_eq_true (by omega)]
    · rw [decide_eq_false hc, decide_eq_false (by omega)]
  rw [this]

theorem oldF_bes (m : Nat) (b : Nat × Nat × Nat → Int) (d : Int) (l : List (Nat × Nat × Nat)) :
    oldF m d l (l.reverse.map b) = l.foldr (fun c d => if c.2.1 < m then node (b c) d else d) d := by
  unfold oldF
  rw [← List.foldl_reverse]
  generalize l.reverse = r
  induction r generalizing d with
  | nil => rfl
  | cons c r ih => simp only [List.map_cons, List.zip_cons_cons, List.foldl_cons]; exact ih _

theorem splitF_cut : ∀ f k n m, k < m → m < n → n ≤ f + k → 0 < k → (splitF f k n < m → splitF f k n = splitF f k m)
  | 0, k, n, m, h1, h2, h3, hk, h => by omega
  | f + 1, k, n, m, h1, h2, h3, hk, h => by
    unfold splitF at h ⊢
    by_cases hn : 2 * k < n
    · rw [if_pos hn] at h ⊢
      have h5 := splitF_ge f (2 * k) n
      rw [if_pos (by omega)]
      exact splitF_cut f (2 * k) n m (by omega) h2 (by omega) (by omega) h
    · rw [if_neg hn] at h ⊢
      rw [if_neg (by omega)]
/-- Where m leaves end behind the cut of n, m leaves are cut at the same place. -/
theorem split_cut {n m : Nat} (h2 : m < n) (h1 : 1 < m) (h : split n < m) : split m = split n := by
  have e := splitF_cut n 1 n m h1 h2 (by omega) (by omega) h
  show splitF m 1 m = splitF n 1 n
  rw [splitF_fuel m n 1 m (by omega) (by omega) (by omega)]
  exact e.symm

theorem cutsF_old (xs : List Int) (m : Nat) (h1 : 1 ≤ m) : ∀ f lo hi, lo < m → m ≤ hi → hi ≤ xs.length → hi - lo ≤ f →
    (cutsF (endp m) (m - 1) f lo hi).1.foldr (fun c d => if c.2.1 < m then node (bes xs (m - 1) c) d else d) (root (seg xs (cutsF (endp m) (m - 1) f lo hi).2.1 m)) = root (seg xs lo m)
  | 0, lo, hi, h2, h3, _, h4 => by omega
  | f + 1, lo, hi, h2, h3, hN, h4 => by
    unfold cutsF
    by_cases hpt : endp m lo hi = true
    · rw [if_pos hpt]; rfl
    · rw [if_neg hpt]
      have h5 : m < hi := by simp only [endp, decide_eq_true_eq] at hpt; omega
      have h6 := split_lt (n := hi - lo) (by omega)
      have h7 := split_pos (hi - lo)
      simp only [List.foldr_cons]
      by_cases hm : m - 1 < lo + split (hi - lo)
      · rw [if_pos hm, cutsF_old xs m h1 f lo _ h2 (by omega) (by omega) (by omega), if_neg (by omega)]
      · rw [if_neg hm, cutsF_old xs m h1 f _ hi (by omega) (by omega) hN (by omega), if_pos (by omega)]
        rw [root_seg xs (lo := lo) (hi := m) (by omega) (by omega), split_cut (n := hi - lo) (m := m - lo) (by omega) (by omega) (by omega)]
        unfold bes
        rw [if_neg hm]

theorem seg_zero (xs : List Int) (m : Nat) : seg xs 0 m = xs.take m := by unfold seg; rw [List.drop_zero]

theorem ends_old (xs : List Int) (m : Nat) (h1 : 1 ≤ m) (h2 : m ≤ xs.length) :
    oldF m (root (seg xs (endsAll m xs.length).2.1 m)) (endsAll m xs.length).1 (besF xs (m - 1) (endsAll m xs.length).1) = root (xs.take m) := by
  unfold besF
  rw [oldF_bes, ← seg_zero]
  exact cutsF_old xs m h1 xs.length 0 xs.length h1 h2 (Nat.le_refl _) (by omega)

theorem grow_follows (xs : List Int) (m : Nat) (h1 : 1 ≤ m) (h2 : m ≤ xs.length) (hn : xs.length ≤ 1024) : followsF (root (xs.take m)) (root xs) m xs.length (growG xs m) = true := by
  have e1 := ends_old xs m h1 h2
  have e2 := ends_fold xs m h1 h2
  have e3 := endsAll_hi m xs.length h1 h2
  unfold followsF growG
  rw [if_neg (by omega)]
  simp only [Int.toNat_natCast]
  rw [e3]
  by_cases h0 : 0 < (endsAll m xs.length).2.1
  · simp only [h0, if_true, true_and]
    simp only [List.singleton_append, List.length_cons, List.headD_cons, List.tail_cons, besF_len]
    rw [if_neg (by omega), if_neg (by simp)]
    rw [e1, e2]
    simp
  · have h00 : (endsAll m xs.length).2.1 = 0 := by omega
    simp only [h0, if_false, false_and, List.nil_append, besF_len]
    rw [h00, seg_zero] at e1 e2
    rw [if_neg (by simp), e1, e2]
    simp

theorem ends_full (n : Nat) (h : 0 < n) : endsAll n n = ([], 0, n) := by
  unfold endsAll cutsAll
  exact cutsF_stop _ _ _ _ _ (by simp [endp])
theorem grow_full (xs : List Int) (h : 0 < xs.length) : growG xs xs.length = [] := by
  have e := ends_full _ h
  unfold growG
  rw [e]
  rfl
theorem ends_some (m n : Nat) (h1 : 1 ≤ m) (h2 : m < n) : 0 < (endsAll m n).1.length := by
  unfold endsAll cutsAll
  cases n with
  | zero => omega
  | succ n =>
    unfold cutsF
    rw [if_neg (by simp only [endp, decide_eq_true_eq]; omega)]
    simp
theorem grow_some (xs : List Int) (m : Nat) (h1 : 1 ≤ m) (h2 : m < xs.length) : 0 < (growG xs m).length := by
  unfold growG
  rw [List.length_append, besF_len]
  have := ends_some m xs.length h1 h2
  omega
theorem growG_deep (xs : List Int) (m : Nat) (h1 : 1 ≤ m) (h2 : m ≤ xs.length) (hn : xs.length ≤ 1024) : (growG xs m).length ≤ 11 := by
  unfold growG
  rw [List.length_append, besF_len]
  have := cutsAll_deep (endp m) (m - 1) xs.length (endp_ok m h1) (by omega) hn
  unfold endsAll
  split <;> simp <;> omega
theorem follows_full (old rt : Int) (n : Nat) (h : 0 < n) (hn : n ≤ 1024) : followsF old rt n n [] = (old == rt) := by
  unfold followsF
  rw [if_neg (by omega)]
  simp only [Int.toNat_natCast, ends_full n h]
  simp [oldF, foldF]
theorem rootErr_take (xs : List Int) (m : Nat) (h1 : 1 ≤ m) (h2 : m ≤ xs.length) (hn : xs.length ≤ 1024) : rootErr (xs.take m) = 0 := by
  rw [rootErr_zero]; simp; omega
end Go.Sx.Rep

/-
  Walks: report.Sum, words, Node, divide, top.
-/
namespace Go.Proofs.YtkckingkocacjaaGreatDoor
open Go.RowKit Go.Sx Go.Sx.Rep

def encB (x : Int) : List Value := [.int .u8 x]
def encU (x : Int) : List Value := [.int .u64 x]

set_option maxRecDepth 100000 in
set_option maxHeartbeats 400000 in
theorem sum_walk (v : Value) (xs : List Int) (w : World) (S : Sl w 1 encB v xs) :
    Calls Tryz.prog 79 #[v] w fun e w' => e = .returned (.int .u64 (fnv xs)) ∧ w = w' := by
  obtain ⟨a?, cap, rfl, h1, h2, h3, hs⟩ := S
  clear h1 h2
  go_enter Tryz.func79, Tryz.ntmps79
  go_wp2
  go_loop [3, 8] (fun h i => ∃ k : Nat, k ≤ xs.length ∧ i = .int .i64 k ∧ h = .int .u64 (fnv (xs.take k)))
                 (fun _ i => xs.length - (intOf i).toNat)
  case atStart => exact ⟨0, Nat.zero_le _, rfl, rfl⟩
  case round =>
    obtain ⟨k, hk, rfl, rfl⟩ := hrel
    by_cases hlt : k < xs.length
    · obtain ⟨a, rfl, hc⟩ := hs k hlt
      have hc := hc 0 (by omega)
      simp only [Nat.mul_one, Nat.add_zero, encB, List.getD_cons_zero] at hc
      have hf := Lib.hid (fnv_take xs k hlt)
      clear hs
      go_wp2
      go_round
      case rel => exact ⟨k + 1, by omega, by go_num, by rw [hf.out]; rfl⟩
      case measure => simp [intOf]; omega
    · clear hs
      go_wp2
      go_ret
      exact ⟨by rw [List.take_of_length_le (by omega)]; rfl, rfl⟩

set_option maxRecDepth 100000 in
set_option maxHeartbeats 400000 in
theorem divide_walk (lo hi : Nat) (w : World) (h1 : lo < hi) (h2 : hi ≤ 140737488351232) :
    Calls Tryz.prog 80 #[.int .i64 lo, .int .i64 hi] w fun e w' =>
      e = .returned (.agg #[.int .i64 lo, .int .i64 ((lo + split (hi - lo) : Nat) : Int), .int .i64 hi]) ∧ Ext w w' := by
  go_enter Tryz.func80, Tryz.ntmps80
  go_wp2
  go_loop [5] (fun t => ∃ k : Nat, 1 ≤ k ∧ k ≤ hi - lo ∧ splitF (hi - lo) k (hi - lo) = split (hi - lo) ∧ t = .int .i64 k) (fun t => hi - lo - (intOf t).toNat)
  case atStart => exact ⟨1, by omega, by omega, rfl, rfl⟩
  case round =>
    obtain ⟨k, hk, hk2, hsp, rfl⟩ := hrel
    have HS := Lib.hid hsp
    clear hsp
    by_cases hlt : 2 * k < hi - lo
    · have hlt' : (2 : Int) * k < hi - lo := by omega
      go_wp2
      go_round
      case rel => exact ⟨2 * k, by omega, by omega, by rw [← splitF_step k _ (by omega) hlt]; exact HS.out, congrArg (Value.int .i64) (by omega)⟩
      case measure => simp [intOf]; omega
    · have hlt' : (hi : Int) - lo ≤ 2 * k := by omega
      have hf := splitF_stop k (hi - lo) (by omega) hlt
      have hk' : k = split (hi - lo) := by rw [← HS.out, hf]
      clear hf
      have HK := Lib.hid hk'
      clear hk'
      go_wp2
      refine bodyPost_ret (v := .agg #[.int .i64 lo, .int .i64 ((lo + split (hi - lo) : Nat) : Int), .int .i64 hi]) ?_ rfl ⟨rfl, ?_⟩
      · rw [← HK.out]; simp [results, Tryz.results80, go_sem]
      · exact (by repeat (first | with_reducible exact Ext.refl _ | with_reducible assumption | with_reducible apply Ext.alloc | with_reducible apply Ext.drew | (with_reducible refine Ext.setCell ?_ (by (try simp) <;> omega) _)))


theorem et_u8 : ET Tryz.prog 178 5 1 1 := .mk' (z := .int .u8 0) Tryz.underlying178 (by kernel_rfl) rfl (by decide) (by decide)
theorem et_u64 : ET Tryz.prog 67 68 1 8 := .mk' (z := .int .u64 0) Tryz.underlying67 (by kernel_rfl) rfl (by decide) (by decide)

set_option maxRecDepth 100000 in
set_option maxHeartbeats 1000000 in
theorem words_walk (B : Nat) (v lv : Value) (bs l : List Int) (w : World) (hB : B ≤ w.heap.size) (hv : OwnR w B 5 1 encB v bs) (S : SlA w v 1 encU lv l)
    (hlen : bs.length + 8 * l.length ≤ 140737488351232) :
    Calls Tryz.prog 78 #[v, lv] w fun e w' => ∃ v', e = .returned v' ∧ OwnR w' B 5 1 encB v' (bs ++ l.flatMap be8) ∧ Below B w w' := by
  obtain ⟨a?, cap, hlv, _⟩ := S.1
  subst hlv
  go_enter Tryz.func78, Tryz.ntmps78
  go_wp2
  go_loopw [0, 10] (fun v i wr => ∃ k : Nat, k ≤ l.length ∧ i = .int .i64 k ∧ OwnR wr B 5 1 encB v (bs ++ (l.take k).flatMap be8) ∧ Below B w wr ∧ SlA wr v 1 encU (.slice a? l.length cap) l)
                 (fun _ i _ => l.length - (intOf i).toNat)
  case atStart => exact ⟨0, Nat.zero_le _, rfl, by simpa using hv, Below.refl _ _, S⟩
  case round =>
    obtain ⟨k, hk, rfl, hown, hb, hs⟩ := hrel
    by_cases hlt : k < l.length
    · obtain ⟨b0, o0, rfl, hcr⟩ := hs.1.at1 k hlt
      simp only [encU, List.getD_cons_zero] at hcr
      go_wp2
      obtain ⟨wo, rfl⟩ : ∃ wo : World, wo = wr := ⟨_, rfl⟩
      clear hcr
      go_loopw [0, 7] (fun v i wi => ∃ m : Nat, m ≤ 8 ∧ i = .int .i64 (56 - 8 * (m : Int)) ∧ OwnR wi B 5 1 encB v (bs ++ (l.take k).flatMap be8 ++ (be8 l[k]).take m) ∧ Below B w wi ∧ SlA wi v 1 encU (.slice (some ⟨b0, o0, none⟩) l.length cap) l)
                 (fun _ i _ => (intOf i + 8).toNat)
      case atStart => exact ⟨0, by omega, rfl, by simpa using hown, hb, hs⟩
      case round =>
        obtain ⟨m, hm, rfl, hown1, hb1, hs1⟩ := hrel
        have hfl := flatMap_len (l.take k)
        have hL : (bs ++ (l.take k).flatMap be8 ++ (be8 l[k]).take m).length = bs.length + 8 * k + m := by
          simp [hfl, be8_len]; omega
        have HL := Lib.hid hL
        clear hL hfl
        by_cases hm8 : m < 8
        · have h0 : (8 : Int) * m ≤ 56 := by omega
          have h0' : ¬ ((56 : Int) < 8 * m) := by omega
          have hbt := Lib.hid (be8_take l[k] m hm8)
          go_wp2_with (at_builtin; go_must (refine wpList_own1 et_u8 rfl _ _ rfl hown1 rfl (byteAt l[k] (56 - 8 * m)) rfl rfl rfl (by simp [encB, Value.oneCell']) (by rw [HL.out]; omega) (by have := hb1.size; omega) ?_; intro v' w1 hown' hb' happ _))
          go_roundw
          case rel => exact ⟨m + 1, by omega, congrArg (Value.int .i64) (by omega), by rw [hbt.out, ← List.append_assoc]; exact hown', hb1.trans hb', hs1.appd happ (by omega)⟩
          case measure => simp [intOf]; omega
        · obtain rfl : m = 8 := by omega
          go_wp2
          go_roundw
          case rel => exact ⟨k + 1, by omega, by go_num, by rw [flatMap_take l k hlt, ← List.append_assoc]; exact hown1, hb1, hs1⟩
          case measure => simp [intOf]; omega
    · obtain rfl : k = l.length := by omega
      clear hs
      go_wp2
      go_ret
      exact ⟨_, rfl, by simpa using hown, hb⟩

theorem own_lit {α : Type} (w : World) {B : Nat} {e : TypeId} {sz : Nat} {enc : α → List Value} (cs : Array Value) (xs : List α) (n : Nat) (hn : xs.length = n) (hB : B ≤ w.heap.size) (hcs : cs.toList = xs.flatMap enc) (hsz : cs.size = n * sz) (hm : n ≤ maxLen) :
    OwnR (w.alloc (.cells cs e)) B e sz enc (.slice (some ⟨w.heap.size, 0, none⟩) n n) xs := by
  subst hn
  have := World.ownsRow_lit (base := B) (e := e) (size := sz) w cs xs.length hB hm hsz
  unfold OwnR
  rw [← hcs]; exact this

set_option maxRecDepth 100000 in
set_option maxHeartbeats 400000 in
theorem node_walk (a b : Int) (w : World) :
    Calls Tryz.prog 44 #[.int .u64 a, .int .u64 b] w fun e w' => e = .returned (.int .u64 (node a b)) ∧ Ext w w' := by
  have o1 := own_lit (enc := encB) (B := w.heap.size) (e := 5) (sz := 1) w #[.int .u8 1] [1] 1 rfl (Nat.le_refl _) rfl rfl (by simp [maxLen])
  have o2 := own_lit (enc := encU) (B := w.heap.size) (e := 68) (sz := 1) (w.alloc (.cells #[.int .u8 1] 5)) #[.int .u64 a, .int .u64 b] [a, b] 2 rfl (by simp) rfl rfl (by simp [maxLen])
  have s2 := o2.sl (by simp [encU]) (by simp)
  simp only [World.size_alloc] at s2
  have o1' := o1.alloc (.cells #[.int .u64 a, .int .u64 b] 68)
  clear o1 o2
  go_enter Tryz.func44, Tryz.ntmps44
  go_wp2_with (go_at_call 78; go_must (refine (words_walk w.heap.size _ _ [1] [a, b] _ (by simp; omega) o1' ⟨s2, fun _ a n c e => (by cases e; simp [Value.ownBlock])⟩ (by simp)).mono ?_))
  rintro e w1 ⟨v', rfl, hown, hb⟩
  have hs := hown.sl (by simp [encB]) (by simp [be8_len])
  clear o1' s2
  go_wp2_with (go_at_call 79; go_must (refine (sum_walk _ _ _ hs).mono ?_); rintro e w2 ⟨rfl, rfl⟩)
  go_ret
  refine ⟨by simp [node], ?_⟩
  exact Below.trans (((Ext.refl w).alloc _).alloc _) hb
end Go.Proofs.YtkckingkocacjaaGreatDoor

/-
  Walks: report.top.
-/
namespace Go.Proofs.YtkckingkocacjaaGreatDoor
open Go.RowKit Go.Sx Go.Sx.Rep

set_option maxRecDepth 100000 in
set_option maxHeartbeats 400000 in
theorem top_walk (xs : List Int) : ∀ (n lo hi : Nat) (v : Value) (w : World), hi - lo ≤ n → lo < hi → hi ≤ xs.length → Sl w 1 encU v xs →
    Calls Tryz.prog 40 #[v, .int .i64 lo, .int .i64 hi] w fun e w' => e = .returned (.int .u64 (root (seg xs lo hi))) ∧ Ext w w' := by
  intro n
  induction n with
  | zero => intro lo hi v w h1 h2; omega
  | succ n ih =>
    intro lo hi v w hn hlt hhi S
    obtain ⟨a?, cap, rfl, h1, h2, h3⟩ := S.len
    clear h1 h2
    by_cases h1 : hi = lo + 1
    · subst h1
      obtain ⟨b0, o0, rfl, hc⟩ := S.at1 lo (by omega)
      simp only [encU, List.getD_cons_zero] at hc
      have hl : lo < xs.length := by omega
      go_enter Tryz.func40, Tryz.ntmps40
      go_wp2
      go_ret
      exact ⟨by rw [seg_one _ hl]; rfl, Ext.refl _⟩
    · have hne : ((hi : Int) - lo == 1) = false := by simp; omega
      have IH := Lib.hid ih
      clear ih
      go_enter Tryz.func40, Tryz.ntmps40
      go_wp2_with (go_at_call 80; go_must (refine (divide_walk lo hi _ (by omega) (by omega)).mono ?_); rintro e w1 ⟨rfl, hx1⟩)
      have hk : lo + split (hi - lo) < hi := by have := split_lt (n := hi - lo) (by omega); omega
      have hk1 := split_pos (hi - lo)
      obtain ⟨m, hm⟩ : ∃ m : Nat, m = lo + split (hi - lo) := ⟨_, rfl⟩
      have hmi : (lo : Int) + (split (hi - lo) : Int) = (m : Int) := by rw [hm]; simp
      have hroot := root_seg xs (lo := lo) (hi := hi) (by omega) hhi
      rw [← hm] at hroot hk
      rw [hmi]
      obtain ⟨cs, hcs⟩ : ∃ cs : Array Value, cs = #[.int .i64 lo, .int .i64 m, .int .i64 hi] := ⟨_, rfl⟩
      have S2 := S.ext (hx1.alloc (.cells cs 132))
      have hx2 := hx1.alloc (.cells cs 132)
      have c0 := alloc_cell w1 cs 132 0 (.int .i64 lo) (by rw [hcs]; rfl)
      have c1 := alloc_cell w1 cs 132 1 (.int .i64 m) (by rw [hcs]; rfl)
      have c2 := alloc_cell w1 cs 132 2 (.int .i64 hi) (by rw [hcs]; rfl)
      rw [← hcs]
      obtain ⟨w2, hw2⟩ : ∃ w2, w1.alloc (.cells cs 132) = w2 := ⟨_, rfl⟩
      rw [hw2] at c0 c1 c2 S2 hx2 ⊢
      have d0 := ext_cells c0
      have d1 := ext_cells c1
      have d2 := ext_cells c2
      have HM := Lib.hid hm
      have HR := Lib.hid hroot
      have hlm : lo < m := by omega
      clear hw2 hcs c0 c1 c2 hm hmi hroot S hk1 hx1 h1 hne
      refine wp_region_ord [(0,true),(1,true),(2,true),(3,true),(4,true),(5,true),(6,true),(7,true),(8,true),(9,true),(10,true),(11,true),(12,true),(13,true)] 14 Ext (Ext w2) wide (by kernel_rfl) (stable_ext _) (Ext.drawn _ _) ?_
      iterate 5 (apply wpOrd_det rfl rfl; (intro w' hw'; unfold opR; go_simp; exact ⟨Ext.refl _, rfl⟩); (simp only [List.getElem_toArray, List.getElem_cons_succ, List.getElem_cons_zero, Act.put, List.setIfInBounds_toArray, List.set_cons_succ, List.set_cons_zero]; rfl))
      (apply wpOrd_det rfl rfl; (intro w' hw'; refine opR_call rfl (Go.Proofs.enters_of Tryz.func40 (by kernel_rfl) rfl) (by simp only [List.map_toArray, List.map_cons, List.map_nil, Act.eval, Array.getD_eq_getD_getElem?, List.getElem?_toArray, List.getElem?_cons_succ, List.getElem?_cons_zero, Option.getD_some]; rfl) ?_; refine (IH.out lo m _ w' (by omega) hlm (by omega) (S2.ext hw')).mono ?_; rintro e w4 ⟨rfl, hx⟩; exact ⟨_, rfl, hx, rfl⟩); (simp only [List.getElem_toArray, List.getElem_cons_succ, List.getElem_cons_zero, Act.put, List.setIfInBounds_toArray, List.set_cons_succ, List.set_cons_zero]; rfl))
      iterate 5 (apply wpOrd_det rfl rfl; (intro w' hw'; unfold opR; go_simp; exact ⟨Ext.refl _, rfl⟩); (simp only [List.getElem_toArray, List.getElem_cons_succ, List.getElem_cons_zero, Act.put, List.setIfInBounds_toArray, List.set_cons_succ, List.set_cons_zero]; rfl))
      (apply wpOrd_det rfl rfl; (intro w' hw'; refine opR_call rfl (Go.Proofs.enters_of Tryz.func40 (by kernel_rfl) rfl) (by simp only [List.map_toArray, List.map_cons, List.map_nil, Act.eval, Array.getD_eq_getD_getElem?, List.getElem?_toArray, List.getElem?_cons_succ, List.getElem?_cons_zero, Option.getD_some]; rfl) ?_; refine (IH.out m hi _ w' (by omega) (by omega) hhi (S2.ext hw')).mono ?_; rintro e w4 ⟨rfl, hx⟩; exact ⟨_, rfl, hx, rfl⟩); (simp only [List.getElem_toArray, List.getElem_cons_succ, List.getElem_cons_zero, Act.put, List.setIfInBounds_toArray, List.set_cons_succ, List.set_cons_zero]; rfl))
      (apply wpOrd_det rfl rfl; (intro w' hw'; refine opR_call rfl (Go.Proofs.enters_of Tryz.func44 (by kernel_rfl) rfl) (by simp only [List.map_toArray, List.map_cons, List.map_nil, Act.eval, Array.getD_eq_getD_getElem?, List.getElem?_toArray, List.getElem?_cons_succ, List.getElem?_cons_zero, Option.getD_some]; rfl) ?_; refine (node_walk _ _ w').mono ?_; rintro e w4 ⟨rfl, hx⟩; exact ⟨_, rfl, hx, rfl⟩); (simp only [List.getElem_toArray, List.getElem_cons_succ, List.getElem_cons_zero, Act.put, List.setIfInBounds_toArray, List.set_cons_succ, List.set_cons_zero]; rfl))
      (apply wpOrd_det rfl rfl; (intro w' hw'; unfold opR; go_simp; exact ⟨Ext.refl _, rfl⟩); (simp only [List.getElem_toArray, List.getElem_cons_succ, List.getElem_cons_zero, Act.put, List.setIfInBounds_toArray, List.set_cons_succ, List.set_cons_zero]; rfl))
      refine wpOrd_nil rfl ?_
      intro w3 hw3
      go_wp2
      go_ret
      exact ⟨by rw [HR.out]; rfl, (hx2.trans hw3)⟩
end Go.Proofs.YtkckingkocacjaaGreatDoor

/-
  Walks: report.Ints, Leaf, Root; the reference's Sum, Bytes, Ints, Leaf, Node, Split, Top, Root.
-/
namespace Go.Proofs.YtkckingkocacjaaGreatDoor
open Go.RowKit Go.Sx Go.Sx.Rep

def encI (x : Int) : List Value := [.int .i64 x]

set_option maxRecDepth 100000 in
set_option maxHeartbeats 1000000 in
theorem ints_walk (lv : Value) (l : List Int) (w : World) (S : Sl w 1 encI lv l) (hn : l.length * 8 ≤ 140737488351232) :
    Calls Tryz.prog 39 #[lv] w fun e w' => e = .returned (.int .u64 (intsF l)) ∧ Ext w w' := by
  obtain ⟨a?, cap, rfl, h1, h2, h3⟩ := S.len
  clear h1 h2
  go_enter Tryz.func39, Tryz.ntmps39
  go_wp2
  go_loopw [3, 8] (fun v i wr => ∃ k : Nat, k ≤ l.length ∧ i = .int .i64 k ∧ OwnR wr w.heap.size 5 1 encB v ((l.take k).flatMap fun n => be8 (IntKind.u64.wrap n)) ∧ Ext w wr)
                 (fun _ i _ => l.length - (intOf i).toNat)
  case atStart => exact ⟨0, Nat.zero_le _, rfl, OwnR.nil, Ext.refl _⟩
  case round =>
    obtain ⟨k, hk, rfl, hown, hx⟩ := hrel
    have hlen := intsF_len (l.take k)
    rw [List.length_take, Nat.min_eq_left hk] at hlen
    have HL := Lib.hid hlen
    clear hlen
    by_cases hlt : k < l.length
    · obtain ⟨b0, o0, rfl, hc⟩ := (S.ext hx).at1 k hlt
      simp only [encI, List.getD_cons_zero] at hc
      have hf := Lib.hid (ints_take l k hlt)
      have hsz := hx.size
      clear S
      have ol := own_lit (enc := encU) (B := w.heap.size) (e := 68) (sz := 1) wr #[.int .u64 (IntKind.u64.wrap l[k])] [IntKind.u64.wrap l[k]] 1 rfl hsz rfl rfl (by simp [maxLen])
      have sl := ol.sl (by simp [encU]) (by simp)
      have hown1 := hown.alloc (.cells #[.int .u64 (IntKind.u64.wrap l[k])] 68)
      clear ol
      go_wp2_with (go_at_call 78; go_must (refine (words_walk w.heap.size _ _ _ [IntKind.u64.wrap l[k]] _ (by simp; omega) hown1 ⟨sl, fun _ a n c e => (by cases e; intro h; have := World.ownsRow.lt hown _ h; simp at this <;> omega)⟩ (by rw [HL.out]; simp; omega)).mono ?_); rintro e w2 ⟨v', rfl, hown', hb⟩)
      have hx' : Ext w w2 := Below.trans (hx.alloc _) hb
      simp only [List.flatMap_cons, List.flatMap_nil, List.append_nil] at hown'
      go_roundw
      case rel => exact ⟨k + 1, by omega, by go_num, by rw [hf.out]; exact hown', hx'⟩
      case measure => simp [intOf]; omega
    · obtain rfl : k = l.length := by omega
      have hs := hown.sl (by simp [encB]) (by rw [HL.out]; omega)
      rw [List.take_length] at hs
      clear S
      go_wp2_with (go_at_call 79; go_must (refine (sum_walk _ _ _ hs).mono ?_); rintro e w2 ⟨rfl, rfl⟩)
      go_ret
      exact ⟨rfl, hx⟩

set_option maxRecDepth 100000 in
set_option maxHeartbeats 400000 in
theorem leaf_walk (p v b : Int) (w : World) :
    Calls Tryz.prog 15 #[.agg #[.int .i64 p, .int .i64 v, .int .i64 b]] w fun e w' => e = .returned (.int .u64 (leafF p v b)) ∧ Ext w w' := by
  have ol := own_lit (enc := encI) (B := w.heap.size) (e := 3) (sz := 1) (w.alloc (.cells #[.int .i64 p, .int .i64 v, .int .i64 b] 71)) #[.int .i64 0, .int .i64 p, .int .i64 v, .int .i64 b] [0, p, v, b] 4 rfl (by simp) rfl rfl (by simp [maxLen])
  have sl := ol.sl (by simp [encI]) (by simp)
  simp only [World.size_alloc] at sl
  clear ol
  go_enter Tryz.func15, Tryz.ntmps15
  go_wp2_with (go_at_call 39; go_must (refine (ints_walk _ _ _ sl (by simp)).mono ?_); rintro e w2 ⟨rfl, hx⟩)
  go_ret
  exact ⟨rfl, Ext.trans (((Ext.refl w).alloc _).alloc _) hx⟩

end Go.Proofs.YtkckingkocacjaaGreatDoor

/-
  Walks: slices.Backward over cuts; its callers in package report.
-/
namespace Go.Proofs.YtkckingkocacjaaGreatDoor
open Go.RowKit Go.Sx Go.Sx.Rep
attribute [local go_sem] Oper.semAt_some wide_fn wide_depth

def encCut (c : Nat × Nat × Nat) : List Value := [.int .i64 c.1, .int .i64 c.2.1, .int .i64 c.2.2]

/-- The elements from the last to the first, with their indices. -/
def backL {α : Type} (l : List α) : List (Nat × α) := (l.zipIdx.map fun p => (p.2, p.1)).reverse
theorem backL_len {α : Type} (l : List α) : (backL l).length = l.length := by simp [backL]
theorem backL_get {α : Type} (l : List α) (k : Nat) (h : k < (backL l).length) : (backL l)[k] = (l.length - 1 - k, l[l.length - 1 - k]'(by rw [backL_len] at h; omega)) := by
  simp [backL, List.getElem_reverse]

theorem backL_get' {α : Type} (l : List α) (k m : Nat) (hm : m = l.length - 1 - k) (hml : m < l.length) (h : k < (backL l).length) : (backL l)[k] = (m, l[m]) := by
  subst hm; exact backL_get l k h

def encBack (p : Nat × Nat × Nat × Nat) : Array Value := #[.int .i64 p.1, .agg #[.int .i64 p.2.1, .int .i64 p.2.2.1, .int .i64 p.2.2.2]]

set_option maxRecDepth 100000 in
set_option maxHeartbeats 1000000 in
theorem back_iter (Bs : Nat) (v : Value) (l : List (Nat × Nat × Nat)) :
    IterC Tryz.prog 82 #[.pointer (some ⟨Bs, 0, none⟩)] encBack (backL l) (fun W => W.cell? ⟨Bs, 0, none⟩ = some v ∧ Sl W 3 encCut v l) := by
  intro y J Jx W hJ hJx hN hY h0
  rw [backL_len] at *
  obtain ⟨hb0, hs0⟩ := hN _ _ h0
  obtain ⟨a?, cap, rfl, h1, h2, h3⟩ := hs0.len
  clear h1 h2 hs0
  refine callsIn_of_wp Tryz.func82 rfl trivial ?_ rfl
  simp only [Tryz.ntmps82, List.size_toArray, List.length_cons, List.length_nil, Nat.reduceAdd, Nat.reduceSub, Array.replicate_succ, Array.replicate_zero, List.push_toArray, List.append_toArray, List.nil_append, List.cons_append]
  gi_wp2
  gi_loopw [3] (fun i wr => ∃ k : Nat, k ≤ l.length ∧ i = .int .i64 ((l.length : Int) - 1 - (k : Int)) ∧ J k wr) (fun i _ => (intOf i + 1).toNat)
  case atStart => exact ⟨0, Nat.zero_le _, by simp, h0⟩
  case round =>
    obtain ⟨k, hk, rfl, hJk⟩ := hrel
    obtain ⟨hb, hs⟩ := hN _ _ hJk
    clear hb0
    by_cases hlt : k < l.length
    · obtain ⟨m, hm⟩ : ∃ m : Nat, m = l.length - 1 - k := ⟨_, rfl⟩
      have hmi : (l.length : Int) - 1 - (k : Int) = (m : Int) := by omega
      have hml : m < l.length := by omega
      obtain ⟨b0, o0, rfl, hc⟩ := hs.at (by omega) m hml
      have c0 := hc 0 (by omega)
      have c1 := hc 1 (by omega)
      have c2 := hc 2 (by omega)
      simp only [encCut, List.getD_cons_zero, List.getD_cons_succ, Nat.add_zero] at c0 c1 c2
      obtain ⟨fn, tmps, assign, body, hy, hR⟩ := hY k wr (by rw [backL_len]; exact hlt) hJk
      rw [backL_get' l k m hm hml] at hy
      simp only [encBack] at hy
      rw [hmi]
      have HM := Lib.hid hm
      clear hc hs hm hmi
      gi_wp2
      refine hR.mono ?_
      rintro e W3 (⟨rfl, hJ3⟩ | ⟨rfl, hJx3⟩)
      · gi_wp2
        go_roundw
        case rel => exact ⟨k + 1, by omega, congrArg (Value.int .i64) (by have := HM.out; omega), hJ3⟩
        case measure => have := HM.out; simp [intOf] <;> omega
      · gi_wp2
        refine bodyPost_ret (results_none rfl _ _ _) rfl ?_
        exact ⟨⟨_, rfl⟩, .inr hJx3⟩
    · obtain rfl : k = l.length := by omega
      clear hs
      gi_wp2
      refine bodyPost_end (results_none rfl _ _ _) rfl ?_
      exact ⟨⟨_, rfl⟩, .inl hJk⟩

theorem back_walk (a? : Option Addr) (n c : Nat) (v : Value) (hv : v = .slice a? n c) (w : World) :
    Calls Tryz.prog 43 #[v] w fun e w' => e = .returned (.func (.func 82) #[] #[.pointer (some ⟨w.heap.size, 0, none⟩)]) ∧ w.alloc (.cells #[v] 124) = w' := by
  subst hv
  go_enter Tryz.func43, Tryz.ntmps43
  go_wp2
  go_ret
  exact ⟨rfl, rfl⟩

def cutOk (n : Nat) (c : Nat × Nat × Nat) : Prop := c.1 < c.2.1 ∧ c.2.1 < c.2.2 ∧ c.2.2 ≤ n

set_option maxRecDepth 100000 in
set_option maxHeartbeats 1000000 in
theorem beside_walk (B : Nat) (ov lv cv : Value) (out xs : List Int) (i : Nat) (l : List (Nat × Nat × Nat)) (w : World) (hB : B ≤ w.heap.size) (ho : OwnR w B 68 1 encU ov out) (hl : SlB w B 1 encU lv xs) (hc : SlB w B 3 encCut cv l)
    (hok : ∀ c ∈ l, cutOk xs.length c) (hlen : (out.length + l.length) * 8 ≤ 140737488355328) :
    Calls Tryz.prog 42 #[ov, lv, .int .i64 i, cv] w fun e w' => ∃ v', e = .returned v' ∧ OwnR w' B 68 1 encU v' (out ++ besF xs i l) ∧ Below B w w' := by
  obtain ⟨oa, oc, hov⟩ := ho.len
  obtain ⟨la, lc, hlv, hl1, hl2, hl3⟩ := hl.1.len
  obtain ⟨ca, cc, hcv, hc1, hc2, hc3⟩ := hc.1.len
  refine (callsIn_wide (n := 0)).1 ?_
  refine callsIn_of_wp_marks Tryz.func42 rfl trivial ?_ rfl
  simp only [Tryz.ntmps42, List.size_toArray, List.length_cons, List.length_nil, Nat.reduceAdd, Nat.reduceSub, Array.replicate_succ, Array.replicate_zero, List.push_toArray, List.append_toArray, List.nil_append, List.cons_append]
  subst hov; subst hlv; subst hcv
  clear hl1 hl2 hc1 hc2
  gi_wp2_with (gi_at_call 43; go_must (refine (callsIn_wide.2 (back_walk ca l.length cc _ rfl _)).mono ?_; rintro e w' ⟨rfl, rfl⟩))
  obtain ⟨S, hS⟩ : ∃ S : Nat, S = w.heap.size := ⟨_, rfl⟩
  have b0 := (((Boxed.new w 67 (.slice oa out.length oc)).alloc (.cells #[.slice la xs.length lc] 67)).alloc (.cells #[.int .i64 i] 3)).alloc (.cells #[.slice ca l.length cc] 124)
  have c1 := (((Boxed.new (w.alloc (.cells #[.slice oa out.length oc] 67)) 67 (.slice la xs.length lc)).alloc (.cells #[.int .i64 i] 3)).alloc (.cells #[.slice ca l.length cc] 124))
  have c2 := ((Boxed.new ((w.alloc (.cells #[.slice oa out.length oc] 67)).alloc (.cells #[.slice la xs.length lc] 67)) 3 (.int .i64 i)).alloc (.cells #[.slice ca l.length cc] 124))
  have c3 := (Boxed.new (((w.alloc (.cells #[.slice oa out.length oc] 67)).alloc (.cells #[.slice la xs.length lc] 67)).alloc (.cells #[.int .i64 i] 3)) 124 (.slice ca l.length cc))
  have hx := ((((Ext.refl w).alloc (.cells #[.slice oa out.length oc] 67)).alloc (.cells #[.slice la xs.length lc] 67)).alloc (.cells #[.int .i64 i] 3)).alloc (.cells #[.slice ca l.length cc] 124)
  obtain ⟨W0, hW0⟩ : ∃ W0, (((w.alloc (.cells #[.slice oa out.length oc] 67)).alloc (.cells #[.slice la xs.length lc] 67)).alloc (.cells #[.int .i64 i] 3)).alloc (.cells #[.slice ca l.length cc] 124) = W0 := ⟨_, rfl⟩
  have hsz : W0.heap.size = S + 4 := by rw [← hW0, hS]; simp
  rw [hW0] at b0 c1 c2 c3 hx ⊢
  simp only [World.size_alloc, ← hS] at b0 c1 c2 c3 ⊢
  have hBS : B ≤ S := by omega
  clear hW0 hS
  refine wpIn_range (gf := 82) (lb := #[.pointer (some ⟨S + 3, 0, none⟩)]) rfl (enters_of Tryz.func82 (by kernel_rfl) rfl) (back_iter (S + 3) (.slice ca l.length cc) l) (fun _ => rfl)
    (fun k W => (∃ v, Boxed W S 67 v ∧ OwnR W B 68 1 encU v (out ++ (besF xs i l).take k)) ∧ Boxed W (S + 1) 67 (.slice la xs.length lc) ∧ Boxed W (S + 2) 3 (.int .i64 i) ∧ Boxed W (S + 3) 124 (.slice ca l.length cc) ∧ SlB W B 1 encU (.slice la xs.length lc) xs ∧ SlB W B 3 encCut (.slice ca l.length cc) l ∧ Below B w W)
    (fun _ _ => False)
    (fun k => .and (.exi fun v => .and .boxed .own) (.and .boxed (.and .boxed (.and .boxed (.and .slB (.and .slB (.below hB (by omega))))))))
    (fun c => .false) (fun k W h => ⟨h.2.2.2.1.cell, h.2.2.2.2.2.1.1⟩)
    ⟨⟨_, b0, by simpa using ho.ext hx⟩, c1, c2, c3, hl.below hx hB, hc.below hx hB, hx.below hB⟩ ?round ?done ?stop
  case stop => intro D c W _ h; exact h.elim
  case done =>
    rintro D W hD ⟨⟨v, hbx, hown⟩, _, _, _, _, _, hbw⟩ hdef
    rw [backL_len, List.take_of_length_le (by rw [besF_len]; exact Nat.le_refl _)] at hown
    have hcv := hbx.cell
    gi_wp2
    refine bodyPostM_ret rfl hdef (fun W' _ => results_tmp rfl _ _ _) (fun W' hs => ⟨v, rfl, hs.own hown, hbw.trans (hs.below (by omega))⟩)
  case round =>
    rintro lr k W hk ⟨⟨v, hbx, hown⟩, d1, d2, d3, sl, sc, hbw⟩ hle hlt
    rw [backL_len] at hk
    obtain ⟨m, hm⟩ : ∃ m : Nat, m = l.length - 1 - k := ⟨_, rfl⟩
    have hml : m < l.length := by omega
    rw [backL_get' l k m hm hml]
    simp only [encBack]
    obtain ⟨c, hc0⟩ : ∃ c, c = l[m] := ⟨_, rfl⟩
    have hco := hok c (by rw [hc0]; exact List.getElem_mem _)
    have hbt := besF_take xs i l k m hm hk hml
    rw [← hc0] at hbt ⊢
    obtain ⟨c0, c1, c2⟩ := c
    obtain ⟨ho1, ho2, ho3⟩ := hco
    simp only [] at ho1 ho2 ho3 hbt
    have HB := Lib.hid hbt
    clear hbt hm hc0
    gi_wp2
    refine ⟨KeepsOthers.alloc _ _, fun W2 hs2 => ?_⟩
    have hx1 := Ext.alloc' W (.cells #[.int .i64 c0, .int .i64 c1, .int .i64 c2] 132)
    have e0 := (hs2.cell _).trans (alloc_cell W #[.int .i64 c0, .int .i64 c1, .int .i64 c2] 132 0 (.int .i64 c0) rfl)
    have e1 := (hs2.cell _).trans (alloc_cell W #[.int .i64 c0, .int .i64 c1, .int .i64 c2] 132 1 (.int .i64 c1) rfl)
    have e2 := (hs2.cell _).trans (alloc_cell W #[.int .i64 c0, .int .i64 c1, .int .i64 c2] 132 2 (.int .i64 c2) rfl)
    have hbx2 := hs2.boxed (hbx.alloc (.cells #[.int .i64 c0, .int .i64 c1, .int .i64 c2] 132))
    have hown2 := hs2.own (hown.alloc (.cells #[.int .i64 c0, .int .i64 c1, .int .i64 c2] 132))
    have f1 := hs2.boxed (d1.ext hx1)
    have f2 := hs2.boxed (d2.ext hx1)
    have f3 := hs2.boxed (d3.ext hx1)
    have sl2 : SlB W2 B 1 encU _ xs := ⟨hs2.sl (sl.1.ext hx1), sl.2⟩
    have sc2 : SlB W2 B 3 encCut _ l := ⟨hs2.sl (sc.1.ext hx1), sc.2⟩
    have hbW : Below B w W2 := (hbw.trans (hx1.below (Nat.le_trans hB hbw.size))).trans (hs2.below (by omega))
    have hBW : B ≤ W2.heap.size := Nat.le_trans hB hbW.size
    have g0 := ext_cells hbx2.cell
    have g1 := ext_cells f1.cell
    have g2 := ext_cells f2.cell
    have f2c := f2.cell
    have g4 := ext_cells e0
    have g5 := ext_cells e1
    have g6 := ext_cells e2
    have hlen2 : (out ++ (besF xs i l).take k).length = out.length + k := by simp [besF_len]; omega
    have HL := Lib.hid hlen2
    clear hlen2 hx1 d1 d2 d3 sl sc hbw hbx hown
    by_cases hlt : i < c1
    · gi_wp2
      refine wpIn_region_ord [(0,true),(1,true),(2,true),(3,true),(4,true),(5,true),(6,true),(7,false)] 8 Ext (Ext W2) wide (by kernel_rfl) (by rintro ⟨_, _, h⟩; exact h) (stable_ext _) (Ext.drawn _ _) ?_
      iterate 6 (apply wpOrd_det rfl rfl; (intro w' hw'; unfold opR; go_simp; exact ⟨Ext.refl _, rfl⟩); (simp only [List.getElem_toArray, List.getElem_cons_succ, List.getElem_cons_zero, Act.put, List.setIfInBounds_toArray, List.set_cons_succ, List.set_cons_zero]; rfl))
      (apply wpOrd_det rfl rfl; (intro w' hw'; refine opR_call rfl (Go.Proofs.enters_of Tryz.func40 (by kernel_rfl) rfl) (by simp only [List.map_toArray, List.map_cons, List.map_nil, Act.eval, Array.getD_eq_getD_getElem?, List.getElem?_toArray, List.getElem?_cons_succ, List.getElem?_cons_zero, Option.getD_some]; rfl) ?_; refine (top_walk xs _ c1 c2 _ w' (Nat.le_refl _) ho2 ho3 (sl2.1.ext hw')).mono ?_; rintro e w4 ⟨rfl, hx⟩; exact ⟨_, rfl, hx, rfl⟩); (simp only [List.getElem_toArray, List.getElem_cons_succ, List.getElem_cons_zero, Act.put, List.setIfInBounds_toArray, List.set_cons_succ, List.set_cons_zero]; rfl))
      apply wpOrd_ex rfl rfl (Sl1 W2.heap.size 68 #[.int .u64 (root (seg xs c1 c2))]) (Sl1.stable _ _ _)
      · intro w' hw'; unfold opR; go_simp
        exact ⟨Ext.alloc' _ _, Sl1.new w' _ _ hw'.size⟩
      · intro v; (simp only [List.getElem_toArray, List.getElem_cons_succ, List.getElem_cons_zero, Act.put, List.setIfInBounds_toArray, List.set_cons_succ, List.set_cons_zero]; rfl)
      intro sv
      refine wpOrd_nil (l := [_, _]) rfl ?_
      rintro w3 ⟨hw3, b, rfl, hbb, hrow⟩
      have hown3 := hown2.ext hw3
      have hbx3 : Boxed w3 S 67 v := hbx2.ext hw3
      go_wp2_with (at_builtin; go_must (refine wpList_own_app et_u64 rfl _ _ rfl hown3 rfl [root (seg xs c1 c2)] _ 1 rfl (by simp [encU]) (fun j u hu => row_cells hrow j u (by simpa [encU] using hu)) (by simp [encU, Value.oneCell']) (by rw [HL.out]; simp; omega) (by have := hw3.size; omega) ?_; intro v' w5 hown5 hb5 happ _; obtain ⟨a', n', c', rfl⟩ := hown5.shape; obtain ⟨k1, k2, k3, k4⟩ := box_app hbx3 (by decide) hown3 hown5 happ; have hcl := k1.cell; have hfr := k1.frozen))
      refine ⟨(KeepsOthers.ext hw3).trans k4, ⟨_, k2, ?_⟩, ((f1.ext hw3).appd (by decide) hown3 happ).set' (by simp) _, ((f2.ext hw3).appd (by decide) hown3 happ).set' (by simp) _, ((f3.ext hw3).appd (by decide) hown3 happ).set' (by simp) _, ?_, ?_, ?_⟩
      · rw [HB.out, ← List.append_assoc, bes, if_pos hlt]; exact k3
      · exact ((sl2.below hw3 hBW).below hb5 (Nat.le_refl _)).below ((Below.refl B _).setCell hBS _) (Nat.le_refl _)
      · exact ((sc2.below hw3 hBW).below hb5 (Nat.le_refl _)).below ((Below.refl B _).setCell hBS _) (Nat.le_refl _)
      · exact ((hbW.trans (hw3.below hBW)).trans hb5).setCell hBS _
    · gi_wp2
      refine wpIn_region_ord [(0,true),(1,true),(2,true),(3,true),(4,true),(5,true),(6,true),(7,false)] 8 Ext (Ext W2) wide (by kernel_rfl) (by rintro ⟨_, _, h⟩; exact h) (stable_ext _) (Ext.drawn _ _) ?_
      iterate 6 (apply wpOrd_det rfl rfl; (intro w' hw'; unfold opR; go_simp; exact ⟨Ext.refl _, rfl⟩); (simp only [List.getElem_toArray, List.getElem_cons_succ, List.getElem_cons_zero, Act.put, List.setIfInBounds_toArray, List.set_cons_succ, List.set_cons_zero]; rfl))
      (apply wpOrd_det rfl rfl; (intro w' hw'; refine opR_call rfl (Go.Proofs.enters_of Tryz.func40 (by kernel_rfl) rfl) (by simp only [List.map_toArray, List.map_cons, List.map_nil, Act.eval, Array.getD_eq_getD_getElem?, List.getElem?_toArray, List.getElem?_cons_succ, List.getElem?_cons_zero, Option.getD_some]; rfl) ?_; refine (top_walk xs _ c0 c1 _ w' (Nat.le_refl _) ho1 (by omega) (sl2.1.ext hw')).mono ?_; rintro e w4 ⟨rfl, hx⟩; exact ⟨_, rfl, hx, rfl⟩); (simp only [List.getElem_toArray, List.getElem_cons_succ, List.getElem_cons_zero, Act.put, List.setIfInBounds_toArray, List.set_cons_succ, List.set_cons_zero]; rfl))
      apply wpOrd_ex rfl rfl (Sl1 W2.heap.size 68 #[.int .u64 (root (seg xs c0 c1))]) (Sl1.stable _ _ _)
      · intro w' hw'; unfold opR; go_simp
        exact ⟨Ext.alloc' _ _, Sl1.new w' _ _ hw'.size⟩
      · intro v; (simp only [List.getElem_toArray, List.getElem_cons_succ, List.getElem_cons_zero, Act.put, List.setIfInBounds_toArray, List.set_cons_succ, List.set_cons_zero]; rfl)
      intro sv
      refine wpOrd_nil (l := [_, _]) rfl ?_
      rintro w3 ⟨hw3, b, rfl, hbb, hrow⟩
      have hown3 := hown2.ext hw3
      have hbx3 : Boxed w3 S 67 v := hbx2.ext hw3
      go_wp2_with (at_builtin; go_must (refine wpList_own_app et_u64 rfl _ _ rfl hown3 rfl [root (seg xs c0 c1)] _ 1 rfl (by simp [encU]) (fun j u hu => row_cells hrow j u (by simpa [encU] using hu)) (by simp [encU, Value.oneCell']) (by rw [HL.out]; simp; omega) (by have := hw3.size; omega) ?_; intro v' w5 hown5 hb5 happ _; obtain ⟨a', n', c', rfl⟩ := hown5.shape; obtain ⟨k1, k2, k3, k4⟩ := box_app hbx3 (by decide) hown3 hown5 happ; have hcl := k1.cell; have hfr := k1.frozen))
      refine ⟨(KeepsOthers.ext hw3).trans k4, ⟨_, k2, ?_⟩, ((f1.ext hw3).appd (by decide) hown3 happ).set' (by simp) _, ((f2.ext hw3).appd (by decide) hown3 happ).set' (by simp) _, ((f3.ext hw3).appd (by decide) hown3 happ).set' (by simp) _, ?_, ?_, ?_⟩
      · rw [HB.out, ← List.append_assoc, bes, if_neg hlt]; exact k3
      · exact ((sl2.below hw3 hBW).below hb5 (Nat.le_refl _)).below ((Below.refl B _).setCell hBS _) (Nat.le_refl _)
      · exact ((sc2.below hw3 hBW).below hb5 (Nat.le_refl _)).below ((Below.refl B _).setCell hBS _) (Nat.le_refl _)
      · exact ((hbW.trans (hw3.below hBW)).trans hb5).setCell hBS _
end Go.Proofs.YtkckingkocacjaaGreatDoor

/-
  Walks: report.one, cuts, ends, Path, Root.
-/
namespace Go.Proofs.YtkckingkocacjaaGreatDoor
open Go.RowKit Go.Sx Go.Sx.Rep

theorem et_cut : ET Tryz.prog 124 132 3 24 := .mk' (z := .agg #[.int .i64 0, .int .i64 0, .int .i64 0]) Tryz.underlying124 (by kernel_rfl) rfl (by decide) (by decide)

theorem one_walk (lo hi : Nat) (w : World) (h : hi ≤ 140737488351232) (h1 : lo ≤ hi) :
    Calls Tryz.prog 48 #[.int .i64 lo, .int .i64 hi] w fun e w' => e = .returned (.bool (decide (hi - lo = 1))) ∧ Ext w w' := by
  by_cases hc : hi - lo = 1
  · have h2 : ((hi : Int) - lo == 1) = true := by simp; omega
    go_enter Tryz.func48, Tryz.ntmps48
    go_wp2
    go_ret
    exact ⟨by simp [hc], Ext.refl _⟩
  · have h2 : ((hi : Int) - lo == 1) = false := by simp; omega
    go_enter Tryz.func48, Tryz.ntmps48
    go_wp2
    go_ret
    exact ⟨by simp [hc], Ext.refl _⟩

theorem divide_at (lo hi m : Nat) (w : World) (h1 : lo < hi) (h2 : hi ≤ 140737488351232) (hm : m = lo + split (hi - lo)) :
    Calls Tryz.prog 80 #[.int .i64 lo, .int .i64 hi] w fun e w' => e = .returned (.agg #[.int .i64 lo, .int .i64 m, .int .i64 hi]) ∧ Ext w w' := by
  subst hm; exact divide_walk lo hi w h1 h2

set_option maxRecDepth 100000 in
set_option maxHeartbeats 1000000 in
theorem cuts_walk (g : Nat) (cap : Array Value) (p : Nat → Nat → Bool) (i n : Nat) (w : World) (hi : i < n) (hn : n ≤ 1073741824)
    (eg : ∀ args w, (callFunc g args).run Tryz.prog w = .ok (.enter g args) w)
    (hp : ∀ lo hi, lo ≤ i → i < hi → p lo hi = false → lo + 2 ≤ hi)
    (hc : ∀ lo hi w', lo ≤ i → i < hi → hi ≤ n → Ext w w' → Calls Tryz.prog g (#[.int .i64 lo, .int .i64 hi] ++ cap) w' fun e w'' => e = .returned (.bool (p lo hi)) ∧ Ext w' w'') :
    Calls Tryz.prog 47 #[.int .i64 i, .int .i64 n, .func (.func g) #[] cap] w fun e w' =>
      ∃ v, e = .returned (.tuple #[v, .int .i64 ((cutsAll p i n).2.1 : Nat), .int .i64 ((cutsAll p i n).2.2 : Nat)]) ∧ OwnR w' w.heap.size 132 3 encCut v (cutsAll p i n).1 ∧ Ext w w' := by
  have HC := Lib.hid hc
  have HP := Lib.hid hp
  clear hc hp
  go_enter Tryz.func47, Tryz.ntmps47
  go_wp2
  go_loopw [9, 10, 11] (fun v l h wr => ∃ (pre : List (Nat × Nat × Nat)) (lo hi : Nat), lo ≤ i ∧ i < hi ∧ hi ≤ n ∧ l = .int .i64 lo ∧ h = .int .i64 hi ∧ Hid ((pre ++ (cutsF p i n lo hi).1, (cutsF p i n lo hi).2) = cutsAll p i n) ∧ OwnR wr w.heap.size 132 3 encCut v pre ∧ Ext w wr)
                 (fun _ l h _ => (intOf h - intOf l).toNat)
  case atStart => exact ⟨[], 0, n, by omega, hi, by omega, rfl, rfl, Lib.hid (by simp [cutsAll]), OwnR.nil, Ext.refl _⟩
  case round =>
    obtain ⟨pre, lo, hi, h1, h2, h3, rfl, rfl, HT, hown, hx⟩ := hrel
    have HS := Lib.hid (HC.out lo hi wr h1 h2 h3 hx)
    cases hpb : p lo hi with
    | true =>
      have hpe := Lib.hid hpb
      rw [hpb] at HS
      clear hpb
      go_wp2_with fail
      refine HS.out.mono ?_
      rintro e w1 ⟨rfl, hx1⟩
      have hr := HT.out
      rw [cutsF_stop p i n lo hi hpe.out, List.append_nil] at hr
      have HR := Lib.hid hr
      clear hr
      go_wp2
      go_ret3
      refine ⟨u9, ?_, ?_, hx.trans hx1⟩
      · rw [← HR.out]; rfl
      · rw [← HR.out]; exact hown.ext hx1
    | false =>
      have h5 := HP.out lo hi h1 h2 hpb
      have hgo := cutsF_go p i HP.out n lo hi h1 h2 h3 hpb
      rw [hpb] at HS
      clear hpb
      obtain ⟨m, hm⟩ : ∃ m : Nat, m = lo + split (hi - lo) := ⟨_, rfl⟩
      have h6 := split_lt (n := hi - lo) (by omega)
      have h7 := split_pos (hi - lo)
      rw [← hm] at hgo
      have hml : lo < m := by omega
      have hmh : m < hi := by omega
      have HG := Lib.hid hgo
      have HM := Lib.hid hm
      clear hgo hm h6 h7
      have hlen : (pre ++ [(lo, m, hi)]).length ≤ n := by
        have h8 := congrArg (fun r => r.1.length) HT.out
        simp only [cutsAll, List.length_append] at h8
        have h9 := cutsF_len p i n 0 n
        rw [HG.out] at h8
        simp only [List.length_cons] at h8
        simp only [List.length_append, List.length_cons, List.length_nil]
        omega
      have hlen' : pre.length + 1 ≤ n := by simpa using hlen
      clear hlen
      have hT2 : (pre ++ [(lo, m, hi)] ++ (if i < m then cutsF p i n lo m else cutsF p i n m hi).1, (if i < m then cutsF p i n lo m else cutsF p i n m hi).2) = cutsAll p i n := by
        rw [← HT.out, HG.out]; simp
      have HT2 := Lib.hid hT2
      clear hT2
      go_wp2_with fail
      refine HS.out.mono ?_
      rintro e w1 ⟨rfl, hx1⟩
      have hown1 := hown.ext hx1
      go_wp2_with fail
      refine (divide_at lo hi m _ (by omega) (by omega) HM.out).mono ?_
      rintro e w2 ⟨rfl, hx2⟩
      have hown2 := (hown1.ext hx2).alloc (.cells #[.int .i64 lo, .int .i64 m, .int .i64 hi] 132)
      have hx3 : Ext w (w2.alloc (.cells #[.int .i64 lo, .int .i64 m, .int .i64 hi] 132)) := ((hx.trans hx1).trans hx2).alloc _
      have hsz := hx3.size
      have hfr := (hown1.ext hx2).fresh (Nat.le_refl _)
      have e1 := alloc_cell w2 #[.int .i64 lo, .int .i64 m, .int .i64 hi] 132 1 (.int .i64 m) rfl
      by_cases him : i < m
      · have him' : (i : Int) < m := by omega
        go_wp2_with (at_builtin; go_must (refine wpList_own1 et_cut rfl _ _ rfl hown2 rfl (lo, m, hi) rfl rfl rfl (by simp [encCut, Value.oneCell']) (by omega) hsz ?_; intro v' w5 hown5 hb5 happ _; have e5 := happ.cell hfr e1))
        go_roundw
        case rel => exact ⟨pre ++ [(lo, m, hi)], lo, m, h1, him, by omega, rfl, rfl, Lib.hid (by rw [← HT2.out, if_pos him]), hown5, Below.trans hx3 hb5⟩
        case measure => simp [intOf] <;> omega
      · have him' : ¬ (i : Int) < m := by omega
        go_wp2_with (at_builtin; go_must (refine wpList_own1 et_cut rfl _ _ rfl hown2 rfl (lo, m, hi) rfl rfl rfl (by simp [encCut, Value.oneCell']) (by omega) hsz ?_; intro v' w5 hown5 hb5 happ _; have e5 := happ.cell hfr e1))
        go_roundw
        case rel => exact ⟨pre ++ [(lo, m, hi)], m, hi, by omega, h2, h3, rfl, rfl, Lib.hid (by rw [← HT2.out, if_neg him]), hown5, Below.trans hx3 hb5⟩
        case measure => simp [intOf] <;> omega
end Go.Proofs.YtkckingkocacjaaGreatDoor

/-
  Walks: report.Root, Path, fold, Check.
-/
namespace Go.Proofs.YtkckingkocacjaaGreatDoor
open Go.RowKit Go.Sx Go.Sx.Rep
attribute [local go_sem] Oper.semAt_some wide_fn wide_depth

set_option maxRecDepth 100000 in
set_option maxHeartbeats 400000 in
theorem reproot_walk (v : Value) (xs : List Int) (w : World) (S : Sl w 1 encU v xs) :
    Calls Tryz.prog 16 #[v] w fun e w' => e = .returned (.tuple #[.int .u64 (rootV xs), .int .i64 (rootErr xs)]) ∧ Ext w w' := by
  obtain ⟨a?, cap, rfl, h1, h2, h3⟩ := S.len
  clear h1 h2
  by_cases h0 : xs.length = 0
  · have h0' : ((xs.length : Int) == 0) = true := by simp [h0]
    go_enter Tryz.func16, Tryz.ntmps16
    go_wp2
    go_ret2
    exact ⟨by simp [rootV, rootErr, h0], Ext.refl _⟩
  · have h0' : ((xs.length : Int) == 0) = false := beq_eq_false_iff_ne.2 (by omega)
    have hx0 : xs ≠ [] := by rintro rfl; simp at h0
    by_cases h1 : 1024 < xs.length
    · have h1' : (1024 : Int) < xs.length := by omega
      go_enter Tryz.func16, Tryz.ntmps16
      go_wp2
      go_ret2
      exact ⟨by simp [rootV, rootErr, hx0, h1], Ext.refl _⟩
    · have h1' : ¬ (1024 : Int) < xs.length := by omega
      have T := Lib.hid (top_walk xs _ 0 xs.length _ w (Nat.le_refl _) (by omega) (Nat.le_refl _) S)
      clear S
      go_enter Tryz.func16, Tryz.ntmps16
      go_wp2_with (go_at_call 40; go_must (refine T.out.mono ?_); rintro e w1 ⟨rfl, hx⟩)
      go_ret2
      exact ⟨by simp [rootV, rootErr, hx0, h1, seg_all], hx⟩

set_option maxRecDepth 100000 in
set_option maxHeartbeats 400000 in
theorem path_walk (v : Value) (xs : List Int) (i : Int) (w : World) (S : Sl w 1 encU v xs) :
    Calls Tryz.prog 19 #[v, .int .i64 i] w fun e w' => ∃ p, e = .returned (.tuple #[p, .int .i64 (pathErr xs i)]) ∧ OwnR w' w.heap.size 68 1 encU p (pathL xs i) ∧ Ext w w' := by
  obtain ⟨a?, cap, rfl, h1, h2, h3⟩ := S.len
  clear h1 h2
  have R := Lib.hid (reproot_walk _ xs w S)
  by_cases he : rootErr xs = 0
  · have hn := rootErr_zero.1 he
    obtain ⟨hn0, hn1⟩ := hn
    by_cases hi : i < 0 ∨ (xs.length : Int) ≤ i
    · have hpe : pathErr xs i = 1 := by simp [pathErr, he, hi]
      have HP := Lib.hid hpe
      clear hpe
      by_cases hi1 : i < 0
      · clear hi
        go_enter Tryz.func19, Tryz.ntmps19
        go_wp2_with (go_at_call 16; go_must (refine R.out.mono ?_); rintro e w1 ⟨rfl, hx⟩)
        go_ret2
        refine ⟨_, by rw [HP.out]; rfl, ?_, hx⟩
        rw [pathL, if_neg (by rw [HP.out]; decide)]; exact OwnR.nil
      · have hi2 : (xs.length : Int) ≤ i := by omega
        clear hi
        go_enter Tryz.func19, Tryz.ntmps19
        go_wp2_with (go_at_call 16; go_must (refine R.out.mono ?_); rintro e w1 ⟨rfl, hx⟩)
        go_ret2
        refine ⟨_, by rw [HP.out]; rfl, ?_, hx⟩
        rw [pathL, if_neg (by rw [HP.out]; decide)]; exact OwnR.nil
    · obtain ⟨j, rfl⟩ := Int.eq_ofNat_of_zero_le (show 0 ≤ i by omega)
      have hj : j < xs.length := by omega
      have hpe : pathErr xs j = 0 := by simp [pathErr, he]; omega
      have HP := Lib.hid hpe
      have hj' : ¬ (j : Int) < 0 := by omega
      have hj2 : ¬ (xs.length : Int) ≤ j := by omega
      clear hpe hi
      have C := Lib.hid (fun w' => cuts_walk 48 #[] onep j xs.length w' hj (by omega) (enters_of Tryz.func48 (by kernel_rfl) rfl) (onep_ok j)
        (fun lo hi w1 h1 h2 h3 _ => (one_walk lo hi w1 (by omega) (by omega)).mono fun e w2 h => h))
      have hok := cutsF_ok onep j (onep_ok j) xs.length xs.length 0 xs.length (by omega) hj (Nat.le_refl _) (by omega)
      have hlen := cutsF_len onep j xs.length 0 xs.length
      have HO := Lib.hid hok.1
      have HL := Lib.hid hlen
      clear hok hlen
      go_enter Tryz.func19, Tryz.ntmps19
      go_wp2_with fail
      refine R.out.mono ?_
      rintro e w1 ⟨rfl, hx⟩
      go_wp2_with fail
      refine (C.out w1).mono ?_
      rintro e w2 ⟨cv, rfl, hcv, hx2⟩
      go_wp2_with fail
      have hxx := hx.trans hx2
      have hsl := ((S.slB (by omega)).below hxx (Nat.le_refl _)).mono hxx.size
      have hcl := (hcv.sl (by simp [encCut]) (by have := HL.out; unfold cutsAll; omega)).slB (by omega)
      refine (beside_walk w2.heap.size _ _ _ [] xs j _ w2 (Nat.le_refl _) OwnR.nil hsl hcl HO.out (by have := HL.out; simp [cutsAll]; omega)).mono ?_
      rintro e w3 ⟨pv, rfl, hpv, hx3⟩
      go_wp2
      go_ret2
      refine ⟨pv, by rw [HP.out]; rfl, ?_, hxx.trans hx3⟩
      rw [pathL, if_pos HP.out]
      simpa [pathG] using hpv.mono hxx.size
  · have hpe : pathErr xs i = rootErr xs := by simp [pathErr, he]
    have hne : (rootErr xs == 0) = false := by simp [he]
    have hne2 : (rootErr xs != 0) = true := by simp [he]
    have HP := Lib.hid hpe
    have HE := Lib.hid he
    clear hpe he
    go_enter Tryz.func19, Tryz.ntmps19
    go_wp2_with (go_at_call 16; go_must (refine R.out.mono ?_); rintro e w1 ⟨rfl, hx⟩)
    go_ret2
    refine ⟨_, by rw [HP.out]; rfl, ?_, hx⟩
    rw [pathL, if_neg (by rw [HP.out]; exact HE.out)]; exact OwnR.nil
end Go.Proofs.YtkckingkocacjaaGreatDoor

/-
  Walks: report.fold, ends.
-/
namespace Go.Proofs.YtkckingkocacjaaGreatDoor
open Go.RowKit Go.Sx Go.Sx.Rep
attribute [local go_sem] Oper.semAt_some wide_fn wide_depth

set_option maxRecDepth 100000 in
set_option maxHeartbeats 1000000 in
theorem fold_walk (g : Nat) (cap : Array Value) (q : Nat × Nat × Nat → Bool) (d : Int) (cv pv : Value) (l : List (Nat × Nat × Nat)) (ps : List Int) (w : World) (sp : Sl w 1 encU pv ps) (sc : Sl w 3 encCut cv l) (hlen : ps.length = l.length)
    (eg : ∀ args w, (callFunc g args).run Tryz.prog w = .ok (.enter g args) w)
    (hleft : ∀ c ∈ l, ∀ w', Ext w w' → Calls Tryz.prog g (#[.agg #[.int .i64 c.1, .int .i64 c.2.1, .int .i64 c.2.2]] ++ cap) w' fun e w'' => e = .returned (.bool (q c)) ∧ Ext w' w'') :
    Calls Tryz.prog 45 #[.int .u64 d, cv, pv, .func (.func g) #[] cap] w fun e w' => e = .returned (.int .u64 (foldF q d l ps)) ∧ Ext w w' := by
  have HLF := Lib.hid hleft
  clear hleft
  obtain ⟨pa, pc, hpv, hl1, hl2, hl3⟩ := sp.len
  obtain ⟨ca, cc, hcv, hc1, hc2, hc3⟩ := sc.len
  refine (callsIn_wide (n := 0)).1 ?_
  refine callsIn_of_wp_marks Tryz.func45 rfl trivial ?_ rfl
  simp only [Tryz.ntmps45, List.size_toArray, List.length_cons, List.length_nil, Nat.reduceAdd, Nat.reduceSub, Array.replicate_succ, Array.replicate_zero, List.push_toArray, List.append_toArray, List.nil_append, List.cons_append]
  subst hpv; subst hcv
  clear hl1 hl2 hc1 hc2
  have HLN := Lib.hid hlen
  clear hlen
  gi_wp2_with (gi_at_call 43; go_must (refine (callsIn_wide.2 (back_walk ca l.length cc _ rfl _)).mono ?_; rintro e w' ⟨rfl, rfl⟩))
  obtain ⟨S, hS⟩ : ∃ S : Nat, S = w.heap.size := ⟨_, rfl⟩
  obtain ⟨w1, hw1⟩ : ∃ w1, w.alloc (.cells #[.int .u64 d] 68) = w1 := ⟨_, rfl⟩
  obtain ⟨w2, hw2⟩ : ∃ w2, w1.alloc (.cells #[.slice pa ps.length pc] 67) = w2 := ⟨_, rfl⟩
  obtain ⟨w3, hw3⟩ : ∃ w3, w2.alloc (.cells #[.func (.func g) #[] cap] 135) = w3 := ⟨_, rfl⟩
  obtain ⟨w4, hw4⟩ : ∃ w4, w3.alloc (.cells #[.int .i64 0] 3) = w4 := ⟨_, rfl⟩
  obtain ⟨w5, hw5⟩ : ∃ w5, w4.alloc (.cells #[.slice ca l.length cc] 124) = w5 := ⟨_, rfl⟩
  have x1 : Ext w w1 := by rw [← hw1]; exact Ext.alloc' _ _
  have x2 : Ext w1 w2 := by rw [← hw2]; exact Ext.alloc' _ _
  have x3 : Ext w2 w3 := by rw [← hw3]; exact Ext.alloc' _ _
  have x4 : Ext w3 w4 := by rw [← hw4]; exact Ext.alloc' _ _
  have x5 : Ext w4 w5 := by rw [← hw5]; exact Ext.alloc' _ _
  have z1 : w1.heap.size = S + 1 := by rw [← hw1, hS]; simp
  have z2 : w2.heap.size = S + 2 := by rw [← hw2]; simp; omega
  have z3 : w3.heap.size = S + 3 := by rw [← hw3]; simp; omega
  have z4 : w4.heap.size = S + 4 := by rw [← hw4]; simp; omega
  have z5 : w5.heap.size = S + 5 := by rw [← hw5]; simp; omega
  have b0 : Boxed w1 S 68 (.int .u64 d) := by rw [← hw1, hS]; exact Boxed.new _ _ _
  have b1 : Boxed w2 (S + 1) 67 (.slice pa ps.length pc) := by rw [← hw2, ← z1]; exact Boxed.new _ _ _
  have b2 : Boxed w3 (S + 2) 135 (.func (.func g) #[] cap) := by rw [← hw3, ← z2]; exact Boxed.new _ _ _
  have b3 : Boxed w4 (S + 3) 3 (.int .i64 0) := by rw [← hw4, ← z3]; exact Boxed.new _ _ _
  have b4 : Boxed w5 (S + 4) 124 (.slice ca l.length cc) := by rw [← hw5, ← z4]; exact Boxed.new _ _ _
  have b0' := (((b0.ext x2).ext x3).ext x4).ext x5
  have b1' := ((b1.ext x3).ext x4).ext x5
  have b2' := (b2.ext x4).ext x5
  have b3' := b3.ext x5
  have hx := (((x1.trans x2).trans x3).trans x4).trans x5
  rw [hw1, hw2, hw3, hw4, hw5]
  simp only [← hS]
  clear b0 b1 b2 b3 hw1 hw2 hw3 hw4 hw5 x1 x2 x3 x4 x5 z1 z2 z3 z4 w1 w2 w3 w4
  have hSw : w.heap.size = S := hS.symm
  clear hS
  have hBS : S ≤ w5.heap.size := by omega
  have sp0 := (sp.slB (by omega)).mono (Nat.le_of_eq hSw)
  have sc0 := (sc.slB (by omega)).mono (Nat.le_of_eq hSw)
  refine wpIn_range (gf := 82) (lb := #[.pointer (some ⟨S + 4, 0, none⟩)]) rfl (enters_of Tryz.func82 (by kernel_rfl) rfl) (back_iter (S + 4) (.slice ca l.length cc) l) (fun _ => rfl)
    (fun k W => Boxed W S 68 (.int .u64 (foldK q d l ps k)) ∧ Boxed W (S + 1) 67 (.slice pa ps.length pc) ∧ Boxed W (S + 2) 135 (.func (.func g) #[] cap) ∧ Boxed W (S + 3) 3 (.int .i64 k) ∧ Boxed W (S + 4) 124 (.slice ca l.length cc) ∧ SlB W S 1 encU (.slice pa ps.length pc) ps ∧ SlB W S 3 encCut (.slice ca l.length cc) l ∧ Ext w W)
    (fun _ _ => False)
    (fun k => .and .boxed (.and .boxed (.and .boxed (.and .boxed (.and .boxed (.and .slB (.and .slB (.extw (by omega)))))))))
    (fun c => .false) (fun k W h => ⟨h.2.2.2.2.1.cell, h.2.2.2.2.2.2.1.1⟩)
    ⟨b0', b1', b2', b3', b4, sp0.below hx (by omega), sc0.below hx (by omega), hx⟩ ?round ?done ?stop
  case stop => intro D c W _ h; exact h.elim
  case done =>
    rintro D W hD ⟨h0, _, _, _, _, _, _, hbw⟩ hdef
    rw [backL_len, foldK_all q d l ps (by rw [HLN.out]; exact Nat.le_refl _)] at h0
    have hcv := h0.cell
    gi_wp2
    refine bodyPostM_ret rfl hdef (fun W' _ => results_tmp rfl _ _ _) (fun W' hs => ⟨rfl, Below.trans hbw (hs.below (by omega))⟩)
  case round =>
    rintro lr k W hk hIk hle hlt
    rw [backL_len] at hk
    obtain ⟨m, hm⟩ : ∃ m : Nat, m = l.length - 1 - k := ⟨_, rfl⟩
    have hml : m < l.length := by omega
    have hkp : k < ps.length := by rw [HLN.out]; exact hk
    rw [backL_get' l k m hm hml]
    simp only [encBack]
    obtain ⟨c, hc0⟩ : ∃ c, c = l[m] := ⟨_, rfl⟩
    have hcm : c ∈ l := by rw [hc0]; exact List.getElem_mem _
    have hbt := foldK_succ q d l ps k m hm hk hml hkp
    rw [← hc0] at hbt ⊢
    have HLC := Lib.hid (HLF.out c hcm)
    obtain ⟨c0, c1, c2⟩ := c
    have HK := Lib.hid hbt
    clear hbt hm hc0
    gi_wp2
    refine ⟨KeepsOthers.alloc _ _, fun W2 hs2 => ?_⟩
    obtain ⟨h0, h1, h2, h3, h4, sp2, sc2, hbw⟩ := hIk
    have hx1 := Ext.alloc' W (.cells #[.int .i64 c0, .int .i64 c1, .int .i64 c2] 132)
    have e0 := (hs2.cell _).trans (alloc_cell W #[.int .i64 c0, .int .i64 c1, .int .i64 c2] 132 0 (.int .i64 c0) rfl)
    have e1 := (hs2.cell _).trans (alloc_cell W #[.int .i64 c0, .int .i64 c1, .int .i64 c2] 132 1 (.int .i64 c1) rfl)
    have e2 := (hs2.cell _).trans (alloc_cell W #[.int .i64 c0, .int .i64 c1, .int .i64 c2] 132 2 (.int .i64 c2) rfl)
    replace h0 := hs2.boxed (h0.ext hx1)
    replace h1 := hs2.boxed (h1.ext hx1)
    replace h2 := hs2.boxed (h2.ext hx1)
    replace h3 := hs2.boxed (h3.ext hx1)
    replace h4 := hs2.boxed (h4.ext hx1)
    replace sp2 : SlB W2 S 1 encU _ ps := ⟨hs2.sl (sp2.1.ext hx1), sp2.2⟩
    replace sc2 : SlB W2 S 3 encCut _ l := ⟨hs2.sl (sc2.1.ext hx1), sc2.2⟩
    have hbW : Below S w W2 := by
      have := (hbw.trans hx1).trans (Ext.refl _)
      have h9 : Below S w (W.alloc (.cells #[.int .i64 c0, .int .i64 c1, .int .i64 c2] 132)) := Below.mono this (by omega)
      exact h9.trans (hs2.below (by omega))
    have hW2S : S ≤ W2.heap.size := by have := hbW.size; omega
    have hbWx : Ext w W2 := Ext.of_below (by rw [hSw]; exact hbW)
    have g2 := h2.cell
    clear hx1 hbw
    gi_wp2_with fail
    refine (CallsIn.inRound lr (callsIn_wide.2 (HLC.out W2 hbWx))).mono ?_
    rintro e W3 ⟨rfl, hx3⟩
    have hW3S : S ≤ W3.heap.size := by have := hx3.size; omega
    replace h0 := h0.ext hx3
    replace h1 := h1.ext hx3
    replace h2 := h2.ext hx3
    replace h3 := h3.ext hx3
    replace h4 := h4.ext hx3
    have sp3 := sp2.below hx3 hW2S
    have sc3 := sc2.below hx3 hW2S
    obtain ⟨b0, o0, rfl, hpk⟩ := sp3.1.at1 k hkp
    simp only [encU, List.getD_cons_zero] at hpk
    have g0 := ext_cells h0.cell
    have g1 := ext_cells h1.cell
    have g3 := ext_cells h3.cell
    have gp := ext_cells hpk
    clear hpk e0 e1 e2 g2
    cases hq : q (c0, c1, c2) with
    | true =>
      have HQ := Lib.hid (show (if q (c0, c1, c2) = true then node (foldK q d l ps k) ps[k] else node ps[k] (foldK q d l ps k)) = node (foldK q d l ps k) ps[k] by rw [if_pos hq])
      clear hq
      gi_wp2
      refine wpIn_region_ord [(0,true),(1,true),(2,true),(3,true),(4,true),(5,true)] 6 Ext (Ext W3) wide (by kernel_rfl) (by rintro ⟨_, _, h⟩; exact h) (stable_ext _) (Ext.drawn _ _) ?_
      iterate 5 (apply wpOrd_det rfl rfl; (intro w' hw'; unfold opR; go_simp; exact ⟨Ext.refl _, rfl⟩); (simp only [List.getElem_toArray, List.getElem_cons_succ, List.getElem_cons_zero, Act.put, List.setIfInBounds_toArray, List.set_cons_succ, List.set_cons_zero]; rfl))
      (apply wpOrd_det rfl rfl; (intro w' hw'; refine opR_call rfl (Go.Proofs.enters_of Tryz.func44 (by kernel_rfl) rfl) (by simp only [List.map_toArray, List.map_cons, List.map_nil, Act.eval, Array.getD_eq_getD_getElem?, List.getElem?_toArray, List.getElem?_cons_succ, List.getElem?_cons_zero, Option.getD_some]; rfl) ?_; refine (node_walk _ _ w').mono ?_; rintro e w4 ⟨rfl, hx⟩; exact ⟨_, rfl, hx, rfl⟩); (simp only [List.getElem_toArray, List.getElem_cons_succ, List.getElem_cons_zero, Act.put, List.setIfInBounds_toArray, List.set_cons_succ, List.set_cons_zero]; rfl))
      refine wpOrd_nil (l := [_]) rfl ?_
      intro w4 hw4
      have k0 := (h0.ext hw4).cell
      have k0f := (h0.ext hw4).frozen
      have k3 := ((h3.ext hw4).set' (p := ⟨S, 0, none⟩) (by simp) (.int .u64 (node (foldK q d l ps k) ps[k]))).cell
      have k3f := ((h3.ext hw4).set' (p := ⟨S, 0, none⟩) (by simp) (.int .u64 (node (foldK q d l ps k) ps[k]))).frozen
      go_wp2
      gi_wp2
      refine ⟨((KeepsOthers.ext (hx3.trans hw4)).trans (KeepsOthers.setCell _ _ _)).trans (KeepsOthers.setCell _ _ _), ?_, ?_, ?_, ?_, ?_, ?_, ?_, ?_⟩
      · have := ((h0.ext hw4).set (.int .u64 (node (foldK q d l ps k) ps[k]))).set' (p := ⟨S + 3, 0, none⟩) (by simp) (.int .i64 (k + 1))
        rw [HK.out, HQ.out]; exact this
      · exact ((h1.ext hw4).set' (by simp) _).set' (by simp) _
      · exact ((h2.ext hw4).set' (by simp) _).set' (by simp) _
      · have := ((h3.ext hw4).set' (p := ⟨S, 0, none⟩) (by simp) (.int .u64 (node (foldK q d l ps k) ps[k]))).set (.int .i64 (k + 1))
        exact this
      · exact ((h4.ext hw4).set' (by simp) _).set' (by simp) _
      · exact ((sp3.below hw4 hW3S).below ((Below.refl S _).setCell (Nat.le_refl _) _) (Nat.le_refl _)).below ((Below.refl S _).setCell (show S ≤ S + 3 by omega) _) (Nat.le_refl _)
      · exact ((sc3.below hw4 hW3S).below ((Below.refl S _).setCell (Nat.le_refl _) _) (Nat.le_refl _)).below ((Below.refl S _).setCell (show S ≤ S + 3 by omega) _) (Nat.le_refl _)
      · exact Ext.of_below (by rw [hSw]; exact (((hbW.trans (hx3.below hW2S)).trans (hw4.below hW3S)).setCell (Nat.le_refl _) _).setCell (show S ≤ S + 3 by omega) _)
    | false =>
      have HQ := Lib.hid (show (if q (c0, c1, c2) = true then node (foldK q d l ps k) ps[k] else node ps[k] (foldK q d l ps k)) = node ps[k] (foldK q d l ps k) by rw [if_neg (by rw [hq]; decide)])
      clear hq
      gi_wp2
      refine wpIn_region_ord [(0,true),(1,true),(2,true),(3,true),(4,true),(5,true)] 6 Ext (Ext W3) wide (by kernel_rfl) (by rintro ⟨_, _, h⟩; exact h) (stable_ext _) (Ext.drawn _ _) ?_
      iterate 5 (apply wpOrd_det rfl rfl; (intro w' hw'; unfold opR; go_simp; exact ⟨Ext.refl _, rfl⟩); (simp only [List.getElem_toArray, List.getElem_cons_succ, List.getElem_cons_zero, Act.put, List.setIfInBounds_toArray, List.set_cons_succ, List.set_cons_zero]; rfl))
      (apply wpOrd_det rfl rfl; (intro w' hw'; refine opR_call rfl (Go.Proofs.enters_of Tryz.func44 (by kernel_rfl) rfl) (by simp only [List.map_toArray, List.map_cons, List.map_nil, Act.eval, Array.getD_eq_getD_getElem?, List.getElem?_toArray, List.getElem?_cons_succ, List.getElem?_cons_zero, Option.getD_some]; rfl) ?_; refine (node_walk _ _ w').mono ?_; rintro e w4 ⟨rfl, hx⟩; exact ⟨_, rfl, hx, rfl⟩); (simp only [List.getElem_toArray, List.getElem_cons_succ, List.getElem_cons_zero, Act.put, List.setIfInBounds_toArray, List.set_cons_succ, List.set_cons_zero]; rfl))
      refine wpOrd_nil (l := [_]) rfl ?_
      intro w4 hw4
      have k0 := (h0.ext hw4).cell
      have k0f := (h0.ext hw4).frozen
      have k3 := ((h3.ext hw4).set' (p := ⟨S, 0, none⟩) (by simp) (.int .u64 (node ps[k] (foldK q d l ps k)))).cell
      have k3f := ((h3.ext hw4).set' (p := ⟨S, 0, none⟩) (by simp) (.int .u64 (node ps[k] (foldK q d l ps k)))).frozen
      go_wp2
      gi_wp2
      refine ⟨((KeepsOthers.ext (hx3.trans hw4)).trans (KeepsOthers.setCell _ _ _)).trans (KeepsOthers.setCell _ _ _), ?_, ?_, ?_, ?_, ?_, ?_, ?_, ?_⟩
      · have := ((h0.ext hw4).set (.int .u64 (node ps[k] (foldK q d l ps k)))).set' (p := ⟨S + 3, 0, none⟩) (by simp) (.int .i64 (k + 1))
        rw [HK.out, HQ.out]; exact this
      · exact ((h1.ext hw4).set' (by simp) _).set' (by simp) _
      · exact ((h2.ext hw4).set' (by simp) _).set' (by simp) _
      · have := ((h3.ext hw4).set' (p := ⟨S, 0, none⟩) (by simp) (.int .u64 (node ps[k] (foldK q d l ps k)))).set (.int .i64 (k + 1))
        exact this
      · exact ((h4.ext hw4).set' (by simp) _).set' (by simp) _
      · exact ((sp3.below hw4 hW3S).below ((Below.refl S _).setCell (Nat.le_refl _) _) (Nat.le_refl _)).below ((Below.refl S _).setCell (show S ≤ S + 3 by omega) _) (Nat.le_refl _)
      · exact ((sc3.below hw4 hW3S).below ((Below.refl S _).setCell (Nat.le_refl _) _) (Nat.le_refl _)).below ((Below.refl S _).setCell (show S ≤ S + 3 by omega) _) (Nat.le_refl _)
      · exact Ext.of_below (by rw [hSw]; exact (((hbW.trans (hx3.below hW2S)).trans (hw4.below hW3S)).setCell (Nat.le_refl _) _).setCell (show S ≤ S + 3 by omega) _)


theorem left_walk (i : Int) (b : Nat) (c : Nat × Nat × Nat) (w : World) (hb : Boxed w b 3 (.int .i64 i)) :
    Calls Tryz.prog 49 #[.agg #[.int .i64 c.1, .int .i64 c.2.1, .int .i64 c.2.2], .pointer (some ⟨b, 0, none⟩)] w fun e w' => e = .returned (.bool (decide (i < c.2.1))) ∧ Ext w w' := by
  obtain ⟨c0, c1, c2⟩ := c
  have hc := (hb.ext (Ext.alloc' w (.cells #[.int .i64 c0, .int .i64 c1, .int .i64 c2] 132))).cell
  go_enter Tryz.func49, Tryz.ntmps49
  go_wp2
  go_ret
  exact ⟨rfl, (by repeat (first | with_reducible exact Ext.refl _ | with_reducible assumption | with_reducible apply Ext.alloc | with_reducible apply Ext.drew | (with_reducible refine Ext.setCell ?_ (by (try simp) <;> omega) _)))⟩
theorem before_walk (i : Int) (b : Nat) (c : Nat × Nat × Nat) (w : World) (hb : Boxed w b 3 (.int .i64 i)) :
    Calls Tryz.prog 46 #[.agg #[.int .i64 c.1, .int .i64 c.2.1, .int .i64 c.2.2], .pointer (some ⟨b, 0, none⟩)] w fun e w' => e = .returned (.bool (decide (i ≤ c.2.1))) ∧ Ext w w' := by
  obtain ⟨c0, c1, c2⟩ := c
  have hc := (hb.ext (Ext.alloc' w (.cells #[.int .i64 c0, .int .i64 c1, .int .i64 c2] 132))).cell
  go_enter Tryz.func46, Tryz.ntmps46
  go_wp2
  go_ret
  exact ⟨rfl, (by repeat (first | with_reducible exact Ext.refl _ | with_reducible assumption | with_reducible apply Ext.alloc | with_reducible apply Ext.drew | (with_reducible refine Ext.setCell ?_ (by (try simp) <;> omega) _)))⟩
theorem endp_walk (m b lo hi : Nat) (w : World) (hb : Boxed w b 3 (.int .i64 m)) :
    Calls Tryz.prog 81 #[.int .i64 lo, .int .i64 hi, .pointer (some ⟨b, 0, none⟩)] w fun e w' => e = .returned (.bool (endp m lo hi)) ∧ Ext w w' := by
  have hc := hb.cell
  by_cases h : hi = m
  · have h' : ((hi : Int) == m) = true := beq_iff_eq.2 (by omega)
    go_enter Tryz.func81, Tryz.ntmps81
    go_wp2
    go_ret
    exact ⟨by simp [endp, h], (by repeat (first | with_reducible exact Ext.refl _ | with_reducible assumption | with_reducible apply Ext.alloc | with_reducible apply Ext.drew | (with_reducible refine Ext.setCell ?_ (by (try simp) <;> omega) _)))⟩
  · have h' : ((hi : Int) == m) = false := beq_eq_false_iff_ne.2 (by omega)
    go_enter Tryz.func81, Tryz.ntmps81
    go_wp2
    go_ret
    exact ⟨by simp [endp, h], (by repeat (first | with_reducible exact Ext.refl _ | with_reducible assumption | with_reducible apply Ext.alloc | with_reducible apply Ext.drew | (with_reducible refine Ext.setCell ?_ (by (try simp) <;> omega) _)))⟩

set_option maxRecDepth 100000 in
set_option maxHeartbeats 400000 in
theorem ends_walk (m n : Nat) (w : World) (h1 : 1 ≤ m) (h2 : m ≤ n) (hn : n ≤ 1073741824) :
    Calls Tryz.prog 41 #[.int .i64 m, .int .i64 n] w fun e w' =>
      ∃ v, e = .returned (.tuple #[v, .int .i64 ((endsAll m n).2.1 : Nat), .int .i64 ((endsAll m n).2.2 : Nat)]) ∧ OwnR w' w.heap.size 132 3 encCut v (endsAll m n).1 ∧ Ext w w' := by
  have hb := Boxed.new w 3 (.int .i64 m)
  have hx := Ext.alloc' w (.cells #[.int .i64 m] 3)
  have C := Lib.hid (cuts_walk 81 #[.pointer (some ⟨w.heap.size, 0, none⟩)] (endp m) (m - 1) n (w.alloc (.cells #[.int .i64 m] 3)) (by omega) hn (enters_of Tryz.func81 (by kernel_rfl) rfl) (endp_ok m h1)
    (fun lo hi w1 _ _ _ hxx => endp_walk m w.heap.size lo hi w1 (hb.ext hxx)))
  have hmi : (m : Int) - 1 = ((m - 1 : Nat) : Int) := by omega
  have hc := hb.cell
  go_enter Tryz.func41, Tryz.ntmps41
  go_wp2_with fail
  refine C.out.mono ?_
  rintro e w1 ⟨v, rfl, hv, hx1⟩
  go_wp2
  go_ret3
  exact ⟨v, rfl, hv.mono (by simp), hx.trans hx1⟩

set_option maxRecDepth 100000 in
set_option maxHeartbeats 1000000 in
theorem check_walk (rt leaf i n : Int) (pv : Value) (ps : List Int) (w : World) (S : Sl w 1 encU pv ps) :
    Calls Tryz.prog 20 #[.int .u64 rt, .int .u64 leaf, .int .i64 i, .int .i64 n, pv] w fun e w' => e = .returned (.bool (checkF rt leaf i n ps)) ∧ Ext w w' := by
  obtain ⟨a?, cap, rfl, h1, h2, h3⟩ := S.len
  clear h1 h2
  have hc := (Boxed.new w 3 (.int .i64 i)).cell
  by_cases c1 : n < 1
  · have hF : checkF rt leaf i n ps = false := if_pos (.inl c1)
    rw [hF]; clear hF
    go_enter Tryz.func20, Tryz.ntmps20
    go_wp2
    go_ret
    exact ⟨rfl, (by repeat (first | with_reducible exact Ext.refl _ | with_reducible assumption | with_reducible apply Ext.alloc | with_reducible apply Ext.drew | (with_reducible refine Ext.setCell ?_ (by (try simp) <;> omega) _)))⟩
  by_cases c2 : 1024 < n
  · have hF : checkF rt leaf i n ps = false := if_pos (.inr (.inl c2))
    rw [hF]; clear hF
    go_enter Tryz.func20, Tryz.ntmps20
    go_wp2
    go_ret
    exact ⟨rfl, (by repeat (first | with_reducible exact Ext.refl _ | with_reducible assumption | with_reducible apply Ext.alloc | with_reducible apply Ext.drew | (with_reducible refine Ext.setCell ?_ (by (try simp) <;> omega) _)))⟩
  by_cases c3 : i < 0
  · have hF : checkF rt leaf i n ps = false := if_pos (.inr (.inr (.inl c3)))
    rw [hF]; clear hF
    go_enter Tryz.func20, Tryz.ntmps20
    go_wp2
    go_ret
    exact ⟨rfl, (by repeat (first | with_reducible exact Ext.refl _ | with_reducible assumption | with_reducible apply Ext.alloc | with_reducible apply Ext.drew | (with_reducible refine Ext.setCell ?_ (by (try simp) <;> omega) _)))⟩
  by_cases c4 : n ≤ i
  · have hF : checkF rt leaf i n ps = false := if_pos (.inr (.inr (.inr c4)))
    rw [hF]; clear hF
    go_enter Tryz.func20, Tryz.ntmps20
    go_wp2
    go_ret
    exact ⟨rfl, (by repeat (first | with_reducible exact Ext.refl _ | with_reducible assumption | with_reducible apply Ext.alloc | with_reducible apply Ext.drew | (with_reducible refine Ext.setCell ?_ (by (try simp) <;> omega) _)))⟩
  obtain ⟨j, rfl⟩ := Int.eq_ofNat_of_zero_le (show 0 ≤ i by omega)
  obtain ⟨N, rfl⟩ := Int.eq_ofNat_of_zero_le (show 0 ≤ n by omega)
  have hF : checkF rt leaf j N ps = ((ps.length == (cutsAll onep j N).1.length) && foldF (fun c => decide (j < c.2.1)) leaf (cutsAll onep j N).1 ps == rt) := by
    unfold checkF; rw [if_neg (by omega)]; rfl
  have HF := Lib.hid hF
  clear hF
  have hj : j < N := by omega
  have hb := Boxed.new w 3 (.int .i64 j)
  have hx := Ext.alloc' w (.cells #[.int .i64 j] 3)
  have C := Lib.hid (fun w' => cuts_walk 48 #[] onep j N w' hj (by omega) (enters_of Tryz.func48 (by kernel_rfl) rfl) (onep_ok j)
    (fun lo hi w1 h1 h2 h3 _ => one_walk lo hi w1 (by omega) (by omega)))
  have hlen := cutsF_len onep j N 0 N
  have HL := Lib.hid (show (cutsAll onep j N).1.length ≤ N from hlen)
  clear hlen
  by_cases hlen : ps.length = (cutsAll onep j N).1.length
  · have hl' : ((ps.length : Int) == (cutsAll onep j N).1.length) = true := beq_iff_eq.2 (by omega)
    have hl2 : (ps.length == (cutsAll onep j N).1.length) = true := beq_iff_eq.2 hlen
    have HLE := Lib.hid hlen
    clear hlen
    go_enter Tryz.func20, Tryz.ntmps20
    go_wp2_with fail
    refine (C.out _).mono ?_
    rintro e w2 ⟨cv, rfl, hcv, hx2⟩
    obtain ⟨ca, cc, rfl⟩ := hcv.len
    have hsl := (S.ext hx).ext hx2
    have hcl := hcv.sl (by simp [encCut]) (by have := HL.out; omega)
    go_wp2_with fail
    refine (fold_walk 49 #[.pointer (some ⟨w.heap.size, 0, none⟩)] (fun c => decide (j < c.2.1)) leaf _ _ (cutsAll onep j N).1 ps w2 hsl hcl HLE.out (enters_of Tryz.func49 (by kernel_rfl) rfl)
      (fun c _ w3 hx3 => (left_walk j w.heap.size c w3 ((hb.ext hx2).ext hx3)).mono fun e w4 h => ⟨by rw [h.1]; simp, h.2⟩)).mono ?_
    rintro e w3 ⟨rfl, hx3⟩
    go_wp2
    go_ret
    exact ⟨by rw [HF.out, hl2]; simp, (hx.trans hx2).trans hx3⟩
  · have hl' : ((ps.length : Int) == (cutsAll onep j N).1.length) = false := beq_eq_false_iff_ne.2 (by omega)
    have hl2 : (ps.length == (cutsAll onep j N).1.length) = false := beq_eq_false_iff_ne.2 hlen
    clear hlen
    go_enter Tryz.func20, Tryz.ntmps20
    go_wp2_with fail
    refine (C.out _).mono ?_
    rintro e w2 ⟨cv, rfl, hcv, hx2⟩
    obtain ⟨ca, cc, rfl⟩ := hcv.len
    go_wp2
    go_ret
    exact ⟨by rw [HF.out, hl2]; simp, hx.trans hx2⟩
end Go.Proofs.YtkckingkocacjaaGreatDoor

/-
  Walks: report.Grow, Follows.
-/
namespace Go.Proofs.YtkckingkocacjaaGreatDoor
open Go.RowKit Go.Sx Go.Sx.Rep
attribute [local go_sem] Oper.semAt_some wide_fn wide_depth

theorem ends_facts (m n : Nat) (h1 : 1 ≤ m) (h2 : m ≤ n) : (∀ c ∈ (endsAll m n).1, cutOk n c) ∧ (endsAll m n).2.1 < (endsAll m n).2.2 ∧ (endsAll m n).2.2 = m ∧ (endsAll m n).1.length ≤ n := by
  have h := cutsF_ok (endp m) (m - 1) (endp_ok m h1) n n 0 n (by omega) (by omega) (Nat.le_refl _) (by omega)
  have hl := cutsF_len (endp m) (m - 1) n 0 n
  obtain ⟨h3, h4, h5, h6, h7, h8⟩ := h
  simp only [endp, decide_eq_true_eq] at h7
  exact ⟨h3, by show (cutsF _ _ _ _ _).2.1 < (cutsF _ _ _ _ _).2.2; omega, h7, hl⟩

set_option maxRecDepth 100000 in
set_option maxHeartbeats 1000000 in
theorem grow_walk (v : Value) (xs : List Int) (i : Int) (w : World) (S : Sl w 1 encU v xs) :
    Calls Tryz.prog 17 #[v, .int .i64 i] w fun e w' => ∃ p, e = .returned (.tuple #[p, .int .i64 (growErr xs i)]) ∧ OwnR w' w.heap.size 68 1 encU p (growL xs i) ∧ Ext w w' := by
  obtain ⟨a?, cap, rfl, h1, h2, h3⟩ := S.len
  clear h1 h2
  have R := Lib.hid (reproot_walk _ xs w S)
  by_cases he : rootErr xs = 0
  · have hn := rootErr_zero.1 he
    obtain ⟨hn0, hn1⟩ := hn
    by_cases hi : i < 1 ∨ (xs.length : Int) < i
    · have hpe : growErr xs i = 1 := by simp only [growErr, he, if_true, if_pos hi]
      have HP := Lib.hid hpe
      clear hpe
      by_cases hi1 : i < 1
      · clear hi
        go_enter Tryz.func17, Tryz.ntmps17
        go_wp2_with (go_at_call 16; go_must (refine R.out.mono ?_); rintro e w1 ⟨rfl, hx⟩)
        go_ret2
        refine ⟨_, by rw [HP.out]; rfl, ?_, hx⟩
        rw [growL, if_neg (by rw [HP.out]; decide)]; exact OwnR.nil
      · have hi2 : (xs.length : Int) < i := by omega
        clear hi
        go_enter Tryz.func17, Tryz.ntmps17
        go_wp2_with (go_at_call 16; go_must (refine R.out.mono ?_); rintro e w1 ⟨rfl, hx⟩)
        go_ret2
        refine ⟨_, by rw [HP.out]; rfl, ?_, hx⟩
        rw [growL, if_neg (by rw [HP.out]; decide)]; exact OwnR.nil
    · obtain ⟨m, rfl⟩ := Int.eq_ofNat_of_zero_le (show 0 ≤ i by omega)
      have hm1 : 1 ≤ m := by omega
      have hm2 : m ≤ xs.length := by omega
      have hpe : growErr xs m = 0 := by simp only [growErr, he, if_true, if_neg hi]
      have HP := Lib.hid hpe
      have hj' : ¬ (m : Int) < 1 := by omega
      have hj2 : ¬ (xs.length : Int) < m := by omega
      have hmi : (m : Int) - 1 = ((m - 1 : Nat) : Int) := by omega
      clear hpe hi
      have C := Lib.hid (fun w' => ends_walk m xs.length w' hm1 hm2 (by omega))
      have hF := Lib.hid (ends_facts m xs.length hm1 hm2)
      have hlt := hF.out.2.1
      have hmm := hF.out.2.2.1
      have hL := hF.out.2.2.2
      by_cases hlo : 0 < (endsAll m xs.length).2.1
      · have hlo' : (0 : Int) < (endsAll m xs.length).2.1 := by omega
        have hG := Lib.hid (show growL xs m = [root (seg xs (endsAll m xs.length).2.1 (endsAll m xs.length).2.2)] ++ besF xs (m - 1) (endsAll m xs.length).1 by
          rw [growL, if_pos HP.out]; show growG xs m = _; rw [growG, if_pos hlo])
        have HMM := Lib.hid hmm
        clear hmm
        go_enter Tryz.func17, Tryz.ntmps17
        go_wp2_with fail
        refine R.out.mono ?_
        rintro e w1 ⟨rfl, hx⟩
        go_wp2_with fail
        refine (C.out w1).mono ?_
        rintro e w2 ⟨cv, rfl, hcv, hx2⟩
        have hxx := hx.trans hx2
        go_wp2_with fail
        refine (top_walk xs _ (endsAll m xs.length).2.1 (endsAll m xs.length).2.2 _ w2 (Nat.le_refl _) hlt (by rw [HMM.out]; exact hm2) (S.ext hxx)).mono ?_
        rintro e w3 ⟨rfl, hx3⟩
        have hown0 : OwnR w3 w3.heap.size 68 1 encU (.slice none 0 0) ([] : List Int) := OwnR.nil
        go_wp2_with (at_builtin; go_must (refine wpList_own1 et_u64 rfl _ _ rfl hown0 rfl (root (seg xs (endsAll m xs.length).2.1 (endsAll m xs.length).2.2)) rfl rfl rfl (by simp [encU, Value.oneCell']) (by simp) (Nat.le_refl _) ?_; intro v' w5 hown5 hb5 happ _))
        have hsl := ((S.slB (by omega)).below (hxx.trans hx3) (Nat.le_refl _)).mono (hxx.trans hx3).size
        have hsl5 := hsl.below hb5 (Nat.le_refl _)
        have hcl := ((((hcv.sl (by simp [encCut]) (by omega)).slB (by omega)).below hx3 (Nat.le_refl _)).mono hx3.size).below hb5 (Nat.le_refl _)
        refine (beside_walk w3.heap.size _ _ _ _ xs (m - 1) _ w5 hb5.size hown5 hsl5 hcl hF.out.1 (by simp; omega)).mono ?_
        rintro e w6 ⟨pv, rfl, hpv, hx6⟩
        go_wp2
        go_ret2
        refine ⟨pv, by rw [HP.out]; rfl, ?_, Below.trans (hxx.trans hx3) ((hb5.trans hx6).mono (hxx.trans hx3).size)⟩
        rw [hG.out]
        exact (hpv.mono (hxx.trans hx3).size)
      · have hlo' : ¬ (0 : Int) < (endsAll m xs.length).2.1 := by omega
        have hG := Lib.hid (show growL xs m = besF xs (m - 1) (endsAll m xs.length).1 by
          rw [growL, if_pos HP.out]; show growG xs m = _; rw [growG, if_neg hlo]; rfl)
        clear hmm
        go_enter Tryz.func17, Tryz.ntmps17
        go_wp2_with fail
        refine R.out.mono ?_
        rintro e w1 ⟨rfl, hx⟩
        go_wp2_with fail
        refine (C.out w1).mono ?_
        rintro e w2 ⟨cv, rfl, hcv, hx2⟩
        have hxx := hx.trans hx2
        have hsl := ((S.slB (by omega)).below hxx (Nat.le_refl _)).mono hxx.size
        have hcl := (hcv.sl (by simp [encCut]) (by omega)).slB (by omega)
        go_wp2_with fail
        refine (beside_walk w2.heap.size _ _ _ [] xs (m - 1) _ w2 (Nat.le_refl _) OwnR.nil hsl hcl hF.out.1 (by simp; omega)).mono ?_
        rintro e w3 ⟨pv, rfl, hpv, hx3⟩
        go_wp2
        go_ret2
        refine ⟨pv, by rw [HP.out]; rfl, ?_, hxx.trans hx3⟩
        rw [hG.out]
        simpa using hpv.mono hxx.size
  · have hpe : growErr xs i = rootErr xs := by simp only [growErr, if_neg he]
    have hne : (rootErr xs == 0) = false := by simp [he]
    have hne2 : (rootErr xs != 0) = true := by simp [he]
    have HP := Lib.hid hpe
    have HE := Lib.hid he
    clear hpe he
    go_enter Tryz.func17, Tryz.ntmps17
    go_wp2_with (go_at_call 16; go_must (refine R.out.mono ?_); rintro e w1 ⟨rfl, hx⟩)
    go_ret2
    refine ⟨_, by rw [HP.out]; rfl, ?_, hx⟩
    rw [growL, if_neg (by rw [HP.out]; exact HE.out)]; exact OwnR.nil
end Go.Proofs.YtkckingkocacjaaGreatDoor

/-
  Walks: report.Follows.
-/
namespace Go.Proofs.YtkckingkocacjaaGreatDoor
open Go.RowKit Go.Sx Go.Sx.Rep
attribute [local go_sem] Oper.semAt_some wide_fn wide_depth

set_option maxRecDepth 100000 in
set_option maxHeartbeats 4000000 in
theorem follows_walk (old rt i n : Int) (pv : Value) (ps : List Int) (w : World) (P0 : Sl w 1 encU pv ps) :
    Calls Tryz.prog 18 #[.int .u64 old, .int .u64 rt, .int .i64 i, .int .i64 n, pv] w fun e w' => e = .returned (.bool (followsF old rt i n ps)) ∧ Ext w w' := by
  obtain ⟨a?, cap, rfl, h1, h2, h3⟩ := P0.len
  refine (callsIn_wide (n := 0)).1 ?_
  refine callsIn_of_wp_marks Tryz.func18 rfl trivial ?_ rfl
  simp only [Tryz.ntmps18, List.size_toArray, List.length_cons, List.length_nil, Nat.reduceAdd, Nat.reduceSub, Array.replicate_succ, Array.replicate_zero, List.push_toArray, List.append_toArray, List.nil_append, List.cons_append]
  have hx0 : Ext w ((w.alloc (.cells #[.int .i64 i] 3)).alloc (.cells #[.slice a? ps.length cap] 67)) := ((Ext.refl w).alloc _).alloc _
  have b7 := (Boxed.new w 3 (.int .i64 i)).alloc (.cells #[.slice a? ps.length cap] 67)
  have b9 := Boxed.new (w.alloc (.cells #[.int .i64 i] 3)) 67 (.slice a? ps.length cap)
  have hc7 := b7.cell
  have hc9 := b9.cell
  by_cases c1 : n < 1
  · have hF : followsF old rt i n ps = false := if_pos (.inl c1)
    rw [hF]; clear hF h1 h2
    gi_wp2
    exact ⟨_, results_tmp rfl _ _ _, rfl, hx0⟩
  by_cases c2 : 1024 < n
  · have hF : followsF old rt i n ps = false := if_pos (.inr (.inl c2))
    rw [hF]; clear hF h1 h2
    gi_wp2
    exact ⟨_, results_tmp rfl _ _ _, rfl, hx0⟩
  by_cases c3 : i < 1
  · have hF : followsF old rt i n ps = false := if_pos (.inr (.inr (.inl c3)))
    rw [hF]; clear hF h1 h2
    gi_wp2
    exact ⟨_, results_tmp rfl _ _ _, rfl, hx0⟩
  by_cases c4 : n < i
  · have hF : followsF old rt i n ps = false := if_pos (.inr (.inr (.inr c4)))
    rw [hF]; clear hF h1 h2
    gi_wp2
    exact ⟨_, results_tmp rfl _ _ _, rfl, hx0⟩
  obtain ⟨m, rfl⟩ := Int.eq_ofNat_of_zero_le (show 0 ≤ i by omega)
  obtain ⟨N, rfl⟩ := Int.eq_ofNat_of_zero_le (show 0 ≤ n by omega)
  have hm1 : 1 ≤ m := by omega
  have hm2 : m ≤ N := by omega
  have C := Lib.hid (fun w' => ends_walk m N w' hm1 hm2 (by omega))
  have hEF := Lib.hid (ends_facts m N hm1 hm2)
  have hF : followsF old rt m N ps = (if 0 < (endsAll m N).2.1 ∧ ps.length = 0 then false else
      if (if 0 < (endsAll m N).2.1 then ps.tail else ps).length ≠ (endsAll m N).1.length then false else
      (oldF m (if 0 < (endsAll m N).2.1 then ps.headD 0 else old) (endsAll m N).1 (if 0 < (endsAll m N).2.1 then ps.tail else ps) == old) &&
      (foldF (fun c => decide (m ≤ c.2.1)) (if 0 < (endsAll m N).2.1 then ps.headD 0 else old) (endsAll m N).1 (if 0 < (endsAll m N).2.1 then ps.tail else ps) == rt)) := by
    unfold followsF; rw [if_neg (by omega)]; rfl
  have HF := Lib.hid hF
  clear hF
  obtain ⟨S, hS⟩ : ∃ S : Nat, S = w.heap.size := ⟨_, rfl⟩
  gi_wp2_with fail
  refine (callsIn_wide.2 (C.out _)).mono ?_
  rintro e w1 ⟨cv, rfl, hcv, hx1⟩
  obtain ⟨ca, cc, rfl⟩ := hcv.len
  have hb7 := b7.ext hx1
  have hb9 := b9.ext hx1
  simp only [World.size_alloc, ← hS] at hb7 hb9
  simp only [← hS]
  have hbwx : Ext w w1 := hx0.trans hx1
  have hP1 := P0.ext hbwx
  have hcl := hcv.sl (by simp [encCut]) (by have := hEF.out.2.2.2; omega)
  have hSr : S + 2 ≤ w1.heap.size := by have := hx1.size; simp at this; omega
  have hbS : Below S w w1 := by rw [hS]; exact hbwx
  have HSZ := Lib.hid hS
  clear hc7 hc9 hx0 hS b7 b9 hbwx
  by_cases hlo : 0 < (endsAll m N).2.1
  · have hlo' : (0 : Int) < (endsAll m N).2.1 := by omega
    by_cases hps : ps.length = 0
    · have hps1 : ((ps.length : Int) == 0) = true := beq_iff_eq.2 (by omega)
      have HFF := Lib.hid (show followsF old rt m N ps = false by rw [HF.out, if_pos ⟨hlo, hps⟩])
      have hl9 := hb9.cell
      clear hps h1 h2
      gi_wp2
      exact ⟨_, results_tmp rfl _ _ _, by rw [HFF.out]; rfl, Ext.of_below (by rw [← HSZ.out]; exact hbS)⟩
    · have hps1 : ((ps.length : Int) == 0) = false := beq_eq_false_iff_ne.2 (by omega)
      obtain ⟨p0, pr, hpp⟩ : ∃ p0 pr, ps = p0 :: pr := by cases ps with | nil => simp at hps | cons a b => exact ⟨a, b, rfl⟩
      have hprl : pr.length + 1 = ps.length := by rw [hpp]; rfl
      have HG := Lib.hid (show followsF old rt m N ps = (if pr.length ≠ (endsAll m N).1.length then false else (oldF m p0 (endsAll m N).1 pr == old) && (foldF (fun c => decide (m ≤ c.2.1)) p0 (endsAll m N).1 pr == rt)) by
        rw [HF.out]; simp only [if_pos hlo]; rw [if_neg (by omega), hpp]; rfl)
      obtain ⟨b0, o0, rfl, hp0⟩ := hP1.at1 0 (by omega)
      have hp0' : w1.cell? ⟨b0, o0, none⟩ = some (.int .u64 p0) := by simpa [encU, hpp] using hp0
      have htail : ∀ c', pr.length ≤ c' → c' ≤ maxLen → Sl w 1 encU (.slice (some ⟨b0, o0 + 1, none⟩) pr.length c') pr := fun c' h5 h6 => ⟨_, c', rfl, h5, h6, by omega, fun i hi => ⟨_, rfl, fun j hj => by
        obtain rfl : j = 0 := by omega
        obtain ⟨b1, o1, he, hq⟩ := P0.at1 (i + 1) (by omega)
        cases he
        rw [Addr.add_lit]
        have : o0 + 1 + (i * 1 + 0) = o0 + (i + 1) := by omega
        rw [this, hq]
        simp [hpp]⟩⟩
      have HT := Lib.hid htail
      have HPP := Lib.hid hpp
      have HPS := Lib.hid hps
      clear htail hpp hps hp0
      have hl9 := hb9.cell
      have gl9 := ext_cells hl9
      have gp0 := ext_cells hp0'
      have hpos : (0 : Int) < ps.length := by omega
      have hpos' : 0 < ps.length := by omega
      have hge : (1 : Int) ≤ ps.length := by omega
      have hge' : 1 ≤ ps.length := by omega
      have hpr2 : ps.length - 1 = pr.length := by omega
      have HPR := Lib.hid hprl
      clear hprl
      by_cases hcap : cap = 1
      · have hpr0 : pr = [] := by have := HPR.out; cases pr with | nil => rfl | cons a b => simp at this; omega
        subst hcap
        have HP0 := Lib.hid hpr0
        clear hpr0 h1
        gi_wp2
        refine wpIn_wide.2 ?_
        refine wp_region_ord [(0,true),(1,true),(2,true),(3,true),(4,true),(5,true)] 6 Ext (Ext w1) wide (by kernel_rfl) (stable_ext _) (Ext.drawn _ _) ?_
        iterate 6 (apply wpOrd_det rfl rfl; (intro w' hw'; unfold opR; go_simp; exact ⟨Ext.refl _, rfl⟩); (simp only [List.getElem_toArray, List.getElem_cons_succ, List.getElem_cons_zero, Act.put, List.setIfInBounds_toArray, List.set_cons_succ, List.set_cons_zero]; rfl))
        refine wpOrd_nil (l := [_]) rfl ?_
        intro w4 hw4
        have hf9 := (hb9.ext hw4).frozen
        have hf9c := (hb9.ext hw4).cell
        go_wp2
        have hb7r := (hb7.ext hw4).set' (p := ⟨S + 1, 0, none⟩) (show S ≠ S + 1 by omega) (.slice (some ⟨b0, o0, none⟩) pr.length 0)
        have hb9r := (hb9.ext hw4).set (.slice (some ⟨b0, o0, none⟩) pr.length 0)
        have hcvr := ((hcv.ext hw4).setCell (p := ⟨S + 1, 0, none⟩) (fun e => by have := (World.ownsRow.lt hcv _ e).1; simp only [World.size_alloc] at this; have := HSZ.out; omega) (.slice (some ⟨b0, o0, none⟩) pr.length 0)).sl (by simp [encCut]) (by have := hEF.out.2.2.2; omega)
        have hbSr := (hbS.trans (hw4.below (by omega))).setCell (p := ⟨S + 1, 0, none⟩) (show S ≤ S + 1 by omega) (.slice (some ⟨b0, o0, none⟩) pr.length 0)
        have hszr : S + 2 ≤ (w4.setCell ⟨S + 1, 0, none⟩ (.slice (some ⟨b0, o0, none⟩) pr.length 0)).heap.size := by have := hw4.size; simp; omega
        have htvr := ((Sl.slB ((⟨_, 0, rfl, by rw [HP0.out]; simp, by simp [maxLen], by rw [HP0.out]; simp, fun i hi => absurd hi (by rw [HP0.out]; exact Nat.not_lt_zero _)⟩ : Sl w 1 encU (.slice (some ⟨b0, o0, none⟩) pr.length 0) pr)) (by omega)).below (B' := w.heap.size) (by rw [← HSZ.out]; exact hbSr) (Nat.le_refl _)).1
        obtain ⟨w5, hw5⟩ : ∃ w5, w4.setCell ⟨S + 1, 0, none⟩ (.slice (some ⟨b0, o0, none⟩) pr.length 0) = w5 := ⟨_, rfl⟩
        rw [hw5] at hb7r hb9r hcvr hbSr hszr htvr ⊢
        clear hw5 hl9 gl9 gp0 hpr2
        by_cases hle : (pr).length = (endsAll m N).1.length
        · have hle1 : ((((pr).length : Nat) : Int) != ((endsAll m N).1.length : Nat)) = false := by rw [bne_eq_false_iff_eq]; omega
          have HLE := Lib.hid hle
          have hHF := Lib.hid (show followsF old rt m N ps = ((oldF m p0 (endsAll m N).1 pr == old) && (foldF (fun c => decide (m ≤ c.2.1)) p0 (endsAll m N).1 pr == rt)) by
            rw [HG.out]; rw [if_neg (by omega)])
          have hl9 := hb9r.cell
          clear hle
          gi_wp2_with (gi_at_call 43; go_must (refine (callsIn_wide.2 (back_walk ca (endsAll m N).1.length cc _ rfl _)).mono ?_; rintro e w' ⟨rfl, rfl⟩))
          obtain ⟨T, hT⟩ : ∃ T : Nat, T = (w5).heap.size := ⟨_, rfl⟩
          obtain ⟨v1, hv1⟩ : ∃ v1, (w5).alloc (.cells #[.int .u64 p0] 68) = v1 := ⟨_, rfl⟩
          obtain ⟨v2, hv2⟩ : ∃ v2, v1.alloc (.cells #[.int .i64 0] 3) = v2 := ⟨_, rfl⟩
          obtain ⟨v3, hv3⟩ : ∃ v3, v2.alloc (.cells #[.slice ca (endsAll m N).1.length cc] 124) = v3 := ⟨_, rfl⟩
          have x1 : Ext (w5) v1 := by rw [← hv1]; exact Ext.alloc' _ _
          have x2 : Ext v1 v2 := by rw [← hv2]; exact Ext.alloc' _ _
          have x3 : Ext v2 v3 := by rw [← hv3]; exact Ext.alloc' _ _
          have z1 : v1.heap.size = T + 1 := by rw [← hv1, hT]; simp
          have z2 : v2.heap.size = T + 2 := by rw [← hv2]; simp; omega
          have z3 : v3.heap.size = T + 3 := by rw [← hv3]; simp; omega
          have q0 : Boxed v1 T 68 (.int .u64 p0) := by rw [← hv1, hT]; exact Boxed.new _ _ _
          have q1 : Boxed v2 (T + 1) 3 (.int .i64 0) := by rw [← hv2, ← z1]; exact Boxed.new _ _ _
          have q2 : Boxed v3 (T + 2) 124 (.slice ca (endsAll m N).1.length cc) := by rw [← hv3, ← z2]; exact Boxed.new _ _ _
          replace q0 := (q0.ext x2).ext x3
          replace q1 := q1.ext x3
          have hx := (x1.trans x2).trans x3
          rw [hv1, hv2, hv3]
          have hTS : S + 2 ≤ T := by omega
          try simp only [← hT]
          clear hv1 hv2 hv3 x1 x2 x3 z1 z2 v1 v2
          have hTw : (w5).heap.size = T := hT.symm
          clear hT
          have sp0 := (((htvr).slB (by omega)).mono (Nat.le_of_eq hTw)).below hx (by omega)
          have sc0 := (((hcvr).slB (by omega)).mono (Nat.le_of_eq hTw)).below hx (by omega)
          refine wpIn_range (gf := 82) (lb := #[.pointer (some ⟨T + 2, 0, none⟩)]) rfl (enters_of Tryz.func82 (by kernel_rfl) rfl) (back_iter (T + 2) (.slice ca (endsAll m N).1.length cc) (endsAll m N).1) (fun _ => rfl)
            (fun k W => Boxed W S 3 (.int .i64 m) ∧ Boxed W (S + 1) 67 (.slice (some ⟨b0, o0, none⟩) pr.length 0) ∧ Boxed W T 68 (.int .u64 (oldK m p0 (endsAll m N).1 pr k)) ∧ Boxed W (T + 1) 3 (.int .i64 k) ∧ Boxed W (T + 2) 124 (.slice ca (endsAll m N).1.length cc) ∧ SlB W T 1 encU (.slice (some ⟨b0, o0, none⟩) pr.length 0) pr ∧ SlB W T 3 encCut (.slice ca (endsAll m N).1.length cc) (endsAll m N).1 ∧ Below S w W)
            (fun _ _ => False)
            (fun k => .and .boxed (.and .boxed (.and .boxed (.and .boxed (.and .boxed (.and .slB (.and .slB (.below (by have := HSZ.out; omega) (by omega)))))))))
            (fun c => .false) (fun k W h => ⟨h.2.2.2.2.1.cell, h.2.2.2.2.2.2.1.1⟩)
            ⟨hb7r.ext hx, hb9r.ext hx, q0, q1, q2, sp0, sc0, (hbSr).trans (hx.below (by omega))⟩ ?round ?done ?stop
          case stop => intro D c W _ h; exact h.elim
          case done =>
            rintro D W hD ⟨k7, k9, kd, kk, kc, sp, sc, hbw⟩ hdef
            rw [backL_len, oldK_all m p0 (endsAll m N).1 pr (by rw [HLE.out]; exact Nat.le_refl _)] at kd
            have hcd := kd.cell
            have hc9 := k9.cell
            have hxw : Ext w W := Ext.of_below (by rw [← HSZ.out]; exact hbw)
            by_cases ho : oldF m p0 (endsAll m N).1 pr = old
            · have ho1 : (oldF m p0 (endsAll m N).1 pr == old) = true := beq_iff_eq.2 ho
              have HO1 := Lib.hid ho1
              clear ho
              gi_wp2_with fail
              refine (callsIn_wide.2 (fold_walk 46 #[.pointer (some ⟨S, 0, none⟩)] (fun c => decide (m ≤ c.2.1)) p0 _ _ (endsAll m N).1 pr W sp.1 sc.1 HLE.out (enters_of Tryz.func46 (by kernel_rfl) rfl)
                (fun c _ w3 hx3 => (before_walk m S c w3 (k7.ext hx3)).mono fun e w4 h => ⟨by rw [h.1]; simp, h.2⟩))).mono ?_
              rintro e w3 ⟨rfl, hx3⟩
              have hdef3 : w3.heap[D]? = some (.deferred (some [])) := (hx3.block D (Array.getElem?_eq_some_iff.1 hdef).1).trans hdef
              gi_wp2
              refine bodyPostM_ret rfl hdef3 (fun W' _ => results_tmp rfl _ _ _) (fun W' hs => ⟨?_, Below.trans (hxw.trans hx3) (hs.below (by have := HSZ.out; omega))⟩)
              rw [hHF.out, HO1.out]; rfl
            · have ho1 : (oldF m p0 (endsAll m N).1 pr == old) = false := beq_eq_false_iff_ne.2 ho
              have HO1 := Lib.hid ho1
              clear ho
              gi_wp2
              refine bodyPostM_ret rfl hdef (fun W' _ => results_tmp rfl _ _ _) (fun W' hs => ⟨?_, Below.trans hxw (hs.below (by have := HSZ.out; omega))⟩)
              rw [hHF.out, HO1.out]; rfl
          case round =>
            rintro lr k W hk hIk hle hlt
            rw [backL_len] at hk
            obtain ⟨m2, hm⟩ : ∃ m2 : Nat, m2 = (endsAll m N).1.length - 1 - k := ⟨_, rfl⟩
            have hml : m2 < (endsAll m N).1.length := by omega
            have hkp : k < (pr).length := by rw [HLE.out]; exact hk
            have hkb : k ≤ 1024 := by have := hEF.out.2.2.2; omega
            rw [backL_get' (endsAll m N).1 k m2 hm hml]
            simp only [encBack]
            obtain ⟨c, hc0⟩ : ∃ c, c = (endsAll m N).1[m2] := ⟨_, rfl⟩
            have hbt := oldK_succ m p0 (endsAll m N).1 pr k m2 hm hk hml hkp
            rw [← hc0] at hbt ⊢
            obtain ⟨c0, c1, c2⟩ := c
            have HK := Lib.hid hbt
            clear hbt hm hc0
            gi_wp2
            refine ⟨KeepsOthers.alloc _ _, fun W2 hs2 => ?_⟩
            obtain ⟨k7, k9, kd, kk, kc, sp, sc, hbw⟩ := hIk
            have hx1 := Ext.alloc' W (.cells #[.int .i64 c0, .int .i64 c1, .int .i64 c2] 132)
            have e1 := (hs2.cell _).trans (alloc_cell W #[.int .i64 c0, .int .i64 c1, .int .i64 c2] 132 1 (.int .i64 c1) rfl)
            replace k7 := hs2.boxed (k7.ext hx1)
            replace k9 := hs2.boxed (k9.ext hx1)
            replace kd := hs2.boxed (kd.ext hx1)
            replace kk := hs2.boxed (kk.ext hx1)
            replace kc := hs2.boxed (kc.ext hx1)
            replace sp : SlB W2 T 1 encU _ _ := ⟨hs2.sl (sp.1.ext hx1), sp.2⟩
            replace sc : SlB W2 T 3 encCut _ _ := ⟨hs2.sl (sc.1.ext hx1), sc.2⟩
            have hbW : Below S w W2 := by
              have h8 : S ≤ W.heap.size := by have := hbw.size; have := HSZ.out; omega
              exact (hbw.trans (hx1.below h8)).trans (hs2.below (by omega))
            have hW2T : T ≤ W2.heap.size := by have := hs2.size; simp at this; omega
            obtain ⟨b0, o0, htva, hpk⟩ := sp.1.at1 k hkp
            cases htva
            simp only [encU, List.getD_cons_zero] at hpk
            have g7 := k7.cell
            have g9 := ext_cells k9.cell
            have gd := ext_cells kd.cell
            have gk := ext_cells kk.cell
            have gp := ext_cells hpk
            have gkc := kk.cell
            have gkf := kk.frozen
            clear hx1 hbw hpk
            by_cases hmc : c1 < m
            · have hmc' : (c1 : Int) < m := by omega
              have HQ := Lib.hid (show oldK m p0 (endsAll m N).1 pr (k + 1) = node ((pr)[k]) (oldK m p0 (endsAll m N).1 pr k) by rw [HK.out]; exact if_pos hmc)
              clear hmc
              gi_wp2
              refine wpIn_region_ord [(0,true),(1,true),(2,true),(3,true),(4,true),(5,true)] 6 Ext (Ext W2) wide (by kernel_rfl) (by rintro ⟨_, _, h⟩; exact h) (stable_ext _) (Ext.drawn _ _) ?_
              iterate 5 (apply wpOrd_det rfl rfl; (intro w' hw'; unfold opR; go_simp; exact ⟨Ext.refl _, rfl⟩); (simp only [List.getElem_toArray, List.getElem_cons_succ, List.getElem_cons_zero, Act.put, List.setIfInBounds_toArray, List.set_cons_succ, List.set_cons_zero]; rfl))
              (apply wpOrd_det rfl rfl; (intro w' hw'; refine opR_call rfl (Go.Proofs.enters_of Tryz.func44 (by kernel_rfl) rfl) (by simp only [List.map_toArray, List.map_cons, List.map_nil, Act.eval, Array.getD_eq_getD_getElem?, List.getElem?_toArray, List.getElem?_cons_succ, List.getElem?_cons_zero, Option.getD_some]; rfl) ?_; refine (node_walk _ _ w').mono ?_; rintro e w4 ⟨rfl, hx⟩; exact ⟨_, rfl, hx, rfl⟩); (simp only [List.getElem_toArray, List.getElem_cons_succ, List.getElem_cons_zero, Act.put, List.setIfInBounds_toArray, List.set_cons_succ, List.set_cons_zero]; rfl))
              refine wpOrd_nil (l := [_]) rfl ?_
              intro w4 hw4
              have k0 := (kd.ext hw4).cell
              have k0f := (kd.ext hw4).frozen
              have k3 := ((kk.ext hw4).set' (p := ⟨T, 0, none⟩) (by simp) (.int .u64 (node ((pr)[k]) (oldK m p0 (endsAll m N).1 pr k)))).cell
              have k3f := ((kk.ext hw4).set' (p := ⟨T, 0, none⟩) (by simp) (.int .u64 (node ((pr)[k]) (oldK m p0 (endsAll m N).1 pr k)))).frozen
              go_wp2
              gi_wp2
              refine ⟨((KeepsOthers.ext hw4).trans (KeepsOthers.setCell _ _ _)).trans (KeepsOthers.setCell _ _ _), ?_, ?_, ?_, ?_, ?_, ?_, ?_, ?_⟩
              · exact ((k7.ext hw4).set' (show S ≠ T by omega) _).set' (p := ⟨T + 1, 0, none⟩) (show S ≠ T + 1 by omega) _
              · exact ((k9.ext hw4).set' (show S + 1 ≠ T by omega) _).set' (p := ⟨T + 1, 0, none⟩) (show S + 1 ≠ T + 1 by omega) _
              · have := ((kd.ext hw4).set (.int .u64 (node ((pr)[k]) (oldK m p0 (endsAll m N).1 pr k)))).set' (p := ⟨T + 1, 0, none⟩) (by simp) (.int .i64 (k + 1))
                rw [HQ.out]; exact this
              · have := ((kk.ext hw4).set' (p := ⟨T, 0, none⟩) (by simp) (.int .u64 (node ((pr)[k]) (oldK m p0 (endsAll m N).1 pr k)))).set (.int .i64 (k + 1))
                exact this
              · exact ((kc.ext hw4).set' (by simp) _).set' (by simp) _
              · exact ((sp.below hw4 hW2T).below ((Below.refl T _).setCell (Nat.le_refl _) _) (Nat.le_refl _)).below ((Below.refl T _).setCell (p := ⟨T + 1, 0, none⟩) (show T ≤ T + 1 by omega) _) (Nat.le_refl _)
              · exact ((sc.below hw4 hW2T).below ((Below.refl T _).setCell (Nat.le_refl _) _) (Nat.le_refl _)).below ((Below.refl T _).setCell (p := ⟨T + 1, 0, none⟩) (show T ≤ T + 1 by omega) _) (Nat.le_refl _)
              · exact ((hbW.trans (hw4.below (by omega))).setCell (show S ≤ T by omega) _).setCell (p := ⟨T + 1, 0, none⟩) (show S ≤ T + 1 by omega) _
            · have hmc' : ¬ (c1 : Int) < m := by omega
              have HQ := Lib.hid (show oldK m p0 (endsAll m N).1 pr (k + 1) = oldK m p0 (endsAll m N).1 pr k by rw [HK.out]; exact if_neg hmc)
              clear hmc
              gi_wp2
              refine ⟨KeepsOthers.setCell _ _ _, ?_, ?_, ?_, ?_, ?_, ?_, ?_, ?_⟩
              · exact k7.set' (p := ⟨T + 1, 0, none⟩) (show S ≠ T + 1 by omega) _
              · exact k9.set' (p := ⟨T + 1, 0, none⟩) (show S + 1 ≠ T + 1 by omega) _
              · rw [HQ.out]; exact kd.set' (p := ⟨T + 1, 0, none⟩) (show T ≠ T + 1 by omega) _
              · exact kk.set (.int .i64 (k + 1))
              · exact kc.set' (p := ⟨T + 1, 0, none⟩) (show T + 2 ≠ T + 1 by omega) _
              · exact sp.below ((Below.refl T _).setCell (p := ⟨T + 1, 0, none⟩) (show T ≤ T + 1 by omega) _) (Nat.le_refl _)
              · exact sc.below ((Below.refl T _).setCell (p := ⟨T + 1, 0, none⟩) (show T ≤ T + 1 by omega) _) (Nat.le_refl _)
              · exact hbW.setCell (p := ⟨T + 1, 0, none⟩) (show S ≤ T + 1 by omega) _
        · have hle1 : ((((pr).length : Nat) : Int) != ((endsAll m N).1.length : Nat)) = true := by rw [bne_iff_ne]; omega
          have hF := HG.out
          rw [if_pos hle] at hF
          have HFF := Lib.hid hF
          clear hF hle
          have hl9 := hb9r.cell
          gi_wp2
          exact ⟨_, results_tmp rfl _ _ _, by rw [HFF.out]; rfl, Ext.of_below (by rw [← HSZ.out]; exact hbSr)⟩
      · have hcap' : ¬ cap = 1 := hcap
        have hcap2 : 1 ≤ cap := by omega
        gi_wp2
        refine wpIn_wide.2 ?_
        refine wp_region_ord [(0,true),(1,true),(2,true),(3,true),(4,true),(5,true)] 6 Ext (Ext w1) wide (by kernel_rfl) (stable_ext _) (Ext.drawn _ _) ?_
        iterate 6 (apply wpOrd_det rfl rfl; (intro w' hw'; unfold opR; go_simp; exact ⟨Ext.refl _, rfl⟩); (simp only [List.getElem_toArray, List.getElem_cons_succ, List.getElem_cons_zero, Act.put, List.setIfInBounds_toArray, List.set_cons_succ, List.set_cons_zero]; rfl))
        refine wpOrd_nil (l := [_]) rfl ?_
        intro w4 hw4
        have hf9 := (hb9.ext hw4).frozen
        have hf9c := (hb9.ext hw4).cell
        go_wp2
        have hb7r := (hb7.ext hw4).set' (p := ⟨S + 1, 0, none⟩) (show S ≠ S + 1 by omega) (.slice (some ⟨b0, o0 + 1, none⟩) pr.length (cap - 1))
        have hb9r := (hb9.ext hw4).set (.slice (some ⟨b0, o0 + 1, none⟩) pr.length (cap - 1))
        have hcvr := ((hcv.ext hw4).setCell (p := ⟨S + 1, 0, none⟩) (fun e => by have := (World.ownsRow.lt hcv _ e).1; simp only [World.size_alloc] at this; have := HSZ.out; omega) (.slice (some ⟨b0, o0 + 1, none⟩) pr.length (cap - 1))).sl (by simp [encCut]) (by have := hEF.out.2.2.2; omega)
        have hbSr := (hbS.trans (hw4.below (by omega))).setCell (p := ⟨S + 1, 0, none⟩) (show S ≤ S + 1 by omega) (.slice (some ⟨b0, o0 + 1, none⟩) pr.length (cap - 1))
        have hszr : S + 2 ≤ (w4.setCell ⟨S + 1, 0, none⟩ (.slice (some ⟨b0, o0 + 1, none⟩) pr.length (cap - 1))).heap.size := by have := hw4.size; simp; omega
        have htvr := ((Sl.slB (HT.out (cap - 1) (by have := HPR.out; omega) (by omega)) (by omega)).below (B' := w.heap.size) (by rw [← HSZ.out]; exact hbSr) (Nat.le_refl _)).1
        obtain ⟨w5, hw5⟩ : ∃ w5, w4.setCell ⟨S + 1, 0, none⟩ (.slice (some ⟨b0, o0 + 1, none⟩) pr.length (cap - 1)) = w5 := ⟨_, rfl⟩
        rw [hw5] at hb7r hb9r hcvr hbSr hszr htvr ⊢
        clear hw5 hl9 gl9 gp0 hpr2
        by_cases hle : (pr).length = (endsAll m N).1.length
        · have hle1 : ((((pr).length : Nat) : Int) != ((endsAll m N).1.length : Nat)) = false := by rw [bne_eq_false_iff_eq]; omega
          have HLE := Lib.hid hle
          have hHF := Lib.hid (show followsF old rt m N ps = ((oldF m p0 (endsAll m N).1 pr == old) && (foldF (fun c => decide (m ≤ c.2.1)) p0 (endsAll m N).1 pr == rt)) by
            rw [HG.out]; rw [if_neg (by omega)])
          have hl9 := hb9r.cell
          clear hle
          gi_wp2_with (gi_at_call 43; go_must (refine (callsIn_wide.2 (back_walk ca (endsAll m N).1.length cc _ rfl _)).mono ?_; rintro e w' ⟨rfl, rfl⟩))
          obtain ⟨T, hT⟩ : ∃ T : Nat, T = (w5).heap.size := ⟨_, rfl⟩
          obtain ⟨v1, hv1⟩ : ∃ v1, (w5).alloc (.cells #[.int .u64 p0] 68) = v1 := ⟨_, rfl⟩
          obtain ⟨v2, hv2⟩ : ∃ v2, v1.alloc (.cells #[.int .i64 0] 3) = v2 := ⟨_, rfl⟩
          obtain ⟨v3, hv3⟩ : ∃ v3, v2.alloc (.cells #[.slice ca (endsAll m N).1.length cc] 124) = v3 := ⟨_, rfl⟩
          have x1 : Ext (w5) v1 := by rw [← hv1]; exact Ext.alloc' _ _
          have x2 : Ext v1 v2 := by rw [← hv2]; exact Ext.alloc' _ _
          have x3 : Ext v2 v3 := by rw [← hv3]; exact Ext.alloc' _ _
          have z1 : v1.heap.size = T + 1 := by rw [← hv1, hT]; simp
          have z2 : v2.heap.size = T + 2 := by rw [← hv2]; simp; omega
          have z3 : v3.heap.size = T + 3 := by rw [← hv3]; simp; omega
          have q0 : Boxed v1 T 68 (.int .u64 p0) := by rw [← hv1, hT]; exact Boxed.new _ _ _
          have q1 : Boxed v2 (T + 1) 3 (.int .i64 0) := by rw [← hv2, ← z1]; exact Boxed.new _ _ _
          have q2 : Boxed v3 (T + 2) 124 (.slice ca (endsAll m N).1.length cc) := by rw [← hv3, ← z2]; exact Boxed.new _ _ _
          replace q0 := (q0.ext x2).ext x3
          replace q1 := q1.ext x3
          have hx := (x1.trans x2).trans x3
          rw [hv1, hv2, hv3]
          have hTS : S + 2 ≤ T := by omega
          try simp only [← hT]
          clear hv1 hv2 hv3 x1 x2 x3 z1 z2 v1 v2
          have hTw : (w5).heap.size = T := hT.symm
          clear hT
          have sp0 := (((htvr).slB (by omega)).mono (Nat.le_of_eq hTw)).below hx (by omega)
          have sc0 := (((hcvr).slB (by omega)).mono (Nat.le_of_eq hTw)).below hx (by omega)
          refine wpIn_range (gf := 82) (lb := #[.pointer (some ⟨T + 2, 0, none⟩)]) rfl (enters_of Tryz.func82 (by kernel_rfl) rfl) (back_iter (T + 2) (.slice ca (endsAll m N).1.length cc) (endsAll m N).1) (fun _ => rfl)
            (fun k W => Boxed W S 3 (.int .i64 m) ∧ Boxed W (S + 1) 67 (.slice (some ⟨b0, o0 + 1, none⟩) pr.length (cap - 1)) ∧ Boxed W T 68 (.int .u64 (oldK m p0 (endsAll m N).1 pr k)) ∧ Boxed W (T + 1) 3 (.int .i64 k) ∧ Boxed W (T + 2) 124 (.slice ca (endsAll m N).1.length cc) ∧ SlB W T 1 encU (.slice (some ⟨b0, o0 + 1, none⟩) pr.length (cap - 1)) pr ∧ SlB W T 3 encCut (.slice ca (endsAll m N).1.length cc) (endsAll m N).1 ∧ Below S w W)
            (fun _ _ => False)
            (fun k => .and .boxed (.and .boxed (.and .boxed (.and .boxed (.and .boxed (.and .slB (.and .slB (.below (by have := HSZ.out; omega) (by omega)))))))))
            (fun c => .false) (fun k W h => ⟨h.2.2.2.2.1.cell, h.2.2.2.2.2.2.1.1⟩)
            ⟨hb7r.ext hx, hb9r.ext hx, q0, q1, q2, sp0, sc0, (hbSr).trans (hx.below (by omega))⟩ ?round ?done ?stop
          case stop => intro D c W _ h; exact h.elim
          case done =>
            rintro D W hD ⟨k7, k9, kd, kk, kc, sp, sc, hbw⟩ hdef
            rw [backL_len, oldK_all m p0 (endsAll m N).1 pr (by rw [HLE.out]; exact Nat.le_refl _)] at kd
            have hcd := kd.cell
            have hc9 := k9.cell
            have hxw : Ext w W := Ext.of_below (by rw [← HSZ.out]; exact hbw)
            by_cases ho : oldF m p0 (endsAll m N).1 pr = old
            · have ho1 : (oldF m p0 (endsAll m N).1 pr == old) = true := beq_iff_eq.2 ho
              have HO1 := Lib.hid ho1
              clear ho
              gi_wp2_with fail
              refine (callsIn_wide.2 (fold_walk 46 #[.pointer (some ⟨S, 0, none⟩)] (fun c => decide (m ≤ c.2.1)) p0 _ _ (endsAll m N).1 pr W sp.1 sc.1 HLE.out (enters_of Tryz.func46 (by kernel_rfl) rfl)
                (fun c _ w3 hx3 => (before_walk m S c w3 (k7.ext hx3)).mono fun e w4 h => ⟨by rw [h.1]; simp, h.2⟩))).mono ?_
              rintro e w3 ⟨rfl, hx3⟩
              have hdef3 : w3.heap[D]? = some (.deferred (some [])) := (hx3.block D (Array.getElem?_eq_some_iff.1 hdef).1).trans hdef
              gi_wp2
              refine bodyPostM_ret rfl hdef3 (fun W' _ => results_tmp rfl _ _ _) (fun W' hs => ⟨?_, Below.trans (hxw.trans hx3) (hs.below (by have := HSZ.out; omega))⟩)
              rw [hHF.out, HO1.out]; rfl
            · have ho1 : (oldF m p0 (endsAll m N).1 pr == old) = false := beq_eq_false_iff_ne.2 ho
              have HO1 := Lib.hid ho1
              clear ho
              gi_wp2
              refine bodyPostM_ret rfl hdef (fun W' _ => results_tmp rfl _ _ _) (fun W' hs => ⟨?_, Below.trans hxw (hs.below (by have := HSZ.out; omega))⟩)
              rw [hHF.out, HO1.out]; rfl
          case round =>
            rintro lr k W hk hIk hle hlt
            rw [backL_len] at hk
            obtain ⟨m2, hm⟩ : ∃ m2 : Nat, m2 = (endsAll m N).1.length - 1 - k := ⟨_, rfl⟩
            have hml : m2 < (endsAll m N).1.length := by omega
            have hkp : k < (pr).length := by rw [HLE.out]; exact hk
            have hkb : k ≤ 1024 := by have := hEF.out.2.2.2; omega
            rw [backL_get' (endsAll m N).1 k m2 hm hml]
            simp only [encBack]
            obtain ⟨c, hc0⟩ : ∃ c, c = (endsAll m N).1[m2] := ⟨_, rfl⟩
            have hbt := oldK_succ m p0 (endsAll m N).1 pr k m2 hm hk hml hkp
            rw [← hc0] at hbt ⊢
            obtain ⟨c0, c1, c2⟩ := c
            have HK := Lib.hid hbt
            clear hbt hm hc0
            gi_wp2
            refine ⟨KeepsOthers.alloc _ _, fun W2 hs2 => ?_⟩
            obtain ⟨k7, k9, kd, kk, kc, sp, sc, hbw⟩ := hIk
            have hx1 := Ext.alloc' W (.cells #[.int .i64 c0, .int .i64 c1, .int .i64 c2] 132)
            have e1 := (hs2.cell _).trans (alloc_cell W #[.int .i64 c0, .int .i64 c1, .int .i64 c2] 132 1 (.int .i64 c1) rfl)
            replace k7 := hs2.boxed (k7.ext hx1)
            replace k9 := hs2.boxed (k9.ext hx1)
            replace kd := hs2.boxed (kd.ext hx1)
            replace kk := hs2.boxed (kk.ext hx1)
            replace kc := hs2.boxed (kc.ext hx1)
            replace sp : SlB W2 T 1 encU _ _ := ⟨hs2.sl (sp.1.ext hx1), sp.2⟩
            replace sc : SlB W2 T 3 encCut _ _ := ⟨hs2.sl (sc.1.ext hx1), sc.2⟩
            have hbW : Below S w W2 := by
              have h8 : S ≤ W.heap.size := by have := hbw.size; have := HSZ.out; omega
              exact (hbw.trans (hx1.below h8)).trans (hs2.below (by omega))
            have hW2T : T ≤ W2.heap.size := by have := hs2.size; simp at this; omega
            obtain ⟨b0, o0, htva, hpk⟩ := sp.1.at1 k hkp
            cases htva
            simp only [encU, List.getD_cons_zero] at hpk
            have g7 := k7.cell
            have g9 := ext_cells k9.cell
            have gd := ext_cells kd.cell
            have gk := ext_cells kk.cell
            have gp := ext_cells hpk
            have gkc := kk.cell
            have gkf := kk.frozen
            clear hx1 hbw hpk
            by_cases hmc : c1 < m
            · have hmc' : (c1 : Int) < m := by omega
              have HQ := Lib.hid (show oldK m p0 (endsAll m N).1 pr (k + 1) = node ((pr)[k]) (oldK m p0 (endsAll m N).1 pr k) by rw [HK.out]; exact if_pos hmc)
              clear hmc
              gi_wp2
              refine wpIn_region_ord [(0,true),(1,true),(2,true),(3,true),(4,true),(5,true)] 6 Ext (Ext W2) wide (by kernel_rfl) (by rintro ⟨_, _, h⟩; exact h) (stable_ext _) (Ext.drawn _ _) ?_
              iterate 5 (apply wpOrd_det rfl rfl; (intro w' hw'; unfold opR; go_simp; exact ⟨Ext.refl _, rfl⟩); (simp only [List.getElem_toArray, List.getElem_cons_succ, List.getElem_cons_zero, Act.put, List.setIfInBounds_toArray, List.set_cons_succ, List.set_cons_zero]; rfl))
              (apply wpOrd_det rfl rfl; (intro w' hw'; refine opR_call rfl (Go.Proofs.enters_of Tryz.func44 (by kernel_rfl) rfl) (by simp only [List.map_toArray, List.map_cons, List.map_nil, Act.eval, Array.getD_eq_getD_getElem?, List.getElem?_toArray, List.getElem?_cons_succ, List.getElem?_cons_zero, Option.getD_some]; rfl) ?_; refine (node_walk _ _ w').mono ?_; rintro e w4 ⟨rfl, hx⟩; exact ⟨_, rfl, hx, rfl⟩); (simp only [List.getElem_toArray, List.getElem_cons_succ, List.getElem_cons_zero, Act.put, List.setIfInBounds_toArray, List.set_cons_succ, List.set_cons_zero]; rfl))
              refine wpOrd_nil (l := [_]) rfl ?_
              intro w4 hw4
              have k0 := (kd.ext hw4).cell
              have k0f := (kd.ext hw4).frozen
              have k3 := ((kk.ext hw4).set' (p := ⟨T, 0, none⟩) (by simp) (.int .u64 (node ((pr)[k]) (oldK m p0 (endsAll m N).1 pr k)))).cell
              have k3f := ((kk.ext hw4).set' (p := ⟨T, 0, none⟩) (by simp) (.int .u64 (node ((pr)[k]) (oldK m p0 (endsAll m N).1 pr k)))).frozen
              go_wp2
              gi_wp2
              refine ⟨((KeepsOthers.ext hw4).trans (KeepsOthers.setCell _ _ _)).trans (KeepsOthers.setCell _ _ _), ?_, ?_, ?_, ?_, ?_, ?_, ?_, ?_⟩
              · exact ((k7.ext hw4).set' (show S ≠ T by omega) _).set' (p := ⟨T + 1, 0, none⟩) (show S ≠ T + 1 by omega) _
              · exact ((k9.ext hw4).set' (show S + 1 ≠ T by omega) _).set' (p := ⟨T + 1, 0, none⟩) (show S + 1 ≠ T + 1 by omega) _
              · have := ((kd.ext hw4).set (.int .u64 (node ((pr)[k]) (oldK m p0 (endsAll m N).1 pr k)))).set' (p := ⟨T + 1, 0, none⟩) (by simp) (.int .i64 (k + 1))
                rw [HQ.out]; exact this
              · have := ((kk.ext hw4).set' (p := ⟨T, 0, none⟩) (by simp) (.int .u64 (node ((pr)[k]) (oldK m p0 (endsAll m N).1 pr k)))).set (.int .i64 (k + 1))
                exact this
              · exact ((kc.ext hw4).set' (by simp) _).set' (by simp) _
              · exact ((sp.below hw4 hW2T).below ((Below.refl T _).setCell (Nat.le_refl _) _) (Nat.le_refl _)).below ((Below.refl T _).setCell (p := ⟨T + 1, 0, none⟩) (show T ≤ T + 1 by omega) _) (Nat.le_refl _)
              · exact ((sc.below hw4 hW2T).below ((Below.refl T _).setCell (Nat.le_refl _) _) (Nat.le_refl _)).below ((Below.refl T _).setCell (p := ⟨T + 1, 0, none⟩) (show T ≤ T + 1 by omega) _) (Nat.le_refl _)
              · exact ((hbW.trans (hw4.below (by omega))).setCell (show S ≤ T by omega) _).setCell (p := ⟨T + 1, 0, none⟩) (show S ≤ T + 1 by omega) _
            · have hmc' : ¬ (c1 : Int) < m := by omega
              have HQ := Lib.hid (show oldK m p0 (endsAll m N).1 pr (k + 1) = oldK m p0 (endsAll m N).1 pr k by rw [HK.out]; exact if_neg hmc)
              clear hmc
              gi_wp2
              refine ⟨KeepsOthers.setCell _ _ _, ?_, ?_, ?_, ?_, ?_, ?_, ?_, ?_⟩
              · exact k7.set' (p := ⟨T + 1, 0, none⟩) (show S ≠ T + 1 by omega) _
              · exact k9.set' (p := ⟨T + 1, 0, none⟩) (show S + 1 ≠ T + 1 by omega) _
              · rw [HQ.out]; exact kd.set' (p := ⟨T + 1, 0, none⟩) (show T ≠ T + 1 by omega) _
              · exact kk.set (.int .i64 (k + 1))
              · exact kc.set' (p := ⟨T + 1, 0, none⟩) (show T + 2 ≠ T + 1 by omega) _
              · exact sp.below ((Below.refl T _).setCell (p := ⟨T + 1, 0, none⟩) (show T ≤ T + 1 by omega) _) (Nat.le_refl _)
              · exact sc.below ((Below.refl T _).setCell (p := ⟨T + 1, 0, none⟩) (show T ≤ T + 1 by omega) _) (Nat.le_refl _)
              · exact hbW.setCell (p := ⟨T + 1, 0, none⟩) (show S ≤ T + 1 by omega) _
        · have hle1 : ((((pr).length : Nat) : Int) != ((endsAll m N).1.length : Nat)) = true := by rw [bne_iff_ne]; omega
          have hF := HG.out
          rw [if_pos hle] at hF
          have HFF := Lib.hid hF
          clear hF hle
          have hl9 := hb9r.cell
          gi_wp2
          exact ⟨_, results_tmp rfl _ _ _, by rw [HFF.out]; rfl, Ext.of_below (by rw [← HSZ.out]; exact hbSr)⟩
  · have hlo' : ¬ (0 : Int) < (endsAll m N).2.1 := by omega
    have HG := Lib.hid (show followsF old rt m N ps = (if ps.length ≠ (endsAll m N).1.length then false else (oldF m old (endsAll m N).1 ps == old) && (foldF (fun c => decide (m ≤ c.2.1)) old (endsAll m N).1 ps == rt)) by
      rw [HF.out]; simp only [if_neg hlo]; rw [if_neg (by omega)])
    clear h1 h2
    by_cases hle : (ps).length = (endsAll m N).1.length
    · have hle1 : ((((ps).length : Nat) : Int) != ((endsAll m N).1.length : Nat)) = false := by rw [bne_eq_false_iff_eq]; omega
      have HLE := Lib.hid hle
      have hHF := Lib.hid (show followsF old rt m N ps = ((oldF m old (endsAll m N).1 ps == old) && (foldF (fun c => decide (m ≤ c.2.1)) old (endsAll m N).1 ps == rt)) by
        rw [HG.out]; rw [if_neg (by omega)])
      have hl9 := hb9.cell
      clear hle
      gi_wp2_with (gi_at_call 43; go_must (refine (callsIn_wide.2 (back_walk ca (endsAll m N).1.length cc _ rfl _)).mono ?_; rintro e w' ⟨rfl, rfl⟩))
      obtain ⟨T, hT⟩ : ∃ T : Nat, T = (w1).heap.size := ⟨_, rfl⟩
      obtain ⟨v1, hv1⟩ : ∃ v1, (w1).alloc (.cells #[.int .u64 old] 68) = v1 := ⟨_, rfl⟩
      obtain ⟨v2, hv2⟩ : ∃ v2, v1.alloc (.cells #[.int .i64 0] 3) = v2 := ⟨_, rfl⟩
      obtain ⟨v3, hv3⟩ : ∃ v3, v2.alloc (.cells #[.slice ca (endsAll m N).1.length cc] 124) = v3 := ⟨_, rfl⟩
      have x1 : Ext (w1) v1 := by rw [← hv1]; exact Ext.alloc' _ _
      have x2 : Ext v1 v2 := by rw [← hv2]; exact Ext.alloc' _ _
      have x3 : Ext v2 v3 := by rw [← hv3]; exact Ext.alloc' _ _
      have z1 : v1.heap.size = T + 1 := by rw [← hv1, hT]; simp
      have z2 : v2.heap.size = T + 2 := by rw [← hv2]; simp; omega
      have z3 : v3.heap.size = T + 3 := by rw [← hv3]; simp; omega
      have q0 : Boxed v1 T 68 (.int .u64 old) := by rw [← hv1, hT]; exact Boxed.new _ _ _
      have q1 : Boxed v2 (T + 1) 3 (.int .i64 0) := by rw [← hv2, ← z1]; exact Boxed.new _ _ _
      have q2 : Boxed v3 (T + 2) 124 (.slice ca (endsAll m N).1.length cc) := by rw [← hv3, ← z2]; exact Boxed.new _ _ _
      replace q0 := (q0.ext x2).ext x3
      replace q1 := q1.ext x3
      have hx := (x1.trans x2).trans x3
      rw [hv1, hv2, hv3]
      have hTS : S + 2 ≤ T := by omega
      try simp only [← hT]
      clear hv1 hv2 hv3 x1 x2 x3 z1 z2 v1 v2
      have hTw : (w1).heap.size = T := hT.symm
      clear hT
      have sp0 := (((hP1).slB (by omega)).mono (Nat.le_of_eq hTw)).below hx (by omega)
      have sc0 := (((hcl).slB (by omega)).mono (Nat.le_of_eq hTw)).below hx (by omega)
      refine wpIn_range (gf := 82) (lb := #[.pointer (some ⟨T + 2, 0, none⟩)]) rfl (enters_of Tryz.func82 (by kernel_rfl) rfl) (back_iter (T + 2) (.slice ca (endsAll m N).1.length cc) (endsAll m N).1) (fun _ => rfl)
        (fun k W => Boxed W S 3 (.int .i64 m) ∧ Boxed W (S + 1) 67 (.slice a? ps.length cap) ∧ Boxed W T 68 (.int .u64 (oldK m old (endsAll m N).1 ps k)) ∧ Boxed W (T + 1) 3 (.int .i64 k) ∧ Boxed W (T + 2) 124 (.slice ca (endsAll m N).1.length cc) ∧ SlB W T 1 encU (.slice a? ps.length cap) ps ∧ SlB W T 3 encCut (.slice ca (endsAll m N).1.length cc) (endsAll m N).1 ∧ Below S w W)
        (fun _ _ => False)
        (fun k => .and .boxed (.and .boxed (.and .boxed (.and .boxed (.and .boxed (.and .slB (.and .slB (.below (by have := HSZ.out; omega) (by omega)))))))))
        (fun c => .false) (fun k W h => ⟨h.2.2.2.2.1.cell, h.2.2.2.2.2.2.1.1⟩)
        ⟨hb7.ext hx, hb9.ext hx, q0, q1, q2, sp0, sc0, (hbS).trans (hx.below (by omega))⟩ ?round ?done ?stop
      case stop => intro D c W _ h; exact h.elim
      case done =>
        rintro D W hD ⟨k7, k9, kd, kk, kc, sp, sc, hbw⟩ hdef
        rw [backL_len, oldK_all m old (endsAll m N).1 ps (by rw [HLE.out]; exact Nat.le_refl _)] at kd
        have hcd := kd.cell
        have hc9 := k9.cell
        have hxw : Ext w W := Ext.of_below (by rw [← HSZ.out]; exact hbw)
        by_cases ho : oldF m old (endsAll m N).1 ps = old
        · have ho1 : (oldF m old (endsAll m N).1 ps == old) = true := beq_iff_eq.2 ho
          have HO1 := Lib.hid ho1
          clear ho
          gi_wp2_with fail
          refine (callsIn_wide.2 (fold_walk 46 #[.pointer (some ⟨S, 0, none⟩)] (fun c => decide (m ≤ c.2.1)) old _ _ (endsAll m N).1 ps W sp.1 sc.1 HLE.out (enters_of Tryz.func46 (by kernel_rfl) rfl)
            (fun c _ w3 hx3 => (before_walk m S c w3 (k7.ext hx3)).mono fun e w4 h => ⟨by rw [h.1]; simp, h.2⟩))).mono ?_
          rintro e w3 ⟨rfl, hx3⟩
          have hdef3 : w3.heap[D]? = some (.deferred (some [])) := (hx3.block D (Array.getElem?_eq_some_iff.1 hdef).1).trans hdef
          gi_wp2
          refine bodyPostM_ret rfl hdef3 (fun W' _ => results_tmp rfl _ _ _) (fun W' hs => ⟨?_, Below.trans (hxw.trans hx3) (hs.below (by have := HSZ.out; omega))⟩)
          rw [hHF.out, HO1.out]; rfl
        · have ho1 : (oldF m old (endsAll m N).1 ps == old) = false := beq_eq_false_iff_ne.2 ho
          have HO1 := Lib.hid ho1
          clear ho
          gi_wp2
          refine bodyPostM_ret rfl hdef (fun W' _ => results_tmp rfl _ _ _) (fun W' hs => ⟨?_, Below.trans hxw (hs.below (by have := HSZ.out; omega))⟩)
          rw [hHF.out, HO1.out]; rfl
      case round =>
        rintro lr k W hk hIk hle hlt
        rw [backL_len] at hk
        obtain ⟨m2, hm⟩ : ∃ m2 : Nat, m2 = (endsAll m N).1.length - 1 - k := ⟨_, rfl⟩
        have hml : m2 < (endsAll m N).1.length := by omega
        have hkp : k < (ps).length := by rw [HLE.out]; exact hk
        have hkb : k ≤ 1024 := by have := hEF.out.2.2.2; omega
        rw [backL_get' (endsAll m N).1 k m2 hm hml]
        simp only [encBack]
        obtain ⟨c, hc0⟩ : ∃ c, c = (endsAll m N).1[m2] := ⟨_, rfl⟩
        have hbt := oldK_succ m old (endsAll m N).1 ps k m2 hm hk hml hkp
        rw [← hc0] at hbt ⊢
        obtain ⟨c0, c1, c2⟩ := c
        have HK := Lib.hid hbt
        clear hbt hm hc0
        gi_wp2
        refine ⟨KeepsOthers.alloc _ _, fun W2 hs2 => ?_⟩
        obtain ⟨k7, k9, kd, kk, kc, sp, sc, hbw⟩ := hIk
        have hx1 := Ext.alloc' W (.cells #[.int .i64 c0, .int .i64 c1, .int .i64 c2] 132)
        have e1 := (hs2.cell _).trans (alloc_cell W #[.int .i64 c0, .int .i64 c1, .int .i64 c2] 132 1 (.int .i64 c1) rfl)
        replace k7 := hs2.boxed (k7.ext hx1)
        replace k9 := hs2.boxed (k9.ext hx1)
        replace kd := hs2.boxed (kd.ext hx1)
        replace kk := hs2.boxed (kk.ext hx1)
        replace kc := hs2.boxed (kc.ext hx1)
        replace sp : SlB W2 T 1 encU _ _ := ⟨hs2.sl (sp.1.ext hx1), sp.2⟩
        replace sc : SlB W2 T 3 encCut _ _ := ⟨hs2.sl (sc.1.ext hx1), sc.2⟩
        have hbW : Below S w W2 := by
          have h8 : S ≤ W.heap.size := by have := hbw.size; have := HSZ.out; omega
          exact (hbw.trans (hx1.below h8)).trans (hs2.below (by omega))
        have hW2T : T ≤ W2.heap.size := by have := hs2.size; simp at this; omega
        obtain ⟨b0, o0, htva, hpk⟩ := sp.1.at1 k hkp
        cases htva
        simp only [encU, List.getD_cons_zero] at hpk
        have g7 := k7.cell
        have g9 := ext_cells k9.cell
        have gd := ext_cells kd.cell
        have gk := ext_cells kk.cell
        have gp := ext_cells hpk
        have gkc := kk.cell
        have gkf := kk.frozen
        clear hx1 hbw hpk
        by_cases hmc : c1 < m
        · have hmc' : (c1 : Int) < m := by omega
          have HQ := Lib.hid (show oldK m old (endsAll m N).1 ps (k + 1) = node ((ps)[k]) (oldK m old (endsAll m N).1 ps k) by rw [HK.out]; exact if_pos hmc)
          clear hmc
          gi_wp2
          refine wpIn_region_ord [(0,true),(1,true),(2,true),(3,true),(4,true),(5,true)] 6 Ext (Ext W2) wide (by kernel_rfl) (by rintro ⟨_, _, h⟩; exact h) (stable_ext _) (Ext.drawn _ _) ?_
          iterate 5 (apply wpOrd_det rfl rfl; (intro w' hw'; unfold opR; go_simp; exact ⟨Ext.refl _, rfl⟩); (simp only [List.getElem_toArray, List.getElem_cons_succ, List.getElem_cons_zero, Act.put, List.setIfInBounds_toArray, List.set_cons_succ, List.set_cons_zero]; rfl))
          (apply wpOrd_det rfl rfl; (intro w' hw'; refine opR_call rfl (Go.Proofs.enters_of Tryz.func44 (by kernel_rfl) rfl) (by simp only [List.map_toArray, List.map_cons, List.map_nil, Act.eval, Array.getD_eq_getD_getElem?, List.getElem?_toArray, List.getElem?_cons_succ, List.getElem?_cons_zero, Option.getD_some]; rfl) ?_; refine (node_walk _ _ w').mono ?_; rintro e w4 ⟨rfl, hx⟩; exact ⟨_, rfl, hx, rfl⟩); (simp only [List.getElem_toArray, List.getElem_cons_succ, List.getElem_cons_zero, Act.put, List.setIfInBounds_toArray, List.set_cons_succ, List.set_cons_zero]; rfl))
          refine wpOrd_nil (l := [_]) rfl ?_
          intro w4 hw4
          have k0 := (kd.ext hw4).cell
          have k0f := (kd.ext hw4).frozen
          have k3 := ((kk.ext hw4).set' (p := ⟨T, 0, none⟩) (by simp) (.int .u64 (node ((ps)[k]) (oldK m old (endsAll m N).1 ps k)))).cell
          have k3f := ((kk.ext hw4).set' (p := ⟨T, 0, none⟩) (by simp) (.int .u64 (node ((ps)[k]) (oldK m old (endsAll m N).1 ps k)))).frozen
          go_wp2
          gi_wp2
          refine ⟨((KeepsOthers.ext hw4).trans (KeepsOthers.setCell _ _ _)).trans (KeepsOthers.setCell _ _ _), ?_, ?_, ?_, ?_, ?_, ?_, ?_, ?_⟩
          · exact ((k7.ext hw4).set' (show S ≠ T by omega) _).set' (p := ⟨T + 1, 0, none⟩) (show S ≠ T + 1 by omega) _
          · exact ((k9.ext hw4).set' (show S + 1 ≠ T by omega) _).set' (p := ⟨T + 1, 0, none⟩) (show S + 1 ≠ T + 1 by omega) _
          · have := ((kd.ext hw4).set (.int .u64 (node ((ps)[k]) (oldK m old (endsAll m N).1 ps k)))).set' (p := ⟨T + 1, 0, none⟩) (by simp) (.int .i64 (k + 1))
            rw [HQ.out]; exact this
          · have := ((kk.ext hw4).set' (p := ⟨T, 0, none⟩) (by simp) (.int .u64 (node ((ps)[k]) (oldK m old (endsAll m N).1 ps k)))).set (.int .i64 (k + 1))
            exact this
          · exact ((kc.ext hw4).set' (by simp) _).set' (by simp) _
          · exact ((sp.below hw4 hW2T).below ((Below.refl T _).setCell (Nat.le_refl _) _) (Nat.le_refl _)).below ((Below.refl T _).setCell (p := ⟨T + 1, 0, none⟩) (show T ≤ T + 1 by omega) _) (Nat.le_refl _)
          · exact ((sc.below hw4 hW2T).below ((Below.refl T _).setCell (Nat.le_refl _) _) (Nat.le_refl _)).below ((Below.refl T _).setCell (p := ⟨T + 1, 0, none⟩) (show T ≤ T + 1 by omega) _) (Nat.le_refl _)
          · exact ((hbW.trans (hw4.below (by omega))).setCell (show S ≤ T by omega) _).setCell (p := ⟨T + 1, 0, none⟩) (show S ≤ T + 1 by omega) _
        · have hmc' : ¬ (c1 : Int) < m := by omega
          have HQ := Lib.hid (show oldK m old (endsAll m N).1 ps (k + 1) = oldK m old (endsAll m N).1 ps k by rw [HK.out]; exact if_neg hmc)
          clear hmc
          gi_wp2
          refine ⟨KeepsOthers.setCell _ _ _, ?_, ?_, ?_, ?_, ?_, ?_, ?_, ?_⟩
          · exact k7.set' (p := ⟨T + 1, 0, none⟩) (show S ≠ T + 1 by omega) _
          · exact k9.set' (p := ⟨T + 1, 0, none⟩) (show S + 1 ≠ T + 1 by omega) _
          · rw [HQ.out]; exact kd.set' (p := ⟨T + 1, 0, none⟩) (show T ≠ T + 1 by omega) _
          · exact kk.set (.int .i64 (k + 1))
          · exact kc.set' (p := ⟨T + 1, 0, none⟩) (show T + 2 ≠ T + 1 by omega) _
          · exact sp.below ((Below.refl T _).setCell (p := ⟨T + 1, 0, none⟩) (show T ≤ T + 1 by omega) _) (Nat.le_refl _)
          · exact sc.below ((Below.refl T _).setCell (p := ⟨T + 1, 0, none⟩) (show T ≤ T + 1 by omega) _) (Nat.le_refl _)
          · exact hbW.setCell (p := ⟨T + 1, 0, none⟩) (show S ≤ T + 1 by omega) _
    · have hle1 : ((((ps).length : Nat) : Int) != ((endsAll m N).1.length : Nat)) = true := by rw [bne_iff_ne]; omega
      have hF := HG.out
      rw [if_pos hle] at hF
      have HFF := Lib.hid hF
      clear hF hle
      have hl9 := hb9.cell
      gi_wp2
      exact ⟨_, results_tmp rfl _ _ _, by rw [HFF.out]; rfl, Ext.of_below (by rw [← HSZ.out]; exact hbS)⟩
end Go.Proofs.YtkckingkocacjaaGreatDoor
