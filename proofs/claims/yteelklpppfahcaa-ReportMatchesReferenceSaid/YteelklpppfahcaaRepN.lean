/-
  Plain definitions on the trees that contain a leaf (no program in sight).
-/
import Derived.Test.YteelklpppfahcaaRepM
set_option linter.unusedVariables false
namespace Go.Sx.Rep

/-- The trees that contain leaf i, from the whole one down, until p holds; then the last one's ends. -/
def cutsF (p : Nat → Nat → Bool) (i : Nat) : Nat → Nat → Nat → List (Nat × Nat × Nat) × Nat × Nat
  | 0, lo, hi => ([], lo, hi)
  | f + 1, lo, hi => if p lo hi then ([], lo, hi) else
    let m := lo + split (hi - lo)
    let r := if i < m then cutsF p i f lo m else cutsF p i f m hi
    ((lo, m, hi) :: r.1, r.2)
def cutsAll (p : Nat → Nat → Bool) (i n : Nat) : List (Nat × Nat × Nat) × Nat × Nat := cutsF p i n 0 n

theorem cutsF_fuel (p : Nat → Nat → Bool) (i : Nat) (hp : ∀ lo hi, lo ≤ i → i < hi → p lo hi = false → lo + 2 ≤ hi) : ∀ f g lo hi, lo ≤ i → i < hi → hi - lo ≤ f → hi - lo ≤ g → cutsF p i f lo hi = cutsF p i g lo hi
  | 0, _, _, _, h1, h2, h3, _ => by omega
  | _ + 1, 0, _, _, h1, h2, _, h4 => by omega
  | f + 1, g + 1, lo, hi, h1, h2, h3, h4 => by
    unfold cutsF
    split
    · rfl
    · rename_i hpf
      have h5 := hp lo hi h1 h2 (by simpa using hpf)
      have h6 := split_lt (n := hi - lo) (by omega)
      have h7 := split_pos (hi - lo)
      simp only []
      by_cases hm : i < lo + split (hi - lo)
      · rw [if_pos hm, if_pos hm, cutsF_fuel p i hp f g lo _ h1 hm (by omega) (by omega)]
      · rw [if_neg hm, if_neg hm, cutsF_fuel p i hp f g _ hi (by omega) h2 (by omega) (by omega)]

theorem cutsF_stop (p : Nat → Nat → Bool) (i n lo hi : Nat) (h : p lo hi = true) : cutsF p i n lo hi = ([], lo, hi) := by
  cases n with
  | zero => rfl
  | succ n => unfold cutsF; rw [if_pos h]
/-- One step down. -/
theorem cutsF_go (p : Nat → Nat → Bool) (i : Nat) (hp : ∀ lo hi, lo ≤ i → i < hi → p lo hi = false → lo + 2 ≤ hi) (n lo hi : Nat) (h1 : lo ≤ i) (h2 : i < hi) (hn : hi ≤ n) (h : p lo hi = false) :
    cutsF p i n lo hi = ((lo, lo + split (hi - lo), hi) :: (if i < lo + split (hi - lo) then cutsF p i n lo (lo + split (hi - lo)) else cutsF p i n (lo + split (hi - lo)) hi).1,
      (if i < lo + split (hi - lo) then cutsF p i n lo (lo + split (hi - lo)) else cutsF p i n (lo + split (hi - lo)) hi).2) := by
  have h5 := hp lo hi h1 h2 h
  have h6 := split_lt (n := hi - lo) (by omega)
  have h7 := split_pos (hi - lo)
  rw [cutsF_fuel p i hp n (n + 1) lo hi h1 h2 (by omega) (by omega)]
  show (if p lo hi = true then _ else _) = _
  rw [if_neg (by simp [h])]

theorem cutsF_ok (p : Nat → Nat → Bool) (i : Nat) (hp : ∀ lo hi, lo ≤ i → i < hi → p lo hi = false → lo + 2 ≤ hi) (N : Nat) : ∀ f lo hi, lo ≤ i → i < hi → hi ≤ N → hi - lo ≤ f →
    (∀ c ∈ (cutsF p i f lo hi).1, c.1 < c.2.1 ∧ c.2.1 < c.2.2 ∧ c.2.2 ≤ N) ∧ (cutsF p i f lo hi).2.1 ≤ i ∧ i < (cutsF p i f lo hi).2.2 ∧ (cutsF p i f lo hi).2.2 ≤ N ∧ p (cutsF p i f lo hi).2.1 (cutsF p i f lo hi).2.2 = true ∧ lo ≤ (cutsF p i f lo hi).2.1
  | 0, lo, hi, h1, h2, _, h3 => by omega
  | f + 1, lo, hi, h1, h2, hN, h3 => by
    unfold cutsF
    by_cases hpt : p lo hi = true
    · rw [if_pos hpt]; simp only [List.not_mem_nil, false_implies, implies_true, true_and]; exact ⟨h1, h2, hN, hpt, Nat.le_refl _⟩
    · rw [if_neg hpt]
      have h5 := hp lo hi h1 h2 (by simpa using hpt)
      have h6 := split_lt (n := hi - lo) (by omega)
      have h7 := split_pos (hi - lo)
      simp only []
      by_cases hm : i < lo + split (hi - lo)
      · rw [if_pos hm]
        have ih := cutsF_ok p i hp N f lo _ h1 hm (by omega) (by omega)
        refine ⟨fun c hc => ?_, ih.2⟩
        rcases List.mem_cons.1 hc with rfl | hc
        · simp only []; omega
        · exact ih.1 c hc
      · rw [if_neg hm]
        have ih := cutsF_ok p i hp N f (lo + split (hi - lo)) hi (by omega) h2 hN (by omega)
        refine ⟨fun c hc => ?_, ih.2.1, ih.2.2.1, ih.2.2.2.1, ih.2.2.2.2.1, by have := ih.2.2.2.2.2; omega⟩
        rcases List.mem_cons.1 hc with rfl | hc
        · simp only []; omega
        · exact ih.1 c hc

theorem cutsF_len (p : Nat → Nat → Bool) (i : Nat) : ∀ f lo hi, (cutsF p i f lo hi).1.length ≤ f
  | 0, _, _ => Nat.le_refl _
  | f + 1, lo, hi => by
    unfold cutsF
    split
    · simp
    · simp only [List.length_cons]
      split
      · exact Nat.succ_le_succ (cutsF_len p i f _ _)
      · exact Nat.succ_le_succ (cutsF_len p i f _ _)

def rootErr (xs : List Int) : Int := if xs.length = 0 then 4 else if 1024 < xs.length then 2 else 0
theorem rootErr_zero {xs : List Int} : rootErr xs = 0 ↔ 0 < xs.length ∧ xs.length ≤ 1024 := by
  unfold rootErr
  by_cases h0 : xs.length = 0
  · rw [if_pos h0]; omega
  · rw [if_neg h0]
    by_cases h1 : 1024 < xs.length
    · rw [if_pos h1]; omega
    · rw [if_neg h1]; omega
def rootV (xs : List Int) : Int := if rootErr xs = 0 then root xs else 0
def onep (lo hi : Nat) : Bool := decide (hi - lo = 1)
theorem onep_ok (i : Nat) : ∀ lo hi, lo ≤ i → i < hi → onep lo hi = false → lo + 2 ≤ hi := by
  intro lo hi h1 h2 h; simp only [onep, decide_eq_false_iff_not] at h; omega
def pathErr (xs : List Int) (i : Int) : Int := if rootErr xs = 0 then (if i < 0 ∨ (xs.length : Int) ≤ i then 1 else 0) else rootErr xs
/-- The path of leaf i. -/
def pathG (xs : List Int) (i : Nat) : List Int := besF xs i (cutsAll onep i xs.length).1
def pathL (xs : List Int) (i : Int) : List Int := if pathErr xs i = 0 then pathG xs i.toNat else []

/-- Up along a list of trees. -/
def foldF (q : Nat × Nat × Nat → Bool) (d : Int) (l : List (Nat × Nat × Nat)) (ps : List Int) : Int :=
  (l.reverse.zip ps).foldl (fun d x => if q x.1 then node d x.2 else node x.2 d) d
def foldK (q : Nat × Nat × Nat → Bool) (d : Int) (l : List (Nat × Nat × Nat)) (ps : List Int) (k : Nat) : Int :=
  ((l.reverse.zip ps).take k).foldl (fun d x => if q x.1 then node d x.2 else node x.2 d) d
theorem foldK_zero (q : Nat × Nat × Nat → Bool) (d : Int) (l : List (Nat × Nat × Nat)) (ps : List Int) : foldK q d l ps 0 = d := rfl
theorem foldK_all (q : Nat × Nat × Nat → Bool) (d : Int) (l : List (Nat × Nat × Nat)) (ps : List Int) (h : l.length ≤ ps.length) : foldK q d l ps l.length = foldF q d l ps := by
  unfold foldK foldF; rw [List.take_of_length_le (by simp; omega)]
theorem foldK_succ (q : Nat × Nat × Nat → Bool) (d : Int) (l : List (Nat × Nat × Nat)) (ps : List Int) (k m : Nat) (hm : m = l.length - 1 - k) (hk : k < l.length) (hml : m < l.length) (hp : k < ps.length) :
    foldK q d l ps (k + 1) = if q l[m] then node (foldK q d l ps k) ps[k] else node ps[k] (foldK q d l ps k) := by
  unfold foldK
  rw [List.take_succ_eq_append_getElem (by simp; omega), List.foldl_append]
  subst hm
  simp [List.getElem_zip, List.getElem_reverse]

def checkF (rt leaf i n : Int) (ps : List Int) : Bool :=
  if n < 1 ∨ 1024 < n ∨ i < 0 ∨ n ≤ i then false else
  (ps.length == (cutsAll onep i.toNat n.toNat).1.length) && foldF (fun c => decide (i.toNat < c.2.1)) leaf (cutsAll onep i.toNat n.toNat).1 ps == rt

/-- The trees in which the first m leaves end. -/
def endp (m lo hi : Nat) : Bool := decide (hi = m)
theorem endp_ok (m : Nat) (hm : 1 ≤ m) : ∀ lo hi, lo ≤ m - 1 → m - 1 < hi → endp m lo hi = false → lo + 2 ≤ hi := by
  intro lo hi h1 h2 h; simp only [endp, decide_eq_false_iff_not] at h; omega
def endsAll (m n : Nat) : List (Nat × Nat × Nat) × Nat × Nat := cutsAll (endp m) (m - 1) n
def growErr (xs : List Int) (m : Int) : Int := if rootErr xs = 0 then (if m < 1 ∨ (xs.length : Int) < m then 1 else 0) else rootErr xs
def growG (xs : List Int) (m : Nat) : List Int :=
  (if 0 < (endsAll m xs.length).2.1 then [root (seg xs (endsAll m xs.length).2.1 (endsAll m xs.length).2.2)] else []) ++ besF xs (m - 1) (endsAll m xs.length).1
def growL (xs : List Int) (m : Int) : List Int := if growErr xs m = 0 then growG xs m.toNat else []

/-- The earlier root out of a proof. -/
def oldF (m : Nat) (d : Int) (l : List (Nat × Nat × Nat)) (ps : List Int) : Int :=
  (l.reverse.zip ps).foldl (fun d x => if x.1.2.1 < m then node x.2 d else d) d
def oldK (m : Nat) (d : Int) (l : List (Nat × Nat × Nat)) (ps : List Int) (k : Nat) : Int :=
  ((l.reverse.zip ps).take k).foldl (fun d x => if x.1.2.1 < m then node x.2 d else d) d
theorem oldK_zero (m : Nat) (d : Int) (l : List (Nat × Nat × Nat)) (ps : List Int) : oldK m d l ps 0 = d := rfl
theorem oldK_all (m : Nat) (d : Int) (l : List (Nat × Nat × Nat)) (ps : List Int) (h : l.length ≤ ps.length) : oldK m d l ps l.length = oldF m d l ps := by
  unfold oldK oldF; rw [List.take_of_length_le (by simp; omega)]
theorem oldK_succ (q : Nat) (d : Int) (l : List (Nat × Nat × Nat)) (ps : List Int) (k m : Nat) (hm : m = l.length - 1 - k) (hk : k < l.length) (hml : m < l.length) (hp : k < ps.length) :
    oldK q d l ps (k + 1) = if l[m].2.1 < q then node ps[k] (oldK q d l ps k) else oldK q d l ps k := by
  unfold oldK
  rw [List.take_succ_eq_append_getElem (by simp; omega), List.foldl_append]
  subst hm
  simp [List.getElem_zip, List.getElem_reverse]

def followsF (old rt m n : Int) (ps : List Int) : Bool :=
  if n < 1 ∨ 1024 < n ∨ m < 1 ∨ n < m then false else
  let r := endsAll m.toNat n.toNat
  if 0 < r.2.1 ∧ ps.length = 0 then false else
  let first := if 0 < r.2.1 then ps.headD 0 else old
  let rest := if 0 < r.2.1 then ps.tail else ps
  if rest.length ≠ r.1.length then false else
  (oldF m.toNat first r.1 rest == old) && (foldF (fun c => decide (m.toNat ≤ c.2.1)) first r.1 rest == rt)
end Go.Sx.Rep
