/-
  Plain definitions on rows of partials (no program in sight).
-/
import Derived.Test.YthpfalbeieloaaaGreatDoorLibB
namespace Go.Sx.Sz

structure Row where
  h : Int
  lo : Int
  hi : Int
deriving Inhabited, DecidableEq

def rowOk (r : Row) : Bool := decide (1 ≤ r.h) && decide (r.h ≤ 16) && decide (-10000000000000 ≤ r.lo) && decide (r.lo ≤ r.hi) && decide (r.hi ≤ 10000000000000)
theorem rowOk_iff {r : Row} : rowOk r = true ↔ 1 ≤ r.h ∧ r.h ≤ 16 ∧ -10000000000000 ≤ r.lo ∧ r.lo ≤ r.hi ∧ r.hi ≤ 10000000000000 := by
  simp [rowOk, and_assoc]
def rootS (r : Row) : S2 := subS ⟨r.lo, r.hi⟩ (harmS r.h)
def rootR (r : Row) : S2 × Int := if rowOk r = true then (rootS r, 0) else (zeroS, 1)
theorem rootS_bd {r : Row} (h : rowOk r = true) : -10050000000000 ≤ (rootS r).lo ∧ (rootS r).lo ≤ (rootS r).hi ∧ (rootS r).hi ≤ 10050000000000 := by
  rw [rowOk_iff] at h
  have := harmS_bd h.1 h.2.1
  simp only [rootS, subS]
  omega
theorem rootS_ok {r : Row} (h : rowOk r = true) : szOk (rootS r) = true := by
  have := rootS_bd h
  rw [szOk_iff]; omega
def rowsOk (l : List Row) : Bool := decide (l.length ≤ 16) && l.all rowOk
theorem rowsOk_iff {l : List Row} : rowsOk l = true ↔ l.length ≤ 16 ∧ ∀ r ∈ l, rowOk r = true := by
  simp [rowsOk]
def rootsL (l : List Row) : List S2 := if rowsOk l = true then l.map rootS else []
def rootsE (l : List Row) : Int := if rowsOk l = true then 0 else 1
theorem rootsE_ok {l : List Row} (h : rowsOk l = true) : rootsE l = 0 := if_pos h
theorem rootsL_ok {l : List Row} (h : rowsOk l = true) : rootsL l = l.map rootS := if_pos h

def everything : S2 := ⟨-100000000000000, 100000000000000⟩
def common (l : List S2) : S2 := l.foldl meet everything
theorem common_take (l : List S2) (k : Nat) (h : k < l.length) : common (l.take (k + 1)) = meet (common (l.take k)) l[k] := by
  unfold common; rw [List.take_succ_eq_append_getElem h, List.foldl_append]; rfl
theorem meet_le (a b : S2) : a.lo ≤ (meet a b).lo ∧ b.lo ≤ (meet a b).lo ∧ (meet a b).hi ≤ a.hi ∧ (meet a b).hi ≤ b.hi := by
  simp only [meet]; split <;> split <;> omega
theorem foldl_meet_le (l : List S2) : ∀ c : S2, c.lo ≤ (l.foldl meet c).lo ∧ (l.foldl meet c).hi ≤ c.hi := by
  induction l with
  | nil => intro c; exact ⟨Int.le_refl _, Int.le_refl _⟩
  | cons s l ih =>
    intro c
    have := ih (meet c s); have h2 := meet_le c s
    simp only [List.foldl_cons]; omega
theorem common_mono (l : List S2) (k : Nat) : (common (l.take k)).lo ≤ (common l).lo ∧ (common l).hi ≤ (common (l.take k)).hi := by
  have := foldl_meet_le (l.drop k) (common (l.take k))
  rw [common, ← List.foldl_append, List.take_append_drop] at this
  exact this
theorem foldl_meet_lo (l : List S2) (x : Int) : ∀ c : S2, (l.foldl meet c).lo ≤ x ↔ c.lo ≤ x ∧ ∀ s ∈ l, s.lo ≤ x := by
  induction l with
  | nil => intro c; simp
  | cons s l ih =>
    intro c
    simp only [List.foldl_cons, ih, List.mem_cons, forall_eq_or_imp]
    have : (meet c s).lo ≤ x ↔ c.lo ≤ x ∧ s.lo ≤ x := by simp only [meet]; split <;> omega
    rw [this, and_assoc]
theorem foldl_meet_hi (l : List S2) (x : Int) : ∀ c : S2, x ≤ (l.foldl meet c).hi ↔ x ≤ c.hi ∧ ∀ s ∈ l, x ≤ s.hi := by
  induction l with
  | nil => intro c; simp
  | cons s l ih =>
    intro c
    simp only [List.foldl_cons, ih, List.mem_cons, forall_eq_or_imp]
    have : x ≤ (meet c s).hi ↔ x ≤ c.hi ∧ x ≤ s.hi := by simp only [meet]; split <;> omega
    rw [this, and_assoc]
theorem common_lo {l : List S2} {x : Int} : (common l).lo ≤ x ↔ -100000000000000 ≤ x ∧ ∀ s ∈ l, s.lo ≤ x := foldl_meet_lo l x _
theorem common_hi {l : List S2} {x : Int} : x ≤ (common l).hi ↔ x ≤ 100000000000000 ∧ ∀ s ∈ l, x ≤ s.hi := foldl_meet_hi l x _
theorem common_bd (l : List S2) : -100000000000000 ≤ (common l).lo ∧ (common l).hi ≤ 100000000000000 :=
  ⟨(common_lo.1 (Int.le_refl _)).1, (common_hi.1 (Int.le_refl _)).1⟩
theorem common_ok {l : List S2} (h : (common l).lo ≤ (common l).hi) : szOk (common l) = true := by
  have := common_bd l
  rw [szOk_iff]; omega
def commonR (l : List S2) : S2 × Int := if (common l).lo ≤ (common l).hi then (common l, 0) else (zeroS, 23)
def toneR (l : List Row) : S2 × Int := if rowsOk l = true then commonR (l.map rootS) else (zeroS, 1)

end Go.Sx.Sz
