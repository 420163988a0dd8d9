/-
  Plain: what measured tones say of the pairs of a score.
-/
import Derived.Test.YtigigcbondhmmaaDoorLibB
set_option linter.unusedVariables false
namespace Go.Sx.Au
open Go.Sx.Sz Go.Sx.Sc

/-- A finding. -/
structure Fnd where
  i : Int
  verdict : Int
  bound : Int
deriving Inhabited, DecidableEq
def noFd : Fnd := ⟨0, 0, 0⟩
def diffS (a b w : S2) : S2 := ⟨b.lo - a.hi - w.hi, b.hi - a.lo - w.lo⟩
def farZ (d : S2) : Int := if -d.lo ≤ d.hi then d.hi else -d.lo
def apartZ (d : S2) : Int := if 0 < d.lo ∧ -d.hi ≤ d.lo then d.lo else if 0 < -d.hi then -d.hi else 0
def verdZ (d : S2) (b : Int) : Int := if farZ d ≤ b * 10000 then 1 else if b * 10000 < apartZ d then 2 else 3
def bndZ (d : S2) (b : Int) : Int := if verdZ d b = 2 then (apartZ d - 1) / 10000 else ((if 0 ≤ farZ d then farZ d else 0) + 9999) / 10000
def findZ (i : Int) (d : S2) (b : Int) : Fnd := ⟨i, verdZ d b, bndZ d b⟩
def wantS (v : V6) : S2 := expo (v.times 12)
def T (l : List S2) (k : Nat) : S2 := l.getD k ⟨0, 0⟩
def pairD (s : Sc) (l : List S2) (p : Pr) : S2 := diffS (T l p.a.toNat) (T l p.b.toNat) (wantS p.want)
def tonesOk (s : Sc) (l : List S2) : Prop := ScOk s ∧ l.length = s.notes.length ∧ ∀ z ∈ l, szOk z = true
def tonesB (s : Sc) (l : List S2) : Bool := scB s && decide (l.length = s.notes.length) && l.all szOk
theorem tonesB_iff {s : Sc} {l : List S2} : tonesB s l = true ↔ tonesOk s l := by
  unfold tonesB tonesOk
  rw [Bool.and_eq_true, Bool.and_eq_true, scB_iff, decide_eq_true_eq, List.all_eq_true, and_assoc]
theorem tonesB_false {s : Sc} {l : List S2} (h : ¬ tonesOk s l) : tonesB s l = false := by
  cases hh : tonesB s l with
  | false => rfl
  | true => exact absurd (tonesB_iff.1 hh) h
def fdOf (s : Sc) (l : List S2) (k : Nat) : Fnd := findZ k (pairD s l (s.P k)) (s.P k).bound
def judgeR (s : Sc) (l : List S2) (k : Int) : Fnd × Int := if tonesB s l = true ∧ 0 ≤ k ∧ k < s.pairs.length then (fdOf s l k.toNat, 0) else (noFd, 1)
def auditR (s : Sc) (l : List S2) : List Fnd × Int := if tonesB s l = true then ((List.range s.pairs.length).map (fdOf s l), 0) else ([], 1)
def narrowR (a b : List S2) : List S2 × Int :=
  if a.length ≠ b.length then ([], 1)
  else if (a.all szOk && b.all szOk) = false then ([], 1)
  else if (List.zipWith meet a b).all (fun z => decide (z.lo ≤ z.hi)) = true then (List.zipWith meet a b, 0) else ([], 23)
def idealR (s : Sc) (xs : List V6) : List S2 × Int :=
  if scB s = true ∧ xs.length = s.notes.length ∧ xs.all (fun x => within x 48) = true then (xs.map wantS, 0) else ([], 1)

section
variable {d : S2} {b : Int}
theorem far_iff {k : Int} : farZ d ≤ k ↔ d.hi ≤ k ∧ -k ≤ d.lo := by unfold farZ; split <;> omega
theorem far_ge : d.hi ≤ farZ d ∧ -d.lo ≤ farZ d := by unfold farZ; split <;> omega
theorem apart_iff {k : Int} (hk : 0 ≤ k) : k < apartZ d ↔ k < d.lo ∨ k < -d.hi := by unfold apartZ; repeat' split; all_goals omega
theorem apart_nonneg : 0 ≤ apartZ d := by unfold apartZ; repeat' split; all_goals omega
theorem shown_iff : verdZ d b = 1 ↔ d.hi ≤ b * 10000 ∧ -(b * 10000) ≤ d.lo := by
  rw [← far_iff]
  unfold verdZ
  by_cases h : farZ d ≤ b * 10000
  · rw [if_pos h]; exact ⟨fun _ => h, fun _ => rfl⟩
  · rw [if_neg h]
    refine ⟨fun h2 => ?_, fun h2 => absurd h2 h⟩
    split at h2 <;> omega
theorem denied_iff (hb : 0 ≤ b) (hd : d.lo ≤ d.hi) : verdZ d b = 2 ↔ b * 10000 < d.lo ∨ b * 10000 < -d.hi := by
  have h1 := @apart_iff d (b * 10000) (by omega)
  have h2 := @far_iff d (b * 10000)
  rw [← h1]
  unfold verdZ
  by_cases h : farZ d ≤ b * 10000
  · rw [if_pos h]
    refine ⟨fun h3 => by omega, fun h3 => ?_⟩
    have a := h2.1 h
    have c := h1.1 h3
    omega
  · rw [if_neg h]
    by_cases k : b * 10000 < apartZ d
    · rw [if_pos k]; exact ⟨fun _ => k, fun _ => rfl⟩
    · rw [if_neg k]; exact ⟨fun h3 => by omega, fun h3 => absurd h3 k⟩
theorem verd_cases : verdZ d b = 1 ∨ verdZ d b = 2 ∨ verdZ d b = 3 := by
  unfold verdZ
  split
  · exact .inl rfl
  · split
    · exact .inr (.inl rfl)
    · exact .inr (.inr rfl)

/-! ### The laws -/
/-- Truth: numbers within. -/
theorem truth_shown {a b' w : S2} {x y z : Int} (ha : a.lo ≤ x ∧ x ≤ a.hi) (hb : b'.lo ≤ y ∧ y ≤ b'.hi) (hw : w.lo ≤ z ∧ z ≤ w.hi) (h : verdZ (diffS a b' w) b = 1) : y - x - z ≤ b * 10000 ∧ -(y - x - z) ≤ b * 10000 := by
  have := shown_iff.1 h
  simp only [diffS] at this
  omega
theorem truth_denied {a b' w : S2} {x y z : Int} (h0 : 0 ≤ b) (ha : a.lo ≤ x ∧ x ≤ a.hi) (hb : b'.lo ≤ y ∧ y ≤ b'.hi) (hw : w.lo ≤ z ∧ z ≤ w.hi) (h : verdZ (diffS a b' w) b = 2) : b * 10000 < y - x - z ∨ b * 10000 < -(y - x - z) := by
  have := (denied_iff h0 (by simp only [diffS]; omega)).1 h
  simp only [diffS] at this
  omega
/-- A narrower difference. -/
theorem verd_narrow {d' : S2} (h0 : 0 ≤ b) (h1 : d.lo ≤ d'.lo) (h2 : d'.hi ≤ d.hi) (h3 : d'.lo ≤ d'.hi) (hv : verdZ d b ≠ 3) : verdZ d' b = verdZ d b := by
  rcases @verd_cases d b with h | h | h
  · rw [h]; rw [shown_iff] at *; omega
  · rw [h]; rw [denied_iff h0 h3]; rw [denied_iff h0 (by omega)] at h; omega
  · exact absurd h hv
theorem diff_shift {a b' w : S2} (k : Int) : diffS ⟨a.lo + k, a.hi + k⟩ ⟨b'.lo + k, b'.hi + k⟩ w = diffS a b' w := by
  simp only [diffS, S2.mk.injEq]; omega
theorem bnd_nonneg (h0 : 0 ≤ b) : 0 ≤ bndZ d b := by
  unfold bndZ
  have h := @apart_iff d (b * 10000) (by omega)
  by_cases hv : verdZ d b = 2
  · rw [if_pos hv]
    have : b * 10000 < apartZ d := by
      unfold verdZ at hv
      split at hv
      · omega
      · split at hv
        · assumption
        · omega
    omega
  · rw [if_neg hv]; split <;> omega
theorem den_apart (hv : verdZ d b = 2) : b * 10000 < apartZ d := by
  unfold verdZ at hv
  split at hv
  · omega
  · split at hv
    · assumption
    · omega
/-- Not denied: shown with the bound of the finding, not with one less. -/
theorem bnd_shown (hv : verdZ d b ≠ 2) : verdZ d (bndZ d b) = 1 := by
  have he : bndZ d b = ((if 0 ≤ farZ d then farZ d else 0) + 9999) / 10000 := if_neg hv
  unfold verdZ
  rw [if_pos]
  rw [he]
  split <;> omega
theorem bnd_less (hv : verdZ d b ≠ 2) (h1 : 0 ≤ bndZ d b - 1) : verdZ d (bndZ d b - 1) ≠ 1 := by
  have he : bndZ d b = ((if 0 ≤ farZ d then farZ d else 0) + 9999) / 10000 := if_neg hv
  intro h
  have hs := shown_iff.1 h
  have hf := (@far_iff d ((bndZ d b - 1) * 10000)).2 hs
  rw [he] at hf h1
  split at hf <;> omega
theorem bnd_denied (h0 : 0 ≤ b) (hd : d.lo ≤ d.hi) (hv : verdZ d b = 2) : verdZ d (bndZ d b) = 2 ∧ verdZ d (bndZ d b + 1) ≠ 2 := by
  have he : bndZ d b = (apartZ d - 1) / 10000 := if_pos hv
  have ha := den_apart hv
  have hn := bnd_nonneg (d := d) h0
  constructor
  · rw [denied_iff hn hd, ← apart_iff (by omega)]; rw [he]; omega
  · intro h
    have := den_apart h
    rw [he] at this; omega
/-- Another bound. -/
theorem verd_greater {c : Int} (h0 : 0 ≤ b) (hbc : b ≤ c) (hd : d.lo ≤ d.hi) : (verdZ d b = 1 → verdZ d c = 1) ∧ (verdZ d c = 2 → verdZ d b = 2) := by
  refine ⟨fun h => ?_, fun h => ?_⟩
  · rw [shown_iff] at *; omega
  · rw [denied_iff (by omega) hd] at h; rw [denied_iff h0 hd]; omega
theorem bnd_same {c : Int} (h : verdZ d b = verdZ d c) : bndZ d b = bndZ d c := by unfold bndZ; rw [h]
end
end Go.Sx.Au
