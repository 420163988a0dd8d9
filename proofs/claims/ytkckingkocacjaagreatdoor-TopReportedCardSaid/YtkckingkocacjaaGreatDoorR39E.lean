/-
  Walks: schismaref39.finding, Difference.
-/
import Derived.Test.YtkckingkocacjaaGreatDoorAuC
import Derived.Test.YtkckingkocacjaaGreatDoorLibR
import Derived.Deep.DeepCutAuto
set_option linter.unusedVariables false
namespace Go.Proofs.YtkckingkocacjaaGreatDoor
open Go.RowKit Go.Sx Go.Sx.Sz Go.Sx.Sc Go.Sx.Au

set_option maxRecDepth 100000 in
/-- The greatest of -lo, hi and 0. -/
theorem far_max (d : S2) (h : d.lo ≤ d.hi) : (if 0 ≤ farZ d then farZ d else 0) = farZ d := by unfold farZ; split <;> split <;> omega
set_option maxRecDepth 100000 in
theorem findZ_open (i : Int) {d : S2} {b : Int} (hb : 0 ≤ b) (h : d.lo ≤ d.hi) (h1 : ¬ (-(b * 10000) ≤ d.lo ∧ d.hi ≤ b * 10000)) (h2 : ¬ b * 10000 < d.lo) (h3 : ¬ d.hi < -(b * 10000)) : findZ i d b = ⟨i, 3, (farZ d + 9999) / 10000⟩ := by
  have hv : verdZ d b = 3 := by
    rcases @verd_cases d b with h | h' | h
    · have := shown_iff.1 h; omega
    · have := (denied_iff hb h).1 h'; omega
    · exact h
  unfold findZ bndZ
  rw [hv, if_neg (by omega), far_max d h]
set_option maxRecDepth 100000 in
theorem findZ_shown (i : Int) {d : S2} {b : Int} (h : d.lo ≤ d.hi) (h1 : -(b * 10000) ≤ d.lo ∧ d.hi ≤ b * 10000) : findZ i d b = ⟨i, 1, (farZ d + 9999) / 10000⟩ := by
  have hv : verdZ d b = 1 := shown_iff.2 ⟨h1.2, h1.1⟩
  unfold findZ bndZ
  rw [hv, if_neg (by omega), far_max d h]
set_option maxRecDepth 100000 in
theorem findZ_above (i : Int) {d : S2} {b : Int} (hb : 0 ≤ b) (h : d.lo ≤ d.hi) (h1 : b * 10000 < d.lo) : findZ i d b = ⟨i, 2, (d.lo - 1) / 10000⟩ := by
  have hv : verdZ d b = 2 := (denied_iff hb h).2 (.inl h1)
  unfold findZ bndZ
  rw [hv, if_pos rfl]
  have : apartZ d = d.lo := by unfold apartZ; rw [if_pos (by omega)]
  rw [this]
set_option maxRecDepth 100000 in
theorem findZ_below (i : Int) {d : S2} {b : Int} (hb : 0 ≤ b) (h : d.lo ≤ d.hi) (h1 : d.hi < -(b * 10000)) : findZ i d b = ⟨i, 2, (-d.hi - 1) / 10000⟩ := by
  have hv : verdZ d b = 2 := (denied_iff hb h).2 (.inr (by omega))
  unfold findZ bndZ
  rw [hv, if_pos rfl]
  have : apartZ d = -d.hi := by unfold apartZ; rw [if_neg (by omega), if_pos (by omega)]
  rw [this]

end Go.Proofs.YtkckingkocacjaaGreatDoor
