/-
  Walks: partial.Refute.
-/
import Derived.Test.YtkckingkocacjaaDoorPaD
set_option linter.unusedVariables false
namespace Go.Proofs.YtkckingkocacjaaDoor
open Go.RowKit Go.Sx Go.Sx.Sz

theorem refF_drop (l : List S2) (k : Nat) (hk : k < l.length) : refF (l.drop k) k = match (l.drop k).findIdx? (disj l[k]) with
    | some j => some (k, k + j)
    | none => refF (l.drop (k + 1)) (k + 1) := by
  rw [List.drop_eq_getElem_cons hk]
  rfl
theorem disj_self {a : S2} (h : szOk a = true) : disj a a = false := by
  rw [szOk_iff] at h
  simp [disj]; omega

end Go.Proofs.YtkckingkocacjaaDoor
