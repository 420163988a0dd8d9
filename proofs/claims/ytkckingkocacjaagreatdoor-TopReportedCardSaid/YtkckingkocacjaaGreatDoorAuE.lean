/-
  Walks of audit: Ideal.
-/
import Derived.Test.YtkckingkocacjaaGreatDoorAuC
import Derived.Test.YtkckingkocacjaaGreatDoorLibC
set_option linter.unusedVariables false
namespace Go.Proofs.YtkckingkocacjaaGreatDoor
open Go.RowKit Go.Sx Go.Sx.Sz Go.Sx.Sc Go.Sx.Au

set_option maxRecDepth 100000 in
theorem et_sz : ET Tryz.prog 36 50 2 16 := .mk' (z := .agg #[.int .i64 0, .int .i64 0]) Tryz.underlying36 (by kernel_rfl) rfl (by decide) (by decide)
set_option maxRecDepth 100000 in
theorem idealR_bad {s : Sc} {xs : List V6} (h : ¬ (scB s = true ∧ xs.length = s.notes.length ∧ xs.all (fun x => within x 48) = true)) : idealR s xs = ([], 1) := if_neg h

end Go.Proofs.YtkckingkocacjaaGreatDoor
