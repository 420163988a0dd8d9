/-
  Walks of audit: Ideal.
-/
import Derived.Test.YthpfalbeieloaaaGreatDoorAuC
import Derived.Test.YthpfalbeieloaaaGreatDoorLibC
set_option linter.unusedVariables false
namespace Go.Proofs.YthpfalbeieloaaaGreatDoor
open Go.RowKit Go.Sx Go.Sx.Sz Go.Sx.Sc Go.Sx.Au

set_option maxRecDepth 100000 in
theorem et_sz : ET Tryz.prog 36 50 2 16 := .mk' (z := .agg #[.int .i64 0, .int .i64 0]) Tryz.underlying36 (by kernel_rfl) rfl (by decide) (by decide)
end Go.Proofs.YthpfalbeieloaaaGreatDoor
