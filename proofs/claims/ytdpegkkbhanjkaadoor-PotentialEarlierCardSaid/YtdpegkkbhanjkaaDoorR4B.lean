/-
  Walks of the reference: schismaref13.Primes; schismaref04.Both, Bounded, Add.
-/
import Derived.Test.YtdpegkkbhanjkaaDoorR4A
import Derived.Test.YtdpegkkbhanjkaaDoorSzD
import Derived.Test.YtdpegkkbhanjkaaDoorLibB
set_option linter.unusedVariables false
namespace Go.Proofs.YtdpegkkbhanjkaaDoor
open Go.RowKit Go.Sx Go.Sx.Sz

set_option maxRecDepth 100000 in
theorem primeCells_at {k : Nat} (h : k < 6) : primeCells.toArray[k]? = some (.int .i64 (prime k)) := by
  rcases lt6 h with rfl | rfl | rfl | rfl | rfl | rfl <;> rfl

end Go.Proofs.YtdpegkkbhanjkaaDoor
