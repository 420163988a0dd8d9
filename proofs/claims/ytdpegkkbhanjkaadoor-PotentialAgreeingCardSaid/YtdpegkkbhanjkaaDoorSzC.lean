/-
  Walks: size.Of, plus, minus, combine, Add, Sub, Cmp, Meet.
-/
import Derived.Test.YtdpegkkbhanjkaaDoorSzB
set_option linter.unusedVariables false
namespace Go.Proofs.YtdpegkkbhanjkaaDoor
open Go.RowKit Go.Sx Go.Sx.Sz


end Go.Proofs.YtdpegkkbhanjkaaDoor
