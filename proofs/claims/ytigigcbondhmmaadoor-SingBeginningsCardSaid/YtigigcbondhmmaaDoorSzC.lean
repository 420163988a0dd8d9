/-
  Walks: size.Of, plus, minus, combine, Add, Sub, Cmp, Meet.
-/
import Derived.Test.YtigigcbondhmmaaDoorSzB
set_option linter.unusedVariables false
namespace Go.Proofs.YtigigcbondhmmaaDoor
open Go.RowKit Go.Sx Go.Sx.Sz


end Go.Proofs.YtigigcbondhmmaaDoor
