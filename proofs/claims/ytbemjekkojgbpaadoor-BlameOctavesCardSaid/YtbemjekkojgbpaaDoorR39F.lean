/-
  Walks: schismaref39.Judge.
-/
import Derived.Test.YtbemjekkojgbpaaDoorR39A
import Derived.Test.YtbemjekkojgbpaaDoorR39E
import Derived.Test.YtbemjekkojgbpaaDoorAuD
set_option linter.unusedVariables false
namespace Go.Proofs.YtbemjekkojgbpaaDoor
open Go.RowKit Go.Sx Go.Sx.Sz Go.Sx.Sc Go.Sx.Au

end Go.Proofs.YtbemjekkojgbpaaDoor
