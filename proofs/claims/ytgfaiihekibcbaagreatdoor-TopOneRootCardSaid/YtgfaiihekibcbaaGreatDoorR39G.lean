/-
  Walks: schismaref39.Audit, Ideal.
-/
import Derived.Test.YtgfaiihekibcbaaGreatDoorR39F
import Derived.Test.YtgfaiihekibcbaaGreatDoorR39B
set_option linter.unusedVariables false
namespace Go.Proofs.YtgfaiihekibcbaaGreatDoor
open Go.RowKit Go.Sx Go.Sx.Sz Go.Sx.Sc Go.Sx.Au

end Go.Proofs.YtgfaiihekibcbaaGreatDoor
