/-
  Walks: schismaref39.finding, Difference.
-/
import Derived.Test.YtgfaiihekibcbaaGreatDoorAuC
import Derived.Test.YtgfaiihekibcbaaGreatDoorLibR
import Derived.Deep.DeepCutAuto
set_option linter.unusedVariables false
namespace Go.Proofs.YtgfaiihekibcbaaGreatDoor
open Go.RowKit Go.Sx Go.Sx.Sz Go.Sx.Sc Go.Sx.Au

end Go.Proofs.YtgfaiihekibcbaaGreatDoor
