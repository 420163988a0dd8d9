/-
  Walks: schismaref39.Tones, Few.
-/
import Derived.Test.YtgfaiihekibcbaaGreatDoorAuC
import Derived.Test.YtgfaiihekibcbaaGreatDoorLibR
set_option linter.unusedVariables false
namespace Go.Proofs.YtgfaiihekibcbaaGreatDoor
open Go.RowKit Go.Sx Go.Sx.Sz Go.Sx.Sc Go.Sx.Au

end Go.Proofs.YtgfaiihekibcbaaGreatDoor
