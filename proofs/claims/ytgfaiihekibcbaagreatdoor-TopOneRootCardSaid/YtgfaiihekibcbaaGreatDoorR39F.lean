/-
  Walks: schismaref39.Judge.
-/
import Derived.Test.YtgfaiihekibcbaaGreatDoorR39A
import Derived.Test.YtgfaiihekibcbaaGreatDoorR39E
import Derived.Test.YtgfaiihekibcbaaGreatDoorAuD
set_option linter.unusedVariables false
namespace Go.Proofs.YtgfaiihekibcbaaGreatDoor
open Go.RowKit Go.Sx Go.Sx.Sz Go.Sx.Sc Go.Sx.Au

end Go.Proofs.YtgfaiihekibcbaaGreatDoor
