/-
  Walks of audit: finding, newDifference.
-/
import Derived.Test.YtgfaiihekibcbaaGreatDoorAuA
import Derived.Test.YtgfaiihekibcbaaGreatDoorLibM
import Derived.Test.YtgfaiihekibcbaaGreatDoorLibC
set_option linter.unusedVariables false
namespace Go.Proofs.YtgfaiihekibcbaaGreatDoor
open Go.RowKit Go.Sx Go.Sx.Sz Go.Sx.Sc Go.Sx.Au

end Go.Proofs.YtgfaiihekibcbaaGreatDoor
