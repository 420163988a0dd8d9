/-
  Walks: schismaref39.SameSizes, SameFindings.
-/
import Derived.Test.YtgfaiihekibcbaaGreatDoorAuE
set_option linter.unusedVariables false
namespace Go.Proofs.YtgfaiihekibcbaaGreatDoor
open Go.RowKit Go.Sx Go.Sx.Sz Go.Sx.Sc Go.Sx.Au

end Go.Proofs.YtgfaiihekibcbaaGreatDoor
