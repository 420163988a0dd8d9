/-
  Walks of audit: far, apart, shown, denied, verdict, finding.
-/
import Derived.Test.YtgfaiihekibcbaaGreatDoorLibP
import Derived.Test.YtgfaiihekibcbaaGreatDoorLibB
import Derived.Test.YtgfaiihekibcbaaGreatDoorLibM
import Derived.Test.YtgfaiihekibcbaaGreatDoorLibA
set_option linter.unusedVariables false
namespace Go.Proofs.YtgfaiihekibcbaaGreatDoor
open Go.RowKit Go.Sx Go.Sx.Sz Go.Sx.Sc Go.Sx.Au

end Go.Proofs.YtgfaiihekibcbaaGreatDoor
