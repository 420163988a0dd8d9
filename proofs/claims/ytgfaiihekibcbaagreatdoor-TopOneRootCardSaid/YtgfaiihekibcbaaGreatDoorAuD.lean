/-
  Walks of audit: valid, Judge.
-/
import Derived.Test.YtgfaiihekibcbaaGreatDoorAuC
import Derived.Test.YtgfaiihekibcbaaGreatDoorLibC
import Derived.Test.YtgfaiihekibcbaaGreatDoorLibM
set_option linter.unusedVariables false
namespace Go.Proofs.YtgfaiihekibcbaaGreatDoor
open Go.RowKit Go.Sx Go.Sx.Sz Go.Sx.Sc Go.Sx.Au

end Go.Proofs.YtgfaiihekibcbaaGreatDoor
