/-
  Walks of audit: findings (a range over a function), Audit.
-/
import Derived.Test.YtgfaiihekibcbaaGreatDoorLibA
import Derived.Test.YtgfaiihekibcbaaGreatDoorAuD
import Derived.Test.YtgfaiihekibcbaaGreatDoorR39G
set_option linter.unusedVariables false
namespace Go.Proofs.YtgfaiihekibcbaaGreatDoor
open Go.RowKit Go.Sx Go.Sx.Sz Go.Sx.Sc Go.Sx.Au
attribute [local go_sem] Oper.semAt_some wide_fn wide_depth

end Go.Proofs.YtgfaiihekibcbaaGreatDoor
