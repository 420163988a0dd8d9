/-
  Walks: schismaref39.Judge.
-/
import Derived.Test.YtkckingkocacjaaGreatDoorR39A
import Derived.Test.YtkckingkocacjaaGreatDoorR39E
import Derived.Test.YtkckingkocacjaaGreatDoorAuD
set_option linter.unusedVariables false
namespace Go.Proofs.YtkckingkocacjaaGreatDoor
open Go.RowKit Go.Sx Go.Sx.Sz Go.Sx.Sc Go.Sx.Au

end Go.Proofs.YtkckingkocacjaaGreatDoor
