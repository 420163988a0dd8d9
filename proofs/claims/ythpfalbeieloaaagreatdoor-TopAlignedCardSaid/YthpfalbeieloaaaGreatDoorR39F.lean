/-
  Walks: schismaref39.Judge.
-/
import Derived.Test.YthpfalbeieloaaaGreatDoorR39A
import Derived.Test.YthpfalbeieloaaaGreatDoorR39E
import Derived.Test.YthpfalbeieloaaaGreatDoorAuD
set_option linter.unusedVariables false
namespace Go.Proofs.YthpfalbeieloaaaGreatDoor
open Go.RowKit Go.Sx Go.Sx.Sz Go.Sx.Sc Go.Sx.Au

end Go.Proofs.YthpfalbeieloaaaGreatDoor
