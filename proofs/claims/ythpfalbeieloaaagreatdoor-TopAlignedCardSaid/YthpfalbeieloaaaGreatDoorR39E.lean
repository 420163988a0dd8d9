/-
  Walks: schismaref39.finding, Difference.
-/
import Derived.Test.YthpfalbeieloaaaGreatDoorAuC
import Derived.Test.YthpfalbeieloaaaGreatDoorLibR
import Derived.Deep.DeepCutAuto
set_option linter.unusedVariables false
namespace Go.Proofs.YthpfalbeieloaaaGreatDoor
open Go.RowKit Go.Sx Go.Sx.Sz Go.Sx.Sc Go.Sx.Au

end Go.Proofs.YthpfalbeieloaaaGreatDoor
