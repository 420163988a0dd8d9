/-
  Plain: what the laws of chapter 40 ask of charges and deviants.
-/
import Derived.Test.YthpfalbeieloaaaGreatDoorLibP
set_option linter.unusedVariables false
set_option linter.unusedSectionVars false
namespace Go.Sx.Bl
open Go.Sx.Sz Go.Sx.Sc Go.Sx.Au Go.Sx.Po

end Go.Sx.Bl
