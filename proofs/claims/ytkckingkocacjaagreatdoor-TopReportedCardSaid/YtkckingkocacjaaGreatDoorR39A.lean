/-
  Walks: schismaref39.Tones, Few.
-/
import Derived.Test.YtkckingkocacjaaGreatDoorAuC
import Derived.Test.YtkckingkocacjaaGreatDoorLibR
set_option linter.unusedVariables false
namespace Go.Proofs.YtkckingkocacjaaGreatDoor
open Go.RowKit Go.Sx Go.Sx.Sz Go.Sx.Sc Go.Sx.Au

def fewB (s : Sc) : Bool := decide (s.notes.length ≤ 40 ∧ s.pairs.length ≤ 60)
end Go.Proofs.YtkckingkocacjaaGreatDoor
