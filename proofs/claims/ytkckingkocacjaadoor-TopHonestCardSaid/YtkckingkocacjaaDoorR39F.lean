/-
  Walks: schismaref39.Judge.
-/
import Derived.Test.YtkckingkocacjaaDoorR39A
import Derived.Test.YtkckingkocacjaaDoorR39E
import Derived.Test.YtkckingkocacjaaDoorAuD
set_option linter.unusedVariables false
namespace Go.Proofs.YtkckingkocacjaaDoor
open Go.RowKit Go.Sx Go.Sx.Sz Go.Sx.Sc Go.Sx.Au

end Go.Proofs.YtkckingkocacjaaDoor
