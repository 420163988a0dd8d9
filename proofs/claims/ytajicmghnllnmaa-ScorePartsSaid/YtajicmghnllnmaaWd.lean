/-
  What the walks of a seat share: the program draws its orders.
-/
import Derived.Test.YtajicmghnllnmaaSzL
import Derived.Test.YtajicmghnllnmaaRows
namespace Go.Proofs.Ytajicmghnllnmaa
open Go.RowKit Go.Sx
theorem wide : Try.prog.follows .mixedOrders = true := by kernel_rfl
end Go.Proofs.Ytajicmghnllnmaa
