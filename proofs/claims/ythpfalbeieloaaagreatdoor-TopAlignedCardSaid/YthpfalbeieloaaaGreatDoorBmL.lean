/-
  Open arguments of the laws of chapter 40.
-/
import Derived.Test.YthpfalbeieloaaaGreatDoorAuE
import Derived.Test.YthpfalbeieloaaaGreatDoorLibC
import Derived.Test.YthpfalbeieloaaaGreatDoorLdA
namespace Go.Proofs.YthpfalbeieloaaaGreatDoor
open Go.RowKit Go.Sx Go.Sx.Sz Go.Sx.Sc Go.Sx.Au Go.ChangeShapes Go.WideShapes Go.ChangeAt

section
variable {H : Type} {enc : TypeId × Value → H} {W : World} {base : Nat} {v : Value} {d : DataW H}
end

end Go.Proofs.YthpfalbeieloaaaGreatDoor
