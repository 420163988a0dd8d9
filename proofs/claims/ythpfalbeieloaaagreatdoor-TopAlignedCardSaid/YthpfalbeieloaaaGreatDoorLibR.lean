/-
  Libraries of these proofs, laid as one text: R4A, R4B, R3A, R19A, R19B, R19C, R19D.
-/
import Derived.Test.YthpfalbeieloaaaGreatDoorLibM
import Derived.Test.YthpfalbeieloaaaGreatDoorLibB
import Derived.Test.YthpfalbeieloaaaGreatDoorLibC
import Derived.Deep.DeepCutAuto
/-
  Walks of the reference: schismaref04.Valid, Lower, Upper, Exponents, Pure; schismaref03.Interval.
-/
set_option linter.unusedVariables false
namespace Go.Proofs.YthpfalbeieloaaaGreatDoor
open Go.RowKit Go.Sx Go.Sx.Sz

end Go.Proofs.YthpfalbeieloaaaGreatDoor

/-
  Walks of the reference: schismaref13.Primes; schismaref04.Both, Bounded, Add.
-/
set_option linter.unusedVariables false
namespace Go.Proofs.YthpfalbeieloaaaGreatDoor
open Go.RowKit Go.Sx Go.Sx.Sz

end Go.Proofs.YthpfalbeieloaaaGreatDoor

/-
  Walks of the reference: schismaref03.Valid, Of; schismaref04.Of, Cmp.
-/
set_option linter.unusedVariables false
namespace Go.Proofs.YthpfalbeieloaaaGreatDoor
open Go.RowKit Go.Sx Go.Sx.Sz

end Go.Proofs.YthpfalbeieloaaaGreatDoor

/-
  Walks: schismaref19.Bounded, Note, Ahead, Of, Sounds.
-/
set_option linter.unusedVariables false
namespace Go.Proofs.YthpfalbeieloaaaGreatDoor
open Go.RowKit Go.Sx Go.Sx.Sz Go.Sx.Sc

end Go.Proofs.YthpfalbeieloaaaGreatDoor

/-
  Walk: schismaref19.Notes.
-/
set_option linter.unusedVariables false
namespace Go.Sx.Sc
open Go.Sx.Sz
section
variable {s : Sc}
end
end Go.Sx.Sc
namespace Go.Proofs.YthpfalbeieloaaaGreatDoor
open Go.RowKit Go.Sx Go.Sx.Sz Go.Sx.Sc

end Go.Proofs.YthpfalbeieloaaaGreatDoor

/-
  Walk: schismaref19.Pairs.
-/
set_option linter.unusedVariables false
namespace Go.Sx.Sc
open Go.Sx.Sz
section
variable {s : Sc}
end
end Go.Sx.Sc
namespace Go.Proofs.YthpfalbeieloaaaGreatDoor
open Go.RowKit Go.Sx Go.Sx.Sz Go.Sx.Sc

end Go.Proofs.YthpfalbeieloaaaGreatDoor

/-
  Walk: schismaref19.Valid.
-/
set_option linter.unusedVariables false
namespace Go.Sx.Sc
open Go.Sx.Sz
section
variable {s : Sc}
end
end Go.Sx.Sc
namespace Go.Proofs.YthpfalbeieloaaaGreatDoor
open Go.RowKit Go.Sx Go.Sx.Sz Go.Sx.Sc

end Go.Proofs.YthpfalbeieloaaaGreatDoor
