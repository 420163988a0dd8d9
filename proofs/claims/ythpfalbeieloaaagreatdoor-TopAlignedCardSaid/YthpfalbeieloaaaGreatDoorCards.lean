/-
  DERIVED. GIVEN WITH THE SEED: THE CARDS: each row of YthpfalbeieloaaaGreatDoorRows.lean that lists a variable, with what it lists TIED to the program's text (the seventh form; the later family's looks); each row that meets fmt, with fmt's text TOLD by the authors' own Lean function (tested against real Go, not proved from fmt's source: count such statements apart). THE CARD IS WHAT COUNTS. Prove the row's statement (the work); the ties are given (YthpfalbeieloaaaGreatDoorTie.lean); close each card by the builder's one call (the guide's Derived/Test/ToyasCard.lean, 'card_holds'). Laid BY PROGRAM, IN A SANDBOX (cutbox-door.mjs). By AI agents, Wed Nov 11 2026. No macro, syntax, notation, axiom, sorry.
-/
import Derived.Test.YthpfalbeieloaaaGreatDoorRows
import GoSem.ClaimSeven
namespace Go.Proofs.YthpfalbeieloaaaGreatDoor
namespace Rows

/-- THE TIED CARD OF 'schismatop.TopAligned'. -/
def topAlignedCard : Claim7 := { stood := { row := topAlignedRow, standIns := [], harness := (true, "32bca63abb92eed7477a51795234d4702a7d6c6871a939284e1a4152243710d1"), looks := false }, kinds := [], alts := [], laidByText := true, laidKinds := [.data, .data], laidTests := true, laidLooks := .later }
def TopAlignedCardSaid : Prop := Claim7.holds Tryz.pinned (.plain (OpenSpec.ofChange topAlignedSpec)) topAlignedCard

/-- THE SECOND FORM's CARD OF 'schismatop.TopAligned'. -/
def topAlignedUptoCard : Claim7 := { stood := { row := topAlignedUptoRow, standIns := [], harness := (true, "32bca63abb92eed7477a51795234d4702a7d6c6871a939284e1a4152243710d1"), looks := false }, kinds := [], alts := [], laidByText := true, laidKinds := [.data, .data], laidTests := true, laidLooks := .later }
def TopAlignedUptoCardSaid : Prop := Claim7.holds Tryz.pinned (.plain (OpenSpec.upto topAlignedSpec)) topAlignedUptoCard
end Rows
end Go.Proofs.YthpfalbeieloaaaGreatDoor
