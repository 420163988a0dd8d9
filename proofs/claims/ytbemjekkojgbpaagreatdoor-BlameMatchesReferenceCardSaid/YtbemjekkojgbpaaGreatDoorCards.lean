/-
  DERIVED. GIVEN WITH THE SEED: THE CARDS: each row of YtbemjekkojgbpaaGreatDoorRows.lean that lists a variable, with what it lists TIED to the program's text (the seventh form; the later family's looks); each row that meets fmt, with fmt's text TOLD by the authors' own Lean function (tested against real Go, not proved from fmt's source: count such statements apart). THE CARD IS WHAT COUNTS. Prove the row's statement (the work); the ties are given (YtbemjekkojgbpaaGreatDoorTie.lean); close each card by the builder's one call (the guide's Derived/Test/ToyasCard.lean, 'card_holds'). Laid BY PROGRAM, IN A SANDBOX (cutbox-door.mjs). By AI agents, Wed Nov 11 2026. No macro, syntax, notation, axiom, sorry.
-/
import Derived.Test.YtbemjekkojgbpaaGreatDoorRows
import GoSem.ClaimSeven
namespace Go.Proofs.YtbemjekkojgbpaaGreatDoor
namespace Rows

/-- THE TIED CARD OF 'schismalaw40.BlameMatchesReference'. -/
def blameMatchesReferenceCard : Claim7 := { stood := { row := blameMatchesReferenceRow, standIns := [], harness := (true, "a623e10a392d39886b5a90888b5d1d6f58bba86833479612365620eeba6c111e"), looks := false }, kinds := [], alts := [], laidByText := true, laidKinds := [.data], laidTests := true, laidLooks := .later }
def BlameMatchesReferenceCardSaid : Prop := Claim7.holds Tryz.pinned (.plain (OpenSpec.ofChange blameMatchesReferenceSpec)) blameMatchesReferenceCard

/-- THE SECOND FORM's CARD OF 'schismalaw40.BlameMatchesReference'. -/
def blameMatchesReferenceUptoCard : Claim7 := { stood := { row := blameMatchesReferenceUptoRow, standIns := [], harness := (true, "a623e10a392d39886b5a90888b5d1d6f58bba86833479612365620eeba6c111e"), looks := false }, kinds := [], alts := [], laidByText := true, laidKinds := [.data], laidTests := true, laidLooks := .later }
def BlameMatchesReferenceUptoCardSaid : Prop := Claim7.holds Tryz.pinned (.plain (OpenSpec.upto blameMatchesReferenceSpec)) blameMatchesReferenceUptoCard
end Rows
end Go.Proofs.YtbemjekkojgbpaaGreatDoor
