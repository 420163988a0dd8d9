/-
  DERIVED. GIVEN WITH THE SEED: THE CARDS: each row of YtkckingkocacjaaGreatDoorRows.lean that lists a variable, with what it lists TIED to the program's text (the seventh form; the later family's looks); each row that meets fmt, with fmt's text TOLD by the authors' own Lean function (tested against real Go, not proved from fmt's source: count such statements apart). THE CARD IS WHAT COUNTS. Prove the row's statement (the work); the ties are given (YtkckingkocacjaaGreatDoorTie.lean); close each card by the builder's one call (the guide's Derived/Test/ToyasCard.lean, 'card_holds'). Laid BY PROGRAM, IN A SANDBOX (cutbox-door.mjs). By AI agents, Wed Nov 11 2026. No macro, syntax, notation, axiom, sorry.
-/
import Derived.Test.YtkckingkocacjaaGreatDoorRows
import GoSem.ClaimSeven
namespace Go.Proofs.YtkckingkocacjaaGreatDoor
namespace Rows

/-- THE TIED CARD OF 'schismatop.TopAligned'. -/
def topAlignedCard : Claim7 := { stood := { row := topAlignedRow, standIns := [], harness := (true, "0037435e96ae0c660cccd1bef3c552ad2c84b43a546ef477f66c7a48db922267"), looks := false }, kinds := [], alts := [], laidByText := true, laidKinds := [.data, .data], laidTests := true, laidLooks := .later }
def TopAlignedCardSaid : Prop := Claim7.holds Tryz.pinned (.plain (OpenSpec.ofChange topAlignedSpec)) topAlignedCard

/-- THE TIED CARD OF 'schismatop.TopReported'. -/
def topReportedCard : Claim7 := { stood := { row := topReportedRow, standIns := [], harness := (true, "0037435e96ae0c660cccd1bef3c552ad2c84b43a546ef477f66c7a48db922267"), looks := false }, kinds := [], alts := [], laidByText := true, laidKinds := [.data, .data], laidTests := true, laidLooks := .later }
def TopReportedCardSaid : Prop := Claim7.holds Tryz.pinned (.plain (OpenSpec.ofChange topReportedSpec)) topReportedCard

/-- THE SECOND FORM's CARD OF 'schismatop.TopAligned'. -/
def topAlignedUptoCard : Claim7 := { stood := { row := topAlignedUptoRow, standIns := [], harness := (true, "0037435e96ae0c660cccd1bef3c552ad2c84b43a546ef477f66c7a48db922267"), looks := false }, kinds := [], alts := [], laidByText := true, laidKinds := [.data, .data], laidTests := true, laidLooks := .later }
def TopAlignedUptoCardSaid : Prop := Claim7.holds Tryz.pinned (.plain (OpenSpec.upto topAlignedSpec)) topAlignedUptoCard

/-- THE SECOND FORM's CARD OF 'schismatop.TopReported'. -/
def topReportedUptoCard : Claim7 := { stood := { row := topReportedUptoRow, standIns := [], harness := (true, "0037435e96ae0c660cccd1bef3c552ad2c84b43a546ef477f66c7a48db922267"), looks := false }, kinds := [], alts := [], laidByText := true, laidKinds := [.data, .data], laidTests := true, laidLooks := .later }
def TopReportedUptoCardSaid : Prop := Claim7.holds Tryz.pinned (.plain (OpenSpec.upto topReportedSpec)) topReportedUptoCard
end Rows
end Go.Proofs.YtkckingkocacjaaGreatDoor
