/-
  DERIVED. GIVEN WITH THE SEED: THE CARDS: each row of YthhkpgbfefakeaaDoorRows.lean that lists a variable, with what it lists TIED to the program's text (the seventh form; the later family's looks); each row that meets fmt, with fmt's text TOLD by the authors' own Lean function (tested against real Go, not proved from fmt's source: count such statements apart). THE CARD IS WHAT COUNTS. Prove the row's statement (the work); the ties are given (YthhkpgbfefakeaaDoorTie.lean); close each card by the builder's one call (the guide's Derived/Test/ToyasCard.lean, 'card_holds'). Laid BY PROGRAM, IN A SANDBOX (cutbox-door.mjs). By AI agents, Wed Nov 11 2026. No macro, syntax, notation, axiom, sorry.
-/
import Derived.Test.YthhkpgbfefakeaaDoorRows
import GoSem.ClaimSeven
namespace Go.Proofs.YthhkpgbfefakeaaDoor
namespace Rows

/-- THE TIED CARD OF 'schismalaw37.PartialOctaves'. -/
def partialOctavesCard : Claim7 := { stood := { row := partialOctavesRow, standIns := [], harness := (true, "c6f60dd0c4be8d8b98cdee576e9eba57ec2cd086774c94ad0913a90e351392e7"), looks := false }, kinds := [], alts := [], laidByText := true, laidKinds := [.data, .data], laidTests := true, laidLooks := .later }
def PartialOctavesCardSaid : Prop := Claim7.holds Tryd.pinned (.plain (OpenSpec.ofChange partialOctavesSpec)) partialOctavesCard

/-- THE TIED CARD OF 'schismalaw37.PartialMatchesReference'. -/
def partialMatchesReferenceCard : Claim7 := { stood := { row := partialMatchesReferenceRow, standIns := [], harness := (true, "c6f60dd0c4be8d8b98cdee576e9eba57ec2cd086774c94ad0913a90e351392e7"), looks := false }, kinds := [], alts := [], laidByText := true, laidKinds := [.data, .data], laidTests := true, laidLooks := .later }
def PartialMatchesReferenceCardSaid : Prop := Claim7.holds Tryd.pinned (.plain (OpenSpec.ofChange partialMatchesReferenceSpec)) partialMatchesReferenceCard

/-- THE TIED CARD OF 'schismalaw37.PartialTruth'. -/
def partialTruthCard : Claim7 := { stood := { row := partialTruthRow, standIns := [], harness := (true, "c6f60dd0c4be8d8b98cdee576e9eba57ec2cd086774c94ad0913a90e351392e7"), looks := false }, kinds := [], alts := [], laidByText := true, laidKinds := [.data, .data], laidTests := true, laidLooks := .later }
def PartialTruthCardSaid : Prop := Claim7.holds Tryd.pinned (.plain (OpenSpec.ofChange partialTruthSpec)) partialTruthCard

/-- THE TIED CARD OF 'schismalaw37.PartialRefuted'. -/
def partialRefutedCard : Claim7 := { stood := { row := partialRefutedRow, standIns := [], harness := (true, "c6f60dd0c4be8d8b98cdee576e9eba57ec2cd086774c94ad0913a90e351392e7"), looks := false }, kinds := [], alts := [], laidByText := true, laidKinds := [.data, .data], laidTests := true, laidLooks := .later }
def PartialRefutedCardSaid : Prop := Claim7.holds Tryd.pinned (.plain (OpenSpec.ofChange partialRefutedSpec)) partialRefutedCard

/-- THE TIED CARD OF 'schismalaw37.PartialMore'. -/
def partialMoreCard : Claim7 := { stood := { row := partialMoreRow, standIns := [], harness := (true, "c6f60dd0c4be8d8b98cdee576e9eba57ec2cd086774c94ad0913a90e351392e7"), looks := false }, kinds := [], alts := [], laidByText := true, laidKinds := [.data, .data], laidTests := true, laidLooks := .later }
def PartialMoreCardSaid : Prop := Claim7.holds Tryd.pinned (.plain (OpenSpec.ofChange partialMoreSpec)) partialMoreCard

/-- THE TIED CARD OF 'schismalaw37.PartialFits'. -/
def partialFitsCard : Claim7 := { stood := { row := partialFitsRow, standIns := [], harness := (true, "c6f60dd0c4be8d8b98cdee576e9eba57ec2cd086774c94ad0913a90e351392e7"), looks := false }, kinds := [], alts := [], laidByText := true, laidKinds := [.data, .data], laidTests := true, laidLooks := .later }
def PartialFitsCardSaid : Prop := Claim7.holds Tryd.pinned (.plain (OpenSpec.ofChange partialFitsSpec)) partialFitsCard

/-- THE TIED CARD OF 'schismalaw37.PartialPredicted'. -/
def partialPredictedCard : Claim7 := { stood := { row := partialPredictedRow, standIns := [], harness := (true, "c6f60dd0c4be8d8b98cdee576e9eba57ec2cd086774c94ad0913a90e351392e7"), looks := false }, kinds := [], alts := [], laidByText := true, laidKinds := [.data, .data], laidTests := true, laidLooks := .later }
def PartialPredictedCardSaid : Prop := Claim7.holds Tryd.pinned (.plain (OpenSpec.ofChange partialPredictedSpec)) partialPredictedCard

/-- THE TIED CARD OF 'schismalaw37.PartialMoved'. -/
def partialMovedCard : Claim7 := { stood := { row := partialMovedRow, standIns := [], harness := (true, "c6f60dd0c4be8d8b98cdee576e9eba57ec2cd086774c94ad0913a90e351392e7"), looks := false }, kinds := [], alts := [], laidByText := true, laidKinds := [.data, .data], laidTests := true, laidLooks := .later }
def PartialMovedCardSaid : Prop := Claim7.holds Tryd.pinned (.plain (OpenSpec.ofChange partialMovedSpec)) partialMovedCard

/-- THE SECOND FORM's CARD OF 'schismalaw37.PartialOctaves'. -/
def partialOctavesUptoCard : Claim7 := { stood := { row := partialOctavesUptoRow, standIns := [], harness := (true, "c6f60dd0c4be8d8b98cdee576e9eba57ec2cd086774c94ad0913a90e351392e7"), looks := false }, kinds := [], alts := [], laidByText := true, laidKinds := [.data, .data], laidTests := true, laidLooks := .later }
def PartialOctavesUptoCardSaid : Prop := Claim7.holds Tryd.pinned (.plain (OpenSpec.upto partialOctavesSpec)) partialOctavesUptoCard

/-- THE SECOND FORM's CARD OF 'schismalaw37.PartialMatchesReference'. -/
def partialMatchesReferenceUptoCard : Claim7 := { stood := { row := partialMatchesReferenceUptoRow, standIns := [], harness := (true, "c6f60dd0c4be8d8b98cdee576e9eba57ec2cd086774c94ad0913a90e351392e7"), looks := false }, kinds := [], alts := [], laidByText := true, laidKinds := [.data, .data], laidTests := true, laidLooks := .later }
def PartialMatchesReferenceUptoCardSaid : Prop := Claim7.holds Tryd.pinned (.plain (OpenSpec.upto partialMatchesReferenceSpec)) partialMatchesReferenceUptoCard

/-- THE SECOND FORM's CARD OF 'schismalaw37.PartialTruth'. -/
def partialTruthUptoCard : Claim7 := { stood := { row := partialTruthUptoRow, standIns := [], harness := (true, "c6f60dd0c4be8d8b98cdee576e9eba57ec2cd086774c94ad0913a90e351392e7"), looks := false }, kinds := [], alts := [], laidByText := true, laidKinds := [.data, .data], laidTests := true, laidLooks := .later }
def PartialTruthUptoCardSaid : Prop := Claim7.holds Tryd.pinned (.plain (OpenSpec.upto partialTruthSpec)) partialTruthUptoCard

/-- THE SECOND FORM's CARD OF 'schismalaw37.PartialRefuted'. -/
def partialRefutedUptoCard : Claim7 := { stood := { row := partialRefutedUptoRow, standIns := [], harness := (true, "c6f60dd0c4be8d8b98cdee576e9eba57ec2cd086774c94ad0913a90e351392e7"), looks := false }, kinds := [], alts := [], laidByText := true, laidKinds := [.data, .data], laidTests := true, laidLooks := .later }
def PartialRefutedUptoCardSaid : Prop := Claim7.holds Tryd.pinned (.plain (OpenSpec.upto partialRefutedSpec)) partialRefutedUptoCard

/-- THE SECOND FORM's CARD OF 'schismalaw37.PartialMore'. -/
def partialMoreUptoCard : Claim7 := { stood := { row := partialMoreUptoRow, standIns := [], harness := (true, "c6f60dd0c4be8d8b98cdee576e9eba57ec2cd086774c94ad0913a90e351392e7"), looks := false }, kinds := [], alts := [], laidByText := true, laidKinds := [.data, .data], laidTests := true, laidLooks := .later }
def PartialMoreUptoCardSaid : Prop := Claim7.holds Tryd.pinned (.plain (OpenSpec.upto partialMoreSpec)) partialMoreUptoCard

/-- THE SECOND FORM's CARD OF 'schismalaw37.PartialFits'. -/
def partialFitsUptoCard : Claim7 := { stood := { row := partialFitsUptoRow, standIns := [], harness := (true, "c6f60dd0c4be8d8b98cdee576e9eba57ec2cd086774c94ad0913a90e351392e7"), looks := false }, kinds := [], alts := [], laidByText := true, laidKinds := [.data, .data], laidTests := true, laidLooks := .later }
def PartialFitsUptoCardSaid : Prop := Claim7.holds Tryd.pinned (.plain (OpenSpec.upto partialFitsSpec)) partialFitsUptoCard

/-- THE SECOND FORM's CARD OF 'schismalaw37.PartialPredicted'. -/
def partialPredictedUptoCard : Claim7 := { stood := { row := partialPredictedUptoRow, standIns := [], harness := (true, "c6f60dd0c4be8d8b98cdee576e9eba57ec2cd086774c94ad0913a90e351392e7"), looks := false }, kinds := [], alts := [], laidByText := true, laidKinds := [.data, .data], laidTests := true, laidLooks := .later }
def PartialPredictedUptoCardSaid : Prop := Claim7.holds Tryd.pinned (.plain (OpenSpec.upto partialPredictedSpec)) partialPredictedUptoCard

/-- THE SECOND FORM's CARD OF 'schismalaw37.PartialMoved'. -/
def partialMovedUptoCard : Claim7 := { stood := { row := partialMovedUptoRow, standIns := [], harness := (true, "c6f60dd0c4be8d8b98cdee576e9eba57ec2cd086774c94ad0913a90e351392e7"), looks := false }, kinds := [], alts := [], laidByText := true, laidKinds := [.data, .data], laidTests := true, laidLooks := .later }
def PartialMovedUptoCardSaid : Prop := Claim7.holds Tryd.pinned (.plain (OpenSpec.upto partialMovedSpec)) partialMovedUptoCard
end Rows
end Go.Proofs.YthhkpgbfefakeaaDoor
