/-
  DERIVED. GIVEN WITH THE SEED: THE CARDS: each row of YtbemjekkojgbpaaDoorRows.lean that lists a variable, with what it lists TIED to the program's text (the seventh form; the later family's looks); each row that meets fmt, with fmt's text TOLD by the authors' own Lean function (tested against real Go, not proved from fmt's source: count such statements apart). THE CARD IS WHAT COUNTS. Prove the row's statement (the work); the ties are given (YtbemjekkojgbpaaDoorTie.lean); close each card by the builder's one call (the guide's Derived/Test/ToyasCard.lean, 'card_holds'). Laid BY PROGRAM, IN A SANDBOX (cutbox-door.mjs). By AI agents, Wed Nov 11 2026. No macro, syntax, notation, axiom, sorry.
-/
import Derived.Test.YtbemjekkojgbpaaDoorRows
import GoSem.ClaimSeven
namespace Go.Proofs.YtbemjekkojgbpaaDoor
namespace Rows

/-- THE TIED CARD OF 'schismalaw40.BlameDeviants'. -/
def blameDeviantsCard : Claim7 := { stood := { row := blameDeviantsRow, standIns := [], harness := (true, "1b51078b957dfef92123d4780033625d5abaec565145c3a84e3cd50daf049049"), looks := false }, kinds := [], alts := [], laidByText := true, laidKinds := [.data], laidTests := true, laidLooks := .later }
def BlameDeviantsCardSaid : Prop := Claim7.holds Tryd.pinned (.plain (OpenSpec.ofChange blameDeviantsSpec)) blameDeviantsCard

/-- THE TIED CARD OF 'schismalaw40.BlameAssigned'. -/
def blameAssignedCard : Claim7 := { stood := { row := blameAssignedRow, standIns := [], harness := (true, "1b51078b957dfef92123d4780033625d5abaec565145c3a84e3cd50daf049049"), looks := false }, kinds := [], alts := [], laidByText := true, laidKinds := [.data], laidTests := true, laidLooks := .later }
def BlameAssignedCardSaid : Prop := Claim7.holds Tryd.pinned (.plain (OpenSpec.ofChange blameAssignedSpec)) blameAssignedCard

/-- THE TIED CARD OF 'schismalaw40.BlameBeginnings'. -/
def blameBeginningsCard : Claim7 := { stood := { row := blameBeginningsRow, standIns := [], harness := (true, "1b51078b957dfef92123d4780033625d5abaec565145c3a84e3cd50daf049049"), looks := false }, kinds := [], alts := [], laidByText := true, laidKinds := [.data], laidTests := true, laidLooks := .later }
def BlameBeginningsCardSaid : Prop := Claim7.holds Tryd.pinned (.plain (OpenSpec.ofChange blameBeginningsSpec)) blameBeginningsCard

/-- THE TIED CARD OF 'schismalaw40.BlameOctaves'. -/
def blameOctavesCard : Claim7 := { stood := { row := blameOctavesRow, standIns := [], harness := (true, "1b51078b957dfef92123d4780033625d5abaec565145c3a84e3cd50daf049049"), looks := false }, kinds := [], alts := [], laidByText := true, laidKinds := [.data], laidTests := true, laidLooks := .later }
def BlameOctavesCardSaid : Prop := Claim7.holds Tryd.pinned (.plain (OpenSpec.ofChange blameOctavesSpec)) blameOctavesCard

/-- THE TIED CARD OF 'schismalaw40.BlameCharged'. -/
def blameChargedCard : Claim7 := { stood := { row := blameChargedRow, standIns := [], harness := (true, "1b51078b957dfef92123d4780033625d5abaec565145c3a84e3cd50daf049049"), looks := false }, kinds := [], alts := [], laidByText := true, laidKinds := [.data], laidTests := true, laidLooks := .later }
def BlameChargedCardSaid : Prop := Claim7.holds Tryd.pinned (.plain (OpenSpec.ofChange blameChargedSpec)) blameChargedCard

/-- THE TIED CARD OF 'schismalaw40.BlameNamed'. -/
def blameNamedCard : Claim7 := { stood := { row := blameNamedRow, standIns := [], harness := (true, "1b51078b957dfef92123d4780033625d5abaec565145c3a84e3cd50daf049049"), looks := false }, kinds := [], alts := [], laidByText := true, laidKinds := [.data], laidTests := true, laidLooks := .later }
def BlameNamedCardSaid : Prop := Claim7.holds Tryd.pinned (.plain (OpenSpec.ofChange blameNamedSpec)) blameNamedCard

/-- THE TIED CARD OF 'schismalaw40.BlameNarrowed'. -/
def blameNarrowedCard : Claim7 := { stood := { row := blameNarrowedRow, standIns := [], harness := (true, "1b51078b957dfef92123d4780033625d5abaec565145c3a84e3cd50daf049049"), looks := false }, kinds := [], alts := [], laidByText := true, laidKinds := [.data], laidTests := true, laidLooks := .later }
def BlameNarrowedCardSaid : Prop := Claim7.holds Tryd.pinned (.plain (OpenSpec.ofChange blameNarrowedSpec)) blameNarrowedCard

/-- THE SECOND FORM's CARD OF 'schismalaw40.BlameDeviants'. -/
def blameDeviantsUptoCard : Claim7 := { stood := { row := blameDeviantsUptoRow, standIns := [], harness := (true, "1b51078b957dfef92123d4780033625d5abaec565145c3a84e3cd50daf049049"), looks := false }, kinds := [], alts := [], laidByText := true, laidKinds := [.data], laidTests := true, laidLooks := .later }
def BlameDeviantsUptoCardSaid : Prop := Claim7.holds Tryd.pinned (.plain (OpenSpec.upto blameDeviantsSpec)) blameDeviantsUptoCard

/-- THE SECOND FORM's CARD OF 'schismalaw40.BlameAssigned'. -/
def blameAssignedUptoCard : Claim7 := { stood := { row := blameAssignedUptoRow, standIns := [], harness := (true, "1b51078b957dfef92123d4780033625d5abaec565145c3a84e3cd50daf049049"), looks := false }, kinds := [], alts := [], laidByText := true, laidKinds := [.data], laidTests := true, laidLooks := .later }
def BlameAssignedUptoCardSaid : Prop := Claim7.holds Tryd.pinned (.plain (OpenSpec.upto blameAssignedSpec)) blameAssignedUptoCard

/-- THE SECOND FORM's CARD OF 'schismalaw40.BlameBeginnings'. -/
def blameBeginningsUptoCard : Claim7 := { stood := { row := blameBeginningsUptoRow, standIns := [], harness := (true, "1b51078b957dfef92123d4780033625d5abaec565145c3a84e3cd50daf049049"), looks := false }, kinds := [], alts := [], laidByText := true, laidKinds := [.data], laidTests := true, laidLooks := .later }
def BlameBeginningsUptoCardSaid : Prop := Claim7.holds Tryd.pinned (.plain (OpenSpec.upto blameBeginningsSpec)) blameBeginningsUptoCard

/-- THE SECOND FORM's CARD OF 'schismalaw40.BlameOctaves'. -/
def blameOctavesUptoCard : Claim7 := { stood := { row := blameOctavesUptoRow, standIns := [], harness := (true, "1b51078b957dfef92123d4780033625d5abaec565145c3a84e3cd50daf049049"), looks := false }, kinds := [], alts := [], laidByText := true, laidKinds := [.data], laidTests := true, laidLooks := .later }
def BlameOctavesUptoCardSaid : Prop := Claim7.holds Tryd.pinned (.plain (OpenSpec.upto blameOctavesSpec)) blameOctavesUptoCard

/-- THE SECOND FORM's CARD OF 'schismalaw40.BlameCharged'. -/
def blameChargedUptoCard : Claim7 := { stood := { row := blameChargedUptoRow, standIns := [], harness := (true, "1b51078b957dfef92123d4780033625d5abaec565145c3a84e3cd50daf049049"), looks := false }, kinds := [], alts := [], laidByText := true, laidKinds := [.data], laidTests := true, laidLooks := .later }
def BlameChargedUptoCardSaid : Prop := Claim7.holds Tryd.pinned (.plain (OpenSpec.upto blameChargedSpec)) blameChargedUptoCard

/-- THE SECOND FORM's CARD OF 'schismalaw40.BlameNamed'. -/
def blameNamedUptoCard : Claim7 := { stood := { row := blameNamedUptoRow, standIns := [], harness := (true, "1b51078b957dfef92123d4780033625d5abaec565145c3a84e3cd50daf049049"), looks := false }, kinds := [], alts := [], laidByText := true, laidKinds := [.data], laidTests := true, laidLooks := .later }
def BlameNamedUptoCardSaid : Prop := Claim7.holds Tryd.pinned (.plain (OpenSpec.upto blameNamedSpec)) blameNamedUptoCard

/-- THE SECOND FORM's CARD OF 'schismalaw40.BlameNarrowed'. -/
def blameNarrowedUptoCard : Claim7 := { stood := { row := blameNarrowedUptoRow, standIns := [], harness := (true, "1b51078b957dfef92123d4780033625d5abaec565145c3a84e3cd50daf049049"), looks := false }, kinds := [], alts := [], laidByText := true, laidKinds := [.data], laidTests := true, laidLooks := .later }
def BlameNarrowedUptoCardSaid : Prop := Claim7.holds Tryd.pinned (.plain (OpenSpec.upto blameNarrowedSpec)) blameNarrowedUptoCard
end Rows
end Go.Proofs.YtbemjekkojgbpaaDoor
