/-
  DERIVED. GIVEN WITH THE SEED: THE CARDS: each row of YtdpegkkbhanjkaaDoorRows.lean that lists a variable, with what it lists TIED to the program's text (the seventh form; the later family's looks); each row that meets fmt, with fmt's text TOLD by the authors' own Lean function (tested against real Go, not proved from fmt's source: count such statements apart). THE CARD IS WHAT COUNTS. Prove the row's statement (the work); the ties are given (YtdpegkkbhanjkaaDoorTie.lean); close each card by the builder's one call (the guide's Derived/Test/ToyasCard.lean, 'card_holds'). Laid BY PROGRAM, IN A SANDBOX (cutbox-door.mjs). By AI agents, Wed Nov 11 2026. No macro, syntax, notation, axiom, sorry.
-/
import Derived.Test.YtdpegkkbhanjkaaDoorRows
import GoSem.ClaimSeven
namespace Go.Proofs.YtdpegkkbhanjkaaDoor
namespace Rows

/-- THE TIED CARD OF 'schismalaw23.PotentialCauses'. -/
def potentialCausesCard : Claim7 := { stood := { row := potentialCausesRow, standIns := [], harness := (true, "85e4eff1bcedc3d87e1ea0ab0b2739ed376ec74228ba2bd7960bad588af8e785"), looks := false }, kinds := [], alts := [], laidByText := true, laidKinds := [.data], laidTests := true, laidLooks := .later }
def PotentialCausesCardSaid : Prop := Claim7.holds Tryd.pinned (.plain (OpenSpec.ofChange potentialCausesSpec)) potentialCausesCard

/-- THE TIED CARD OF 'schismalaw23.PotentialSteps'. -/
def potentialStepsCard : Claim7 := { stood := { row := potentialStepsRow, standIns := [], harness := (true, "85e4eff1bcedc3d87e1ea0ab0b2739ed376ec74228ba2bd7960bad588af8e785"), looks := false }, kinds := [], alts := [], laidByText := true, laidKinds := [.data], laidTests := true, laidLooks := .later }
def PotentialStepsCardSaid : Prop := Claim7.holds Tryd.pinned (.plain (OpenSpec.ofChange potentialStepsSpec)) potentialStepsCard

/-- THE TIED CARD OF 'schismalaw23.PotentialNamed'. -/
def potentialNamedCard : Claim7 := { stood := { row := potentialNamedRow, standIns := [], harness := (true, "85e4eff1bcedc3d87e1ea0ab0b2739ed376ec74228ba2bd7960bad588af8e785"), looks := false }, kinds := [], alts := [], laidByText := true, laidKinds := [.data], laidTests := true, laidLooks := .later }
def PotentialNamedCardSaid : Prop := Claim7.holds Tryd.pinned (.plain (OpenSpec.ofChange potentialNamedSpec)) potentialNamedCard

/-- THE TIED CARD OF 'schismalaw23.PotentialChains'. -/
def potentialChainsCard : Claim7 := { stood := { row := potentialChainsRow, standIns := [], harness := (true, "85e4eff1bcedc3d87e1ea0ab0b2739ed376ec74228ba2bd7960bad588af8e785"), looks := false }, kinds := [], alts := [], laidByText := true, laidKinds := [.data], laidTests := true, laidLooks := .later }
def PotentialChainsCardSaid : Prop := Claim7.holds Tryd.pinned (.plain (OpenSpec.ofChange potentialChainsSpec)) potentialChainsCard

/-- THE TIED CARD OF 'schismalaw23.PotentialMoved'. -/
def potentialMovedCard : Claim7 := { stood := { row := potentialMovedRow, standIns := [], harness := (true, "85e4eff1bcedc3d87e1ea0ab0b2739ed376ec74228ba2bd7960bad588af8e785"), looks := false }, kinds := [], alts := [], laidByText := true, laidKinds := [.data], laidTests := true, laidLooks := .later }
def PotentialMovedCardSaid : Prop := Claim7.holds Tryd.pinned (.plain (OpenSpec.ofChange potentialMovedSpec)) potentialMovedCard

/-- THE TIED CARD OF 'schismalaw23.PotentialAgreeing'. -/
def potentialAgreeingCard : Claim7 := { stood := { row := potentialAgreeingRow, standIns := [], harness := (true, "85e4eff1bcedc3d87e1ea0ab0b2739ed376ec74228ba2bd7960bad588af8e785"), looks := false }, kinds := [], alts := [], laidByText := true, laidKinds := [.data], laidTests := true, laidLooks := .later }
def PotentialAgreeingCardSaid : Prop := Claim7.holds Tryd.pinned (.plain (OpenSpec.ofChange potentialAgreeingSpec)) potentialAgreeingCard

/-- THE TIED CARD OF 'schismalaw23.PotentialEarlier'. -/
def potentialEarlierCard : Claim7 := { stood := { row := potentialEarlierRow, standIns := [], harness := (true, "85e4eff1bcedc3d87e1ea0ab0b2739ed376ec74228ba2bd7960bad588af8e785"), looks := false }, kinds := [], alts := [], laidByText := true, laidKinds := [.data], laidTests := true, laidLooks := .later }
def PotentialEarlierCardSaid : Prop := Claim7.holds Tryd.pinned (.plain (OpenSpec.ofChange potentialEarlierSpec)) potentialEarlierCard

/-- THE SECOND FORM's CARD OF 'schismalaw23.PotentialCauses'. -/
def potentialCausesUptoCard : Claim7 := { stood := { row := potentialCausesUptoRow, standIns := [], harness := (true, "85e4eff1bcedc3d87e1ea0ab0b2739ed376ec74228ba2bd7960bad588af8e785"), looks := false }, kinds := [], alts := [], laidByText := true, laidKinds := [.data], laidTests := true, laidLooks := .later }
def PotentialCausesUptoCardSaid : Prop := Claim7.holds Tryd.pinned (.plain (OpenSpec.upto potentialCausesSpec)) potentialCausesUptoCard

/-- THE SECOND FORM's CARD OF 'schismalaw23.PotentialSteps'. -/
def potentialStepsUptoCard : Claim7 := { stood := { row := potentialStepsUptoRow, standIns := [], harness := (true, "85e4eff1bcedc3d87e1ea0ab0b2739ed376ec74228ba2bd7960bad588af8e785"), looks := false }, kinds := [], alts := [], laidByText := true, laidKinds := [.data], laidTests := true, laidLooks := .later }
def PotentialStepsUptoCardSaid : Prop := Claim7.holds Tryd.pinned (.plain (OpenSpec.upto potentialStepsSpec)) potentialStepsUptoCard

/-- THE SECOND FORM's CARD OF 'schismalaw23.PotentialNamed'. -/
def potentialNamedUptoCard : Claim7 := { stood := { row := potentialNamedUptoRow, standIns := [], harness := (true, "85e4eff1bcedc3d87e1ea0ab0b2739ed376ec74228ba2bd7960bad588af8e785"), looks := false }, kinds := [], alts := [], laidByText := true, laidKinds := [.data], laidTests := true, laidLooks := .later }
def PotentialNamedUptoCardSaid : Prop := Claim7.holds Tryd.pinned (.plain (OpenSpec.upto potentialNamedSpec)) potentialNamedUptoCard

/-- THE SECOND FORM's CARD OF 'schismalaw23.PotentialChains'. -/
def potentialChainsUptoCard : Claim7 := { stood := { row := potentialChainsUptoRow, standIns := [], harness := (true, "85e4eff1bcedc3d87e1ea0ab0b2739ed376ec74228ba2bd7960bad588af8e785"), looks := false }, kinds := [], alts := [], laidByText := true, laidKinds := [.data], laidTests := true, laidLooks := .later }
def PotentialChainsUptoCardSaid : Prop := Claim7.holds Tryd.pinned (.plain (OpenSpec.upto potentialChainsSpec)) potentialChainsUptoCard

/-- THE SECOND FORM's CARD OF 'schismalaw23.PotentialMoved'. -/
def potentialMovedUptoCard : Claim7 := { stood := { row := potentialMovedUptoRow, standIns := [], harness := (true, "85e4eff1bcedc3d87e1ea0ab0b2739ed376ec74228ba2bd7960bad588af8e785"), looks := false }, kinds := [], alts := [], laidByText := true, laidKinds := [.data], laidTests := true, laidLooks := .later }
def PotentialMovedUptoCardSaid : Prop := Claim7.holds Tryd.pinned (.plain (OpenSpec.upto potentialMovedSpec)) potentialMovedUptoCard

/-- THE SECOND FORM's CARD OF 'schismalaw23.PotentialAgreeing'. -/
def potentialAgreeingUptoCard : Claim7 := { stood := { row := potentialAgreeingUptoRow, standIns := [], harness := (true, "85e4eff1bcedc3d87e1ea0ab0b2739ed376ec74228ba2bd7960bad588af8e785"), looks := false }, kinds := [], alts := [], laidByText := true, laidKinds := [.data], laidTests := true, laidLooks := .later }
def PotentialAgreeingUptoCardSaid : Prop := Claim7.holds Tryd.pinned (.plain (OpenSpec.upto potentialAgreeingSpec)) potentialAgreeingUptoCard

/-- THE SECOND FORM's CARD OF 'schismalaw23.PotentialEarlier'. -/
def potentialEarlierUptoCard : Claim7 := { stood := { row := potentialEarlierUptoRow, standIns := [], harness := (true, "85e4eff1bcedc3d87e1ea0ab0b2739ed376ec74228ba2bd7960bad588af8e785"), looks := false }, kinds := [], alts := [], laidByText := true, laidKinds := [.data], laidTests := true, laidLooks := .later }
def PotentialEarlierUptoCardSaid : Prop := Claim7.holds Tryd.pinned (.plain (OpenSpec.upto potentialEarlierSpec)) potentialEarlierUptoCard
end Rows
end Go.Proofs.YtdpegkkbhanjkaaDoor
