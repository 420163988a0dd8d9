/-
  DERIVED. GIVEN WITH THE SEED: THE CARDS: each row of YtigigcbondhmmaaDoorRows.lean that lists a variable, with what it lists TIED to the program's text (the seventh form; the later family's looks); each row that meets fmt, with fmt's text TOLD by the authors' own Lean function (tested against real Go, not proved from fmt's source: count such statements apart). THE CARD IS WHAT COUNTS. Prove the row's statement (the work); the ties are given (YtigigcbondhmmaaDoorTie.lean); close each card by the builder's one call (the guide's Derived/Test/ToyasCard.lean, 'card_holds'). Laid BY PROGRAM, IN A SANDBOX (cutbox-door.mjs). By AI agents, Wed Nov 11 2026. No macro, syntax, notation, axiom, sorry.
-/
import Derived.Test.YtigigcbondhmmaaDoorRows
import GoSem.ClaimSeven
namespace Go.Proofs.YtigigcbondhmmaaDoor
namespace Rows

/-- THE TIED CARD OF 'schismalaw22.SingMatchesReference'. -/
def singMatchesReferenceCard : Claim7 := { stood := { row := singMatchesReferenceRow, standIns := [], harness := (true, "34d1617ea1e1bdc00ab4a545f13f3ca571fb5147ff4d643ef3368121f6f80c63"), looks := false }, kinds := [], alts := [], laidByText := true, laidKinds := [.data], laidTests := true, laidLooks := .later }
def SingMatchesReferenceCardSaid : Prop := Claim7.holds Tryd.pinned (.plain (OpenSpec.ofChange singMatchesReferenceSpec)) singMatchesReferenceCard

/-- THE TIED CARD OF 'schismalaw22.SingEntries'. -/
def singEntriesCard : Claim7 := { stood := { row := singEntriesRow, standIns := [], harness := (true, "34d1617ea1e1bdc00ab4a545f13f3ca571fb5147ff4d643ef3368121f6f80c63"), looks := false }, kinds := [], alts := [], laidByText := true, laidKinds := [.data], laidTests := true, laidLooks := .later }
def SingEntriesCardSaid : Prop := Claim7.holds Tryd.pinned (.plain (OpenSpec.ofChange singEntriesSpec)) singEntriesCard

/-- THE TIED CARD OF 'schismalaw22.SingSteps'. -/
def singStepsCard : Claim7 := { stood := { row := singStepsRow, standIns := [], harness := (true, "34d1617ea1e1bdc00ab4a545f13f3ca571fb5147ff4d643ef3368121f6f80c63"), looks := false }, kinds := [], alts := [], laidByText := true, laidKinds := [.data], laidTests := true, laidLooks := .later }
def SingStepsCardSaid : Prop := Claim7.holds Tryd.pinned (.plain (OpenSpec.ofChange singStepsSpec)) singStepsCard

/-- THE TIED CARD OF 'schismalaw22.SingLeast'. -/
def singLeastCard : Claim7 := { stood := { row := singLeastRow, standIns := [], harness := (true, "34d1617ea1e1bdc00ab4a545f13f3ca571fb5147ff4d643ef3368121f6f80c63"), looks := false }, kinds := [], alts := [], laidByText := true, laidKinds := [.data], laidTests := true, laidLooks := .later }
def SingLeastCardSaid : Prop := Claim7.holds Tryd.pinned (.plain (OpenSpec.ofChange singLeastSpec)) singLeastCard

/-- THE TIED CARD OF 'schismalaw22.SingMissing'. -/
def singMissingCard : Claim7 := { stood := { row := singMissingRow, standIns := [], harness := (true, "34d1617ea1e1bdc00ab4a545f13f3ca571fb5147ff4d643ef3368121f6f80c63"), looks := false }, kinds := [], alts := [], laidByText := true, laidKinds := [.data], laidTests := true, laidLooks := .later }
def SingMissingCardSaid : Prop := Claim7.holds Tryd.pinned (.plain (OpenSpec.ofChange singMissingSpec)) singMissingCard

/-- THE TIED CARD OF 'schismalaw22.SingMoved'. -/
def singMovedCard : Claim7 := { stood := { row := singMovedRow, standIns := [], harness := (true, "34d1617ea1e1bdc00ab4a545f13f3ca571fb5147ff4d643ef3368121f6f80c63"), looks := false }, kinds := [], alts := [], laidByText := true, laidKinds := [.data], laidTests := true, laidLooks := .later }
def SingMovedCardSaid : Prop := Claim7.holds Tryd.pinned (.plain (OpenSpec.ofChange singMovedSpec)) singMovedCard

/-- THE TIED CARD OF 'schismalaw22.SingBeginnings'. -/
def singBeginningsCard : Claim7 := { stood := { row := singBeginningsRow, standIns := [], harness := (true, "34d1617ea1e1bdc00ab4a545f13f3ca571fb5147ff4d643ef3368121f6f80c63"), looks := false }, kinds := [], alts := [], laidByText := true, laidKinds := [.data], laidTests := true, laidLooks := .later }
def SingBeginningsCardSaid : Prop := Claim7.holds Tryd.pinned (.plain (OpenSpec.ofChange singBeginningsSpec)) singBeginningsCard

/-- THE TIED CARD OF 'schismalaw22.SingHeard'. -/
def singHeardCard : Claim7 := { stood := { row := singHeardRow, standIns := [], harness := (true, "34d1617ea1e1bdc00ab4a545f13f3ca571fb5147ff4d643ef3368121f6f80c63"), looks := false }, kinds := [], alts := [], laidByText := true, laidKinds := [.data], laidTests := true, laidLooks := .later }
def SingHeardCardSaid : Prop := Claim7.holds Tryd.pinned (.plain (OpenSpec.ofChange singHeardSpec)) singHeardCard

/-- THE SECOND FORM's CARD OF 'schismalaw22.SingMatchesReference'. -/
def singMatchesReferenceUptoCard : Claim7 := { stood := { row := singMatchesReferenceUptoRow, standIns := [], harness := (true, "34d1617ea1e1bdc00ab4a545f13f3ca571fb5147ff4d643ef3368121f6f80c63"), looks := false }, kinds := [], alts := [], laidByText := true, laidKinds := [.data], laidTests := true, laidLooks := .later }
def SingMatchesReferenceUptoCardSaid : Prop := Claim7.holds Tryd.pinned (.plain (OpenSpec.upto singMatchesReferenceSpec)) singMatchesReferenceUptoCard

/-- THE SECOND FORM's CARD OF 'schismalaw22.SingEntries'. -/
def singEntriesUptoCard : Claim7 := { stood := { row := singEntriesUptoRow, standIns := [], harness := (true, "34d1617ea1e1bdc00ab4a545f13f3ca571fb5147ff4d643ef3368121f6f80c63"), looks := false }, kinds := [], alts := [], laidByText := true, laidKinds := [.data], laidTests := true, laidLooks := .later }
def SingEntriesUptoCardSaid : Prop := Claim7.holds Tryd.pinned (.plain (OpenSpec.upto singEntriesSpec)) singEntriesUptoCard

/-- THE SECOND FORM's CARD OF 'schismalaw22.SingSteps'. -/
def singStepsUptoCard : Claim7 := { stood := { row := singStepsUptoRow, standIns := [], harness := (true, "34d1617ea1e1bdc00ab4a545f13f3ca571fb5147ff4d643ef3368121f6f80c63"), looks := false }, kinds := [], alts := [], laidByText := true, laidKinds := [.data], laidTests := true, laidLooks := .later }
def SingStepsUptoCardSaid : Prop := Claim7.holds Tryd.pinned (.plain (OpenSpec.upto singStepsSpec)) singStepsUptoCard

/-- THE SECOND FORM's CARD OF 'schismalaw22.SingLeast'. -/
def singLeastUptoCard : Claim7 := { stood := { row := singLeastUptoRow, standIns := [], harness := (true, "34d1617ea1e1bdc00ab4a545f13f3ca571fb5147ff4d643ef3368121f6f80c63"), looks := false }, kinds := [], alts := [], laidByText := true, laidKinds := [.data], laidTests := true, laidLooks := .later }
def SingLeastUptoCardSaid : Prop := Claim7.holds Tryd.pinned (.plain (OpenSpec.upto singLeastSpec)) singLeastUptoCard

/-- THE SECOND FORM's CARD OF 'schismalaw22.SingMissing'. -/
def singMissingUptoCard : Claim7 := { stood := { row := singMissingUptoRow, standIns := [], harness := (true, "34d1617ea1e1bdc00ab4a545f13f3ca571fb5147ff4d643ef3368121f6f80c63"), looks := false }, kinds := [], alts := [], laidByText := true, laidKinds := [.data], laidTests := true, laidLooks := .later }
def SingMissingUptoCardSaid : Prop := Claim7.holds Tryd.pinned (.plain (OpenSpec.upto singMissingSpec)) singMissingUptoCard

/-- THE SECOND FORM's CARD OF 'schismalaw22.SingMoved'. -/
def singMovedUptoCard : Claim7 := { stood := { row := singMovedUptoRow, standIns := [], harness := (true, "34d1617ea1e1bdc00ab4a545f13f3ca571fb5147ff4d643ef3368121f6f80c63"), looks := false }, kinds := [], alts := [], laidByText := true, laidKinds := [.data], laidTests := true, laidLooks := .later }
def SingMovedUptoCardSaid : Prop := Claim7.holds Tryd.pinned (.plain (OpenSpec.upto singMovedSpec)) singMovedUptoCard

/-- THE SECOND FORM's CARD OF 'schismalaw22.SingBeginnings'. -/
def singBeginningsUptoCard : Claim7 := { stood := { row := singBeginningsUptoRow, standIns := [], harness := (true, "34d1617ea1e1bdc00ab4a545f13f3ca571fb5147ff4d643ef3368121f6f80c63"), looks := false }, kinds := [], alts := [], laidByText := true, laidKinds := [.data], laidTests := true, laidLooks := .later }
def SingBeginningsUptoCardSaid : Prop := Claim7.holds Tryd.pinned (.plain (OpenSpec.upto singBeginningsSpec)) singBeginningsUptoCard

/-- THE SECOND FORM's CARD OF 'schismalaw22.SingHeard'. -/
def singHeardUptoCard : Claim7 := { stood := { row := singHeardUptoRow, standIns := [], harness := (true, "34d1617ea1e1bdc00ab4a545f13f3ca571fb5147ff4d643ef3368121f6f80c63"), looks := false }, kinds := [], alts := [], laidByText := true, laidKinds := [.data], laidTests := true, laidLooks := .later }
def SingHeardUptoCardSaid : Prop := Claim7.holds Tryd.pinned (.plain (OpenSpec.upto singHeardSpec)) singHeardUptoCard
end Rows
end Go.Proofs.YtigigcbondhmmaaDoor
