/-
  DERIVED. GIVEN WITH THE SEED: THE CARDS: each row of YthomegempfedaaaDoorRows.lean that lists a variable, with what it lists TIED to the program's text (the seventh form; the later family's looks); each row that meets fmt, with fmt's text TOLD by the authors' own Lean function (tested against real Go, not proved from fmt's source: count such statements apart). THE CARD IS WHAT COUNTS. Prove the row's statement (the work); the ties are given (YthomegempfedaaaDoorTie.lean); close each card by the builder's one call (the guide's Derived/Test/ToyasCard.lean, 'card_holds'). Laid BY PROGRAM, IN A SANDBOX (cutbox-door.mjs). By AI agents, Wed Nov 11 2026. No macro, syntax, notation, axiom, sorry.
-/
import Derived.Test.YthomegempfedaaaDoorRows
import GoSem.ClaimSeven
namespace Go.Proofs.YthomegempfedaaaDoor
namespace Rows

/-- THE TIED CARD OF 'schismalaw38.AlignMatchesReference'. -/
def alignMatchesReferenceCard : Claim7 := { stood := { row := alignMatchesReferenceRow, standIns := [], harness := (true, "637554db2ec30e7c46926b1766f5a408ecf2f07f6de67cc421145f2bc693659d"), looks := false }, kinds := [], alts := [], laidByText := true, laidKinds := [.data], laidTests := true, laidLooks := .later }
def AlignMatchesReferenceCardSaid : Prop := Claim7.holds Tryd.pinned (.plain (OpenSpec.ofChange alignMatchesReferenceSpec)) alignMatchesReferenceCard

/-- THE TIED CARD OF 'schismalaw38.AlignCheapest'. -/
def alignCheapestCard : Claim7 := { stood := { row := alignCheapestRow, standIns := [], harness := (true, "637554db2ec30e7c46926b1766f5a408ecf2f07f6de67cc421145f2bc693659d"), looks := false }, kinds := [], alts := [], laidByText := true, laidKinds := [.data], laidTests := true, laidLooks := .later }
def AlignCheapestCardSaid : Prop := Claim7.holds Tryd.pinned (.plain (OpenSpec.ofChange alignCheapestSpec)) alignCheapestCard

/-- THE TIED CARD OF 'schismalaw38.AlignProof'. -/
def alignProofCard : Claim7 := { stood := { row := alignProofRow, standIns := [], harness := (true, "637554db2ec30e7c46926b1766f5a408ecf2f07f6de67cc421145f2bc693659d"), looks := false }, kinds := [], alts := [], laidByText := true, laidKinds := [.data], laidTests := true, laidLooks := .later }
def AlignProofCardSaid : Prop := Claim7.holds Tryd.pinned (.plain (OpenSpec.ofChange alignProofSpec)) alignProofCard

/-- THE TIED CARD OF 'schismalaw38.AlignExact'. -/
def alignExactCard : Claim7 := { stood := { row := alignExactRow, standIns := [], harness := (true, "637554db2ec30e7c46926b1766f5a408ecf2f07f6de67cc421145f2bc693659d"), looks := false }, kinds := [], alts := [], laidByText := true, laidKinds := [.data], laidTests := true, laidLooks := .later }
def AlignExactCardSaid : Prop := Claim7.holds Tryd.pinned (.plain (OpenSpec.ofChange alignExactSpec)) alignExactCard

/-- THE TIED CARD OF 'schismalaw38.AlignPrices'. -/
def alignPricesCard : Claim7 := { stood := { row := alignPricesRow, standIns := [], harness := (true, "637554db2ec30e7c46926b1766f5a408ecf2f07f6de67cc421145f2bc693659d"), looks := false }, kinds := [], alts := [], laidByText := true, laidKinds := [.data], laidTests := true, laidLooks := .later }
def AlignPricesCardSaid : Prop := Claim7.holds Tryd.pinned (.plain (OpenSpec.ofChange alignPricesSpec)) alignPricesCard

/-- THE TIED CARD OF 'schismalaw38.AlignMore'. -/
def alignMoreCard : Claim7 := { stood := { row := alignMoreRow, standIns := [], harness := (true, "637554db2ec30e7c46926b1766f5a408ecf2f07f6de67cc421145f2bc693659d"), looks := false }, kinds := [], alts := [], laidByText := true, laidKinds := [.data], laidTests := true, laidLooks := .later }
def AlignMoreCardSaid : Prop := Claim7.holds Tryd.pinned (.plain (OpenSpec.ofChange alignMoreSpec)) alignMoreCard

/-- THE TIED CARD OF 'schismalaw38.AlignBackwards'. -/
def alignBackwardsCard : Claim7 := { stood := { row := alignBackwardsRow, standIns := [], harness := (true, "637554db2ec30e7c46926b1766f5a408ecf2f07f6de67cc421145f2bc693659d"), looks := false }, kinds := [], alts := [], laidByText := true, laidKinds := [.data], laidTests := true, laidLooks := .later }
def AlignBackwardsCardSaid : Prop := Claim7.holds Tryd.pinned (.plain (OpenSpec.ofChange alignBackwardsSpec)) alignBackwardsCard

/-- THE TIED CARD OF 'schismalaw38.AlignNarrow'. -/
def alignNarrowCard : Claim7 := { stood := { row := alignNarrowRow, standIns := [], harness := (true, "637554db2ec30e7c46926b1766f5a408ecf2f07f6de67cc421145f2bc693659d"), looks := false }, kinds := [], alts := [], laidByText := true, laidKinds := [.data], laidTests := true, laidLooks := .later }
def AlignNarrowCardSaid : Prop := Claim7.holds Tryd.pinned (.plain (OpenSpec.ofChange alignNarrowSpec)) alignNarrowCard

/-- THE SECOND FORM's CARD OF 'schismalaw38.AlignMatchesReference'. -/
def alignMatchesReferenceUptoCard : Claim7 := { stood := { row := alignMatchesReferenceUptoRow, standIns := [], harness := (true, "637554db2ec30e7c46926b1766f5a408ecf2f07f6de67cc421145f2bc693659d"), looks := false }, kinds := [], alts := [], laidByText := true, laidKinds := [.data], laidTests := true, laidLooks := .later }
def AlignMatchesReferenceUptoCardSaid : Prop := Claim7.holds Tryd.pinned (.plain (OpenSpec.upto alignMatchesReferenceSpec)) alignMatchesReferenceUptoCard

/-- THE SECOND FORM's CARD OF 'schismalaw38.AlignCheapest'. -/
def alignCheapestUptoCard : Claim7 := { stood := { row := alignCheapestUptoRow, standIns := [], harness := (true, "637554db2ec30e7c46926b1766f5a408ecf2f07f6de67cc421145f2bc693659d"), looks := false }, kinds := [], alts := [], laidByText := true, laidKinds := [.data], laidTests := true, laidLooks := .later }
def AlignCheapestUptoCardSaid : Prop := Claim7.holds Tryd.pinned (.plain (OpenSpec.upto alignCheapestSpec)) alignCheapestUptoCard

/-- THE SECOND FORM's CARD OF 'schismalaw38.AlignProof'. -/
def alignProofUptoCard : Claim7 := { stood := { row := alignProofUptoRow, standIns := [], harness := (true, "637554db2ec30e7c46926b1766f5a408ecf2f07f6de67cc421145f2bc693659d"), looks := false }, kinds := [], alts := [], laidByText := true, laidKinds := [.data], laidTests := true, laidLooks := .later }
def AlignProofUptoCardSaid : Prop := Claim7.holds Tryd.pinned (.plain (OpenSpec.upto alignProofSpec)) alignProofUptoCard

/-- THE SECOND FORM's CARD OF 'schismalaw38.AlignExact'. -/
def alignExactUptoCard : Claim7 := { stood := { row := alignExactUptoRow, standIns := [], harness := (true, "637554db2ec30e7c46926b1766f5a408ecf2f07f6de67cc421145f2bc693659d"), looks := false }, kinds := [], alts := [], laidByText := true, laidKinds := [.data], laidTests := true, laidLooks := .later }
def AlignExactUptoCardSaid : Prop := Claim7.holds Tryd.pinned (.plain (OpenSpec.upto alignExactSpec)) alignExactUptoCard

/-- THE SECOND FORM's CARD OF 'schismalaw38.AlignPrices'. -/
def alignPricesUptoCard : Claim7 := { stood := { row := alignPricesUptoRow, standIns := [], harness := (true, "637554db2ec30e7c46926b1766f5a408ecf2f07f6de67cc421145f2bc693659d"), looks := false }, kinds := [], alts := [], laidByText := true, laidKinds := [.data], laidTests := true, laidLooks := .later }
def AlignPricesUptoCardSaid : Prop := Claim7.holds Tryd.pinned (.plain (OpenSpec.upto alignPricesSpec)) alignPricesUptoCard

/-- THE SECOND FORM's CARD OF 'schismalaw38.AlignMore'. -/
def alignMoreUptoCard : Claim7 := { stood := { row := alignMoreUptoRow, standIns := [], harness := (true, "637554db2ec30e7c46926b1766f5a408ecf2f07f6de67cc421145f2bc693659d"), looks := false }, kinds := [], alts := [], laidByText := true, laidKinds := [.data], laidTests := true, laidLooks := .later }
def AlignMoreUptoCardSaid : Prop := Claim7.holds Tryd.pinned (.plain (OpenSpec.upto alignMoreSpec)) alignMoreUptoCard

/-- THE SECOND FORM's CARD OF 'schismalaw38.AlignBackwards'. -/
def alignBackwardsUptoCard : Claim7 := { stood := { row := alignBackwardsUptoRow, standIns := [], harness := (true, "637554db2ec30e7c46926b1766f5a408ecf2f07f6de67cc421145f2bc693659d"), looks := false }, kinds := [], alts := [], laidByText := true, laidKinds := [.data], laidTests := true, laidLooks := .later }
def AlignBackwardsUptoCardSaid : Prop := Claim7.holds Tryd.pinned (.plain (OpenSpec.upto alignBackwardsSpec)) alignBackwardsUptoCard

/-- THE SECOND FORM's CARD OF 'schismalaw38.AlignNarrow'. -/
def alignNarrowUptoCard : Claim7 := { stood := { row := alignNarrowUptoRow, standIns := [], harness := (true, "637554db2ec30e7c46926b1766f5a408ecf2f07f6de67cc421145f2bc693659d"), looks := false }, kinds := [], alts := [], laidByText := true, laidKinds := [.data], laidTests := true, laidLooks := .later }
def AlignNarrowUptoCardSaid : Prop := Claim7.holds Tryd.pinned (.plain (OpenSpec.upto alignNarrowSpec)) alignNarrowUptoCard
end Rows
end Go.Proofs.YthomegempfedaaaDoor
