/-
  DERIVED. GIVEN WITH THE SEED: THE CARDS: each row of YtglngmfnoganpaaDoorRows.lean that lists a variable, with what it lists TIED to the program's text (the seventh form; the later family's looks); each row that meets fmt, with fmt's text TOLD by the authors' own Lean function (tested against real Go, not proved from fmt's source: count such statements apart). THE CARD IS WHAT COUNTS. Prove the row's statement (the work); the ties are given (YtglngmfnoganpaaDoorTie.lean); close each card by the builder's one call (the guide's Derived/Test/ToyasCard.lean, 'card_holds'). Laid BY PROGRAM, IN A SANDBOX (cutbox-door.mjs). By AI agents, Wed Nov 11 2026. No macro, syntax, notation, axiom, sorry.
-/
import Derived.Test.YtglngmfnoganpaaDoorRows
import GoSem.ClaimSeven
namespace Go.Proofs.YtglngmfnoganpaaDoor
namespace Rows

/-- THE TIED CARD OF 'schismalaw39.AuditMatchesReference'. -/
def auditMatchesReferenceCard : Claim7 := { stood := { row := auditMatchesReferenceRow, standIns := [], harness := (true, "8e0ec021de27e7db62c71e0e87e0fdf3a881b6a65e9226ef8a3428fd73fd1a6b"), looks := false }, kinds := [], alts := [], laidByText := true, laidKinds := [.data], laidTests := true, laidLooks := .later }
def AuditMatchesReferenceCardSaid : Prop := Claim7.holds Tryd.pinned (.plain (OpenSpec.ofChange auditMatchesReferenceSpec)) auditMatchesReferenceCard

/-- THE TIED CARD OF 'schismalaw39.AuditTruth'. -/
def auditTruthCard : Claim7 := { stood := { row := auditTruthRow, standIns := [], harness := (true, "8e0ec021de27e7db62c71e0e87e0fdf3a881b6a65e9226ef8a3428fd73fd1a6b"), looks := false }, kinds := [], alts := [], laidByText := true, laidKinds := [.data], laidTests := true, laidLooks := .later }
def AuditTruthCardSaid : Prop := Claim7.holds Tryd.pinned (.plain (OpenSpec.ofChange auditTruthSpec)) auditTruthCard

/-- THE TIED CARD OF 'schismalaw39.AuditNarrow'. -/
def auditNarrowCard : Claim7 := { stood := { row := auditNarrowRow, standIns := [], harness := (true, "8e0ec021de27e7db62c71e0e87e0fdf3a881b6a65e9226ef8a3428fd73fd1a6b"), looks := false }, kinds := [], alts := [], laidByText := true, laidKinds := [.data], laidTests := true, laidLooks := .later }
def AuditNarrowCardSaid : Prop := Claim7.holds Tryd.pinned (.plain (OpenSpec.ofChange auditNarrowSpec)) auditNarrowCard

/-- THE TIED CARD OF 'schismalaw39.AuditBounds'. -/
def auditBoundsCard : Claim7 := { stood := { row := auditBoundsRow, standIns := [], harness := (true, "8e0ec021de27e7db62c71e0e87e0fdf3a881b6a65e9226ef8a3428fd73fd1a6b"), looks := false }, kinds := [], alts := [], laidByText := true, laidKinds := [.data], laidTests := true, laidLooks := .later }
def AuditBoundsCardSaid : Prop := Claim7.holds Tryd.pinned (.plain (OpenSpec.ofChange auditBoundsSpec)) auditBoundsCard

/-- THE TIED CARD OF 'schismalaw39.AuditGreater'. -/
def auditGreaterCard : Claim7 := { stood := { row := auditGreaterRow, standIns := [], harness := (true, "8e0ec021de27e7db62c71e0e87e0fdf3a881b6a65e9226ef8a3428fd73fd1a6b"), looks := false }, kinds := [], alts := [], laidByText := true, laidKinds := [.data], laidTests := true, laidLooks := .later }
def AuditGreaterCardSaid : Prop := Claim7.holds Tryd.pinned (.plain (OpenSpec.ofChange auditGreaterSpec)) auditGreaterCard

/-- THE TIED CARD OF 'schismalaw39.AuditMoved'. -/
def auditMovedCard : Claim7 := { stood := { row := auditMovedRow, standIns := [], harness := (true, "8e0ec021de27e7db62c71e0e87e0fdf3a881b6a65e9226ef8a3428fd73fd1a6b"), looks := false }, kinds := [], alts := [], laidByText := true, laidKinds := [.data], laidTests := true, laidLooks := .later }
def AuditMovedCardSaid : Prop := Claim7.holds Tryd.pinned (.plain (OpenSpec.ofChange auditMovedSpec)) auditMovedCard

/-- THE TIED CARD OF 'schismalaw39.AuditNever'. -/
def auditNeverCard : Claim7 := { stood := { row := auditNeverRow, standIns := [], harness := (true, "8e0ec021de27e7db62c71e0e87e0fdf3a881b6a65e9226ef8a3428fd73fd1a6b"), looks := false }, kinds := [], alts := [], laidByText := true, laidKinds := [.data], laidTests := true, laidLooks := .later }
def AuditNeverCardSaid : Prop := Claim7.holds Tryd.pinned (.plain (OpenSpec.ofChange auditNeverSpec)) auditNeverCard

/-- THE SECOND FORM's CARD OF 'schismalaw39.AuditMatchesReference'. -/
def auditMatchesReferenceUptoCard : Claim7 := { stood := { row := auditMatchesReferenceUptoRow, standIns := [], harness := (true, "8e0ec021de27e7db62c71e0e87e0fdf3a881b6a65e9226ef8a3428fd73fd1a6b"), looks := false }, kinds := [], alts := [], laidByText := true, laidKinds := [.data], laidTests := true, laidLooks := .later }
def AuditMatchesReferenceUptoCardSaid : Prop := Claim7.holds Tryd.pinned (.plain (OpenSpec.upto auditMatchesReferenceSpec)) auditMatchesReferenceUptoCard

/-- THE SECOND FORM's CARD OF 'schismalaw39.AuditTruth'. -/
def auditTruthUptoCard : Claim7 := { stood := { row := auditTruthUptoRow, standIns := [], harness := (true, "8e0ec021de27e7db62c71e0e87e0fdf3a881b6a65e9226ef8a3428fd73fd1a6b"), looks := false }, kinds := [], alts := [], laidByText := true, laidKinds := [.data], laidTests := true, laidLooks := .later }
def AuditTruthUptoCardSaid : Prop := Claim7.holds Tryd.pinned (.plain (OpenSpec.upto auditTruthSpec)) auditTruthUptoCard

/-- THE SECOND FORM's CARD OF 'schismalaw39.AuditNarrow'. -/
def auditNarrowUptoCard : Claim7 := { stood := { row := auditNarrowUptoRow, standIns := [], harness := (true, "8e0ec021de27e7db62c71e0e87e0fdf3a881b6a65e9226ef8a3428fd73fd1a6b"), looks := false }, kinds := [], alts := [], laidByText := true, laidKinds := [.data], laidTests := true, laidLooks := .later }
def AuditNarrowUptoCardSaid : Prop := Claim7.holds Tryd.pinned (.plain (OpenSpec.upto auditNarrowSpec)) auditNarrowUptoCard

/-- THE SECOND FORM's CARD OF 'schismalaw39.AuditBounds'. -/
def auditBoundsUptoCard : Claim7 := { stood := { row := auditBoundsUptoRow, standIns := [], harness := (true, "8e0ec021de27e7db62c71e0e87e0fdf3a881b6a65e9226ef8a3428fd73fd1a6b"), looks := false }, kinds := [], alts := [], laidByText := true, laidKinds := [.data], laidTests := true, laidLooks := .later }
def AuditBoundsUptoCardSaid : Prop := Claim7.holds Tryd.pinned (.plain (OpenSpec.upto auditBoundsSpec)) auditBoundsUptoCard

/-- THE SECOND FORM's CARD OF 'schismalaw39.AuditGreater'. -/
def auditGreaterUptoCard : Claim7 := { stood := { row := auditGreaterUptoRow, standIns := [], harness := (true, "8e0ec021de27e7db62c71e0e87e0fdf3a881b6a65e9226ef8a3428fd73fd1a6b"), looks := false }, kinds := [], alts := [], laidByText := true, laidKinds := [.data], laidTests := true, laidLooks := .later }
def AuditGreaterUptoCardSaid : Prop := Claim7.holds Tryd.pinned (.plain (OpenSpec.upto auditGreaterSpec)) auditGreaterUptoCard

/-- THE SECOND FORM's CARD OF 'schismalaw39.AuditMoved'. -/
def auditMovedUptoCard : Claim7 := { stood := { row := auditMovedUptoRow, standIns := [], harness := (true, "8e0ec021de27e7db62c71e0e87e0fdf3a881b6a65e9226ef8a3428fd73fd1a6b"), looks := false }, kinds := [], alts := [], laidByText := true, laidKinds := [.data], laidTests := true, laidLooks := .later }
def AuditMovedUptoCardSaid : Prop := Claim7.holds Tryd.pinned (.plain (OpenSpec.upto auditMovedSpec)) auditMovedUptoCard

/-- THE SECOND FORM's CARD OF 'schismalaw39.AuditNever'. -/
def auditNeverUptoCard : Claim7 := { stood := { row := auditNeverUptoRow, standIns := [], harness := (true, "8e0ec021de27e7db62c71e0e87e0fdf3a881b6a65e9226ef8a3428fd73fd1a6b"), looks := false }, kinds := [], alts := [], laidByText := true, laidKinds := [.data], laidTests := true, laidLooks := .later }
def AuditNeverUptoCardSaid : Prop := Claim7.holds Tryd.pinned (.plain (OpenSpec.upto auditNeverSpec)) auditNeverUptoCard
end Rows
end Go.Proofs.YtglngmfnoganpaaDoor
