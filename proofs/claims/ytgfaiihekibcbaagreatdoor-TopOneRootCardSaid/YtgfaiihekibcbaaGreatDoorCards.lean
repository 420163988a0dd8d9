/-
  DERIVED. GIVEN WITH THE SEED: THE CARDS: each row of YtgfaiihekibcbaaGreatDoorRows.lean that lists a variable, with what it lists TIED to the program's text (the seventh form; the later family's looks); each row that meets fmt, with fmt's text TOLD by the authors' own Lean function (tested against real Go, not proved from fmt's source: count such statements apart). THE CARD IS WHAT COUNTS. Prove the row's statement (the work); the ties are given (YtgfaiihekibcbaaGreatDoorTie.lean); close each card by the builder's one call (the guide's Derived/Test/ToyasCard.lean, 'card_holds'). Laid BY PROGRAM, IN A SANDBOX (cutbox-door.mjs). By AI agents, Wed Nov 11 2026. No macro, syntax, notation, axiom, sorry.
-/
import Derived.Test.YtgfaiihekibcbaaGreatDoorRows
import GoSem.ClaimSeven
namespace Go.Proofs.YtgfaiihekibcbaaGreatDoor
namespace Rows

/-- THE TIED CARD OF 'schismatop.TopOneRoot'. -/
def topOneRootCard : Claim7 := { stood := { row := topOneRootRow, standIns := [], harness := (true, "3a7628536e4a721600987be6840eb2ebbe964ad9276b7a1f5463b98d8e36781a"), looks := false }, kinds := [], alts := [], laidByText := true, laidKinds := [.data], laidTests := true, laidLooks := .later }
def TopOneRootCardSaid : Prop := Claim7.holds Tryz.pinned (.plain (OpenSpec.ofChange topOneRootSpec)) topOneRootCard

/-- THE SECOND FORM's CARD OF 'schismatop.TopOneRoot'. -/
def topOneRootUptoCard : Claim7 := { stood := { row := topOneRootUptoRow, standIns := [], harness := (true, "3a7628536e4a721600987be6840eb2ebbe964ad9276b7a1f5463b98d8e36781a"), looks := false }, kinds := [], alts := [], laidByText := true, laidKinds := [.data], laidTests := true, laidLooks := .later }
def TopOneRootUptoCardSaid : Prop := Claim7.holds Tryz.pinned (.plain (OpenSpec.upto topOneRootSpec)) topOneRootUptoCard
end Rows
end Go.Proofs.YtgfaiihekibcbaaGreatDoor
