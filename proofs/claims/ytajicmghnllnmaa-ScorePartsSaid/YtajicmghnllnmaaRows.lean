/-
  No cell of these rows narrows 'for every input' (looked for: loops, veiled, ifaces, maps, wideKeys, modest, calm, conditions, laid).
  DERIVED. THE GIVEN ROWS OF THIS SEAT. 8 by the template 'for every input the law returns true; each argument reads behind the call as it read before'; 0 by the template 'total and deterministic' (their statements: YtajicmghnllnmaaTotals.lean).
  GIVEN WITH THE SEED: the statements are not yours to turn. If you find one false, say at which input.
  Laid BY PROGRAM, IN A SANDBOX (cutbox-rows.mjs): the forced cells as the released guide's own fill.sh prints them over the translation 476b0177dc6db04b… (all of the seat's roots in one cut). By AI agents, Wed Nov 11 2026. No macro, syntax, notation, axiom, sorry.
-/
import Derived.Test.YtajicmghnllnmaaChecked
import GoSem.Claim
import GoSem.ClaimJoined
import GoSem.ClaimMapViews
import Derived.JoinedTies
import Derived.KernelRfl
namespace Go.Proofs.Ytajicmghnllnmaa
/- THE CELL 'sum', in the pinned program and in every row, IS THE sha256 OF THE DUMP (.gsa) THAT YtajicmghnllnmaaProg.lean LOADS. Nothing in Lean hashes anything: it is a label: what it is worth is what the hold of that sum in a sandbox is worth. -/
noncomputable def Try.pinned : Pinned := { name := "ytajicmghnllnmaa", sum := "476b0177dc6db04b700165cb9593cddffd8ab318c90d66deb247a864a4328c23", checked := Try.checked }
namespace Rows
def none {H : Type} : Left H := { results := [], args := [] }

/-- 'schismalaw19.ScoreMatchesReference': WHATEVER THE INPUT: true; the input reads as it did. -/
def scoreMatchesReferenceSpec : ChangeSpec := { name := "scoreMatchesReference", fn := fun _ => fun
  | [d1, d2, d3, d4] => { results := [.lit (.bool true)], args := [d1, d2, d3, d4] }
  | _ => none }
def scoreMatchesReferenceRow : OpenClaim := { program := "ytajicmghnllnmaa", sum := "476b0177dc6db04b700165cb9593cddffd8ab318c90d66deb247a864a4328c23", func := "schisma/schismalaw19.ScoreMatchesReference", spec := "scoreMatchesReference", unfollowed := true, recurses := true, apart := false }
def ScoreMatchesReferenceSaid : Prop := scoreMatchesReferenceRow.holds Try.pinned (OpenSpec.ofChange scoreMatchesReferenceSpec)

/-- ITS FALSE NEIGHBOUR: 'it returns false'. Refute it at one input. -/
def scoreMatchesReferenceWrong : ChangeSpec := { name := "scoreMatchesReference", fn := fun _ => fun
  | [d1, d2, d3, d4] => { results := [.lit (.bool false)], args := [d1, d2, d3, d4] }
  | _ => none }
def ScoreMatchesReferenceWrongFalsely : Prop := scoreMatchesReferenceRow.holds Try.pinned (OpenSpec.ofChange scoreMatchesReferenceWrong)

/-- 'schismalaw19.ScoreSections': WHATEVER THE INPUT: true; the input reads as it did. -/
def scoreSectionsSpec : ChangeSpec := { name := "scoreSections", fn := fun _ => fun
  | [d1, d2, d3] => { results := [.lit (.bool true)], args := [d1, d2, d3] }
  | _ => none }
def scoreSectionsRow : OpenClaim := { program := "ytajicmghnllnmaa", sum := "476b0177dc6db04b700165cb9593cddffd8ab318c90d66deb247a864a4328c23", func := "schisma/schismalaw19.ScoreSections", spec := "scoreSections", unfollowed := true, recurses := true, apart := false }
def ScoreSectionsSaid : Prop := scoreSectionsRow.holds Try.pinned (OpenSpec.ofChange scoreSectionsSpec)

/-- ITS FALSE NEIGHBOUR: 'it returns false'. Refute it at one input. -/
def scoreSectionsWrong : ChangeSpec := { name := "scoreSections", fn := fun _ => fun
  | [d1, d2, d3] => { results := [.lit (.bool false)], args := [d1, d2, d3] }
  | _ => none }
def ScoreSectionsWrongFalsely : Prop := scoreSectionsRow.holds Try.pinned (OpenSpec.ofChange scoreSectionsWrong)

/-- 'schismalaw19.ScoreBeginnings': WHATEVER THE INPUT: true; the input reads as it did. -/
def scoreBeginningsSpec : ChangeSpec := { name := "scoreBeginnings", fn := fun _ => fun
  | [d1, d2] => { results := [.lit (.bool true)], args := [d1, d2] }
  | _ => none }
def scoreBeginningsRow : OpenClaim := { program := "ytajicmghnllnmaa", sum := "476b0177dc6db04b700165cb9593cddffd8ab318c90d66deb247a864a4328c23", func := "schisma/schismalaw19.ScoreBeginnings", spec := "scoreBeginnings", unfollowed := true, recurses := true, apart := false }
def ScoreBeginningsSaid : Prop := scoreBeginningsRow.holds Try.pinned (OpenSpec.ofChange scoreBeginningsSpec)

/-- ITS FALSE NEIGHBOUR: 'it returns false'. Refute it at one input. -/
def scoreBeginningsWrong : ChangeSpec := { name := "scoreBeginnings", fn := fun _ => fun
  | [d1, d2] => { results := [.lit (.bool false)], args := [d1, d2] }
  | _ => none }
def ScoreBeginningsWrongFalsely : Prop := scoreBeginningsRow.holds Try.pinned (OpenSpec.ofChange scoreBeginningsWrong)

/-- 'schismalaw19.ScoreSounding': WHATEVER THE INPUT: true; the input reads as it did. -/
def scoreSoundingSpec : ChangeSpec := { name := "scoreSounding", fn := fun _ => fun
  | [d1, d2] => { results := [.lit (.bool true)], args := [d1, d2] }
  | _ => none }
def scoreSoundingRow : OpenClaim := { program := "ytajicmghnllnmaa", sum := "476b0177dc6db04b700165cb9593cddffd8ab318c90d66deb247a864a4328c23", func := "schisma/schismalaw19.ScoreSounding", spec := "scoreSounding", unfollowed := true, recurses := true, apart := false }
def ScoreSoundingSaid : Prop := scoreSoundingRow.holds Try.pinned (OpenSpec.ofChange scoreSoundingSpec)

/-- ITS FALSE NEIGHBOUR: 'it returns false'. Refute it at one input. -/
def scoreSoundingWrong : ChangeSpec := { name := "scoreSounding", fn := fun _ => fun
  | [d1, d2] => { results := [.lit (.bool false)], args := [d1, d2] }
  | _ => none }
def ScoreSoundingWrongFalsely : Prop := scoreSoundingRow.holds Try.pinned (OpenSpec.ofChange scoreSoundingWrong)

/-- 'schismalaw19.ScoreTies': WHATEVER THE INPUT: true; the input reads as it did. -/
def scoreTiesSpec : ChangeSpec := { name := "scoreTies", fn := fun _ => fun
  | [d1, d2] => { results := [.lit (.bool true)], args := [d1, d2] }
  | _ => none }
def scoreTiesRow : OpenClaim := { program := "ytajicmghnllnmaa", sum := "476b0177dc6db04b700165cb9593cddffd8ab318c90d66deb247a864a4328c23", func := "schisma/schismalaw19.ScoreTies", spec := "scoreTies", unfollowed := true, recurses := true, apart := false }
def ScoreTiesSaid : Prop := scoreTiesRow.holds Try.pinned (OpenSpec.ofChange scoreTiesSpec)

/-- ITS FALSE NEIGHBOUR: 'it returns false'. Refute it at one input. -/
def scoreTiesWrong : ChangeSpec := { name := "scoreTies", fn := fun _ => fun
  | [d1, d2] => { results := [.lit (.bool false)], args := [d1, d2] }
  | _ => none }
def ScoreTiesWrongFalsely : Prop := scoreTiesRow.holds Try.pinned (OpenSpec.ofChange scoreTiesWrong)

/-- 'schismalaw19.ScoreHeld': WHATEVER THE INPUT: true; the input reads as it did. -/
def scoreHeldSpec : ChangeSpec := { name := "scoreHeld", fn := fun _ => fun
  | [d1, d2] => { results := [.lit (.bool true)], args := [d1, d2] }
  | _ => none }
def scoreHeldRow : OpenClaim := { program := "ytajicmghnllnmaa", sum := "476b0177dc6db04b700165cb9593cddffd8ab318c90d66deb247a864a4328c23", func := "schisma/schismalaw19.ScoreHeld", spec := "scoreHeld", unfollowed := true, recurses := true, apart := false }
def ScoreHeldSaid : Prop := scoreHeldRow.holds Try.pinned (OpenSpec.ofChange scoreHeldSpec)

/-- ITS FALSE NEIGHBOUR: 'it returns false'. Refute it at one input. -/
def scoreHeldWrong : ChangeSpec := { name := "scoreHeld", fn := fun _ => fun
  | [d1, d2] => { results := [.lit (.bool false)], args := [d1, d2] }
  | _ => none }
def ScoreHeldWrongFalsely : Prop := scoreHeldRow.holds Try.pinned (OpenSpec.ofChange scoreHeldWrong)

/-- 'schismalaw19.ScoreMoving': WHATEVER THE INPUT: true; the input reads as it did. -/
def scoreMovingSpec : ChangeSpec := { name := "scoreMoving", fn := fun _ => fun
  | [d1, d2, d3, d4, d5, d6] => { results := [.lit (.bool true)], args := [d1, d2, d3, d4, d5, d6] }
  | _ => none }
def scoreMovingRow : OpenClaim := { program := "ytajicmghnllnmaa", sum := "476b0177dc6db04b700165cb9593cddffd8ab318c90d66deb247a864a4328c23", func := "schisma/schismalaw19.ScoreMoving", spec := "scoreMoving", unfollowed := true, recurses := true, apart := false }
def ScoreMovingSaid : Prop := scoreMovingRow.holds Try.pinned (OpenSpec.ofChange scoreMovingSpec)

/-- ITS FALSE NEIGHBOUR: 'it returns false'. Refute it at one input. -/
def scoreMovingWrong : ChangeSpec := { name := "scoreMoving", fn := fun _ => fun
  | [d1, d2, d3, d4, d5, d6] => { results := [.lit (.bool false)], args := [d1, d2, d3, d4, d5, d6] }
  | _ => none }
def ScoreMovingWrongFalsely : Prop := scoreMovingRow.holds Try.pinned (OpenSpec.ofChange scoreMovingWrong)

/-- 'schismalaw19.ScoreParts': WHATEVER THE INPUT: true; the input reads as it did. -/
def scorePartsSpec : ChangeSpec := { name := "scoreParts", fn := fun _ => fun
  | [d1, d2, d3] => { results := [.lit (.bool true)], args := [d1, d2, d3] }
  | _ => none }
def scorePartsRow : OpenClaim := { program := "ytajicmghnllnmaa", sum := "476b0177dc6db04b700165cb9593cddffd8ab318c90d66deb247a864a4328c23", func := "schisma/schismalaw19.ScoreParts", spec := "scoreParts", unfollowed := true, recurses := true, apart := false }
def ScorePartsSaid : Prop := scorePartsRow.holds Try.pinned (OpenSpec.ofChange scorePartsSpec)

/-- ITS FALSE NEIGHBOUR: 'it returns false'. Refute it at one input. -/
def scorePartsWrong : ChangeSpec := { name := "scoreParts", fn := fun _ => fun
  | [d1, d2, d3] => { results := [.lit (.bool false)], args := [d1, d2, d3] }
  | _ => none }
def ScorePartsWrongFalsely : Prop := scorePartsRow.holds Try.pinned (OpenSpec.ofChange scorePartsWrong)

/- THE SECOND FORM. 'bulk': how many values and letters a reading holds, each counted each time it is reached (what is shared counts as often as it is met; a slice's spare places count too). A statement '..UptoSaid' is the law's where the arguments, and the package variables that the reading takes, are together of bulk at most 1048576: NARROWER than '..Said'. Prove '..Said' where nothing that the law and all that it calls make is longer than what came in: it says more and counts as full. Else prove '..UptoSaid'. A law counts once. -/
mutual
def uptoBulk {H : Type} : DataW H → Nat
  | .lit (.string bytes) => bytes.length + 1
  | .lit _ => 1
  | .nil => 1
  | .ptr d => uptoBulk d + 1
  | .slice elems spare => uptoBulkAll elems + uptoBulkAll spare + 1
  | .agg parts => uptoBulkAll parts + 1
  | .iface _ d => uptoBulk d + 1
  | .map entries => uptoBulkEntries entries + 1
  | .held _ => 1
def uptoBulkAll {H : Type} : List (DataW H) → Nat
  | [] => 0
  | d :: r => uptoBulk d + uptoBulkAll r
def uptoBulkEntries {H : Type} : List (Lit × DataW H) → Nat
  | [] => 0
  | x :: r => uptoBulkEntry x + uptoBulkEntries r
def uptoBulkEntry {H : Type} : Lit × DataW H → Nat
  | (.string bytes, d) => bytes.length + uptoBulk d + 1
  | (_, d) => uptoBulk d + 1
 end
def uptoSmall : (H : Type) → List (DataW H) → Bool := fun _ ds => decide (uptoBulkAll ds ≤ 1048576)
def OpenSpec.upto (s : _root_.Go.ChangeSpec) : _root_.Go.OpenSpec := { _root_.Go.OpenSpec.ofChange s with cond := some uptoSmall }

/-- 'schismalaw19.ScoreMatchesReference', WHERE WHAT IT READS IS OF BULK AT MOST 1048576: true; the input reads as it did. -/
def scoreMatchesReferenceUptoRow : OpenClaim := { program := "ytajicmghnllnmaa", sum := "476b0177dc6db04b700165cb9593cddffd8ab318c90d66deb247a864a4328c23", func := "schisma/schismalaw19.ScoreMatchesReference", spec := "scoreMatchesReference", unfollowed := true, recurses := true, apart := false, narrowed := true }
def ScoreMatchesReferenceUptoSaid : Prop := scoreMatchesReferenceUptoRow.holds Try.pinned (OpenSpec.upto scoreMatchesReferenceSpec)

/-- 'schismalaw19.ScoreSections', WHERE WHAT IT READS IS OF BULK AT MOST 1048576: true; the input reads as it did. -/
def scoreSectionsUptoRow : OpenClaim := { program := "ytajicmghnllnmaa", sum := "476b0177dc6db04b700165cb9593cddffd8ab318c90d66deb247a864a4328c23", func := "schisma/schismalaw19.ScoreSections", spec := "scoreSections", unfollowed := true, recurses := true, apart := false, narrowed := true }
def ScoreSectionsUptoSaid : Prop := scoreSectionsUptoRow.holds Try.pinned (OpenSpec.upto scoreSectionsSpec)

/-- 'schismalaw19.ScoreBeginnings', WHERE WHAT IT READS IS OF BULK AT MOST 1048576: true; the input reads as it did. -/
def scoreBeginningsUptoRow : OpenClaim := { program := "ytajicmghnllnmaa", sum := "476b0177dc6db04b700165cb9593cddffd8ab318c90d66deb247a864a4328c23", func := "schisma/schismalaw19.ScoreBeginnings", spec := "scoreBeginnings", unfollowed := true, recurses := true, apart := false, narrowed := true }
def ScoreBeginningsUptoSaid : Prop := scoreBeginningsUptoRow.holds Try.pinned (OpenSpec.upto scoreBeginningsSpec)

/-- 'schismalaw19.ScoreSounding', WHERE WHAT IT READS IS OF BULK AT MOST 1048576: true; the input reads as it did. -/
def scoreSoundingUptoRow : OpenClaim := { program := "ytajicmghnllnmaa", sum := "476b0177dc6db04b700165cb9593cddffd8ab318c90d66deb247a864a4328c23", func := "schisma/schismalaw19.ScoreSounding", spec := "scoreSounding", unfollowed := true, recurses := true, apart := false, narrowed := true }
def ScoreSoundingUptoSaid : Prop := scoreSoundingUptoRow.holds Try.pinned (OpenSpec.upto scoreSoundingSpec)

/-- 'schismalaw19.ScoreTies', WHERE WHAT IT READS IS OF BULK AT MOST 1048576: true; the input reads as it did. -/
def scoreTiesUptoRow : OpenClaim := { program := "ytajicmghnllnmaa", sum := "476b0177dc6db04b700165cb9593cddffd8ab318c90d66deb247a864a4328c23", func := "schisma/schismalaw19.ScoreTies", spec := "scoreTies", unfollowed := true, recurses := true, apart := false, narrowed := true }
def ScoreTiesUptoSaid : Prop := scoreTiesUptoRow.holds Try.pinned (OpenSpec.upto scoreTiesSpec)

/-- 'schismalaw19.ScoreHeld', WHERE WHAT IT READS IS OF BULK AT MOST 1048576: true; the input reads as it did. -/
def scoreHeldUptoRow : OpenClaim := { program := "ytajicmghnllnmaa", sum := "476b0177dc6db04b700165cb9593cddffd8ab318c90d66deb247a864a4328c23", func := "schisma/schismalaw19.ScoreHeld", spec := "scoreHeld", unfollowed := true, recurses := true, apart := false, narrowed := true }
def ScoreHeldUptoSaid : Prop := scoreHeldUptoRow.holds Try.pinned (OpenSpec.upto scoreHeldSpec)

/-- 'schismalaw19.ScoreMoving', WHERE WHAT IT READS IS OF BULK AT MOST 1048576: true; the input reads as it did. -/
def scoreMovingUptoRow : OpenClaim := { program := "ytajicmghnllnmaa", sum := "476b0177dc6db04b700165cb9593cddffd8ab318c90d66deb247a864a4328c23", func := "schisma/schismalaw19.ScoreMoving", spec := "scoreMoving", unfollowed := true, recurses := true, apart := false, narrowed := true }
def ScoreMovingUptoSaid : Prop := scoreMovingUptoRow.holds Try.pinned (OpenSpec.upto scoreMovingSpec)

/-- 'schismalaw19.ScoreParts', WHERE WHAT IT READS IS OF BULK AT MOST 1048576: true; the input reads as it did. -/
def scorePartsUptoRow : OpenClaim := { program := "ytajicmghnllnmaa", sum := "476b0177dc6db04b700165cb9593cddffd8ab318c90d66deb247a864a4328c23", func := "schisma/schismalaw19.ScoreParts", spec := "scoreParts", unfollowed := true, recurses := true, apart := false, narrowed := true }
def ScorePartsUptoSaid : Prop := scorePartsUptoRow.holds Try.pinned (OpenSpec.upto scorePartsSpec)

end Rows
end Go.Proofs.Ytajicmghnllnmaa
