/-
  NARROWER THAN 'FOR EVERY INPUT', by the rows' own cells (each row's printed sentence says how): PartialOctaves: laid · PartialMatchesReference: laid · PartialTruth: laid · PartialRefuted: laid · PartialMore: laid · PartialFits: laid · PartialPredicted: laid · PartialMoved: laid.
  DERIVED. THE GIVEN ROWS OF THIS SEAT. 8 by the template 'for every input the law returns true; each argument reads behind the call as it read before'; 0 by the template 'total and deterministic' (their statements: YthhkpgbfefakeaaDoorTotals.lean).
  GIVEN WITH THE SEED: the statements are not yours to turn. If you find one false, say at which input.
  Laid BY PROGRAM, IN A SANDBOX (cutbox-rows.mjs): the forced cells as the released guide's own fill.sh prints them over the translation 4dd2a1cbbac24f0a… (all of the seat's roots in one cut). By AI agents, Wed Nov 11 2026. No macro, syntax, notation, axiom, sorry.
-/
import Derived.Test.YthhkpgbfefakeaaDoorChecked
import GoSem.Claim
import GoSem.ClaimJoined
import GoSem.ClaimMapViews
import Derived.JoinedTies
import Derived.KernelRfl
namespace Go.Proofs.YthhkpgbfefakeaaDoor
/- THE CELL 'sum', in the pinned program and in every row, IS THE sha256 OF THE DUMP (.gsa) THAT YthhkpgbfefakeaaDoorProg.lean LOADS. Nothing in Lean hashes anything: it is a label: what it is worth is what the hold of that sum in a sandbox is worth. -/
noncomputable def Tryd.pinned : Pinned := { name := "ythhkpgbfefakeaadoor", sum := "4dd2a1cbbac24f0acc03a42ad515998f94ca39ddca7f631938f106d7611c2ae9", checked := Tryd.checked }
namespace Rows
def none {H : Type} : Left H := { results := [], args := [] }

/- WHAT THE LISTED PACKAGE-LEVEL VARIABLES READ AS WHEN THE CALL BEGINS. Each datum BY PROGRAM (the guide's laid-datum.mjs) off the statement by which the dump's own 'gosem.cut.vars' lays the variable. In a bare row this is a premise. The card (YthhkpgbfefakeaaDoorCards.lean) ties it to the program's text. -/
def laid_schisma_pitch_primes {H : Type} : DataW H := .agg [.lit (.int .i64 2), .lit (.int .i64 3), .lit (.int .i64 5), .lit (.int .i64 7), .lit (.int .i64 11), .lit (.int .i64 13)]
def laid_schisma_size_logs {H : Type} : DataW H := .agg [.agg [.lit (.int .i64 1000000000), .lit (.int .i64 1000000000)], .agg [.lit (.int .i64 1584962500), .lit (.int .i64 1584962501)], .agg [.lit (.int .i64 2321928094), .lit (.int .i64 2321928095)], .agg [.lit (.int .i64 2807354922), .lit (.int .i64 2807354923)], .agg [.lit (.int .i64 3459431618), .lit (.int .i64 3459431619)], .agg [.lit (.int .i64 3700439718), .lit (.int .i64 3700439719)]]

/-- 'schismalaw37.PartialOctaves': WHATEVER THE INPUT: true; the input reads as it did. -/
def partialOctavesSpec : ChangeSpec := { name := "partialOctaves", fn := fun _ => fun
  | [d] => { results := [.lit (.bool true)], args := [d] }
  | _ => none }
def partialOctavesRow : OpenClaim := { program := "ythhkpgbfefakeaadoor", sum := "4dd2a1cbbac24f0acc03a42ad515998f94ca39ddca7f631938f106d7611c2ae9", func := "schisma/schismalaw37.PartialOctaves", spec := "partialOctaves", unfollowed := true, recurses := true, named := ["schisma/pitch.primes", "schisma/size.logs"], apart := false, laid := [("schisma/pitch.primes", laid_schisma_pitch_primes), ("schisma/size.logs", laid_schisma_size_logs)] }
def PartialOctavesSaid : Prop := partialOctavesRow.holds Tryd.pinned (OpenSpec.ofChange partialOctavesSpec)

/-- ITS FALSE NEIGHBOUR: 'it returns false'. Refute it at one input. -/
def partialOctavesWrong : ChangeSpec := { name := "partialOctaves", fn := fun _ => fun
  | [d] => { results := [.lit (.bool false)], args := [d] }
  | _ => none }
def PartialOctavesWrongFalsely : Prop := partialOctavesRow.holds Tryd.pinned (OpenSpec.ofChange partialOctavesWrong)

/-- 'schismalaw37.PartialMatchesReference': WHATEVER THE INPUT: true; the input reads as it did. -/
def partialMatchesReferenceSpec : ChangeSpec := { name := "partialMatchesReference", fn := fun _ => fun
  | [d1, d2, d3, d4] => { results := [.lit (.bool true)], args := [d1, d2, d3, d4] }
  | _ => none }
def partialMatchesReferenceRow : OpenClaim := { program := "ythhkpgbfefakeaadoor", sum := "4dd2a1cbbac24f0acc03a42ad515998f94ca39ddca7f631938f106d7611c2ae9", func := "schisma/schismalaw37.PartialMatchesReference", spec := "partialMatchesReference", unfollowed := true, recurses := true, named := ["schisma/pitch.primes", "schisma/size.logs"], apart := false, laid := [("schisma/pitch.primes", laid_schisma_pitch_primes), ("schisma/size.logs", laid_schisma_size_logs)] }
def PartialMatchesReferenceSaid : Prop := partialMatchesReferenceRow.holds Tryd.pinned (OpenSpec.ofChange partialMatchesReferenceSpec)

/-- ITS FALSE NEIGHBOUR: 'it returns false'. Refute it at one input. -/
def partialMatchesReferenceWrong : ChangeSpec := { name := "partialMatchesReference", fn := fun _ => fun
  | [d1, d2, d3, d4] => { results := [.lit (.bool false)], args := [d1, d2, d3, d4] }
  | _ => none }
def PartialMatchesReferenceWrongFalsely : Prop := partialMatchesReferenceRow.holds Tryd.pinned (OpenSpec.ofChange partialMatchesReferenceWrong)

/-- 'schismalaw37.PartialTruth': WHATEVER THE INPUT: true; the input reads as it did. -/
def partialTruthSpec : ChangeSpec := { name := "partialTruth", fn := fun _ => fun
  | [d1, d2] => { results := [.lit (.bool true)], args := [d1, d2] }
  | _ => none }
def partialTruthRow : OpenClaim := { program := "ythhkpgbfefakeaadoor", sum := "4dd2a1cbbac24f0acc03a42ad515998f94ca39ddca7f631938f106d7611c2ae9", func := "schisma/schismalaw37.PartialTruth", spec := "partialTruth", unfollowed := true, recurses := true, named := ["schisma/pitch.primes", "schisma/size.logs"], apart := false, laid := [("schisma/pitch.primes", laid_schisma_pitch_primes), ("schisma/size.logs", laid_schisma_size_logs)] }
def PartialTruthSaid : Prop := partialTruthRow.holds Tryd.pinned (OpenSpec.ofChange partialTruthSpec)

/-- ITS FALSE NEIGHBOUR: 'it returns false'. Refute it at one input. -/
def partialTruthWrong : ChangeSpec := { name := "partialTruth", fn := fun _ => fun
  | [d1, d2] => { results := [.lit (.bool false)], args := [d1, d2] }
  | _ => none }
def PartialTruthWrongFalsely : Prop := partialTruthRow.holds Tryd.pinned (OpenSpec.ofChange partialTruthWrong)

/-- 'schismalaw37.PartialRefuted': WHATEVER THE INPUT: true; the input reads as it did. -/
def partialRefutedSpec : ChangeSpec := { name := "partialRefuted", fn := fun _ => fun
  | [d] => { results := [.lit (.bool true)], args := [d] }
  | _ => none }
def partialRefutedRow : OpenClaim := { program := "ythhkpgbfefakeaadoor", sum := "4dd2a1cbbac24f0acc03a42ad515998f94ca39ddca7f631938f106d7611c2ae9", func := "schisma/schismalaw37.PartialRefuted", spec := "partialRefuted", unfollowed := true, recurses := true, named := ["schisma/pitch.primes", "schisma/size.logs"], apart := false, laid := [("schisma/pitch.primes", laid_schisma_pitch_primes), ("schisma/size.logs", laid_schisma_size_logs)] }
def PartialRefutedSaid : Prop := partialRefutedRow.holds Tryd.pinned (OpenSpec.ofChange partialRefutedSpec)

/-- ITS FALSE NEIGHBOUR: 'it returns false'. Refute it at one input. -/
def partialRefutedWrong : ChangeSpec := { name := "partialRefuted", fn := fun _ => fun
  | [d] => { results := [.lit (.bool false)], args := [d] }
  | _ => none }
def PartialRefutedWrongFalsely : Prop := partialRefutedRow.holds Tryd.pinned (OpenSpec.ofChange partialRefutedWrong)

/-- 'schismalaw37.PartialMore': WHATEVER THE INPUT: true; the input reads as it did. -/
def partialMoreSpec : ChangeSpec := { name := "partialMore", fn := fun _ => fun
  | [d1, d2, d3] => { results := [.lit (.bool true)], args := [d1, d2, d3] }
  | _ => none }
def partialMoreRow : OpenClaim := { program := "ythhkpgbfefakeaadoor", sum := "4dd2a1cbbac24f0acc03a42ad515998f94ca39ddca7f631938f106d7611c2ae9", func := "schisma/schismalaw37.PartialMore", spec := "partialMore", unfollowed := true, recurses := true, named := ["schisma/pitch.primes", "schisma/size.logs"], apart := false, laid := [("schisma/pitch.primes", laid_schisma_pitch_primes), ("schisma/size.logs", laid_schisma_size_logs)] }
def PartialMoreSaid : Prop := partialMoreRow.holds Tryd.pinned (OpenSpec.ofChange partialMoreSpec)

/-- ITS FALSE NEIGHBOUR: 'it returns false'. Refute it at one input. -/
def partialMoreWrong : ChangeSpec := { name := "partialMore", fn := fun _ => fun
  | [d1, d2, d3] => { results := [.lit (.bool false)], args := [d1, d2, d3] }
  | _ => none }
def PartialMoreWrongFalsely : Prop := partialMoreRow.holds Tryd.pinned (OpenSpec.ofChange partialMoreWrong)

/-- 'schismalaw37.PartialFits': WHATEVER THE INPUT: true; the input reads as it did. -/
def partialFitsSpec : ChangeSpec := { name := "partialFits", fn := fun _ => fun
  | [d1, d2] => { results := [.lit (.bool true)], args := [d1, d2] }
  | _ => none }
def partialFitsRow : OpenClaim := { program := "ythhkpgbfefakeaadoor", sum := "4dd2a1cbbac24f0acc03a42ad515998f94ca39ddca7f631938f106d7611c2ae9", func := "schisma/schismalaw37.PartialFits", spec := "partialFits", unfollowed := true, recurses := true, named := ["schisma/pitch.primes", "schisma/size.logs"], apart := false, laid := [("schisma/pitch.primes", laid_schisma_pitch_primes), ("schisma/size.logs", laid_schisma_size_logs)] }
def PartialFitsSaid : Prop := partialFitsRow.holds Tryd.pinned (OpenSpec.ofChange partialFitsSpec)

/-- ITS FALSE NEIGHBOUR: 'it returns false'. Refute it at one input. -/
def partialFitsWrong : ChangeSpec := { name := "partialFits", fn := fun _ => fun
  | [d1, d2] => { results := [.lit (.bool false)], args := [d1, d2] }
  | _ => none }
def PartialFitsWrongFalsely : Prop := partialFitsRow.holds Tryd.pinned (OpenSpec.ofChange partialFitsWrong)

/-- 'schismalaw37.PartialPredicted': WHATEVER THE INPUT: true; the input reads as it did. -/
def partialPredictedSpec : ChangeSpec := { name := "partialPredicted", fn := fun _ => fun
  | [d1, d2] => { results := [.lit (.bool true)], args := [d1, d2] }
  | _ => none }
def partialPredictedRow : OpenClaim := { program := "ythhkpgbfefakeaadoor", sum := "4dd2a1cbbac24f0acc03a42ad515998f94ca39ddca7f631938f106d7611c2ae9", func := "schisma/schismalaw37.PartialPredicted", spec := "partialPredicted", unfollowed := true, recurses := true, named := ["schisma/pitch.primes", "schisma/size.logs"], apart := false, laid := [("schisma/pitch.primes", laid_schisma_pitch_primes), ("schisma/size.logs", laid_schisma_size_logs)] }
def PartialPredictedSaid : Prop := partialPredictedRow.holds Tryd.pinned (OpenSpec.ofChange partialPredictedSpec)

/-- ITS FALSE NEIGHBOUR: 'it returns false'. Refute it at one input. -/
def partialPredictedWrong : ChangeSpec := { name := "partialPredicted", fn := fun _ => fun
  | [d1, d2] => { results := [.lit (.bool false)], args := [d1, d2] }
  | _ => none }
def PartialPredictedWrongFalsely : Prop := partialPredictedRow.holds Tryd.pinned (OpenSpec.ofChange partialPredictedWrong)

/-- 'schismalaw37.PartialMoved': WHATEVER THE INPUT: true; the input reads as it did. -/
def partialMovedSpec : ChangeSpec := { name := "partialMoved", fn := fun _ => fun
  | [d1, d2] => { results := [.lit (.bool true)], args := [d1, d2] }
  | _ => none }
def partialMovedRow : OpenClaim := { program := "ythhkpgbfefakeaadoor", sum := "4dd2a1cbbac24f0acc03a42ad515998f94ca39ddca7f631938f106d7611c2ae9", func := "schisma/schismalaw37.PartialMoved", spec := "partialMoved", unfollowed := true, recurses := true, named := ["schisma/pitch.primes", "schisma/size.logs"], apart := false, laid := [("schisma/pitch.primes", laid_schisma_pitch_primes), ("schisma/size.logs", laid_schisma_size_logs)] }
def PartialMovedSaid : Prop := partialMovedRow.holds Tryd.pinned (OpenSpec.ofChange partialMovedSpec)

/-- ITS FALSE NEIGHBOUR: 'it returns false'. Refute it at one input. -/
def partialMovedWrong : ChangeSpec := { name := "partialMoved", fn := fun _ => fun
  | [d1, d2] => { results := [.lit (.bool false)], args := [d1, d2] }
  | _ => none }
def PartialMovedWrongFalsely : Prop := partialMovedRow.holds Tryd.pinned (OpenSpec.ofChange partialMovedWrong)

/- THE SECOND FORM. 'bulk': how many values and letters a reading holds, each counted each time it is reached (what is shared counts as often as it is met; a slice's spare places count too). A statement '..UptoSaid' is the law's where the arguments, and the package variables that the reading takes, are together of bulk at most 1048576: NARROWER than '..Said'. Prove '..Said' where nothing that the law and all that it calls make is longer than what came in: it says more and counts as full. Else prove '..UptoSaid'. A law counts once. -/
mutual
def uptoBulk {H : Type} : DataW H → Nat
  | .lit (.string bytes) => bytes.length + 1
  | .lit _ => 1
  | .nil => 1
  | .ptr d => uptoBulk d + 1
  | .slice elems spare => uptoBulkAll elems + uptoBulkAll spare + 1
  | .agg parts => uptoBulkAll parts + 1
  | .iface _ d => uptoBulk d + 1
  | .map entries => uptoBulkEntries entries + 1
  | .held _ => 1
def uptoBulkAll {H : Type} : List (DataW H) → Nat
  | [] => 0
  | d :: r => uptoBulk d + uptoBulkAll r
def uptoBulkEntries {H : Type} : List (Lit × DataW H) → Nat
  | [] => 0
  | x :: r => uptoBulkEntry x + uptoBulkEntries r
def uptoBulkEntry {H : Type} : Lit × DataW H → Nat
  | (.string bytes, d) => bytes.length + uptoBulk d + 1
  | (_, d) => uptoBulk d + 1
 end
def uptoSmall : (H : Type) → List (DataW H) → Bool := fun _ ds => decide (uptoBulkAll ds ≤ 1048576)
def OpenSpec.upto (s : _root_.Go.ChangeSpec) : _root_.Go.OpenSpec := { _root_.Go.OpenSpec.ofChange s with cond := some uptoSmall }

/-- 'schismalaw37.PartialOctaves', WHERE WHAT IT READS IS OF BULK AT MOST 1048576: true; the input reads as it did. -/
def partialOctavesUptoRow : OpenClaim := { program := "ythhkpgbfefakeaadoor", sum := "4dd2a1cbbac24f0acc03a42ad515998f94ca39ddca7f631938f106d7611c2ae9", func := "schisma/schismalaw37.PartialOctaves", spec := "partialOctaves", unfollowed := true, recurses := true, named := ["schisma/pitch.primes", "schisma/size.logs"], apart := false, laid := [("schisma/pitch.primes", laid_schisma_pitch_primes), ("schisma/size.logs", laid_schisma_size_logs)], narrowed := true }
def PartialOctavesUptoSaid : Prop := partialOctavesUptoRow.holds Tryd.pinned (OpenSpec.upto partialOctavesSpec)

/-- 'schismalaw37.PartialMatchesReference', WHERE WHAT IT READS IS OF BULK AT MOST 1048576: true; the input reads as it did. -/
def partialMatchesReferenceUptoRow : OpenClaim := { program := "ythhkpgbfefakeaadoor", sum := "4dd2a1cbbac24f0acc03a42ad515998f94ca39ddca7f631938f106d7611c2ae9", func := "schisma/schismalaw37.PartialMatchesReference", spec := "partialMatchesReference", unfollowed := true, recurses := true, named := ["schisma/pitch.primes", "schisma/size.logs"], apart := false, laid := [("schisma/pitch.primes", laid_schisma_pitch_primes), ("schisma/size.logs", laid_schisma_size_logs)], narrowed := true }
def PartialMatchesReferenceUptoSaid : Prop := partialMatchesReferenceUptoRow.holds Tryd.pinned (OpenSpec.upto partialMatchesReferenceSpec)

/-- 'schismalaw37.PartialTruth', WHERE WHAT IT READS IS OF BULK AT MOST 1048576: true; the input reads as it did. -/
def partialTruthUptoRow : OpenClaim := { program := "ythhkpgbfefakeaadoor", sum := "4dd2a1cbbac24f0acc03a42ad515998f94ca39ddca7f631938f106d7611c2ae9", func := "schisma/schismalaw37.PartialTruth", spec := "partialTruth", unfollowed := true, recurses := true, named := ["schisma/pitch.primes", "schisma/size.logs"], apart := false, laid := [("schisma/pitch.primes", laid_schisma_pitch_primes), ("schisma/size.logs", laid_schisma_size_logs)], narrowed := true }
def PartialTruthUptoSaid : Prop := partialTruthUptoRow.holds Tryd.pinned (OpenSpec.upto partialTruthSpec)

/-- 'schismalaw37.PartialRefuted', WHERE WHAT IT READS IS OF BULK AT MOST 1048576: true; the input reads as it did. -/
def partialRefutedUptoRow : OpenClaim := { program := "ythhkpgbfefakeaadoor", sum := "4dd2a1cbbac24f0acc03a42ad515998f94ca39ddca7f631938f106d7611c2ae9", func := "schisma/schismalaw37.PartialRefuted", spec := "partialRefuted", unfollowed := true, recurses := true, named := ["schisma/pitch.primes", "schisma/size.logs"], apart := false, laid := [("schisma/pitch.primes", laid_schisma_pitch_primes), ("schisma/size.logs", laid_schisma_size_logs)], narrowed := true }
def PartialRefutedUptoSaid : Prop := partialRefutedUptoRow.holds Tryd.pinned (OpenSpec.upto partialRefutedSpec)

/-- 'schismalaw37.PartialMore', WHERE WHAT IT READS IS OF BULK AT MOST 1048576: true; the input reads as it did. -/
def partialMoreUptoRow : OpenClaim := { program := "ythhkpgbfefakeaadoor", sum := "4dd2a1cbbac24f0acc03a42ad515998f94ca39ddca7f631938f106d7611c2ae9", func := "schisma/schismalaw37.PartialMore", spec := "partialMore", unfollowed := true, recurses := true, named := ["schisma/pitch.primes", "schisma/size.logs"], apart := false, laid := [("schisma/pitch.primes", laid_schisma_pitch_primes), ("schisma/size.logs", laid_schisma_size_logs)], narrowed := true }
def PartialMoreUptoSaid : Prop := partialMoreUptoRow.holds Tryd.pinned (OpenSpec.upto partialMoreSpec)

/-- 'schismalaw37.PartialFits', WHERE WHAT IT READS IS OF BULK AT MOST 1048576: true; the input reads as it did. -/
def partialFitsUptoRow : OpenClaim := { program := "ythhkpgbfefakeaadoor", sum := "4dd2a1cbbac24f0acc03a42ad515998f94ca39ddca7f631938f106d7611c2ae9", func := "schisma/schismalaw37.PartialFits", spec := "partialFits", unfollowed := true, recurses := true, named := ["schisma/pitch.primes", "schisma/size.logs"], apart := false, laid := [("schisma/pitch.primes", laid_schisma_pitch_primes), ("schisma/size.logs", laid_schisma_size_logs)], narrowed := true }
def PartialFitsUptoSaid : Prop := partialFitsUptoRow.holds Tryd.pinned (OpenSpec.upto partialFitsSpec)

/-- 'schismalaw37.PartialPredicted', WHERE WHAT IT READS IS OF BULK AT MOST 1048576: true; the input reads as it did. -/
def partialPredictedUptoRow : OpenClaim := { program := "ythhkpgbfefakeaadoor", sum := "4dd2a1cbbac24f0acc03a42ad515998f94ca39ddca7f631938f106d7611c2ae9", func := "schisma/schismalaw37.PartialPredicted", spec := "partialPredicted", unfollowed := true, recurses := true, named := ["schisma/pitch.primes", "schisma/size.logs"], apart := false, laid := [("schisma/pitch.primes", laid_schisma_pitch_primes), ("schisma/size.logs", laid_schisma_size_logs)], narrowed := true }
def PartialPredictedUptoSaid : Prop := partialPredictedUptoRow.holds Tryd.pinned (OpenSpec.upto partialPredictedSpec)

/-- 'schismalaw37.PartialMoved', WHERE WHAT IT READS IS OF BULK AT MOST 1048576: true; the input reads as it did. -/
def partialMovedUptoRow : OpenClaim := { program := "ythhkpgbfefakeaadoor", sum := "4dd2a1cbbac24f0acc03a42ad515998f94ca39ddca7f631938f106d7611c2ae9", func := "schisma/schismalaw37.PartialMoved", spec := "partialMoved", unfollowed := true, recurses := true, named := ["schisma/pitch.primes", "schisma/size.logs"], apart := false, laid := [("schisma/pitch.primes", laid_schisma_pitch_primes), ("schisma/size.logs", laid_schisma_size_logs)], narrowed := true }
def PartialMovedUptoSaid : Prop := partialMovedUptoRow.holds Tryd.pinned (OpenSpec.upto partialMovedSpec)

end Rows
end Go.Proofs.YthhkpgbfefakeaaDoor
