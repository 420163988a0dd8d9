/-
  NARROWER THAN 'FOR EVERY INPUT', by the rows' own cells (each row's printed sentence says how): BlameDeviants: laid · BlameAssigned: laid · BlameBeginnings: laid · BlameOctaves: laid · BlameCharged: laid · BlameNamed: laid · BlameNarrowed: laid.
  DERIVED. THE GIVEN ROWS OF THIS SEAT. 7 by the template 'for every input the law returns true; each argument reads behind the call as it read before'; 0 by the template 'total and deterministic' (their statements: YtbemjekkojgbpaaDoorTotals.lean).
  GIVEN WITH THE SEED: the statements are not yours to turn. If you find one false, say at which input.
  Laid BY PROGRAM, IN A SANDBOX (cutbox-rows.mjs): the forced cells as the released guide's own fill.sh prints them over the translation 9e74f7c7152c99a9… (all of the seat's roots in one cut). By AI agents, Wed Nov 11 2026. No macro, syntax, notation, axiom, sorry.
-/
import Derived.Test.YtbemjekkojgbpaaDoorChecked
import GoSem.Claim
import GoSem.ClaimJoined
import GoSem.ClaimMapViews
import Derived.JoinedTies
import Derived.KernelRfl
namespace Go.Proofs.YtbemjekkojgbpaaDoor
/- THE CELL 'sum', in the pinned program and in every row, IS THE sha256 OF THE DUMP (.gsa) THAT YtbemjekkojgbpaaDoorProg.lean LOADS. Nothing in Lean hashes anything: it is a label: what it is worth is what the hold of that sum in a sandbox is worth. -/
noncomputable def Tryd.pinned : Pinned := { name := "ytbemjekkojgbpaadoor", sum := "9e74f7c7152c99a90c30db5bc71e34140c58e8462426f4805d971aae7f9a6f44", checked := Tryd.checked }
namespace Rows
def none {H : Type} : Left H := { results := [], args := [] }

/- WHAT THE LISTED PACKAGE-LEVEL VARIABLES READ AS WHEN THE CALL BEGINS. Each datum BY PROGRAM (the guide's laid-datum.mjs) off the statement by which the dump's own 'gosem.cut.vars' lays the variable. In a bare row this is a premise. The card (YtbemjekkojgbpaaDoorCards.lean) ties it to the program's text. -/
def laid_schisma_size_logs {H : Type} : DataW H := .agg [.agg [.lit (.int .i64 1000000000), .lit (.int .i64 1000000000)], .agg [.lit (.int .i64 1584962500), .lit (.int .i64 1584962501)], .agg [.lit (.int .i64 2321928094), .lit (.int .i64 2321928095)], .agg [.lit (.int .i64 2807354922), .lit (.int .i64 2807354923)], .agg [.lit (.int .i64 3459431618), .lit (.int .i64 3459431619)], .agg [.lit (.int .i64 3700439718), .lit (.int .i64 3700439719)]]

/-- 'schismalaw40.BlameDeviants': WHATEVER THE INPUT: true; the input reads as it did. -/
def blameDeviantsSpec : ChangeSpec := { name := "blameDeviants", fn := fun _ => fun
  | [d1, d2, d3] => { results := [.lit (.bool true)], args := [d1, d2, d3] }
  | _ => none }
def blameDeviantsRow : OpenClaim := { program := "ytbemjekkojgbpaadoor", sum := "9e74f7c7152c99a90c30db5bc71e34140c58e8462426f4805d971aae7f9a6f44", func := "schisma/schismalaw40.BlameDeviants", spec := "blameDeviants", unfollowed := true, recurses := true, named := ["schisma/size.logs"], plainKeys := false, apart := false, laid := [("schisma/size.logs", laid_schisma_size_logs)] }
def BlameDeviantsSaid : Prop := blameDeviantsRow.holds Tryd.pinned (OpenSpec.ofChange blameDeviantsSpec)

/-- ITS FALSE NEIGHBOUR: 'it returns false'. Refute it at one input. -/
def blameDeviantsWrong : ChangeSpec := { name := "blameDeviants", fn := fun _ => fun
  | [d1, d2, d3] => { results := [.lit (.bool false)], args := [d1, d2, d3] }
  | _ => none }
def BlameDeviantsWrongFalsely : Prop := blameDeviantsRow.holds Tryd.pinned (OpenSpec.ofChange blameDeviantsWrong)

/-- 'schismalaw40.BlameAssigned': WHATEVER THE INPUT: true; the input reads as it did. -/
def blameAssignedSpec : ChangeSpec := { name := "blameAssigned", fn := fun _ => fun
  | [d1, d2, d3] => { results := [.lit (.bool true)], args := [d1, d2, d3] }
  | _ => none }
def blameAssignedRow : OpenClaim := { program := "ytbemjekkojgbpaadoor", sum := "9e74f7c7152c99a90c30db5bc71e34140c58e8462426f4805d971aae7f9a6f44", func := "schisma/schismalaw40.BlameAssigned", spec := "blameAssigned", unfollowed := true, recurses := true, named := ["schisma/size.logs"], plainKeys := false, apart := false, laid := [("schisma/size.logs", laid_schisma_size_logs)] }
def BlameAssignedSaid : Prop := blameAssignedRow.holds Tryd.pinned (OpenSpec.ofChange blameAssignedSpec)

/-- ITS FALSE NEIGHBOUR: 'it returns false'. Refute it at one input. -/
def blameAssignedWrong : ChangeSpec := { name := "blameAssigned", fn := fun _ => fun
  | [d1, d2, d3] => { results := [.lit (.bool false)], args := [d1, d2, d3] }
  | _ => none }
def BlameAssignedWrongFalsely : Prop := blameAssignedRow.holds Tryd.pinned (OpenSpec.ofChange blameAssignedWrong)

/-- 'schismalaw40.BlameBeginnings': WHATEVER THE INPUT: true; the input reads as it did. -/
def blameBeginningsSpec : ChangeSpec := { name := "blameBeginnings", fn := fun _ => fun
  | [d1, d2, d3, d4] => { results := [.lit (.bool true)], args := [d1, d2, d3, d4] }
  | _ => none }
def blameBeginningsRow : OpenClaim := { program := "ytbemjekkojgbpaadoor", sum := "9e74f7c7152c99a90c30db5bc71e34140c58e8462426f4805d971aae7f9a6f44", func := "schisma/schismalaw40.BlameBeginnings", spec := "blameBeginnings", unfollowed := true, recurses := true, named := ["schisma/size.logs"], plainKeys := false, apart := false, laid := [("schisma/size.logs", laid_schisma_size_logs)] }
def BlameBeginningsSaid : Prop := blameBeginningsRow.holds Tryd.pinned (OpenSpec.ofChange blameBeginningsSpec)

/-- ITS FALSE NEIGHBOUR: 'it returns false'. Refute it at one input. -/
def blameBeginningsWrong : ChangeSpec := { name := "blameBeginnings", fn := fun _ => fun
  | [d1, d2, d3, d4] => { results := [.lit (.bool false)], args := [d1, d2, d3, d4] }
  | _ => none }
def BlameBeginningsWrongFalsely : Prop := blameBeginningsRow.holds Tryd.pinned (OpenSpec.ofChange blameBeginningsWrong)

/-- 'schismalaw40.BlameOctaves': WHATEVER THE INPUT: true; the input reads as it did. -/
def blameOctavesSpec : ChangeSpec := { name := "blameOctaves", fn := fun _ => fun
  | [d1, d2, d3, d4] => { results := [.lit (.bool true)], args := [d1, d2, d3, d4] }
  | _ => none }
def blameOctavesRow : OpenClaim := { program := "ytbemjekkojgbpaadoor", sum := "9e74f7c7152c99a90c30db5bc71e34140c58e8462426f4805d971aae7f9a6f44", func := "schisma/schismalaw40.BlameOctaves", spec := "blameOctaves", unfollowed := true, recurses := true, named := ["schisma/size.logs"], plainKeys := false, apart := false, laid := [("schisma/size.logs", laid_schisma_size_logs)] }
def BlameOctavesSaid : Prop := blameOctavesRow.holds Tryd.pinned (OpenSpec.ofChange blameOctavesSpec)

/-- ITS FALSE NEIGHBOUR: 'it returns false'. Refute it at one input. -/
def blameOctavesWrong : ChangeSpec := { name := "blameOctaves", fn := fun _ => fun
  | [d1, d2, d3, d4] => { results := [.lit (.bool false)], args := [d1, d2, d3, d4] }
  | _ => none }
def BlameOctavesWrongFalsely : Prop := blameOctavesRow.holds Tryd.pinned (OpenSpec.ofChange blameOctavesWrong)

/-- 'schismalaw40.BlameCharged': WHATEVER THE INPUT: true; the input reads as it did. -/
def blameChargedSpec : ChangeSpec := { name := "blameCharged", fn := fun _ => fun
  | [d1, d2, d3] => { results := [.lit (.bool true)], args := [d1, d2, d3] }
  | _ => none }
def blameChargedRow : OpenClaim := { program := "ytbemjekkojgbpaadoor", sum := "9e74f7c7152c99a90c30db5bc71e34140c58e8462426f4805d971aae7f9a6f44", func := "schisma/schismalaw40.BlameCharged", spec := "blameCharged", unfollowed := true, recurses := true, named := ["schisma/size.logs"], plainKeys := false, apart := false, laid := [("schisma/size.logs", laid_schisma_size_logs)] }
def BlameChargedSaid : Prop := blameChargedRow.holds Tryd.pinned (OpenSpec.ofChange blameChargedSpec)

/-- ITS FALSE NEIGHBOUR: 'it returns false'. Refute it at one input. -/
def blameChargedWrong : ChangeSpec := { name := "blameCharged", fn := fun _ => fun
  | [d1, d2, d3] => { results := [.lit (.bool false)], args := [d1, d2, d3] }
  | _ => none }
def BlameChargedWrongFalsely : Prop := blameChargedRow.holds Tryd.pinned (OpenSpec.ofChange blameChargedWrong)

/-- 'schismalaw40.BlameNamed': WHATEVER THE INPUT: true; the input reads as it did. -/
def blameNamedSpec : ChangeSpec := { name := "blameNamed", fn := fun _ => fun
  | [d1, d2, d3] => { results := [.lit (.bool true)], args := [d1, d2, d3] }
  | _ => none }
def blameNamedRow : OpenClaim := { program := "ytbemjekkojgbpaadoor", sum := "9e74f7c7152c99a90c30db5bc71e34140c58e8462426f4805d971aae7f9a6f44", func := "schisma/schismalaw40.BlameNamed", spec := "blameNamed", unfollowed := true, recurses := true, named := ["schisma/size.logs"], plainKeys := false, apart := false, laid := [("schisma/size.logs", laid_schisma_size_logs)] }
def BlameNamedSaid : Prop := blameNamedRow.holds Tryd.pinned (OpenSpec.ofChange blameNamedSpec)

/-- ITS FALSE NEIGHBOUR: 'it returns false'. Refute it at one input. -/
def blameNamedWrong : ChangeSpec := { name := "blameNamed", fn := fun _ => fun
  | [d1, d2, d3] => { results := [.lit (.bool false)], args := [d1, d2, d3] }
  | _ => none }
def BlameNamedWrongFalsely : Prop := blameNamedRow.holds Tryd.pinned (OpenSpec.ofChange blameNamedWrong)

/-- 'schismalaw40.BlameNarrowed': WHATEVER THE INPUT: true; the input reads as it did. -/
def blameNarrowedSpec : ChangeSpec := { name := "blameNarrowed", fn := fun _ => fun
  | [d1, d2, d3, d4] => { results := [.lit (.bool true)], args := [d1, d2, d3, d4] }
  | _ => none }
def blameNarrowedRow : OpenClaim := { program := "ytbemjekkojgbpaadoor", sum := "9e74f7c7152c99a90c30db5bc71e34140c58e8462426f4805d971aae7f9a6f44", func := "schisma/schismalaw40.BlameNarrowed", spec := "blameNarrowed", unfollowed := true, recurses := true, named := ["schisma/size.logs"], plainKeys := false, apart := false, laid := [("schisma/size.logs", laid_schisma_size_logs)] }
def BlameNarrowedSaid : Prop := blameNarrowedRow.holds Tryd.pinned (OpenSpec.ofChange blameNarrowedSpec)

/-- ITS FALSE NEIGHBOUR: 'it returns false'. Refute it at one input. -/
def blameNarrowedWrong : ChangeSpec := { name := "blameNarrowed", fn := fun _ => fun
  | [d1, d2, d3, d4] => { results := [.lit (.bool false)], args := [d1, d2, d3, d4] }
  | _ => none }
def BlameNarrowedWrongFalsely : Prop := blameNarrowedRow.holds Tryd.pinned (OpenSpec.ofChange blameNarrowedWrong)

/- THE SECOND FORM. 'bulk': how many values and letters a reading holds, each counted each time it is reached (what is shared counts as often as it is met; a slice's spare places count too). A statement '..UptoSaid' is the law's where the arguments, and the package variables that the reading takes, are together of bulk at most 1048576: NARROWER than '..Said'. Prove '..Said' where nothing that the law and all that it calls make is longer than what came in: it says more and counts as full. Else prove '..UptoSaid'. A law counts once. -/
mutual
def uptoBulk {H : Type} : DataW H → Nat
  | .lit (.string bytes) => bytes.length + 1
  | .lit _ => 1
  | .nil => 1
  | .ptr d => uptoBulk d + 1
  | .slice elems spare => uptoBulkAll elems + uptoBulkAll spare + 1
  | .agg parts => uptoBulkAll parts + 1
  | .iface _ d => uptoBulk d + 1
  | .map entries => uptoBulkEntries entries + 1
  | .held _ => 1
def uptoBulkAll {H : Type} : List (DataW H) → Nat
  | [] => 0
  | d :: r => uptoBulk d + uptoBulkAll r
def uptoBulkEntries {H : Type} : List (Lit × DataW H) → Nat
  | [] => 0
  | x :: r => uptoBulkEntry x + uptoBulkEntries r
def uptoBulkEntry {H : Type} : Lit × DataW H → Nat
  | (.string bytes, d) => bytes.length + uptoBulk d + 1
  | (_, d) => uptoBulk d + 1
 end
def uptoSmall : (H : Type) → List (DataW H) → Bool := fun _ ds => decide (uptoBulkAll ds ≤ 1048576)
def OpenSpec.upto (s : _root_.Go.ChangeSpec) : _root_.Go.OpenSpec := { _root_.Go.OpenSpec.ofChange s with cond := some uptoSmall }

/-- 'schismalaw40.BlameDeviants', WHERE WHAT IT READS IS OF BULK AT MOST 1048576: true; the input reads as it did. -/
def blameDeviantsUptoRow : OpenClaim := { program := "ytbemjekkojgbpaadoor", sum := "9e74f7c7152c99a90c30db5bc71e34140c58e8462426f4805d971aae7f9a6f44", func := "schisma/schismalaw40.BlameDeviants", spec := "blameDeviants", unfollowed := true, recurses := true, named := ["schisma/size.logs"], plainKeys := false, apart := false, laid := [("schisma/size.logs", laid_schisma_size_logs)], narrowed := true }
def BlameDeviantsUptoSaid : Prop := blameDeviantsUptoRow.holds Tryd.pinned (OpenSpec.upto blameDeviantsSpec)

/-- 'schismalaw40.BlameAssigned', WHERE WHAT IT READS IS OF BULK AT MOST 1048576: true; the input reads as it did. -/
def blameAssignedUptoRow : OpenClaim := { program := "ytbemjekkojgbpaadoor", sum := "9e74f7c7152c99a90c30db5bc71e34140c58e8462426f4805d971aae7f9a6f44", func := "schisma/schismalaw40.BlameAssigned", spec := "blameAssigned", unfollowed := true, recurses := true, named := ["schisma/size.logs"], plainKeys := false, apart := false, laid := [("schisma/size.logs", laid_schisma_size_logs)], narrowed := true }
def BlameAssignedUptoSaid : Prop := blameAssignedUptoRow.holds Tryd.pinned (OpenSpec.upto blameAssignedSpec)

/-- 'schismalaw40.BlameBeginnings', WHERE WHAT IT READS IS OF BULK AT MOST 1048576: true; the input reads as it did. -/
def blameBeginningsUptoRow : OpenClaim := { program := "ytbemjekkojgbpaadoor", sum := "9e74f7c7152c99a90c30db5bc71e34140c58e8462426f4805d971aae7f9a6f44", func := "schisma/schismalaw40.BlameBeginnings", spec := "blameBeginnings", unfollowed := true, recurses := true, named := ["schisma/size.logs"], plainKeys := false, apart := false, laid := [("schisma/size.logs", laid_schisma_size_logs)], narrowed := true }
def BlameBeginningsUptoSaid : Prop := blameBeginningsUptoRow.holds Tryd.pinned (OpenSpec.upto blameBeginningsSpec)

/-- 'schismalaw40.BlameOctaves', WHERE WHAT IT READS IS OF BULK AT MOST 1048576: true; the input reads as it did. -/
def blameOctavesUptoRow : OpenClaim := { program := "ytbemjekkojgbpaadoor", sum := "9e74f7c7152c99a90c30db5bc71e34140c58e8462426f4805d971aae7f9a6f44", func := "schisma/schismalaw40.BlameOctaves", spec := "blameOctaves", unfollowed := true, recurses := true, named := ["schisma/size.logs"], plainKeys := false, apart := false, laid := [("schisma/size.logs", laid_schisma_size_logs)], narrowed := true }
def BlameOctavesUptoSaid : Prop := blameOctavesUptoRow.holds Tryd.pinned (OpenSpec.upto blameOctavesSpec)

/-- 'schismalaw40.BlameCharged', WHERE WHAT IT READS IS OF BULK AT MOST 1048576: true; the input reads as it did. -/
def blameChargedUptoRow : OpenClaim := { program := "ytbemjekkojgbpaadoor", sum := "9e74f7c7152c99a90c30db5bc71e34140c58e8462426f4805d971aae7f9a6f44", func := "schisma/schismalaw40.BlameCharged", spec := "blameCharged", unfollowed := true, recurses := true, named := ["schisma/size.logs"], plainKeys := false, apart := false, laid := [("schisma/size.logs", laid_schisma_size_logs)], narrowed := true }
def BlameChargedUptoSaid : Prop := blameChargedUptoRow.holds Tryd.pinned (OpenSpec.upto blameChargedSpec)

/-- 'schismalaw40.BlameNamed', WHERE WHAT IT READS IS OF BULK AT MOST 1048576: true; the input reads as it did. -/
def blameNamedUptoRow : OpenClaim := { program := "ytbemjekkojgbpaadoor", sum := "9e74f7c7152c99a90c30db5bc71e34140c58e8462426f4805d971aae7f9a6f44", func := "schisma/schismalaw40.BlameNamed", spec := "blameNamed", unfollowed := true, recurses := true, named := ["schisma/size.logs"], plainKeys := false, apart := false, laid := [("schisma/size.logs", laid_schisma_size_logs)], narrowed := true }
def BlameNamedUptoSaid : Prop := blameNamedUptoRow.holds Tryd.pinned (OpenSpec.upto blameNamedSpec)

/-- 'schismalaw40.BlameNarrowed', WHERE WHAT IT READS IS OF BULK AT MOST 1048576: true; the input reads as it did. -/
def blameNarrowedUptoRow : OpenClaim := { program := "ytbemjekkojgbpaadoor", sum := "9e74f7c7152c99a90c30db5bc71e34140c58e8462426f4805d971aae7f9a6f44", func := "schisma/schismalaw40.BlameNarrowed", spec := "blameNarrowed", unfollowed := true, recurses := true, named := ["schisma/size.logs"], plainKeys := false, apart := false, laid := [("schisma/size.logs", laid_schisma_size_logs)], narrowed := true }
def BlameNarrowedUptoSaid : Prop := blameNarrowedUptoRow.holds Tryd.pinned (OpenSpec.upto blameNarrowedSpec)

end Rows
end Go.Proofs.YtbemjekkojgbpaaDoor
