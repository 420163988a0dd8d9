/-
  NARROWER THAN 'FOR EVERY INPUT', by the rows' own cells (each row's printed sentence says how): SingMatchesReference: laid · SingEntries: laid · SingSteps: laid · SingLeast: laid · SingMissing: laid · SingMoved: laid · SingBeginnings: laid · SingHeard: laid.
  DERIVED. THE GIVEN ROWS OF THIS SEAT. 8 by the template 'for every input the law returns true; each argument reads behind the call as it read before'; 0 by the template 'total and deterministic' (their statements: YtigigcbondhmmaaDoorTotals.lean).
  GIVEN WITH THE SEED: the statements are not yours to turn. If you find one false, say at which input.
  Laid BY PROGRAM, IN A SANDBOX (cutbox-rows.mjs): the forced cells as the released guide's own fill.sh prints them over the translation 29d2499dff29360a… (all of the seat's roots in one cut). By AI agents, Wed Nov 11 2026. No macro, syntax, notation, axiom, sorry.
-/
import Derived.Test.YtigigcbondhmmaaDoorChecked
import GoSem.Claim
import GoSem.ClaimJoined
import GoSem.ClaimMapViews
import Derived.JoinedTies
import Derived.KernelRfl
namespace Go.Proofs.YtigigcbondhmmaaDoor
/- THE CELL 'sum', in the pinned program and in every row, IS THE sha256 OF THE DUMP (.gsa) THAT YtigigcbondhmmaaDoorProg.lean LOADS. Nothing in Lean hashes anything: it is a label: what it is worth is what the hold of that sum in a sandbox is worth. -/
noncomputable def Tryd.pinned : Pinned := { name := "ytigigcbondhmmaadoor", sum := "29d2499dff29360ab92b2f1041332da237c84483734b243167ff65af35a1ce44", checked := Tryd.checked }
namespace Rows
def none {H : Type} : Left H := { results := [], args := [] }

/- WHAT THE LISTED PACKAGE-LEVEL VARIABLES READ AS WHEN THE CALL BEGINS. Each datum BY PROGRAM (the guide's laid-datum.mjs) off the statement by which the dump's own 'gosem.cut.vars' lays the variable. In a bare row this is a premise. The card (YtigigcbondhmmaaDoorCards.lean) ties it to the program's text. -/
def laid_schisma_size_logs {H : Type} : DataW H := .agg [.agg [.lit (.int .i64 1000000000), .lit (.int .i64 1000000000)], .agg [.lit (.int .i64 1584962500), .lit (.int .i64 1584962501)], .agg [.lit (.int .i64 2321928094), .lit (.int .i64 2321928095)], .agg [.lit (.int .i64 2807354922), .lit (.int .i64 2807354923)], .agg [.lit (.int .i64 3459431618), .lit (.int .i64 3459431619)], .agg [.lit (.int .i64 3700439718), .lit (.int .i64 3700439719)]]

/-- 'schismalaw22.SingMatchesReference': WHATEVER THE INPUT: true; the input reads as it did. -/
def singMatchesReferenceSpec : ChangeSpec := { name := "singMatchesReference", fn := fun _ => fun
  | [d1, d2, d3, d4, d5] => { results := [.lit (.bool true)], args := [d1, d2, d3, d4, d5] }
  | _ => none }
def singMatchesReferenceRow : OpenClaim := { program := "ytigigcbondhmmaadoor", sum := "29d2499dff29360ab92b2f1041332da237c84483734b243167ff65af35a1ce44", func := "schisma/schismalaw22.SingMatchesReference", spec := "singMatchesReference", unfollowed := true, recurses := true, named := ["schisma/size.logs"], apart := false, laid := [("schisma/size.logs", laid_schisma_size_logs)] }
def SingMatchesReferenceSaid : Prop := singMatchesReferenceRow.holds Tryd.pinned (OpenSpec.ofChange singMatchesReferenceSpec)

/-- ITS FALSE NEIGHBOUR: 'it returns false'. Refute it at one input. -/
def singMatchesReferenceWrong : ChangeSpec := { name := "singMatchesReference", fn := fun _ => fun
  | [d1, d2, d3, d4, d5] => { results := [.lit (.bool false)], args := [d1, d2, d3, d4, d5] }
  | _ => none }
def SingMatchesReferenceWrongFalsely : Prop := singMatchesReferenceRow.holds Tryd.pinned (OpenSpec.ofChange singMatchesReferenceWrong)

/-- 'schismalaw22.SingEntries': WHATEVER THE INPUT: true; the input reads as it did. -/
def singEntriesSpec : ChangeSpec := { name := "singEntries", fn := fun _ => fun
  | [d1, d2] => { results := [.lit (.bool true)], args := [d1, d2] }
  | _ => none }
def singEntriesRow : OpenClaim := { program := "ytigigcbondhmmaadoor", sum := "29d2499dff29360ab92b2f1041332da237c84483734b243167ff65af35a1ce44", func := "schisma/schismalaw22.SingEntries", spec := "singEntries", unfollowed := true, recurses := true, named := ["schisma/size.logs"], apart := false, laid := [("schisma/size.logs", laid_schisma_size_logs)] }
def SingEntriesSaid : Prop := singEntriesRow.holds Tryd.pinned (OpenSpec.ofChange singEntriesSpec)

/-- ITS FALSE NEIGHBOUR: 'it returns false'. Refute it at one input. -/
def singEntriesWrong : ChangeSpec := { name := "singEntries", fn := fun _ => fun
  | [d1, d2] => { results := [.lit (.bool false)], args := [d1, d2] }
  | _ => none }
def SingEntriesWrongFalsely : Prop := singEntriesRow.holds Tryd.pinned (OpenSpec.ofChange singEntriesWrong)

/-- 'schismalaw22.SingSteps': WHATEVER THE INPUT: true; the input reads as it did. -/
def singStepsSpec : ChangeSpec := { name := "singSteps", fn := fun _ => fun
  | [d1, d2, d3, d4, d5] => { results := [.lit (.bool true)], args := [d1, d2, d3, d4, d5] }
  | _ => none }
def singStepsRow : OpenClaim := { program := "ytigigcbondhmmaadoor", sum := "29d2499dff29360ab92b2f1041332da237c84483734b243167ff65af35a1ce44", func := "schisma/schismalaw22.SingSteps", spec := "singSteps", unfollowed := true, recurses := true, named := ["schisma/size.logs"], apart := false, laid := [("schisma/size.logs", laid_schisma_size_logs)] }
def SingStepsSaid : Prop := singStepsRow.holds Tryd.pinned (OpenSpec.ofChange singStepsSpec)

/-- ITS FALSE NEIGHBOUR: 'it returns false'. Refute it at one input. -/
def singStepsWrong : ChangeSpec := { name := "singSteps", fn := fun _ => fun
  | [d1, d2, d3, d4, d5] => { results := [.lit (.bool false)], args := [d1, d2, d3, d4, d5] }
  | _ => none }
def SingStepsWrongFalsely : Prop := singStepsRow.holds Tryd.pinned (OpenSpec.ofChange singStepsWrong)

/-- 'schismalaw22.SingLeast': WHATEVER THE INPUT: true; the input reads as it did. -/
def singLeastSpec : ChangeSpec := { name := "singLeast", fn := fun _ => fun
  | [d1, d2, d3] => { results := [.lit (.bool true)], args := [d1, d2, d3] }
  | _ => none }
def singLeastRow : OpenClaim := { program := "ytigigcbondhmmaadoor", sum := "29d2499dff29360ab92b2f1041332da237c84483734b243167ff65af35a1ce44", func := "schisma/schismalaw22.SingLeast", spec := "singLeast", unfollowed := true, recurses := true, named := ["schisma/size.logs"], apart := false, laid := [("schisma/size.logs", laid_schisma_size_logs)] }
def SingLeastSaid : Prop := singLeastRow.holds Tryd.pinned (OpenSpec.ofChange singLeastSpec)

/-- ITS FALSE NEIGHBOUR: 'it returns false'. Refute it at one input. -/
def singLeastWrong : ChangeSpec := { name := "singLeast", fn := fun _ => fun
  | [d1, d2, d3] => { results := [.lit (.bool false)], args := [d1, d2, d3] }
  | _ => none }
def SingLeastWrongFalsely : Prop := singLeastRow.holds Tryd.pinned (OpenSpec.ofChange singLeastWrong)

/-- 'schismalaw22.SingMissing': WHATEVER THE INPUT: true; the input reads as it did. -/
def singMissingSpec : ChangeSpec := { name := "singMissing", fn := fun _ => fun
  | [d1, d2, d3] => { results := [.lit (.bool true)], args := [d1, d2, d3] }
  | _ => none }
def singMissingRow : OpenClaim := { program := "ytigigcbondhmmaadoor", sum := "29d2499dff29360ab92b2f1041332da237c84483734b243167ff65af35a1ce44", func := "schisma/schismalaw22.SingMissing", spec := "singMissing", unfollowed := true, recurses := true, named := ["schisma/size.logs"], apart := false, laid := [("schisma/size.logs", laid_schisma_size_logs)] }
def SingMissingSaid : Prop := singMissingRow.holds Tryd.pinned (OpenSpec.ofChange singMissingSpec)

/-- ITS FALSE NEIGHBOUR: 'it returns false'. Refute it at one input. -/
def singMissingWrong : ChangeSpec := { name := "singMissing", fn := fun _ => fun
  | [d1, d2, d3] => { results := [.lit (.bool false)], args := [d1, d2, d3] }
  | _ => none }
def SingMissingWrongFalsely : Prop := singMissingRow.holds Tryd.pinned (OpenSpec.ofChange singMissingWrong)

/-- 'schismalaw22.SingMoved': WHATEVER THE INPUT: true; the input reads as it did. -/
def singMovedSpec : ChangeSpec := { name := "singMoved", fn := fun _ => fun
  | [d1, d2, d3, d4, d5] => { results := [.lit (.bool true)], args := [d1, d2, d3, d4, d5] }
  | _ => none }
def singMovedRow : OpenClaim := { program := "ytigigcbondhmmaadoor", sum := "29d2499dff29360ab92b2f1041332da237c84483734b243167ff65af35a1ce44", func := "schisma/schismalaw22.SingMoved", spec := "singMoved", unfollowed := true, recurses := true, named := ["schisma/size.logs"], apart := false, laid := [("schisma/size.logs", laid_schisma_size_logs)] }
def SingMovedSaid : Prop := singMovedRow.holds Tryd.pinned (OpenSpec.ofChange singMovedSpec)

/-- ITS FALSE NEIGHBOUR: 'it returns false'. Refute it at one input. -/
def singMovedWrong : ChangeSpec := { name := "singMoved", fn := fun _ => fun
  | [d1, d2, d3, d4, d5] => { results := [.lit (.bool false)], args := [d1, d2, d3, d4, d5] }
  | _ => none }
def SingMovedWrongFalsely : Prop := singMovedRow.holds Tryd.pinned (OpenSpec.ofChange singMovedWrong)

/-- 'schismalaw22.SingBeginnings': WHATEVER THE INPUT: true; the input reads as it did. -/
def singBeginningsSpec : ChangeSpec := { name := "singBeginnings", fn := fun _ => fun
  | [d1, d2, d3, d4] => { results := [.lit (.bool true)], args := [d1, d2, d3, d4] }
  | _ => none }
def singBeginningsRow : OpenClaim := { program := "ytigigcbondhmmaadoor", sum := "29d2499dff29360ab92b2f1041332da237c84483734b243167ff65af35a1ce44", func := "schisma/schismalaw22.SingBeginnings", spec := "singBeginnings", unfollowed := true, recurses := true, named := ["schisma/size.logs"], apart := false, laid := [("schisma/size.logs", laid_schisma_size_logs)] }
def SingBeginningsSaid : Prop := singBeginningsRow.holds Tryd.pinned (OpenSpec.ofChange singBeginningsSpec)

/-- ITS FALSE NEIGHBOUR: 'it returns false'. Refute it at one input. -/
def singBeginningsWrong : ChangeSpec := { name := "singBeginnings", fn := fun _ => fun
  | [d1, d2, d3, d4] => { results := [.lit (.bool false)], args := [d1, d2, d3, d4] }
  | _ => none }
def SingBeginningsWrongFalsely : Prop := singBeginningsRow.holds Tryd.pinned (OpenSpec.ofChange singBeginningsWrong)

/-- 'schismalaw22.SingHeard': WHATEVER THE INPUT: true; the input reads as it did. -/
def singHeardSpec : ChangeSpec := { name := "singHeard", fn := fun _ => fun
  | [d1, d2, d3, d4] => { results := [.lit (.bool true)], args := [d1, d2, d3, d4] }
  | _ => none }
def singHeardRow : OpenClaim := { program := "ytigigcbondhmmaadoor", sum := "29d2499dff29360ab92b2f1041332da237c84483734b243167ff65af35a1ce44", func := "schisma/schismalaw22.SingHeard", spec := "singHeard", unfollowed := true, recurses := true, named := ["schisma/size.logs"], apart := false, laid := [("schisma/size.logs", laid_schisma_size_logs)] }
def SingHeardSaid : Prop := singHeardRow.holds Tryd.pinned (OpenSpec.ofChange singHeardSpec)

/-- ITS FALSE NEIGHBOUR: 'it returns false'. Refute it at one input. -/
def singHeardWrong : ChangeSpec := { name := "singHeard", fn := fun _ => fun
  | [d1, d2, d3, d4] => { results := [.lit (.bool false)], args := [d1, d2, d3, d4] }
  | _ => none }
def SingHeardWrongFalsely : Prop := singHeardRow.holds Tryd.pinned (OpenSpec.ofChange singHeardWrong)

/- THE SECOND FORM. 'bulk': how many values and letters a reading holds, each counted each time it is reached (what is shared counts as often as it is met; a slice's spare places count too). A statement '..UptoSaid' is the law's where the arguments, and the package variables that the reading takes, are together of bulk at most 1048576: NARROWER than '..Said'. Prove '..Said' where nothing that the law and all that it calls make is longer than what came in: it says more and counts as full. Else prove '..UptoSaid'. A law counts once. -/
mutual
def uptoBulk {H : Type} : DataW H → Nat
  | .lit (.string bytes) => bytes.length + 1
  | .lit _ => 1
  | .nil => 1
  | .ptr d => uptoBulk d + 1
  | .slice elems spare => uptoBulkAll elems + uptoBulkAll spare + 1
  | .agg parts => uptoBulkAll parts + 1
  | .iface _ d => uptoBulk d + 1
  | .map entries => uptoBulkEntries entries + 1
  | .held _ => 1
def uptoBulkAll {H : Type} : List (DataW H) → Nat
  | [] => 0
  | d :: r => uptoBulk d + uptoBulkAll r
def uptoBulkEntries {H : Type} : List (Lit × DataW H) → Nat
  | [] => 0
  | x :: r => uptoBulkEntry x + uptoBulkEntries r
def uptoBulkEntry {H : Type} : Lit × DataW H → Nat
  | (.string bytes, d) => bytes.length + uptoBulk d + 1
  | (_, d) => uptoBulk d + 1
 end
def uptoSmall : (H : Type) → List (DataW H) → Bool := fun _ ds => decide (uptoBulkAll ds ≤ 1048576)
def OpenSpec.upto (s : _root_.Go.ChangeSpec) : _root_.Go.OpenSpec := { _root_.Go.OpenSpec.ofChange s with cond := some uptoSmall }

/-- 'schismalaw22.SingMatchesReference', WHERE WHAT IT READS IS OF BULK AT MOST 1048576: true; the input reads as it did. -/
def singMatchesReferenceUptoRow : OpenClaim := { program := "ytigigcbondhmmaadoor", sum := "29d2499dff29360ab92b2f1041332da237c84483734b243167ff65af35a1ce44", func := "schisma/schismalaw22.SingMatchesReference", spec := "singMatchesReference", unfollowed := true, recurses := true, named := ["schisma/size.logs"], apart := false, laid := [("schisma/size.logs", laid_schisma_size_logs)], narrowed := true }
def SingMatchesReferenceUptoSaid : Prop := singMatchesReferenceUptoRow.holds Tryd.pinned (OpenSpec.upto singMatchesReferenceSpec)

/-- 'schismalaw22.SingEntries', WHERE WHAT IT READS IS OF BULK AT MOST 1048576: true; the input reads as it did. -/
def singEntriesUptoRow : OpenClaim := { program := "ytigigcbondhmmaadoor", sum := "29d2499dff29360ab92b2f1041332da237c84483734b243167ff65af35a1ce44", func := "schisma/schismalaw22.SingEntries", spec := "singEntries", unfollowed := true, recurses := true, named := ["schisma/size.logs"], apart := false, laid := [("schisma/size.logs", laid_schisma_size_logs)], narrowed := true }
def SingEntriesUptoSaid : Prop := singEntriesUptoRow.holds Tryd.pinned (OpenSpec.upto singEntriesSpec)

/-- 'schismalaw22.SingSteps', WHERE WHAT IT READS IS OF BULK AT MOST 1048576: true; the input reads as it did. -/
def singStepsUptoRow : OpenClaim := { program := "ytigigcbondhmmaadoor", sum := "29d2499dff29360ab92b2f1041332da237c84483734b243167ff65af35a1ce44", func := "schisma/schismalaw22.SingSteps", spec := "singSteps", unfollowed := true, recurses := true, named := ["schisma/size.logs"], apart := false, laid := [("schisma/size.logs", laid_schisma_size_logs)], narrowed := true }
def SingStepsUptoSaid : Prop := singStepsUptoRow.holds Tryd.pinned (OpenSpec.upto singStepsSpec)

/-- 'schismalaw22.SingLeast', WHERE WHAT IT READS IS OF BULK AT MOST 1048576: true; the input reads as it did. -/
def singLeastUptoRow : OpenClaim := { program := "ytigigcbondhmmaadoor", sum := "29d2499dff29360ab92b2f1041332da237c84483734b243167ff65af35a1ce44", func := "schisma/schismalaw22.SingLeast", spec := "singLeast", unfollowed := true, recurses := true, named := ["schisma/size.logs"], apart := false, laid := [("schisma/size.logs", laid_schisma_size_logs)], narrowed := true }
def SingLeastUptoSaid : Prop := singLeastUptoRow.holds Tryd.pinned (OpenSpec.upto singLeastSpec)

/-- 'schismalaw22.SingMissing', WHERE WHAT IT READS IS OF BULK AT MOST 1048576: true; the input reads as it did. -/
def singMissingUptoRow : OpenClaim := { program := "ytigigcbondhmmaadoor", sum := "29d2499dff29360ab92b2f1041332da237c84483734b243167ff65af35a1ce44", func := "schisma/schismalaw22.SingMissing", spec := "singMissing", unfollowed := true, recurses := true, named := ["schisma/size.logs"], apart := false, laid := [("schisma/size.logs", laid_schisma_size_logs)], narrowed := true }
def SingMissingUptoSaid : Prop := singMissingUptoRow.holds Tryd.pinned (OpenSpec.upto singMissingSpec)

/-- 'schismalaw22.SingMoved', WHERE WHAT IT READS IS OF BULK AT MOST 1048576: true; the input reads as it did. -/
def singMovedUptoRow : OpenClaim := { program := "ytigigcbondhmmaadoor", sum := "29d2499dff29360ab92b2f1041332da237c84483734b243167ff65af35a1ce44", func := "schisma/schismalaw22.SingMoved", spec := "singMoved", unfollowed := true, recurses := true, named := ["schisma/size.logs"], apart := false, laid := [("schisma/size.logs", laid_schisma_size_logs)], narrowed := true }
def SingMovedUptoSaid : Prop := singMovedUptoRow.holds Tryd.pinned (OpenSpec.upto singMovedSpec)

/-- 'schismalaw22.SingBeginnings', WHERE WHAT IT READS IS OF BULK AT MOST 1048576: true; the input reads as it did. -/
def singBeginningsUptoRow : OpenClaim := { program := "ytigigcbondhmmaadoor", sum := "29d2499dff29360ab92b2f1041332da237c84483734b243167ff65af35a1ce44", func := "schisma/schismalaw22.SingBeginnings", spec := "singBeginnings", unfollowed := true, recurses := true, named := ["schisma/size.logs"], apart := false, laid := [("schisma/size.logs", laid_schisma_size_logs)], narrowed := true }
def SingBeginningsUptoSaid : Prop := singBeginningsUptoRow.holds Tryd.pinned (OpenSpec.upto singBeginningsSpec)

/-- 'schismalaw22.SingHeard', WHERE WHAT IT READS IS OF BULK AT MOST 1048576: true; the input reads as it did. -/
def singHeardUptoRow : OpenClaim := { program := "ytigigcbondhmmaadoor", sum := "29d2499dff29360ab92b2f1041332da237c84483734b243167ff65af35a1ce44", func := "schisma/schismalaw22.SingHeard", spec := "singHeard", unfollowed := true, recurses := true, named := ["schisma/size.logs"], apart := false, laid := [("schisma/size.logs", laid_schisma_size_logs)], narrowed := true }
def SingHeardUptoSaid : Prop := singHeardUptoRow.holds Tryd.pinned (OpenSpec.upto singHeardSpec)

end Rows
end Go.Proofs.YtigigcbondhmmaaDoor
