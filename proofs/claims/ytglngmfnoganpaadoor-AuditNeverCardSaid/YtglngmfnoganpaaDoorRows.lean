/-
  NARROWER THAN 'FOR EVERY INPUT', by the rows' own cells (each row's printed sentence says how): AuditMatchesReference: laid · AuditTruth: laid · AuditNarrow: laid · AuditBounds: laid · AuditGreater: laid · AuditMoved: laid · AuditNever: laid.
  DERIVED. THE GIVEN ROWS OF THIS SEAT. 7 by the template 'for every input the law returns true; each argument reads behind the call as it read before'; 0 by the template 'total and deterministic' (their statements: YtglngmfnoganpaaDoorTotals.lean).
  GIVEN WITH THE SEED: the statements are not yours to turn. If you find one false, say at which input.
  Laid BY PROGRAM, IN A SANDBOX (cutbox-rows.mjs): the forced cells as the released guide's own fill.sh prints them over the translation 7283ecd264385af5… (all of the seat's roots in one cut). By AI agents, Wed Nov 11 2026. No macro, syntax, notation, axiom, sorry.
-/
import Derived.Test.YtglngmfnoganpaaDoorChecked
import GoSem.Claim
import GoSem.ClaimJoined
import GoSem.ClaimMapViews
import Derived.JoinedTies
import Derived.KernelRfl
namespace Go.Proofs.YtglngmfnoganpaaDoor
/- THE CELL 'sum', in the pinned program and in every row, IS THE sha256 OF THE DUMP (.gsa) THAT YtglngmfnoganpaaDoorProg.lean LOADS. Nothing in Lean hashes anything: it is a label: what it is worth is what the hold of that sum in a sandbox is worth. -/
noncomputable def Tryd.pinned : Pinned := { name := "ytglngmfnoganpaadoor", sum := "7283ecd264385af52129d638e53767560f873c6e34e0199fd4af3f8f1a8308c7", checked := Tryd.checked }
namespace Rows
def none {H : Type} : Left H := { results := [], args := [] }

/- WHAT THE LISTED PACKAGE-LEVEL VARIABLES READ AS WHEN THE CALL BEGINS. Each datum BY PROGRAM (the guide's laid-datum.mjs) off the statement by which the dump's own 'gosem.cut.vars' lays the variable. In a bare row this is a premise. The card (YtglngmfnoganpaaDoorCards.lean) ties it to the program's text. -/
def laid_schisma_size_logs {H : Type} : DataW H := .agg [.agg [.lit (.int .i64 1000000000), .lit (.int .i64 1000000000)], .agg [.lit (.int .i64 1584962500), .lit (.int .i64 1584962501)], .agg [.lit (.int .i64 2321928094), .lit (.int .i64 2321928095)], .agg [.lit (.int .i64 2807354922), .lit (.int .i64 2807354923)], .agg [.lit (.int .i64 3459431618), .lit (.int .i64 3459431619)], .agg [.lit (.int .i64 3700439718), .lit (.int .i64 3700439719)]]

/-- 'schismalaw39.AuditMatchesReference': WHATEVER THE INPUT: true; the input reads as it did. -/
def auditMatchesReferenceSpec : ChangeSpec := { name := "auditMatchesReference", fn := fun _ => fun
  | [d1, d2, d3, d4, d5] => { results := [.lit (.bool true)], args := [d1, d2, d3, d4, d5] }
  | _ => none }
def auditMatchesReferenceRow : OpenClaim := { program := "ytglngmfnoganpaadoor", sum := "7283ecd264385af52129d638e53767560f873c6e34e0199fd4af3f8f1a8308c7", func := "schisma/schismalaw39.AuditMatchesReference", spec := "auditMatchesReference", unfollowed := true, recurses := true, named := ["schisma/size.logs"], apart := false, laid := [("schisma/size.logs", laid_schisma_size_logs)] }
def AuditMatchesReferenceSaid : Prop := auditMatchesReferenceRow.holds Tryd.pinned (OpenSpec.ofChange auditMatchesReferenceSpec)

/-- ITS FALSE NEIGHBOUR: 'it returns false'. Refute it at one input. -/
def auditMatchesReferenceWrong : ChangeSpec := { name := "auditMatchesReference", fn := fun _ => fun
  | [d1, d2, d3, d4, d5] => { results := [.lit (.bool false)], args := [d1, d2, d3, d4, d5] }
  | _ => none }
def AuditMatchesReferenceWrongFalsely : Prop := auditMatchesReferenceRow.holds Tryd.pinned (OpenSpec.ofChange auditMatchesReferenceWrong)

/-- 'schismalaw39.AuditTruth': WHATEVER THE INPUT: true; the input reads as it did. -/
def auditTruthSpec : ChangeSpec := { name := "auditTruth", fn := fun _ => fun
  | [d1, d2, d3, d4, d5] => { results := [.lit (.bool true)], args := [d1, d2, d3, d4, d5] }
  | _ => none }
def auditTruthRow : OpenClaim := { program := "ytglngmfnoganpaadoor", sum := "7283ecd264385af52129d638e53767560f873c6e34e0199fd4af3f8f1a8308c7", func := "schisma/schismalaw39.AuditTruth", spec := "auditTruth", unfollowed := true, recurses := true, named := ["schisma/size.logs"], apart := false, laid := [("schisma/size.logs", laid_schisma_size_logs)] }
def AuditTruthSaid : Prop := auditTruthRow.holds Tryd.pinned (OpenSpec.ofChange auditTruthSpec)

/-- ITS FALSE NEIGHBOUR: 'it returns false'. Refute it at one input. -/
def auditTruthWrong : ChangeSpec := { name := "auditTruth", fn := fun _ => fun
  | [d1, d2, d3, d4, d5] => { results := [.lit (.bool false)], args := [d1, d2, d3, d4, d5] }
  | _ => none }
def AuditTruthWrongFalsely : Prop := auditTruthRow.holds Tryd.pinned (OpenSpec.ofChange auditTruthWrong)

/-- 'schismalaw39.AuditNarrow': WHATEVER THE INPUT: true; the input reads as it did. -/
def auditNarrowSpec : ChangeSpec := { name := "auditNarrow", fn := fun _ => fun
  | [d1, d2, d3] => { results := [.lit (.bool true)], args := [d1, d2, d3] }
  | _ => none }
def auditNarrowRow : OpenClaim := { program := "ytglngmfnoganpaadoor", sum := "7283ecd264385af52129d638e53767560f873c6e34e0199fd4af3f8f1a8308c7", func := "schisma/schismalaw39.AuditNarrow", spec := "auditNarrow", unfollowed := true, recurses := true, named := ["schisma/size.logs"], apart := false, laid := [("schisma/size.logs", laid_schisma_size_logs)] }
def AuditNarrowSaid : Prop := auditNarrowRow.holds Tryd.pinned (OpenSpec.ofChange auditNarrowSpec)

/-- ITS FALSE NEIGHBOUR: 'it returns false'. Refute it at one input. -/
def auditNarrowWrong : ChangeSpec := { name := "auditNarrow", fn := fun _ => fun
  | [d1, d2, d3] => { results := [.lit (.bool false)], args := [d1, d2, d3] }
  | _ => none }
def AuditNarrowWrongFalsely : Prop := auditNarrowRow.holds Tryd.pinned (OpenSpec.ofChange auditNarrowWrong)

/-- 'schismalaw39.AuditBounds': WHATEVER THE INPUT: true; the input reads as it did. -/
def auditBoundsSpec : ChangeSpec := { name := "auditBounds", fn := fun _ => fun
  | [d1, d2, d3] => { results := [.lit (.bool true)], args := [d1, d2, d3] }
  | _ => none }
def auditBoundsRow : OpenClaim := { program := "ytglngmfnoganpaadoor", sum := "7283ecd264385af52129d638e53767560f873c6e34e0199fd4af3f8f1a8308c7", func := "schisma/schismalaw39.AuditBounds", spec := "auditBounds", unfollowed := true, recurses := true, named := ["schisma/size.logs"], apart := false, laid := [("schisma/size.logs", laid_schisma_size_logs)] }
def AuditBoundsSaid : Prop := auditBoundsRow.holds Tryd.pinned (OpenSpec.ofChange auditBoundsSpec)

/-- ITS FALSE NEIGHBOUR: 'it returns false'. Refute it at one input. -/
def auditBoundsWrong : ChangeSpec := { name := "auditBounds", fn := fun _ => fun
  | [d1, d2, d3] => { results := [.lit (.bool false)], args := [d1, d2, d3] }
  | _ => none }
def AuditBoundsWrongFalsely : Prop := auditBoundsRow.holds Tryd.pinned (OpenSpec.ofChange auditBoundsWrong)

/-- 'schismalaw39.AuditGreater': WHATEVER THE INPUT: true; the input reads as it did. -/
def auditGreaterSpec : ChangeSpec := { name := "auditGreater", fn := fun _ => fun
  | [d1, d2, d3, d4] => { results := [.lit (.bool true)], args := [d1, d2, d3, d4] }
  | _ => none }
def auditGreaterRow : OpenClaim := { program := "ytglngmfnoganpaadoor", sum := "7283ecd264385af52129d638e53767560f873c6e34e0199fd4af3f8f1a8308c7", func := "schisma/schismalaw39.AuditGreater", spec := "auditGreater", unfollowed := true, recurses := true, named := ["schisma/size.logs"], apart := false, laid := [("schisma/size.logs", laid_schisma_size_logs)] }
def AuditGreaterSaid : Prop := auditGreaterRow.holds Tryd.pinned (OpenSpec.ofChange auditGreaterSpec)

/-- ITS FALSE NEIGHBOUR: 'it returns false'. Refute it at one input. -/
def auditGreaterWrong : ChangeSpec := { name := "auditGreater", fn := fun _ => fun
  | [d1, d2, d3, d4] => { results := [.lit (.bool false)], args := [d1, d2, d3, d4] }
  | _ => none }
def AuditGreaterWrongFalsely : Prop := auditGreaterRow.holds Tryd.pinned (OpenSpec.ofChange auditGreaterWrong)

/-- 'schismalaw39.AuditMoved': WHATEVER THE INPUT: true; the input reads as it did. -/
def auditMovedSpec : ChangeSpec := { name := "auditMoved", fn := fun _ => fun
  | [d1, d2, d3] => { results := [.lit (.bool true)], args := [d1, d2, d3] }
  | _ => none }
def auditMovedRow : OpenClaim := { program := "ytglngmfnoganpaadoor", sum := "7283ecd264385af52129d638e53767560f873c6e34e0199fd4af3f8f1a8308c7", func := "schisma/schismalaw39.AuditMoved", spec := "auditMoved", unfollowed := true, recurses := true, named := ["schisma/size.logs"], apart := false, laid := [("schisma/size.logs", laid_schisma_size_logs)] }
def AuditMovedSaid : Prop := auditMovedRow.holds Tryd.pinned (OpenSpec.ofChange auditMovedSpec)

/-- ITS FALSE NEIGHBOUR: 'it returns false'. Refute it at one input. -/
def auditMovedWrong : ChangeSpec := { name := "auditMoved", fn := fun _ => fun
  | [d1, d2, d3] => { results := [.lit (.bool false)], args := [d1, d2, d3] }
  | _ => none }
def AuditMovedWrongFalsely : Prop := auditMovedRow.holds Tryd.pinned (OpenSpec.ofChange auditMovedWrong)

/-- 'schismalaw39.AuditNever': WHATEVER THE INPUT: true; the input reads as it did. -/
def auditNeverSpec : ChangeSpec := { name := "auditNever", fn := fun _ => fun
  | [d1, d2, d3] => { results := [.lit (.bool true)], args := [d1, d2, d3] }
  | _ => none }
def auditNeverRow : OpenClaim := { program := "ytglngmfnoganpaadoor", sum := "7283ecd264385af52129d638e53767560f873c6e34e0199fd4af3f8f1a8308c7", func := "schisma/schismalaw39.AuditNever", spec := "auditNever", unfollowed := true, recurses := true, named := ["schisma/size.logs"], apart := false, laid := [("schisma/size.logs", laid_schisma_size_logs)] }
def AuditNeverSaid : Prop := auditNeverRow.holds Tryd.pinned (OpenSpec.ofChange auditNeverSpec)

/-- ITS FALSE NEIGHBOUR: 'it returns false'. Refute it at one input. -/
def auditNeverWrong : ChangeSpec := { name := "auditNever", fn := fun _ => fun
  | [d1, d2, d3] => { results := [.lit (.bool false)], args := [d1, d2, d3] }
  | _ => none }
def AuditNeverWrongFalsely : Prop := auditNeverRow.holds Tryd.pinned (OpenSpec.ofChange auditNeverWrong)

/- THE SECOND FORM. 'bulk': how many values and letters a reading holds, each counted each time it is reached (what is shared counts as often as it is met; a slice's spare places count too). A statement '..UptoSaid' is the law's where the arguments, and the package variables that the reading takes, are together of bulk at most 1048576: NARROWER than '..Said'. Prove '..Said' where nothing that the law and all that it calls make is longer than what came in: it says more and counts as full. Else prove '..UptoSaid'. A law counts once. -/
mutual
def uptoBulk {H : Type} : DataW H → Nat
  | .lit (.string bytes) => bytes.length + 1
  | .lit _ => 1
  | .nil => 1
  | .ptr d => uptoBulk d + 1
  | .slice elems spare => uptoBulkAll elems + uptoBulkAll spare + 1
  | .agg parts => uptoBulkAll parts + 1
  | .iface _ d => uptoBulk d + 1
  | .map entries => uptoBulkEntries entries + 1
  | .held _ => 1
def uptoBulkAll {H : Type} : List (DataW H) → Nat
  | [] => 0
  | d :: r => uptoBulk d + uptoBulkAll r
def uptoBulkEntries {H : Type} : List (Lit × DataW H) → Nat
  | [] => 0
  | x :: r => uptoBulkEntry x + uptoBulkEntries r
def uptoBulkEntry {H : Type} : Lit × DataW H → Nat
  | (.string bytes, d) => bytes.length + uptoBulk d + 1
  | (_, d) => uptoBulk d + 1
 end
def uptoSmall : (H : Type) → List (DataW H) → Bool := fun _ ds => decide (uptoBulkAll ds ≤ 1048576)
def OpenSpec.upto (s : _root_.Go.ChangeSpec) : _root_.Go.OpenSpec := { _root_.Go.OpenSpec.ofChange s with cond := some uptoSmall }

/-- 'schismalaw39.AuditMatchesReference', WHERE WHAT IT READS IS OF BULK AT MOST 1048576: true; the input reads as it did. -/
def auditMatchesReferenceUptoRow : OpenClaim := { program := "ytglngmfnoganpaadoor", sum := "7283ecd264385af52129d638e53767560f873c6e34e0199fd4af3f8f1a8308c7", func := "schisma/schismalaw39.AuditMatchesReference", spec := "auditMatchesReference", unfollowed := true, recurses := true, named := ["schisma/size.logs"], apart := false, laid := [("schisma/size.logs", laid_schisma_size_logs)], narrowed := true }
def AuditMatchesReferenceUptoSaid : Prop := auditMatchesReferenceUptoRow.holds Tryd.pinned (OpenSpec.upto auditMatchesReferenceSpec)

/-- 'schismalaw39.AuditTruth', WHERE WHAT IT READS IS OF BULK AT MOST 1048576: true; the input reads as it did. -/
def auditTruthUptoRow : OpenClaim := { program := "ytglngmfnoganpaadoor", sum := "7283ecd264385af52129d638e53767560f873c6e34e0199fd4af3f8f1a8308c7", func := "schisma/schismalaw39.AuditTruth", spec := "auditTruth", unfollowed := true, recurses := true, named := ["schisma/size.logs"], apart := false, laid := [("schisma/size.logs", laid_schisma_size_logs)], narrowed := true }
def AuditTruthUptoSaid : Prop := auditTruthUptoRow.holds Tryd.pinned (OpenSpec.upto auditTruthSpec)

/-- 'schismalaw39.AuditNarrow', WHERE WHAT IT READS IS OF BULK AT MOST 1048576: true; the input reads as it did. -/
def auditNarrowUptoRow : OpenClaim := { program := "ytglngmfnoganpaadoor", sum := "7283ecd264385af52129d638e53767560f873c6e34e0199fd4af3f8f1a8308c7", func := "schisma/schismalaw39.AuditNarrow", spec := "auditNarrow", unfollowed := true, recurses := true, named := ["schisma/size.logs"], apart := false, laid := [("schisma/size.logs", laid_schisma_size_logs)], narrowed := true }
def AuditNarrowUptoSaid : Prop := auditNarrowUptoRow.holds Tryd.pinned (OpenSpec.upto auditNarrowSpec)

/-- 'schismalaw39.AuditBounds', WHERE WHAT IT READS IS OF BULK AT MOST 1048576: true; the input reads as it did. -/
def auditBoundsUptoRow : OpenClaim := { program := "ytglngmfnoganpaadoor", sum := "7283ecd264385af52129d638e53767560f873c6e34e0199fd4af3f8f1a8308c7", func := "schisma/schismalaw39.AuditBounds", spec := "auditBounds", unfollowed := true, recurses := true, named := ["schisma/size.logs"], apart := false, laid := [("schisma/size.logs", laid_schisma_size_logs)], narrowed := true }
def AuditBoundsUptoSaid : Prop := auditBoundsUptoRow.holds Tryd.pinned (OpenSpec.upto auditBoundsSpec)

/-- 'schismalaw39.AuditGreater', WHERE WHAT IT READS IS OF BULK AT MOST 1048576: true; the input reads as it did. -/
def auditGreaterUptoRow : OpenClaim := { program := "ytglngmfnoganpaadoor", sum := "7283ecd264385af52129d638e53767560f873c6e34e0199fd4af3f8f1a8308c7", func := "schisma/schismalaw39.AuditGreater", spec := "auditGreater", unfollowed := true, recurses := true, named := ["schisma/size.logs"], apart := false, laid := [("schisma/size.logs", laid_schisma_size_logs)], narrowed := true }
def AuditGreaterUptoSaid : Prop := auditGreaterUptoRow.holds Tryd.pinned (OpenSpec.upto auditGreaterSpec)

/-- 'schismalaw39.AuditMoved', WHERE WHAT IT READS IS OF BULK AT MOST 1048576: true; the input reads as it did. -/
def auditMovedUptoRow : OpenClaim := { program := "ytglngmfnoganpaadoor", sum := "7283ecd264385af52129d638e53767560f873c6e34e0199fd4af3f8f1a8308c7", func := "schisma/schismalaw39.AuditMoved", spec := "auditMoved", unfollowed := true, recurses := true, named := ["schisma/size.logs"], apart := false, laid := [("schisma/size.logs", laid_schisma_size_logs)], narrowed := true }
def AuditMovedUptoSaid : Prop := auditMovedUptoRow.holds Tryd.pinned (OpenSpec.upto auditMovedSpec)

/-- 'schismalaw39.AuditNever', WHERE WHAT IT READS IS OF BULK AT MOST 1048576: true; the input reads as it did. -/
def auditNeverUptoRow : OpenClaim := { program := "ytglngmfnoganpaadoor", sum := "7283ecd264385af52129d638e53767560f873c6e34e0199fd4af3f8f1a8308c7", func := "schisma/schismalaw39.AuditNever", spec := "auditNever", unfollowed := true, recurses := true, named := ["schisma/size.logs"], apart := false, laid := [("schisma/size.logs", laid_schisma_size_logs)], narrowed := true }
def AuditNeverUptoSaid : Prop := auditNeverUptoRow.holds Tryd.pinned (OpenSpec.upto auditNeverSpec)

end Rows
end Go.Proofs.YtglngmfnoganpaaDoor
