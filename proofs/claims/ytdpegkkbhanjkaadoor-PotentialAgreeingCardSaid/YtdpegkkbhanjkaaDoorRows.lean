/-
  NARROWER THAN 'FOR EVERY INPUT', by the rows' own cells (each row's printed sentence says how): PotentialCauses: laid · PotentialSteps: laid · PotentialNamed: laid · PotentialChains: laid · PotentialMoved: laid · PotentialAgreeing: laid · PotentialEarlier: laid.
  DERIVED. THE GIVEN ROWS OF THIS SEAT. 7 by the template 'for every input the law returns true; each argument reads behind the call as it read before'; 0 by the template 'total and deterministic' (their statements: YtdpegkkbhanjkaaDoorTotals.lean).
  GIVEN WITH THE SEED: the statements are not yours to turn. If you find one false, say at which input.
  Laid BY PROGRAM, IN A SANDBOX (cutbox-rows.mjs): the forced cells as the released guide's own fill.sh prints them over the translation 4cfc2b9fb69d63ae… (all of the seat's roots in one cut). By AI agents, Wed Nov 11 2026. No macro, syntax, notation, axiom, sorry.
-/
import Derived.Test.YtdpegkkbhanjkaaDoorChecked
import GoSem.Claim
import GoSem.ClaimJoined
import GoSem.ClaimMapViews
import Derived.JoinedTies
import Derived.KernelRfl
namespace Go.Proofs.YtdpegkkbhanjkaaDoor
/- THE CELL 'sum', in the pinned program and in every row, IS THE sha256 OF THE DUMP (.gsa) THAT YtdpegkkbhanjkaaDoorProg.lean LOADS. Nothing in Lean hashes anything: it is a label: what it is worth is what the hold of that sum in a sandbox is worth. -/
noncomputable def Tryd.pinned : Pinned := { name := "ytdpegkkbhanjkaadoor", sum := "4cfc2b9fb69d63ae75dab45819aefbfc2fc1382e2bd8996016e97df04818b964", checked := Tryd.checked }
namespace Rows
def none {H : Type} : Left H := { results := [], args := [] }

/- WHAT THE LISTED PACKAGE-LEVEL VARIABLES READ AS WHEN THE CALL BEGINS. Each datum BY PROGRAM (the guide's laid-datum.mjs) off the statement by which the dump's own 'gosem.cut.vars' lays the variable. In a bare row this is a premise. The card (YtdpegkkbhanjkaaDoorCards.lean) ties it to the program's text. -/
def laid_schisma_size_logs {H : Type} : DataW H := .agg [.agg [.lit (.int .i64 1000000000), .lit (.int .i64 1000000000)], .agg [.lit (.int .i64 1584962500), .lit (.int .i64 1584962501)], .agg [.lit (.int .i64 2321928094), .lit (.int .i64 2321928095)], .agg [.lit (.int .i64 2807354922), .lit (.int .i64 2807354923)], .agg [.lit (.int .i64 3459431618), .lit (.int .i64 3459431619)], .agg [.lit (.int .i64 3700439718), .lit (.int .i64 3700439719)]]

/-- 'schismalaw23.PotentialCauses': WHATEVER THE INPUT: true; the input reads as it did. -/
def potentialCausesSpec : ChangeSpec := { name := "potentialCauses", fn := fun _ => fun
  | [d1, d2, d3] => { results := [.lit (.bool true)], args := [d1, d2, d3] }
  | _ => none }
def potentialCausesRow : OpenClaim := { program := "ytdpegkkbhanjkaadoor", sum := "4cfc2b9fb69d63ae75dab45819aefbfc2fc1382e2bd8996016e97df04818b964", func := "schisma/schismalaw23.PotentialCauses", spec := "potentialCauses", unfollowed := true, recurses := true, named := ["schisma/size.logs"], plainKeys := false, apart := false, laid := [("schisma/size.logs", laid_schisma_size_logs)] }
def PotentialCausesSaid : Prop := potentialCausesRow.holds Tryd.pinned (OpenSpec.ofChange potentialCausesSpec)

/-- ITS FALSE NEIGHBOUR: 'it returns false'. Refute it at one input. -/
def potentialCausesWrong : ChangeSpec := { name := "potentialCauses", fn := fun _ => fun
  | [d1, d2, d3] => { results := [.lit (.bool false)], args := [d1, d2, d3] }
  | _ => none }
def PotentialCausesWrongFalsely : Prop := potentialCausesRow.holds Tryd.pinned (OpenSpec.ofChange potentialCausesWrong)

/-- 'schismalaw23.PotentialSteps': WHATEVER THE INPUT: true; the input reads as it did. -/
def potentialStepsSpec : ChangeSpec := { name := "potentialSteps", fn := fun _ => fun
  | [d1, d2] => { results := [.lit (.bool true)], args := [d1, d2] }
  | _ => none }
def potentialStepsRow : OpenClaim := { program := "ytdpegkkbhanjkaadoor", sum := "4cfc2b9fb69d63ae75dab45819aefbfc2fc1382e2bd8996016e97df04818b964", func := "schisma/schismalaw23.PotentialSteps", spec := "potentialSteps", unfollowed := true, recurses := true, named := ["schisma/size.logs"], plainKeys := false, apart := false, laid := [("schisma/size.logs", laid_schisma_size_logs)] }
def PotentialStepsSaid : Prop := potentialStepsRow.holds Tryd.pinned (OpenSpec.ofChange potentialStepsSpec)

/-- ITS FALSE NEIGHBOUR: 'it returns false'. Refute it at one input. -/
def potentialStepsWrong : ChangeSpec := { name := "potentialSteps", fn := fun _ => fun
  | [d1, d2] => { results := [.lit (.bool false)], args := [d1, d2] }
  | _ => none }
def PotentialStepsWrongFalsely : Prop := potentialStepsRow.holds Tryd.pinned (OpenSpec.ofChange potentialStepsWrong)

/-- 'schismalaw23.PotentialNamed': WHATEVER THE INPUT: true; the input reads as it did. -/
def potentialNamedSpec : ChangeSpec := { name := "potentialNamed", fn := fun _ => fun
  | [d1, d2] => { results := [.lit (.bool true)], args := [d1, d2] }
  | _ => none }
def potentialNamedRow : OpenClaim := { program := "ytdpegkkbhanjkaadoor", sum := "4cfc2b9fb69d63ae75dab45819aefbfc2fc1382e2bd8996016e97df04818b964", func := "schisma/schismalaw23.PotentialNamed", spec := "potentialNamed", unfollowed := true, recurses := true, named := ["schisma/size.logs"], plainKeys := false, apart := false, laid := [("schisma/size.logs", laid_schisma_size_logs)] }
def PotentialNamedSaid : Prop := potentialNamedRow.holds Tryd.pinned (OpenSpec.ofChange potentialNamedSpec)

/-- ITS FALSE NEIGHBOUR: 'it returns false'. Refute it at one input. -/
def potentialNamedWrong : ChangeSpec := { name := "potentialNamed", fn := fun _ => fun
  | [d1, d2] => { results := [.lit (.bool false)], args := [d1, d2] }
  | _ => none }
def PotentialNamedWrongFalsely : Prop := potentialNamedRow.holds Tryd.pinned (OpenSpec.ofChange potentialNamedWrong)

/-- 'schismalaw23.PotentialChains': WHATEVER THE INPUT: true; the input reads as it did. -/
def potentialChainsSpec : ChangeSpec := { name := "potentialChains", fn := fun _ => fun
  | [d1, d2, d3] => { results := [.lit (.bool true)], args := [d1, d2, d3] }
  | _ => none }
def potentialChainsRow : OpenClaim := { program := "ytdpegkkbhanjkaadoor", sum := "4cfc2b9fb69d63ae75dab45819aefbfc2fc1382e2bd8996016e97df04818b964", func := "schisma/schismalaw23.PotentialChains", spec := "potentialChains", unfollowed := true, recurses := true, named := ["schisma/size.logs"], plainKeys := false, apart := false, laid := [("schisma/size.logs", laid_schisma_size_logs)] }
def PotentialChainsSaid : Prop := potentialChainsRow.holds Tryd.pinned (OpenSpec.ofChange potentialChainsSpec)

/-- ITS FALSE NEIGHBOUR: 'it returns false'. Refute it at one input. -/
def potentialChainsWrong : ChangeSpec := { name := "potentialChains", fn := fun _ => fun
  | [d1, d2, d3] => { results := [.lit (.bool false)], args := [d1, d2, d3] }
  | _ => none }
def PotentialChainsWrongFalsely : Prop := potentialChainsRow.holds Tryd.pinned (OpenSpec.ofChange potentialChainsWrong)

/-- 'schismalaw23.PotentialMoved': WHATEVER THE INPUT: true; the input reads as it did. -/
def potentialMovedSpec : ChangeSpec := { name := "potentialMoved", fn := fun _ => fun
  | [d1, d2, d3] => { results := [.lit (.bool true)], args := [d1, d2, d3] }
  | _ => none }
def potentialMovedRow : OpenClaim := { program := "ytdpegkkbhanjkaadoor", sum := "4cfc2b9fb69d63ae75dab45819aefbfc2fc1382e2bd8996016e97df04818b964", func := "schisma/schismalaw23.PotentialMoved", spec := "potentialMoved", unfollowed := true, recurses := true, named := ["schisma/size.logs"], plainKeys := false, apart := false, laid := [("schisma/size.logs", laid_schisma_size_logs)] }
def PotentialMovedSaid : Prop := potentialMovedRow.holds Tryd.pinned (OpenSpec.ofChange potentialMovedSpec)

/-- ITS FALSE NEIGHBOUR: 'it returns false'. Refute it at one input. -/
def potentialMovedWrong : ChangeSpec := { name := "potentialMoved", fn := fun _ => fun
  | [d1, d2, d3] => { results := [.lit (.bool false)], args := [d1, d2, d3] }
  | _ => none }
def PotentialMovedWrongFalsely : Prop := potentialMovedRow.holds Tryd.pinned (OpenSpec.ofChange potentialMovedWrong)

/-- 'schismalaw23.PotentialAgreeing': WHATEVER THE INPUT: true; the input reads as it did. -/
def potentialAgreeingSpec : ChangeSpec := { name := "potentialAgreeing", fn := fun _ => fun
  | [d1, d2] => { results := [.lit (.bool true)], args := [d1, d2] }
  | _ => none }
def potentialAgreeingRow : OpenClaim := { program := "ytdpegkkbhanjkaadoor", sum := "4cfc2b9fb69d63ae75dab45819aefbfc2fc1382e2bd8996016e97df04818b964", func := "schisma/schismalaw23.PotentialAgreeing", spec := "potentialAgreeing", unfollowed := true, recurses := true, named := ["schisma/size.logs"], plainKeys := false, apart := false, laid := [("schisma/size.logs", laid_schisma_size_logs)] }
def PotentialAgreeingSaid : Prop := potentialAgreeingRow.holds Tryd.pinned (OpenSpec.ofChange potentialAgreeingSpec)

/-- ITS FALSE NEIGHBOUR: 'it returns false'. Refute it at one input. -/
def potentialAgreeingWrong : ChangeSpec := { name := "potentialAgreeing", fn := fun _ => fun
  | [d1, d2] => { results := [.lit (.bool false)], args := [d1, d2] }
  | _ => none }
def PotentialAgreeingWrongFalsely : Prop := potentialAgreeingRow.holds Tryd.pinned (OpenSpec.ofChange potentialAgreeingWrong)

/-- 'schismalaw23.PotentialEarlier': WHATEVER THE INPUT: true; the input reads as it did. -/
def potentialEarlierSpec : ChangeSpec := { name := "potentialEarlier", fn := fun _ => fun
  | [d1, d2, d3] => { results := [.lit (.bool true)], args := [d1, d2, d3] }
  | _ => none }
def potentialEarlierRow : OpenClaim := { program := "ytdpegkkbhanjkaadoor", sum := "4cfc2b9fb69d63ae75dab45819aefbfc2fc1382e2bd8996016e97df04818b964", func := "schisma/schismalaw23.PotentialEarlier", spec := "potentialEarlier", unfollowed := true, recurses := true, named := ["schisma/size.logs"], plainKeys := false, apart := false, laid := [("schisma/size.logs", laid_schisma_size_logs)] }
def PotentialEarlierSaid : Prop := potentialEarlierRow.holds Tryd.pinned (OpenSpec.ofChange potentialEarlierSpec)

/-- ITS FALSE NEIGHBOUR: 'it returns false'. Refute it at one input. -/
def potentialEarlierWrong : ChangeSpec := { name := "potentialEarlier", fn := fun _ => fun
  | [d1, d2, d3] => { results := [.lit (.bool false)], args := [d1, d2, d3] }
  | _ => none }
def PotentialEarlierWrongFalsely : Prop := potentialEarlierRow.holds Tryd.pinned (OpenSpec.ofChange potentialEarlierWrong)

/- THE SECOND FORM. 'bulk': how many values and letters a reading holds, each counted each time it is reached (what is shared counts as often as it is met; a slice's spare places count too). A statement '..UptoSaid' is the law's where the arguments, and the package variables that the reading takes, are together of bulk at most 1048576: NARROWER than '..Said'. Prove '..Said' where nothing that the law and all that it calls make is longer than what came in: it says more and counts as full. Else prove '..UptoSaid'. A law counts once. -/
mutual
def uptoBulk {H : Type} : DataW H → Nat
  | .lit (.string bytes) => bytes.length + 1
  | .lit _ => 1
  | .nil => 1
  | .ptr d => uptoBulk d + 1
  | .slice elems spare => uptoBulkAll elems + uptoBulkAll spare + 1
  | .agg parts => uptoBulkAll parts + 1
  | .iface _ d => uptoBulk d + 1
  | .map entries => uptoBulkEntries entries + 1
  | .held _ => 1
def uptoBulkAll {H : Type} : List (DataW H) → Nat
  | [] => 0
  | d :: r => uptoBulk d + uptoBulkAll r
def uptoBulkEntries {H : Type} : List (Lit × DataW H) → Nat
  | [] => 0
  | x :: r => uptoBulkEntry x + uptoBulkEntries r
def uptoBulkEntry {H : Type} : Lit × DataW H → Nat
  | (.string bytes, d) => bytes.length + uptoBulk d + 1
  | (_, d) => uptoBulk d + 1
 end
def uptoSmall : (H : Type) → List (DataW H) → Bool := fun _ ds => decide (uptoBulkAll ds ≤ 1048576)
def OpenSpec.upto (s : _root_.Go.ChangeSpec) : _root_.Go.OpenSpec := { _root_.Go.OpenSpec.ofChange s with cond := some uptoSmall }

/-- 'schismalaw23.PotentialCauses', WHERE WHAT IT READS IS OF BULK AT MOST 1048576: true; the input reads as it did. -/
def potentialCausesUptoRow : OpenClaim := { program := "ytdpegkkbhanjkaadoor", sum := "4cfc2b9fb69d63ae75dab45819aefbfc2fc1382e2bd8996016e97df04818b964", func := "schisma/schismalaw23.PotentialCauses", spec := "potentialCauses", unfollowed := true, recurses := true, named := ["schisma/size.logs"], plainKeys := false, apart := false, laid := [("schisma/size.logs", laid_schisma_size_logs)], narrowed := true }
def PotentialCausesUptoSaid : Prop := potentialCausesUptoRow.holds Tryd.pinned (OpenSpec.upto potentialCausesSpec)

/-- 'schismalaw23.PotentialSteps', WHERE WHAT IT READS IS OF BULK AT MOST 1048576: true; the input reads as it did. -/
def potentialStepsUptoRow : OpenClaim := { program := "ytdpegkkbhanjkaadoor", sum := "4cfc2b9fb69d63ae75dab45819aefbfc2fc1382e2bd8996016e97df04818b964", func := "schisma/schismalaw23.PotentialSteps", spec := "potentialSteps", unfollowed := true, recurses := true, named := ["schisma/size.logs"], plainKeys := false, apart := false, laid := [("schisma/size.logs", laid_schisma_size_logs)], narrowed := true }
def PotentialStepsUptoSaid : Prop := potentialStepsUptoRow.holds Tryd.pinned (OpenSpec.upto potentialStepsSpec)

/-- 'schismalaw23.PotentialNamed', WHERE WHAT IT READS IS OF BULK AT MOST 1048576: true; the input reads as it did. -/
def potentialNamedUptoRow : OpenClaim := { program := "ytdpegkkbhanjkaadoor", sum := "4cfc2b9fb69d63ae75dab45819aefbfc2fc1382e2bd8996016e97df04818b964", func := "schisma/schismalaw23.PotentialNamed", spec := "potentialNamed", unfollowed := true, recurses := true, named := ["schisma/size.logs"], plainKeys := false, apart := false, laid := [("schisma/size.logs", laid_schisma_size_logs)], narrowed := true }
def PotentialNamedUptoSaid : Prop := potentialNamedUptoRow.holds Tryd.pinned (OpenSpec.upto potentialNamedSpec)

/-- 'schismalaw23.PotentialChains', WHERE WHAT IT READS IS OF BULK AT MOST 1048576: true; the input reads as it did. -/
def potentialChainsUptoRow : OpenClaim := { program := "ytdpegkkbhanjkaadoor", sum := "4cfc2b9fb69d63ae75dab45819aefbfc2fc1382e2bd8996016e97df04818b964", func := "schisma/schismalaw23.PotentialChains", spec := "potentialChains", unfollowed := true, recurses := true, named := ["schisma/size.logs"], plainKeys := false, apart := false, laid := [("schisma/size.logs", laid_schisma_size_logs)], narrowed := true }
def PotentialChainsUptoSaid : Prop := potentialChainsUptoRow.holds Tryd.pinned (OpenSpec.upto potentialChainsSpec)

/-- 'schismalaw23.PotentialMoved', WHERE WHAT IT READS IS OF BULK AT MOST 1048576: true; the input reads as it did. -/
def potentialMovedUptoRow : OpenClaim := { program := "ytdpegkkbhanjkaadoor", sum := "4cfc2b9fb69d63ae75dab45819aefbfc2fc1382e2bd8996016e97df04818b964", func := "schisma/schismalaw23.PotentialMoved", spec := "potentialMoved", unfollowed := true, recurses := true, named := ["schisma/size.logs"], plainKeys := false, apart := false, laid := [("schisma/size.logs", laid_schisma_size_logs)], narrowed := true }
def PotentialMovedUptoSaid : Prop := potentialMovedUptoRow.holds Tryd.pinned (OpenSpec.upto potentialMovedSpec)

/-- 'schismalaw23.PotentialAgreeing', WHERE WHAT IT READS IS OF BULK AT MOST 1048576: true; the input reads as it did. -/
def potentialAgreeingUptoRow : OpenClaim := { program := "ytdpegkkbhanjkaadoor", sum := "4cfc2b9fb69d63ae75dab45819aefbfc2fc1382e2bd8996016e97df04818b964", func := "schisma/schismalaw23.PotentialAgreeing", spec := "potentialAgreeing", unfollowed := true, recurses := true, named := ["schisma/size.logs"], plainKeys := false, apart := false, laid := [("schisma/size.logs", laid_schisma_size_logs)], narrowed := true }
def PotentialAgreeingUptoSaid : Prop := potentialAgreeingUptoRow.holds Tryd.pinned (OpenSpec.upto potentialAgreeingSpec)

/-- 'schismalaw23.PotentialEarlier', WHERE WHAT IT READS IS OF BULK AT MOST 1048576: true; the input reads as it did. -/
def potentialEarlierUptoRow : OpenClaim := { program := "ytdpegkkbhanjkaadoor", sum := "4cfc2b9fb69d63ae75dab45819aefbfc2fc1382e2bd8996016e97df04818b964", func := "schisma/schismalaw23.PotentialEarlier", spec := "potentialEarlier", unfollowed := true, recurses := true, named := ["schisma/size.logs"], plainKeys := false, apart := false, laid := [("schisma/size.logs", laid_schisma_size_logs)], narrowed := true }
def PotentialEarlierUptoSaid : Prop := potentialEarlierUptoRow.holds Tryd.pinned (OpenSpec.upto potentialEarlierSpec)

end Rows
end Go.Proofs.YtdpegkkbhanjkaaDoor
