/-
  No cell of these rows narrows 'for every input' (looked for: loops, veiled, ifaces, maps, wideKeys, modest, calm, conditions, laid).
  DERIVED. THE GIVEN ROWS OF THIS SEAT. 7 by the template 'for every input the law returns true; each argument reads behind the call as it read before'; 0 by the template 'total and deterministic' (their statements: YteelklpppfahcaaTotals.lean).
  GIVEN WITH THE SEED: the statements are not yours to turn. If you find one false, say at which input.
  Laid BY PROGRAM, IN A SANDBOX (cutbox-rows.mjs): the forced cells as the released guide's own fill.sh prints them over the translation a9b38eb4cbacc931… (all of the seat's roots in one cut). By AI agents, Wed Nov 11 2026. No macro, syntax, notation, axiom, sorry.
-/
import Derived.Test.YteelklpppfahcaaChecked
import GoSem.Claim
import GoSem.ClaimJoined
import GoSem.ClaimMapViews
import Derived.JoinedTies
import Derived.KernelRfl
namespace Go.Proofs.Yteelklpppfahcaa
/- THE CELL 'sum', in the pinned program and in every row, IS THE sha256 OF THE DUMP (.gsa) THAT YteelklpppfahcaaProg.lean LOADS. Nothing in Lean hashes anything: it is a label: what it is worth is what the hold of that sum in a sandbox is worth. -/
noncomputable def Try.pinned : Pinned := { name := "yteelklpppfahcaa", sum := "a9b38eb4cbacc93192acc7762fde904d3cecdb3500665a47fcdd91bac22713f9", checked := Try.checked }
namespace Rows
def none {H : Type} : Left H := { results := [], args := [] }

/-- 'schismalaw41.ReportBytes': WHATEVER THE INPUT: true; the input reads as it did. -/
def reportBytesSpec : ChangeSpec := { name := "reportBytes", fn := fun _ => fun
  | [d1, d2, d3, d4] => { results := [.lit (.bool true)], args := [d1, d2, d3, d4] }
  | _ => none }
def reportBytesRow : OpenClaim := { program := "yteelklpppfahcaa", sum := "a9b38eb4cbacc93192acc7762fde904d3cecdb3500665a47fcdd91bac22713f9", func := "schisma/schismalaw41.ReportBytes", spec := "reportBytes", unfollowed := true, recurses := true, apart := false }
def ReportBytesSaid : Prop := reportBytesRow.holds Try.pinned (OpenSpec.ofChange reportBytesSpec)

/-- ITS FALSE NEIGHBOUR: 'it returns false'. Refute it at one input. -/
def reportBytesWrong : ChangeSpec := { name := "reportBytes", fn := fun _ => fun
  | [d1, d2, d3, d4] => { results := [.lit (.bool false)], args := [d1, d2, d3, d4] }
  | _ => none }
def ReportBytesWrongFalsely : Prop := reportBytesRow.holds Try.pinned (OpenSpec.ofChange reportBytesWrong)

/-- 'schismalaw41.ReportPaths': WHATEVER THE INPUT: true; the input reads as it did. -/
def reportPathsSpec : ChangeSpec := { name := "reportPaths", fn := fun _ => fun
  | [d1, d2, d3, d4, d5] => { results := [.lit (.bool true)], args := [d1, d2, d3, d4, d5] }
  | _ => none }
def reportPathsRow : OpenClaim := { program := "yteelklpppfahcaa", sum := "a9b38eb4cbacc93192acc7762fde904d3cecdb3500665a47fcdd91bac22713f9", func := "schisma/schismalaw41.ReportPaths", spec := "reportPaths", unfollowed := true, recurses := true, apart := false }
def ReportPathsSaid : Prop := reportPathsRow.holds Try.pinned (OpenSpec.ofChange reportPathsSpec)

/-- ITS FALSE NEIGHBOUR: 'it returns false'. Refute it at one input. -/
def reportPathsWrong : ChangeSpec := { name := "reportPaths", fn := fun _ => fun
  | [d1, d2, d3, d4, d5] => { results := [.lit (.bool false)], args := [d1, d2, d3, d4, d5] }
  | _ => none }
def ReportPathsWrongFalsely : Prop := reportPathsRow.holds Try.pinned (OpenSpec.ofChange reportPathsWrong)

/-- 'schismalaw41.ReportBinding': WHATEVER THE INPUT: true; the input reads as it did. -/
def reportBindingSpec : ChangeSpec := { name := "reportBinding", fn := fun _ => fun
  | [d1, d2, d3, d4] => { results := [.lit (.bool true)], args := [d1, d2, d3, d4] }
  | _ => none }
def reportBindingRow : OpenClaim := { program := "yteelklpppfahcaa", sum := "a9b38eb4cbacc93192acc7762fde904d3cecdb3500665a47fcdd91bac22713f9", func := "schisma/schismalaw41.ReportBinding", spec := "reportBinding", unfollowed := true, recurses := true, apart := false }
def ReportBindingSaid : Prop := reportBindingRow.holds Try.pinned (OpenSpec.ofChange reportBindingSpec)

/-- ITS FALSE NEIGHBOUR: 'it returns false'. Refute it at one input. -/
def reportBindingWrong : ChangeSpec := { name := "reportBinding", fn := fun _ => fun
  | [d1, d2, d3, d4] => { results := [.lit (.bool false)], args := [d1, d2, d3, d4] }
  | _ => none }
def ReportBindingWrongFalsely : Prop := reportBindingRow.holds Try.pinned (OpenSpec.ofChange reportBindingWrong)

/-- 'schismalaw41.ReportGrowth': WHATEVER THE INPUT: true; the input reads as it did. -/
def reportGrowthSpec : ChangeSpec := { name := "reportGrowth", fn := fun _ => fun
  | [d1, d2, d3] => { results := [.lit (.bool true)], args := [d1, d2, d3] }
  | _ => none }
def reportGrowthRow : OpenClaim := { program := "yteelklpppfahcaa", sum := "a9b38eb4cbacc93192acc7762fde904d3cecdb3500665a47fcdd91bac22713f9", func := "schisma/schismalaw41.ReportGrowth", spec := "reportGrowth", unfollowed := true, recurses := true, apart := false }
def ReportGrowthSaid : Prop := reportGrowthRow.holds Try.pinned (OpenSpec.ofChange reportGrowthSpec)

/-- ITS FALSE NEIGHBOUR: 'it returns false'. Refute it at one input. -/
def reportGrowthWrong : ChangeSpec := { name := "reportGrowth", fn := fun _ => fun
  | [d1, d2, d3] => { results := [.lit (.bool false)], args := [d1, d2, d3] }
  | _ => none }
def ReportGrowthWrongFalsely : Prop := reportGrowthRow.holds Try.pinned (OpenSpec.ofChange reportGrowthWrong)

/-- 'schismalaw41.ReportFollows': WHATEVER THE INPUT: true; the input reads as it did. -/
def reportFollowsSpec : ChangeSpec := { name := "reportFollows", fn := fun _ => fun
  | [d1, d2, d3, d4] => { results := [.lit (.bool true)], args := [d1, d2, d3, d4] }
  | _ => none }
def reportFollowsRow : OpenClaim := { program := "yteelklpppfahcaa", sum := "a9b38eb4cbacc93192acc7762fde904d3cecdb3500665a47fcdd91bac22713f9", func := "schisma/schismalaw41.ReportFollows", spec := "reportFollows", unfollowed := true, recurses := true, apart := false }
def ReportFollowsSaid : Prop := reportFollowsRow.holds Try.pinned (OpenSpec.ofChange reportFollowsSpec)

/-- ITS FALSE NEIGHBOUR: 'it returns false'. Refute it at one input. -/
def reportFollowsWrong : ChangeSpec := { name := "reportFollows", fn := fun _ => fun
  | [d1, d2, d3, d4] => { results := [.lit (.bool false)], args := [d1, d2, d3, d4] }
  | _ => none }
def ReportFollowsWrongFalsely : Prop := reportFollowsRow.holds Try.pinned (OpenSpec.ofChange reportFollowsWrong)

/-- 'schismalaw41.ReportTrees': WHATEVER THE INPUT: true; the input reads as it did. -/
def reportTreesSpec : ChangeSpec := { name := "reportTrees", fn := fun _ => fun
  | [d1, d2] => { results := [.lit (.bool true)], args := [d1, d2] }
  | _ => none }
def reportTreesRow : OpenClaim := { program := "yteelklpppfahcaa", sum := "a9b38eb4cbacc93192acc7762fde904d3cecdb3500665a47fcdd91bac22713f9", func := "schisma/schismalaw41.ReportTrees", spec := "reportTrees", unfollowed := true, recurses := true, apart := false }
def ReportTreesSaid : Prop := reportTreesRow.holds Try.pinned (OpenSpec.ofChange reportTreesSpec)

/-- ITS FALSE NEIGHBOUR: 'it returns false'. Refute it at one input. -/
def reportTreesWrong : ChangeSpec := { name := "reportTrees", fn := fun _ => fun
  | [d1, d2] => { results := [.lit (.bool false)], args := [d1, d2] }
  | _ => none }
def ReportTreesWrongFalsely : Prop := reportTreesRow.holds Try.pinned (OpenSpec.ofChange reportTreesWrong)

/-- 'schismalaw41.ReportMatchesReference': WHATEVER THE INPUT: true; the input reads as it did. -/
def reportMatchesReferenceSpec : ChangeSpec := { name := "reportMatchesReference", fn := fun _ => fun
  | [d1, d2, d3, d4, d5, d6, d7, d8, d9] => { results := [.lit (.bool true)], args := [d1, d2, d3, d4, d5, d6, d7, d8, d9] }
  | _ => none }
def reportMatchesReferenceRow : OpenClaim := { program := "yteelklpppfahcaa", sum := "a9b38eb4cbacc93192acc7762fde904d3cecdb3500665a47fcdd91bac22713f9", func := "schisma/schismalaw41.ReportMatchesReference", spec := "reportMatchesReference", unfollowed := true, recurses := true, apart := false }
def ReportMatchesReferenceSaid : Prop := reportMatchesReferenceRow.holds Try.pinned (OpenSpec.ofChange reportMatchesReferenceSpec)

/-- ITS FALSE NEIGHBOUR: 'it returns false'. Refute it at one input. -/
def reportMatchesReferenceWrong : ChangeSpec := { name := "reportMatchesReference", fn := fun _ => fun
  | [d1, d2, d3, d4, d5, d6, d7, d8, d9] => { results := [.lit (.bool false)], args := [d1, d2, d3, d4, d5, d6, d7, d8, d9] }
  | _ => none }
def ReportMatchesReferenceWrongFalsely : Prop := reportMatchesReferenceRow.holds Try.pinned (OpenSpec.ofChange reportMatchesReferenceWrong)

/- THE SECOND FORM. 'bulk': how many values and letters a reading holds, each counted each time it is reached (what is shared counts as often as it is met; a slice's spare places count too). A statement '..UptoSaid' is the law's where the arguments, and the package variables that the reading takes, are together of bulk at most 1048576: NARROWER than '..Said'. Prove '..Said' where nothing that the law and all that it calls make is longer than what came in: it says more and counts as full. Else prove '..UptoSaid'. A law counts once. -/
mutual
def uptoBulk {H : Type} : DataW H → Nat
  | .lit (.string bytes) => bytes.length + 1
  | .lit _ => 1
  | .nil => 1
  | .ptr d => uptoBulk d + 1
  | .slice elems spare => uptoBulkAll elems + uptoBulkAll spare + 1
  | .agg parts => uptoBulkAll parts + 1
  | .iface _ d => uptoBulk d + 1
  | .map entries => uptoBulkEntries entries + 1
  | .held _ => 1
def uptoBulkAll {H : Type} : List (DataW H) → Nat
  | [] => 0
  | d :: r => uptoBulk d + uptoBulkAll r
def uptoBulkEntries {H : Type} : List (Lit × DataW H) → Nat
  | [] => 0
  | x :: r => uptoBulkEntry x + uptoBulkEntries r
def uptoBulkEntry {H : Type} : Lit × DataW H → Nat
  | (.string bytes, d) => bytes.length + uptoBulk d + 1
  | (_, d) => uptoBulk d + 1
 end
def uptoSmall : (H : Type) → List (DataW H) → Bool := fun _ ds => decide (uptoBulkAll ds ≤ 1048576)
def OpenSpec.upto (s : _root_.Go.ChangeSpec) : _root_.Go.OpenSpec := { _root_.Go.OpenSpec.ofChange s with cond := some uptoSmall }

/-- 'schismalaw41.ReportBytes', WHERE WHAT IT READS IS OF BULK AT MOST 1048576: true; the input reads as it did. -/
def reportBytesUptoRow : OpenClaim := { program := "yteelklpppfahcaa", sum := "a9b38eb4cbacc93192acc7762fde904d3cecdb3500665a47fcdd91bac22713f9", func := "schisma/schismalaw41.ReportBytes", spec := "reportBytes", unfollowed := true, recurses := true, apart := false, narrowed := true }
def ReportBytesUptoSaid : Prop := reportBytesUptoRow.holds Try.pinned (OpenSpec.upto reportBytesSpec)

/-- 'schismalaw41.ReportPaths', WHERE WHAT IT READS IS OF BULK AT MOST 1048576: true; the input reads as it did. -/
def reportPathsUptoRow : OpenClaim := { program := "yteelklpppfahcaa", sum := "a9b38eb4cbacc93192acc7762fde904d3cecdb3500665a47fcdd91bac22713f9", func := "schisma/schismalaw41.ReportPaths", spec := "reportPaths", unfollowed := true, recurses := true, apart := false, narrowed := true }
def ReportPathsUptoSaid : Prop := reportPathsUptoRow.holds Try.pinned (OpenSpec.upto reportPathsSpec)

/-- 'schismalaw41.ReportBinding', WHERE WHAT IT READS IS OF BULK AT MOST 1048576: true; the input reads as it did. -/
def reportBindingUptoRow : OpenClaim := { program := "yteelklpppfahcaa", sum := "a9b38eb4cbacc93192acc7762fde904d3cecdb3500665a47fcdd91bac22713f9", func := "schisma/schismalaw41.ReportBinding", spec := "reportBinding", unfollowed := true, recurses := true, apart := false, narrowed := true }
def ReportBindingUptoSaid : Prop := reportBindingUptoRow.holds Try.pinned (OpenSpec.upto reportBindingSpec)

/-- 'schismalaw41.ReportGrowth', WHERE WHAT IT READS IS OF BULK AT MOST 1048576: true; the input reads as it did. -/
def reportGrowthUptoRow : OpenClaim := { program := "yteelklpppfahcaa", sum := "a9b38eb4cbacc93192acc7762fde904d3cecdb3500665a47fcdd91bac22713f9", func := "schisma/schismalaw41.ReportGrowth", spec := "reportGrowth", unfollowed := true, recurses := true, apart := false, narrowed := true }
def ReportGrowthUptoSaid : Prop := reportGrowthUptoRow.holds Try.pinned (OpenSpec.upto reportGrowthSpec)

/-- 'schismalaw41.ReportFollows', WHERE WHAT IT READS IS OF BULK AT MOST 1048576: true; the input reads as it did. -/
def reportFollowsUptoRow : OpenClaim := { program := "yteelklpppfahcaa", sum := "a9b38eb4cbacc93192acc7762fde904d3cecdb3500665a47fcdd91bac22713f9", func := "schisma/schismalaw41.ReportFollows", spec := "reportFollows", unfollowed := true, recurses := true, apart := false, narrowed := true }
def ReportFollowsUptoSaid : Prop := reportFollowsUptoRow.holds Try.pinned (OpenSpec.upto reportFollowsSpec)

/-- 'schismalaw41.ReportTrees', WHERE WHAT IT READS IS OF BULK AT MOST 1048576: true; the input reads as it did. -/
def reportTreesUptoRow : OpenClaim := { program := "yteelklpppfahcaa", sum := "a9b38eb4cbacc93192acc7762fde904d3cecdb3500665a47fcdd91bac22713f9", func := "schisma/schismalaw41.ReportTrees", spec := "reportTrees", unfollowed := true, recurses := true, apart := false, narrowed := true }
def ReportTreesUptoSaid : Prop := reportTreesUptoRow.holds Try.pinned (OpenSpec.upto reportTreesSpec)

/-- 'schismalaw41.ReportMatchesReference', WHERE WHAT IT READS IS OF BULK AT MOST 1048576: true; the input reads as it did. -/
def reportMatchesReferenceUptoRow : OpenClaim := { program := "yteelklpppfahcaa", sum := "a9b38eb4cbacc93192acc7762fde904d3cecdb3500665a47fcdd91bac22713f9", func := "schisma/schismalaw41.ReportMatchesReference", spec := "reportMatchesReference", unfollowed := true, recurses := true, apart := false, narrowed := true }
def ReportMatchesReferenceUptoSaid : Prop := reportMatchesReferenceUptoRow.holds Try.pinned (OpenSpec.upto reportMatchesReferenceSpec)

end Rows
end Go.Proofs.Yteelklpppfahcaa
