/-
  NARROWER THAN 'FOR EVERY INPUT', by the rows' own cells (each row's printed sentence says how): AlignMatchesReference: laid · AlignCheapest: laid · AlignProof: laid · AlignExact: laid · AlignPrices: laid · AlignMore: laid · AlignBackwards: laid · AlignNarrow: laid.
  DERIVED. THE GIVEN ROWS OF THIS SEAT. 8 by the template 'for every input the law returns true; each argument reads behind the call as it read before'; 0 by the template 'total and deterministic' (their statements: YthomegempfedaaaDoorTotals.lean).
  GIVEN WITH THE SEED: the statements are not yours to turn. If you find one false, say at which input.
  Laid BY PROGRAM, IN A SANDBOX (cutbox-rows.mjs): the forced cells as the released guide's own fill.sh prints them over the translation a7be76f1e299ced6… (all of the seat's roots in one cut). By AI agents, Wed Nov 11 2026. No macro, syntax, notation, axiom, sorry.
-/
import Derived.Test.YthomegempfedaaaDoorChecked
import GoSem.Claim
import GoSem.ClaimJoined
import GoSem.ClaimMapViews
import Derived.JoinedTies
import Derived.KernelRfl
namespace Go.Proofs.YthomegempfedaaaDoor
/- THE CELL 'sum', in the pinned program and in every row, IS THE sha256 OF THE DUMP (.gsa) THAT YthomegempfedaaaDoorProg.lean LOADS. Nothing in Lean hashes anything: it is a label: what it is worth is what the hold of that sum in a sandbox is worth. -/
noncomputable def Tryd.pinned : Pinned := { name := "ythomegempfedaaadoor", sum := "a7be76f1e299ced6ff61f3bcc6d880bdcd33f72f596c0394af5552943b0f3c42", checked := Tryd.checked }
namespace Rows
def none {H : Type} : Left H := { results := [], args := [] }

/- WHAT THE LISTED PACKAGE-LEVEL VARIABLES READ AS WHEN THE CALL BEGINS. Each datum BY PROGRAM (the guide's laid-datum.mjs) off the statement by which the dump's own 'gosem.cut.vars' lays the variable. In a bare row this is a premise. The card (YthomegempfedaaaDoorCards.lean) ties it to the program's text. -/
def laid_schisma_size_logs {H : Type} : DataW H := .agg [.agg [.lit (.int .i64 1000000000), .lit (.int .i64 1000000000)], .agg [.lit (.int .i64 1584962500), .lit (.int .i64 1584962501)], .agg [.lit (.int .i64 2321928094), .lit (.int .i64 2321928095)], .agg [.lit (.int .i64 2807354922), .lit (.int .i64 2807354923)], .agg [.lit (.int .i64 3459431618), .lit (.int .i64 3459431619)], .agg [.lit (.int .i64 3700439718), .lit (.int .i64 3700439719)]]

/-- 'schismalaw38.AlignMatchesReference': WHATEVER THE INPUT: true; the input reads as it did. -/
def alignMatchesReferenceSpec : ChangeSpec := { name := "alignMatchesReference", fn := fun _ => fun
  | [d1, d2, d3, d4, d5] => { results := [.lit (.bool true)], args := [d1, d2, d3, d4, d5] }
  | _ => none }
def alignMatchesReferenceRow : OpenClaim := { program := "ythomegempfedaaadoor", sum := "a7be76f1e299ced6ff61f3bcc6d880bdcd33f72f596c0394af5552943b0f3c42", func := "schisma/schismalaw38.AlignMatchesReference", spec := "alignMatchesReference", unfollowed := true, recurses := true, named := ["schisma/size.logs"], plainKeys := false, apart := false, laid := [("schisma/size.logs", laid_schisma_size_logs)] }
def AlignMatchesReferenceSaid : Prop := alignMatchesReferenceRow.holds Tryd.pinned (OpenSpec.ofChange alignMatchesReferenceSpec)

/-- ITS FALSE NEIGHBOUR: 'it returns false'. Refute it at one input. -/
def alignMatchesReferenceWrong : ChangeSpec := { name := "alignMatchesReference", fn := fun _ => fun
  | [d1, d2, d3, d4, d5] => { results := [.lit (.bool false)], args := [d1, d2, d3, d4, d5] }
  | _ => none }
def AlignMatchesReferenceWrongFalsely : Prop := alignMatchesReferenceRow.holds Tryd.pinned (OpenSpec.ofChange alignMatchesReferenceWrong)

/-- 'schismalaw38.AlignCheapest': WHATEVER THE INPUT: true; the input reads as it did. -/
def alignCheapestSpec : ChangeSpec := { name := "alignCheapest", fn := fun _ => fun
  | [d1, d2, d3, d4] => { results := [.lit (.bool true)], args := [d1, d2, d3, d4] }
  | _ => none }
def alignCheapestRow : OpenClaim := { program := "ythomegempfedaaadoor", sum := "a7be76f1e299ced6ff61f3bcc6d880bdcd33f72f596c0394af5552943b0f3c42", func := "schisma/schismalaw38.AlignCheapest", spec := "alignCheapest", unfollowed := true, recurses := true, named := ["schisma/size.logs"], plainKeys := false, apart := false, laid := [("schisma/size.logs", laid_schisma_size_logs)] }
def AlignCheapestSaid : Prop := alignCheapestRow.holds Tryd.pinned (OpenSpec.ofChange alignCheapestSpec)

/-- ITS FALSE NEIGHBOUR: 'it returns false'. Refute it at one input. -/
def alignCheapestWrong : ChangeSpec := { name := "alignCheapest", fn := fun _ => fun
  | [d1, d2, d3, d4] => { results := [.lit (.bool false)], args := [d1, d2, d3, d4] }
  | _ => none }
def AlignCheapestWrongFalsely : Prop := alignCheapestRow.holds Tryd.pinned (OpenSpec.ofChange alignCheapestWrong)

/-- 'schismalaw38.AlignProof': WHATEVER THE INPUT: true; the input reads as it did. -/
def alignProofSpec : ChangeSpec := { name := "alignProof", fn := fun _ => fun
  | [d1, d2, d3, d4, d5] => { results := [.lit (.bool true)], args := [d1, d2, d3, d4, d5] }
  | _ => none }
def alignProofRow : OpenClaim := { program := "ythomegempfedaaadoor", sum := "a7be76f1e299ced6ff61f3bcc6d880bdcd33f72f596c0394af5552943b0f3c42", func := "schisma/schismalaw38.AlignProof", spec := "alignProof", unfollowed := true, recurses := true, named := ["schisma/size.logs"], plainKeys := false, apart := false, laid := [("schisma/size.logs", laid_schisma_size_logs)] }
def AlignProofSaid : Prop := alignProofRow.holds Tryd.pinned (OpenSpec.ofChange alignProofSpec)

/-- ITS FALSE NEIGHBOUR: 'it returns false'. Refute it at one input. -/
def alignProofWrong : ChangeSpec := { name := "alignProof", fn := fun _ => fun
  | [d1, d2, d3, d4, d5] => { results := [.lit (.bool false)], args := [d1, d2, d3, d4, d5] }
  | _ => none }
def AlignProofWrongFalsely : Prop := alignProofRow.holds Tryd.pinned (OpenSpec.ofChange alignProofWrong)

/-- 'schismalaw38.AlignExact': WHATEVER THE INPUT: true; the input reads as it did. -/
def alignExactSpec : ChangeSpec := { name := "alignExact", fn := fun _ => fun
  | [d1, d2, d3] => { results := [.lit (.bool true)], args := [d1, d2, d3] }
  | _ => none }
def alignExactRow : OpenClaim := { program := "ythomegempfedaaadoor", sum := "a7be76f1e299ced6ff61f3bcc6d880bdcd33f72f596c0394af5552943b0f3c42", func := "schisma/schismalaw38.AlignExact", spec := "alignExact", unfollowed := true, recurses := true, named := ["schisma/size.logs"], plainKeys := false, apart := false, laid := [("schisma/size.logs", laid_schisma_size_logs)] }
def AlignExactSaid : Prop := alignExactRow.holds Tryd.pinned (OpenSpec.ofChange alignExactSpec)

/-- ITS FALSE NEIGHBOUR: 'it returns false'. Refute it at one input. -/
def alignExactWrong : ChangeSpec := { name := "alignExact", fn := fun _ => fun
  | [d1, d2, d3] => { results := [.lit (.bool false)], args := [d1, d2, d3] }
  | _ => none }
def AlignExactWrongFalsely : Prop := alignExactRow.holds Tryd.pinned (OpenSpec.ofChange alignExactWrong)

/-- 'schismalaw38.AlignPrices': WHATEVER THE INPUT: true; the input reads as it did. -/
def alignPricesSpec : ChangeSpec := { name := "alignPrices", fn := fun _ => fun
  | [d1, d2, d3, d4, d5] => { results := [.lit (.bool true)], args := [d1, d2, d3, d4, d5] }
  | _ => none }
def alignPricesRow : OpenClaim := { program := "ythomegempfedaaadoor", sum := "a7be76f1e299ced6ff61f3bcc6d880bdcd33f72f596c0394af5552943b0f3c42", func := "schisma/schismalaw38.AlignPrices", spec := "alignPrices", unfollowed := true, recurses := true, named := ["schisma/size.logs"], plainKeys := false, apart := false, laid := [("schisma/size.logs", laid_schisma_size_logs)] }
def AlignPricesSaid : Prop := alignPricesRow.holds Tryd.pinned (OpenSpec.ofChange alignPricesSpec)

/-- ITS FALSE NEIGHBOUR: 'it returns false'. Refute it at one input. -/
def alignPricesWrong : ChangeSpec := { name := "alignPrices", fn := fun _ => fun
  | [d1, d2, d3, d4, d5] => { results := [.lit (.bool false)], args := [d1, d2, d3, d4, d5] }
  | _ => none }
def AlignPricesWrongFalsely : Prop := alignPricesRow.holds Tryd.pinned (OpenSpec.ofChange alignPricesWrong)

/-- 'schismalaw38.AlignMore': WHATEVER THE INPUT: true; the input reads as it did. -/
def alignMoreSpec : ChangeSpec := { name := "alignMore", fn := fun _ => fun
  | [d1, d2, d3, d4] => { results := [.lit (.bool true)], args := [d1, d2, d3, d4] }
  | _ => none }
def alignMoreRow : OpenClaim := { program := "ythomegempfedaaadoor", sum := "a7be76f1e299ced6ff61f3bcc6d880bdcd33f72f596c0394af5552943b0f3c42", func := "schisma/schismalaw38.AlignMore", spec := "alignMore", unfollowed := true, recurses := true, named := ["schisma/size.logs"], plainKeys := false, apart := false, laid := [("schisma/size.logs", laid_schisma_size_logs)] }
def AlignMoreSaid : Prop := alignMoreRow.holds Tryd.pinned (OpenSpec.ofChange alignMoreSpec)

/-- ITS FALSE NEIGHBOUR: 'it returns false'. Refute it at one input. -/
def alignMoreWrong : ChangeSpec := { name := "alignMore", fn := fun _ => fun
  | [d1, d2, d3, d4] => { results := [.lit (.bool false)], args := [d1, d2, d3, d4] }
  | _ => none }
def AlignMoreWrongFalsely : Prop := alignMoreRow.holds Tryd.pinned (OpenSpec.ofChange alignMoreWrong)

/-- 'schismalaw38.AlignBackwards': WHATEVER THE INPUT: true; the input reads as it did. -/
def alignBackwardsSpec : ChangeSpec := { name := "alignBackwards", fn := fun _ => fun
  | [d1, d2, d3] => { results := [.lit (.bool true)], args := [d1, d2, d3] }
  | _ => none }
def alignBackwardsRow : OpenClaim := { program := "ythomegempfedaaadoor", sum := "a7be76f1e299ced6ff61f3bcc6d880bdcd33f72f596c0394af5552943b0f3c42", func := "schisma/schismalaw38.AlignBackwards", spec := "alignBackwards", unfollowed := true, recurses := true, named := ["schisma/size.logs"], plainKeys := false, apart := false, laid := [("schisma/size.logs", laid_schisma_size_logs)] }
def AlignBackwardsSaid : Prop := alignBackwardsRow.holds Tryd.pinned (OpenSpec.ofChange alignBackwardsSpec)

/-- ITS FALSE NEIGHBOUR: 'it returns false'. Refute it at one input. -/
def alignBackwardsWrong : ChangeSpec := { name := "alignBackwards", fn := fun _ => fun
  | [d1, d2, d3] => { results := [.lit (.bool false)], args := [d1, d2, d3] }
  | _ => none }
def AlignBackwardsWrongFalsely : Prop := alignBackwardsRow.holds Tryd.pinned (OpenSpec.ofChange alignBackwardsWrong)

/-- 'schismalaw38.AlignNarrow': WHATEVER THE INPUT: true; the input reads as it did. -/
def alignNarrowSpec : ChangeSpec := { name := "alignNarrow", fn := fun _ => fun
  | [d1, d2, d3, d4, d5] => { results := [.lit (.bool true)], args := [d1, d2, d3, d4, d5] }
  | _ => none }
def alignNarrowRow : OpenClaim := { program := "ythomegempfedaaadoor", sum := "a7be76f1e299ced6ff61f3bcc6d880bdcd33f72f596c0394af5552943b0f3c42", func := "schisma/schismalaw38.AlignNarrow", spec := "alignNarrow", unfollowed := true, recurses := true, named := ["schisma/size.logs"], plainKeys := false, apart := false, laid := [("schisma/size.logs", laid_schisma_size_logs)] }
def AlignNarrowSaid : Prop := alignNarrowRow.holds Tryd.pinned (OpenSpec.ofChange alignNarrowSpec)

/-- ITS FALSE NEIGHBOUR: 'it returns false'. Refute it at one input. -/
def alignNarrowWrong : ChangeSpec := { name := "alignNarrow", fn := fun _ => fun
  | [d1, d2, d3, d4, d5] => { results := [.lit (.bool false)], args := [d1, d2, d3, d4, d5] }
  | _ => none }
def AlignNarrowWrongFalsely : Prop := alignNarrowRow.holds Tryd.pinned (OpenSpec.ofChange alignNarrowWrong)

/- THE SECOND FORM. 'bulk': how many values and letters a reading holds, each counted each time it is reached (what is shared counts as often as it is met; a slice's spare places count too). A statement '..UptoSaid' is the law's where the arguments, and the package variables that the reading takes, are together of bulk at most 1048576: NARROWER than '..Said'. Prove '..Said' where nothing that the law and all that it calls make is longer than what came in: it says more and counts as full. Else prove '..UptoSaid'. A law counts once. -/
mutual
def uptoBulk {H : Type} : DataW H → Nat
  | .lit (.string bytes) => bytes.length + 1
  | .lit _ => 1
  | .nil => 1
  | .ptr d => uptoBulk d + 1
  | .slice elems spare => uptoBulkAll elems + uptoBulkAll spare + 1
  | .agg parts => uptoBulkAll parts + 1
  | .iface _ d => uptoBulk d + 1
  | .map entries => uptoBulkEntries entries + 1
  | .held _ => 1
def uptoBulkAll {H : Type} : List (DataW H) → Nat
  | [] => 0
  | d :: r => uptoBulk d + uptoBulkAll r
def uptoBulkEntries {H : Type} : List (Lit × DataW H) → Nat
  | [] => 0
  | x :: r => uptoBulkEntry x + uptoBulkEntries r
def uptoBulkEntry {H : Type} : Lit × DataW H → Nat
  | (.string bytes, d) => bytes.length + uptoBulk d + 1
  | (_, d) => uptoBulk d + 1
 end
def uptoSmall : (H : Type) → List (DataW H) → Bool := fun _ ds => decide (uptoBulkAll ds ≤ 1048576)
def OpenSpec.upto (s : _root_.Go.ChangeSpec) : _root_.Go.OpenSpec := { _root_.Go.OpenSpec.ofChange s with cond := some uptoSmall }

/-- 'schismalaw38.AlignMatchesReference', WHERE WHAT IT READS IS OF BULK AT MOST 1048576: true; the input reads as it did. -/
def alignMatchesReferenceUptoRow : OpenClaim := { program := "ythomegempfedaaadoor", sum := "a7be76f1e299ced6ff61f3bcc6d880bdcd33f72f596c0394af5552943b0f3c42", func := "schisma/schismalaw38.AlignMatchesReference", spec := "alignMatchesReference", unfollowed := true, recurses := true, named := ["schisma/size.logs"], plainKeys := false, apart := false, laid := [("schisma/size.logs", laid_schisma_size_logs)], narrowed := true }
def AlignMatchesReferenceUptoSaid : Prop := alignMatchesReferenceUptoRow.holds Tryd.pinned (OpenSpec.upto alignMatchesReferenceSpec)

/-- 'schismalaw38.AlignCheapest', WHERE WHAT IT READS IS OF BULK AT MOST 1048576: true; the input reads as it did. -/
def alignCheapestUptoRow : OpenClaim := { program := "ythomegempfedaaadoor", sum := "a7be76f1e299ced6ff61f3bcc6d880bdcd33f72f596c0394af5552943b0f3c42", func := "schisma/schismalaw38.AlignCheapest", spec := "alignCheapest", unfollowed := true, recurses := true, named := ["schisma/size.logs"], plainKeys := false, apart := false, laid := [("schisma/size.logs", laid_schisma_size_logs)], narrowed := true }
def AlignCheapestUptoSaid : Prop := alignCheapestUptoRow.holds Tryd.pinned (OpenSpec.upto alignCheapestSpec)

/-- 'schismalaw38.AlignProof', WHERE WHAT IT READS IS OF BULK AT MOST 1048576: true; the input reads as it did. -/
def alignProofUptoRow : OpenClaim := { program := "ythomegempfedaaadoor", sum := "a7be76f1e299ced6ff61f3bcc6d880bdcd33f72f596c0394af5552943b0f3c42", func := "schisma/schismalaw38.AlignProof", spec := "alignProof", unfollowed := true, recurses := true, named := ["schisma/size.logs"], plainKeys := false, apart := false, laid := [("schisma/size.logs", laid_schisma_size_logs)], narrowed := true }
def AlignProofUptoSaid : Prop := alignProofUptoRow.holds Tryd.pinned (OpenSpec.upto alignProofSpec)

/-- 'schismalaw38.AlignExact', WHERE WHAT IT READS IS OF BULK AT MOST 1048576: true; the input reads as it did. -/
def alignExactUptoRow : OpenClaim := { program := "ythomegempfedaaadoor", sum := "a7be76f1e299ced6ff61f3bcc6d880bdcd33f72f596c0394af5552943b0f3c42", func := "schisma/schismalaw38.AlignExact", spec := "alignExact", unfollowed := true, recurses := true, named := ["schisma/size.logs"], plainKeys := false, apart := false, laid := [("schisma/size.logs", laid_schisma_size_logs)], narrowed := true }
def AlignExactUptoSaid : Prop := alignExactUptoRow.holds Tryd.pinned (OpenSpec.upto alignExactSpec)

/-- 'schismalaw38.AlignPrices', WHERE WHAT IT READS IS OF BULK AT MOST 1048576: true; the input reads as it did. -/
def alignPricesUptoRow : OpenClaim := { program := "ythomegempfedaaadoor", sum := "a7be76f1e299ced6ff61f3bcc6d880bdcd33f72f596c0394af5552943b0f3c42", func := "schisma/schismalaw38.AlignPrices", spec := "alignPrices", unfollowed := true, recurses := true, named := ["schisma/size.logs"], plainKeys := false, apart := false, laid := [("schisma/size.logs", laid_schisma_size_logs)], narrowed := true }
def AlignPricesUptoSaid : Prop := alignPricesUptoRow.holds Tryd.pinned (OpenSpec.upto alignPricesSpec)

/-- 'schismalaw38.AlignMore', WHERE WHAT IT READS IS OF BULK AT MOST 1048576: true; the input reads as it did. -/
def alignMoreUptoRow : OpenClaim := { program := "ythomegempfedaaadoor", sum := "a7be76f1e299ced6ff61f3bcc6d880bdcd33f72f596c0394af5552943b0f3c42", func := "schisma/schismalaw38.AlignMore", spec := "alignMore", unfollowed := true, recurses := true, named := ["schisma/size.logs"], plainKeys := false, apart := false, laid := [("schisma/size.logs", laid_schisma_size_logs)], narrowed := true }
def AlignMoreUptoSaid : Prop := alignMoreUptoRow.holds Tryd.pinned (OpenSpec.upto alignMoreSpec)

/-- 'schismalaw38.AlignBackwards', WHERE WHAT IT READS IS OF BULK AT MOST 1048576: true; the input reads as it did. -/
def alignBackwardsUptoRow : OpenClaim := { program := "ythomegempfedaaadoor", sum := "a7be76f1e299ced6ff61f3bcc6d880bdcd33f72f596c0394af5552943b0f3c42", func := "schisma/schismalaw38.AlignBackwards", spec := "alignBackwards", unfollowed := true, recurses := true, named := ["schisma/size.logs"], plainKeys := false, apart := false, laid := [("schisma/size.logs", laid_schisma_size_logs)], narrowed := true }
def AlignBackwardsUptoSaid : Prop := alignBackwardsUptoRow.holds Tryd.pinned (OpenSpec.upto alignBackwardsSpec)

/-- 'schismalaw38.AlignNarrow', WHERE WHAT IT READS IS OF BULK AT MOST 1048576: true; the input reads as it did. -/
def alignNarrowUptoRow : OpenClaim := { program := "ythomegempfedaaadoor", sum := "a7be76f1e299ced6ff61f3bcc6d880bdcd33f72f596c0394af5552943b0f3c42", func := "schisma/schismalaw38.AlignNarrow", spec := "alignNarrow", unfollowed := true, recurses := true, named := ["schisma/size.logs"], plainKeys := false, apart := false, laid := [("schisma/size.logs", laid_schisma_size_logs)], narrowed := true }
def AlignNarrowUptoSaid : Prop := alignNarrowUptoRow.holds Tryd.pinned (OpenSpec.upto alignNarrowSpec)

end Rows
end Go.Proofs.YthomegempfedaaaDoor
