/-
  Walks: schismaref39.Audit, Ideal.
-/
import Derived.Test.YthpfalbeieloaaaGreatDoorR39F
import Derived.Test.YthpfalbeieloaaaGreatDoorR39B
set_option linter.unusedVariables false
namespace Go.Proofs.YthpfalbeieloaaaGreatDoor
open Go.RowKit Go.Sx Go.Sx.Sz Go.Sx.Sc Go.Sx.Au

set_option maxRecDepth 100000 in
theorem et_fd : ET Tryz.prog 103 120 3 24 := .mk' (z := .agg #[.int .i64 0, .int .i64 0, .int .i64 0]) Tryz.underlying103 (by kernel_rfl) rfl (by decide) (by decide)

def fdsL (s : Sc) (l : List S2) (k : Nat) : List Fnd := (List.range k).map (fdOf s l)
set_option maxRecDepth 100000 in
theorem fdsL_succ (s : Sc) (l : List S2) (k : Nat) : fdsL s l (k + 1) = fdsL s l k ++ [fdOf s l k] := by unfold fdsL; rw [List.range_succ, List.map_append]; rfl
set_option maxRecDepth 100000 in
theorem fdsL_len (s : Sc) (l : List S2) (k : Nat) : (fdsL s l k).length = k := by simp [fdsL]
end Go.Proofs.YthpfalbeieloaaaGreatDoor
