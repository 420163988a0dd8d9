/-
  Walks: size.Add, Sub, Cmp, Meet.
-/
import Derived.Test.YtdpegkkbhanjkaaDoorSzC
set_option linter.unusedVariables false
namespace Go.Proofs.YtdpegkkbhanjkaaDoor
open Go.RowKit Go.Sx Go.Sx.Sz

set_option maxRecDepth 100000 in
theorem cmpR_a {a b : S2} (h : szOk a = false) : cmpR a b = (0, 1) := by simp [cmpR, h]
set_option maxRecDepth 100000 in
theorem cmpR_b {a b : S2} (h : szOk b = false) : cmpR a b = (0, 1) := by simp [cmpR, h]
set_option maxRecDepth 100000 in
theorem meetR_a {a b : S2} (h : szOk a = false) : meetR a b = (zeroS, 1) := by simp [meetR, h]
set_option maxRecDepth 100000 in
theorem meetR_b {a b : S2} (h : szOk b = false) : meetR a b = (zeroS, 1) := by simp [meetR, h]

end Go.Proofs.YtdpegkkbhanjkaaDoor
