/-
  What a tied row's list gives the walks, and a world for its witness: the table of the logarithms alone.
-/
import Derived.Test.YtgfaiihekibcbaaGreatDoorLibB
import Derived.Test.YtgfaiihekibcbaaGreatDoorCards
import Derived.Test.YtgfaiihekibcbaaGreatDoorTie
set_option linter.unusedVariables false
namespace Go.Proofs.YtgfaiihekibcbaaGreatDoor
open Go.RowKit Go.Sx Go.Sx.Sz Go.ChangeShapes Go.WideShapes Go.ChangeAt

theorem gv_of {W : World} (h : laidMetH Tryz.prog [("schisma/size.logs", Rows.laid_schisma_size_logs)] W) : Gl 0 W := by
  obtain ⟨ps, hl, _⟩ : laidMet Tryz.prog [("schisma/size.logs", Rows.laid_schisma_size_logs)] W := h
  obtain ⟨g', t', cs', fuel', p', k1, k2, k3, k4⟩ := laid_var hl (n := "schisma/size.logs") (d := Rows.laid_schisma_size_logs) (by simp)
  have e2 : Tryz.prog.globalNamed "schisma/size.logs" = some 0 := by kernel_rfl
  obtain rfl := Option.some.inj (e2.symm.trans k1)
  have f2 : (Tryz.prog.globals[0]?).map (·.type) = some 167 := by kernel_rfl
  obtain rfl := Option.some.inj (f2.symm.trans k2)
  have c2 := cells_of_pairs (zs := [(1000000000, 1000000000), (1584962500, 1584962501), (2321928094, 2321928095), (2807354922, 2807354923), (3459431618, 3459431619), (3700439718, 3700439719)]) Tryz.underlying167 Tryz.underlying141 ⟨rfl, rfl⟩ ⟨rfl, rfl⟩ Tryz.underlying3 (by kernel_rfl) (by kernel_rfl) (by kernel_rfl) k4
  refine ⟨fun i hi => ?_, fun i hi => ?_⟩
  · rw [World.var?_cell e2 k3, ← Array.getElem?_toList]
    exact (c2 i (logLo i, logHi i) (by rcases lt6 hi with rfl | rfl | rfl | rfl | rfl | rfl <;> rfl)).1
  · rw [World.var?_cell e2 k3, ← Array.getElem?_toList]
    exact (c2 i (logLo i, logHi i) (by rcases lt6 hi with rfl | rfl | rfl | rfl | rfl | rfl <;> rfl)).2

/-- The settled world, the table laid. -/
noncomputable def layCells (cs : Array Value) : Obj → Obj
  | .cells _ t frozen => .cells cs t frozen
  | o => o
noncomputable def laidWorld (os : Os) : World :=
  { World.holding Tryz.prog os ⟨#[], #[], []⟩ with heap := (World.holding Tryz.prog os ⟨#[], #[], []⟩).heap.modify 0 (layCells logCells.toArray) }
end Go.Proofs.YtgfaiihekibcbaaGreatDoor
