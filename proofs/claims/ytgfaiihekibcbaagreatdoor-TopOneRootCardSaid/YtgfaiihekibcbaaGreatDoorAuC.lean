/-
  Walks of audit: newDifference.
-/
import Derived.Test.YtgfaiihekibcbaaGreatDoorAuB
import Derived.BigQuiet
import Derived.Deep.RegionHeld3
set_option linter.unusedVariables false
namespace Go.Proofs.YtgfaiihekibcbaaGreatDoor
open Go.RowKit Go.Sx Go.Sx.Sz Go.Sx.Sc Go.Sx.Au

def encS (z : S2) : List Value := [.int .i64 z.lo, .int .i64 z.hi]
set_option maxRecDepth 100000 in
theorem Sl.sz {w : World} {a? : Option Addr} {n cap : Nat} {xs : List S2} (h : Sl w 2 encS (.slice a? n cap) xs) (k : Nat) (hk : k < xs.length) : ∃ b o, a? = some ⟨b, o, none⟩ ∧ w.cell? ⟨b, o + k * 2, none⟩ = some (.int .i64 xs[k].lo) ∧ w.cell? ⟨b, o + k * 2 + 1, none⟩ = some (.int .i64 xs[k].hi) := by
  obtain ⟨b, o, e, hc⟩ := h.at (by omega) k hk
  exact ⟨b, o, e, hc 0 (by omega), hc 1 (by omega)⟩
end Go.Proofs.YtgfaiihekibcbaaGreatDoor
