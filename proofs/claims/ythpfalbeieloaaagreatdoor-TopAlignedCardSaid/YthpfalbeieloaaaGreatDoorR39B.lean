/-
  Walks: schismaref39.SameSizes, SameFindings.
-/
import Derived.Test.YthpfalbeieloaaaGreatDoorAuE
set_option linter.unusedVariables false
namespace Go.Proofs.YthpfalbeieloaaaGreatDoor
open Go.RowKit Go.Sx Go.Sx.Sz Go.Sx.Sc Go.Sx.Au

def encF (z : Fnd) : List Value := [.int .i64 z.i, .int .i64 z.verdict, .int .i64 z.bound]
set_option maxRecDepth 100000 in
theorem Sl.fd {w : World} {a? : Option Addr} {n cap : Nat} {xs : List Fnd} (h : Sl w 3 encF (.slice a? n cap) xs) (k : Nat) (hk : k < xs.length) : ∃ b o, a? = some ⟨b, o, none⟩ ∧ w.cell? ⟨b, o + k * 3, none⟩ = some (.int .i64 xs[k].i) ∧ w.cell? ⟨b, o + k * 3 + 1, none⟩ = some (.int .i64 xs[k].verdict) ∧ w.cell? ⟨b, o + k * 3 + 2, none⟩ = some (.int .i64 xs[k].bound) := by
  obtain ⟨b, o, e, hc⟩ := h.at (by omega) k hk
  exact ⟨b, o, e, hc 0 (by omega), hc 1 (by omega), hc 2 (by omega)⟩

end Go.Proofs.YthpfalbeieloaaaGreatDoor
