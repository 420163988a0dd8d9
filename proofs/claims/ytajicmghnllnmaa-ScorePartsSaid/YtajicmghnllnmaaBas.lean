/-
  Walks: cmp.Less at integers; rows of integers.
-/
import Derived.Test.YtajicmghnllnmaaWd
import Derived.Test.YtajicmghnllnmaaMk
set_option linter.unusedVariables false
namespace Go.Proofs.Ytajicmghnllnmaa
open Go.RowKit Go.Sx Go.Sx.Sz

def encZ (x : Int) : List Value := [.int .i64 x]
theorem Sl.num {w : World} {a? : Option Addr} {n cap : Nat} {xs : List Int} (h : Sl w 1 encZ (.slice a? n cap) xs) (k : Nat) (hk : k < xs.length) :
    ∃ b o, a? = some ⟨b, o, none⟩ ∧ w.cell? ⟨b, o + k, none⟩ = some (.int .i64 xs[k]) := h.at1 k hk

theorem isnan_walk (x : Int) (w : World) : Calls Try.prog 58 #[.int .i64 x] w fun e w' => e = .returned (.bool false) ∧ Ext w w' := by
  go_enter Try.func58, Try.ntmps58
  go_wp2
  go_ret
  exact ⟨by first | rfl | simp, Ext.refl _⟩

theorem less_walk (x y : Int) (w : World) : Calls Try.prog 59 #[.int .i64 x, .int .i64 y] w fun e w' => e = .returned (.bool (decide (x < y))) ∧ Ext w w' := by
  go_enter Try.func59, Try.ntmps59
  go_wp2_with fail
  refine (isnan_walk x _).mono ?_
  rintro e w1 ⟨rfl, x1⟩
  go_wp2
  go_ret
  exact ⟨by first | rfl | simp, x1⟩

end Go.Proofs.Ytajicmghnllnmaa
