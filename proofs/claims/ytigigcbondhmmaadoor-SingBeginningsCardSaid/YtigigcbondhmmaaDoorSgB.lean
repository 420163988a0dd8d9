/-
  Walks: sounding, heard (the makers of the iterators).
-/
import Derived.Test.YtigigcbondhmmaaDoorSgA
set_option linter.unusedVariables false
namespace Go.Proofs.YtigigcbondhmmaaDoor
open Go.RowKit Go.Sx Go.Sx.Sz Go.Sx.Sc Go.Sx.Sg

theorem sounding_walk (v0 vn vp vc vx : Value) (hn : ∃ a n c, vn = .slice a n c) (hx : ∃ a n c, vx = .slice a n c) (n : Int) (w : World) :
    Calls Tryd.prog 44 #[.agg #[v0, vn, vp, vc, vx], .int .i64 n] w fun e w' => e = .returned (.func (.func 62) #[] #[.pointer (some ⟨w.heap.size, 0, none⟩), .pointer (some ⟨w.heap.size + 1, 0, none⟩)]) ∧ (w.alloc (.cells #[v0, vn, vp, vc, vx] 58)).alloc (.cells #[.int .i64 n] 3) = w' := by
  obtain ⟨_, _, _, rfl⟩ := hn
  obtain ⟨_, _, _, rfl⟩ := hx
  go_enter Tryd.func44, Tryd.ntmps44
  go_wp2
  go_ret
  exact ⟨rfl, rfl⟩

theorem heard_walk (v0 vn vp vc vx : Value) (hn : ∃ a n c, vn = .slice a n c) (hx : ∃ a n c, vx = .slice a n c) (n : Int) (w : World) :
    Calls Tryd.prog 34 #[.agg #[v0, vn, vp, vc, vx], .int .i64 n] w fun e w' => e = .returned (.func (.func 51) #[] #[.pointer (some ⟨w.heap.size, 0, none⟩), .pointer (some ⟨w.heap.size + 1, 0, none⟩)]) ∧ (w.alloc (.cells #[v0, vn, vp, vc, vx] 58)).alloc (.cells #[.int .i64 n] 3) = w' := by
  obtain ⟨_, _, _, rfl⟩ := hn
  obtain ⟨_, _, _, rfl⟩ := hx
  go_enter Tryd.func34, Tryd.ntmps34
  go_wp2
  go_ret
  exact ⟨rfl, rfl⟩
end Go.Proofs.YtigigcbondhmmaaDoor
