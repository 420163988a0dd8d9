/-
  Open arguments: rows of sizes, vectors and integers; the boxed score.
-/
import Derived.Test.YtdpegkkbhanjkaaDoorScL
set_option linter.unusedVariables false
namespace Go.Proofs.YtdpegkkbhanjkaaDoor
open Go.RowKit Go.Sx Go.Sx.Sz Go.Sx.Sc Go.ChangeShapes Go.WideShapes Go.ChangeAt

section
variable {H : Type} {enc : TypeId × Value → H} {W : World} {base : Nat} {v : Value} {d : DataW H}
theorem arg_vecs (h : Arg enc Tryd.prog W base 27 v d) : ∃ l, Sl W 6 V6.list v l ∧ l.length * 48 ≤ 140737488351232 := by
  have hb : Tryd.prog.bytesOf 41 = 48 := by kernel_rfl
  obtain ⟨l, a, _, c⟩ := Arg.slice (sz := 6) (enc := V6.list) Tryd.underlying27 (by kernel_rfl) (by rw [hb]; decide) el_vec6 h
  rw [hb] at c
  exact ⟨l, a, c⟩
theorem arg_ints (h : Arg enc Tryd.prog W base 24 v d) : ∃ l, Sl W 1 encZ v l ∧ l.length * 8 ≤ 140737488351232 := by
  have hb : Tryd.prog.bytesOf 3 = 8 := by kernel_rfl
  obtain ⟨l, a, _, c⟩ := Arg.slice (sz := 1) (enc := encZ) (ok := Fits .i64) Tryd.underlying24 (by kernel_rfl) (by rw [hb]; decide) (El.int Tryd.underlying3) h
  rw [hb] at c
  exact ⟨l, a, c⟩
theorem arg_vec1 (h : Arg enc Tryd.prog W base 41 v d) : ∃ x : V6, v = .agg #[.int .i64 x.a, .int .i64 x.b, .int .i64 x.c, .int .i64 x.d, .int .i64 x.e, .int .i64 x.f] ∧ ∀ k, k < 6 → Fits .i64 (x.get k) := by
  obtain ⟨x, a, b⟩ := Arg.array (sz := 6) Tryd.underlying41 el_vec6 h
  exact ⟨x, a, b⟩
end

/-- The boxed score in all later worlds. -/
def BoxS (W : World) (B : Nat) (s : Sc) (an ap ac : Option Addr) (cn cp cc : Nat) : Prop :=
  ∀ w', Ext W w' → w'.cell? ⟨B, 0, none⟩ = some (.int .i64 s.voices) ∧ w'.cell? ⟨B, 1, none⟩ = some (.slice an s.notes.length cn) ∧ w'.cell? ⟨B, 2, none⟩ = some (.slice ap s.pairs.length cp) ∧ w'.cell? ⟨B, 3, none⟩ = some (.slice ac s.cads.length cc)
theorem boxS {W : World} {B : Nat} {s : Sc} {an ap ac : Option Addr} {cn cp cc : Nat} (b : W.heap[B]? = some (.cells #[.int .i64 s.voices, .slice an s.notes.length cn, .slice ap s.pairs.length cp, .slice ac s.cads.length cc] 26 (0, 0))) : BoxS W B s an ap ac cn cp cc := fun w' x =>
  ⟨x.cell (block_cell b 0 _ rfl), x.cell (block_cell b 1 _ rfl), x.cell (block_cell b 2 _ rfl), x.cell (block_cell b 3 _ rfl)⟩
end Go.Proofs.YtdpegkkbhanjkaaDoor
