/-
  Open arguments of the laws of chapter 39.
-/
import Derived.Test.YtglngmfnoganpaaDoorR39J
import Derived.Test.YtglngmfnoganpaaDoorScL
import Derived.Test.YtglngmfnoganpaaDoorLdB
namespace Go.Proofs.YtglngmfnoganpaaDoor
open Go.RowKit Go.Sx Go.Sx.Sz Go.Sx.Sc Go.Sx.Au Go.ChangeShapes Go.WideShapes Go.ChangeAt

section
variable {H : Type} {enc : TypeId × Value → H} {W : World} {base : Nat} {v : Value} {d : DataW H}
theorem el_size39 : El enc Tryd.prog W 56 2 encS (fun s => Fits .i64 s.lo ∧ Fits .i64 s.hi) :=
  (El.struct Tryd.underlying56 (by kernel_rfl) (Fs.cons (El.int Tryd.underlying3) (by kernel_rfl) rfl (Fs.cons (El.int Tryd.underlying3) (by kernel_rfl) rfl (Fs.nil _)))).map
    (fun a => (⟨a.1, a.2.1⟩ : S2)) (fun _ => rfl) (fun _ h => ⟨h.1, h.2.1⟩)
theorem arg_sizes (h : Arg enc Tryd.prog W base 27 v d) : ∃ l, Sl W 2 encS v l ∧ l.length * 16 ≤ 140737488351232 := by
  have hb : Tryd.prog.bytesOf 56 = 16 := by kernel_rfl
  obtain ⟨l, a, _, c⟩ := Arg.slice (sz := 2) (enc := encS) Tryd.underlying27 (by kernel_rfl) (by rw [hb]; decide) el_size39 h
  rw [hb] at c
  exact ⟨l, a, c⟩
theorem arg_vecs (h : Arg enc Tryd.prog W base 28 v d) : ∃ l, Sl W 6 V6.list v l ∧ l.length * 48 ≤ 140737488351232 := by
  have hb : Tryd.prog.bytesOf 49 = 48 := by kernel_rfl
  obtain ⟨l, a, _, c⟩ := Arg.slice (sz := 6) (enc := V6.list) Tryd.underlying28 (by kernel_rfl) (by rw [hb]; decide) el_vec6 h
  rw [hb] at c
  exact ⟨l, a, c⟩
end

/-- The boxed score in all later worlds. -/
def BoxS39 (W : World) (B : Nat) (s : Sc) (an ap ac : Option Addr) (cn cp cc : Nat) : Prop :=
  ∀ w', Ext W w' → w'.cell? ⟨B, 0, none⟩ = some (.int .i64 s.voices) ∧ w'.cell? ⟨B, 1, none⟩ = some (.slice an s.notes.length cn) ∧ w'.cell? ⟨B, 2, none⟩ = some (.slice ap s.pairs.length cp) ∧ w'.cell? ⟨B, 3, none⟩ = some (.slice ac s.cads.length cc)
theorem boxS39 {W : World} {B : Nat} {s : Sc} {an ap ac : Option Addr} {cn cp cc : Nat} (b : W.heap[B]? = some (.cells #[.int .i64 s.voices, .slice an s.notes.length cn, .slice ap s.pairs.length cp, .slice ac s.cads.length cc] 26 (0, 0))) : BoxS39 W B s an ap ac cn cp cc := fun w' x =>
  ⟨x.cell (block_cell b 0 _ rfl), x.cell (block_cell b 1 _ rfl), x.cell (block_cell b 2 _ rfl), x.cell (block_cell b 3 _ rfl)⟩
end Go.Proofs.YtglngmfnoganpaaDoor
