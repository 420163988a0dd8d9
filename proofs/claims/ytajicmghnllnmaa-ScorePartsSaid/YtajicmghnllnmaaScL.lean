/-
  Open arguments of the laws on scores.
-/
import Derived.Test.YtajicmghnllnmaaScA
import Derived.Test.YtajicmghnllnmaaOpn
namespace Go.Proofs.Ytajicmghnllnmaa
open Go.RowKit Go.Sx Go.Sx.Sz Go.Sx.Sc Go.ChangeShapes Go.WideShapes Go.ChangeAt

section
variable {H : Type} {enc : TypeId × Value → H} {W : World} {base : Nat} {v : Value} {d : DataW H}
theorem el_vec6 : El enc Try.prog W 38 6 V6.list (fun v => ∀ k, k < 6 → Fits .i64 (v.get k)) := El.v6 Try.underlying38 Try.underlying3 (by kernel_rfl) (by kernel_rfl)
def ntFits (n : Nt) : Prop := Fits .i64 n.v ∧ Fits .i64 n.f ∧ Fits .i64 n.u
theorem el_note : El enc Try.prog W 40 10 encN ntFits :=
  (El.struct Try.underlying40 (by kernel_rfl) (Fs.cons (El.int Try.underlying3) (by kernel_rfl) rfl (Fs.cons (El.int Try.underlying3) (by kernel_rfl) rfl (Fs.cons (El.int Try.underlying3) (by kernel_rfl) rfl (Fs.cons el_vec6 (by kernel_rfl) rfl (Fs.cons (El.bool Try.underlying4) (by kernel_rfl) rfl (Fs.nil _))))))).map
    (fun a => (⟨a.1, a.2.1, a.2.2.1, a.2.2.2.1, a.2.2.2.2.1⟩ : Nt)) (fun _ => rfl) (fun _ h => ⟨h.1, h.2.1, h.2.2.1⟩)
theorem el_pair : El enc Try.prog W 49 9 encP (fun _ => True) :=
  (El.struct Try.underlying49 (by kernel_rfl) (Fs.cons (El.int Try.underlying3) (by kernel_rfl) rfl (Fs.cons (El.int Try.underlying3) (by kernel_rfl) rfl (Fs.cons el_vec6 (by kernel_rfl) rfl (Fs.cons (El.int Try.underlying3) (by kernel_rfl) rfl (Fs.nil _)))))).map
    (fun a => (⟨a.1, a.2.1, a.2.2.1, a.2.2.2.1⟩ : Pr)) (fun _ => rfl) (fun _ _ => trivial)
theorem arg_score (h : Arg enc Try.prog W base 26 v d) : ∃ (s : Sc) (vn vp vc : Value), v = .agg #[.int .i64 s.voices, vn, vp, vc] ∧ ScR W vn vp vc s := by
  have b1 : Try.prog.bytesOf 40 = 80 := by kernel_rfl
  have b2 : Try.prog.bytesOf 49 = 72 := by kernel_rfl
  have b3 : Try.prog.bytesOf 3 = 8 := by kernel_rfl
  obtain ⟨a, rfl, h1, h2, h3, h4, -⟩ := Arg.struct (sz := 4) Try.underlying26 (El.struct Try.underlying26 (by kernel_rfl) (Fs.cons (El.int Try.underlying3) (by kernel_rfl) rfl
    (Fs.cons (El.slice (sz := 10) Try.underlying22 (by kernel_rfl) (by rw [b1]; decide) el_note) (by kernel_rfl) rfl
    (Fs.cons (El.slice (sz := 9) Try.underlying23 (by kernel_rfl) (by rw [b2]; decide) el_pair) (by kernel_rfl) rfl
    (Fs.cons (El.slice (sz := 1) (enc := encZ) (ok := Fits .i64) Try.underlying24 (by kernel_rfl) (by rw [b3]; decide) (El.int Try.underlying3)) (by kernel_rfl) rfl (Fs.nil _)))))) h
  exact ⟨⟨a.1, a.2.1.2, a.2.2.1.2, a.2.2.2.1.2⟩, a.2.1.1, a.2.2.1.1, a.2.2.2.1.1, rfl, h2.1, h3.1, h4.1⟩
end
end Go.Proofs.Ytajicmghnllnmaa
