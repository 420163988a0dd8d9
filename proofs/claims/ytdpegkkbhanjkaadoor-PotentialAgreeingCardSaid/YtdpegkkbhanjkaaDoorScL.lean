/-
  Open arguments of the laws on scores.
-/
import Derived.Test.YtdpegkkbhanjkaaDoorScA
import Derived.Test.YtdpegkkbhanjkaaDoorLibB
namespace Go.Proofs.YtdpegkkbhanjkaaDoor
open Go.RowKit Go.Sx Go.Sx.Sz Go.Sx.Sc Go.ChangeShapes Go.WideShapes Go.ChangeAt

section
variable {H : Type} {enc : TypeId × Value → H} {W : World} {base : Nat} {v : Value} {d : DataW H}
theorem el_vec6 : El enc Tryd.prog W 41 6 V6.list (fun v => ∀ k, k < 6 → Fits .i64 (v.get k)) := El.v6 Tryd.underlying41 Tryd.underlying3 (by kernel_rfl) (by kernel_rfl)
def ntFits (n : Nt) : Prop := Fits .i64 n.v ∧ Fits .i64 n.f ∧ Fits .i64 n.u
theorem el_note : El enc Tryd.prog W 44 10 encN ntFits :=
  (El.struct Tryd.underlying44 (by kernel_rfl) (Fs.cons (El.int Tryd.underlying3) (by kernel_rfl) rfl (Fs.cons (El.int Tryd.underlying3) (by kernel_rfl) rfl (Fs.cons (El.int Tryd.underlying3) (by kernel_rfl) rfl (Fs.cons el_vec6 (by kernel_rfl) rfl (Fs.cons (El.bool Tryd.underlying4) (by kernel_rfl) rfl (Fs.nil _))))))).map
    (fun a => (⟨a.1, a.2.1, a.2.2.1, a.2.2.2.1, a.2.2.2.2.1⟩ : Nt)) (fun _ => rfl) (fun _ h => ⟨h.1, h.2.1, h.2.2.1⟩)
theorem el_pair : El enc Tryd.prog W 53 9 encP (fun _ => True) :=
  (El.struct Tryd.underlying53 (by kernel_rfl) (Fs.cons (El.int Tryd.underlying3) (by kernel_rfl) rfl (Fs.cons (El.int Tryd.underlying3) (by kernel_rfl) rfl (Fs.cons el_vec6 (by kernel_rfl) rfl (Fs.cons (El.int Tryd.underlying3) (by kernel_rfl) rfl (Fs.nil _)))))).map
    (fun a => (⟨a.1, a.2.1, a.2.2.1, a.2.2.2.1⟩ : Pr)) (fun _ => rfl) (fun _ _ => trivial)
set_option maxRecDepth 100000 in
theorem arg_score (h : Arg enc Tryd.prog W base 26 v d) : ∃ (s : Sc) (vn vp vc : Value), v = .agg #[.int .i64 s.voices, vn, vp, vc] ∧ ScR W vn vp vc s := by
  have b1 : Tryd.prog.bytesOf 44 = 80 := by kernel_rfl
  have b2 : Tryd.prog.bytesOf 53 = 72 := by kernel_rfl
  have b3 : Tryd.prog.bytesOf 3 = 8 := by kernel_rfl
  obtain ⟨a, rfl, h1, h2, h3, h4, -⟩ := Arg.struct (sz := 4) Tryd.underlying26 (El.struct Tryd.underlying26 (by kernel_rfl) (Fs.cons (El.int Tryd.underlying3) (by kernel_rfl) rfl
    (Fs.cons (El.slice (sz := 10) Tryd.underlying22 (by kernel_rfl) (by rw [b1]; decide) el_note) (by kernel_rfl) rfl
    (Fs.cons (El.slice (sz := 9) Tryd.underlying23 (by kernel_rfl) (by rw [b2]; decide) el_pair) (by kernel_rfl) rfl
    (Fs.cons (El.slice (sz := 1) (enc := encZ) (ok := Fits .i64) Tryd.underlying24 (by kernel_rfl) (by rw [b3]; decide) (El.int Tryd.underlying3)) (by kernel_rfl) rfl (Fs.nil _)))))) h
  exact ⟨⟨a.1, a.2.1.2, a.2.2.1.2, a.2.2.2.1.2⟩, a.2.1.1, a.2.2.1.1, a.2.2.2.1.1, rfl, h2.1, h3.1, h4.1⟩
end
end Go.Proofs.YtdpegkkbhanjkaaDoor
